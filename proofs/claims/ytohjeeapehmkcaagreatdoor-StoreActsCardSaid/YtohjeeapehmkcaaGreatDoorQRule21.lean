/-
  Rule21
-/
import Derived.Test.YtohjeeapehmkcaaGreatDoorQRule9
namespace Go.Proofs.YtohjeeapehmkcaaGreatDoor
open Go.RowKit
section
variable {P:Program} {T:Tab} {ops:Array Oper} {f:FuncId} {R:Aim} {k:List Item} {q n:Nat} {ds:List Deferred} {s s':List Item} {w w0:World} {e e':Env} {U:List Nat} {S:Nat->Prop}
theorem Xd.callAllocG {β:Type} (F:β->Value) (Q:β->World->Prop) (G:β->Nat->Prop) (hT:Xp P T) (hB:Zm ops q=true) {i j ic ia fk dc da t:Nat} {as l:List Value} {U2 U3:List Nat} {e2:β->Env} {e3:Nat->β->Env} (hU:Cc ops q U U = [i,j]) (hp:Oa ops i j=(ic,ia))
 (hc:Bl (Er e) n ops e ic=some ((fk,as),dc)) (hc':∀ b,Bl (Er ((da,false,.pointer (some ⟨b,0,none⟩))::e)) n ops ((da,false,.pointer (some ⟨b,0,none⟩))::e) ic=some ((fk,as),dc))
 (ha:Bl (Hm T e) n ops e ia=some ((l,t),da)) (had:∀ x,Zr T n ops q (Xu ic U) (Xu ic U) ((dc,false,F x)::e)=(U2,e2 x))
 (ha':∀ x,Bl (Hm T (e2 x)) n ops (e2 x) ia=some ((l,t),da)) (hfa:Cc ops q U2 U2 = [ia]) (hfc:Cc ops q (Xu ia U) (Xu ia U) = [ic])
 (had':∀ b x,Zr T n ops q (Xu ic (Xu ia U)) (Xu ic (Xu ia U)) ((dc,false,F x)::(da,false,.pointer (some ⟨b,0,none⟩))::e)=(U3,e3 b x)) (h23:Xu ia U2=U3) (hsub:∀ b x,Mw [] ((da,false,.pointer (some ⟨b,0,none⟩))::e2 x) (e3 b x)=Nl [] ((da,false,.pointer (some ⟨b,0,none⟩))::e2 x))
 (hd:∀ w',Xc Xe w w'->Xf P fk as.toArray w' (fun v w2=>Xc S w' w2 /\ ∃ x,v=F x/\Q x w2 /\ ∀ b,w.heap.size<=b->(b<w'.heap.size\/w2.heap.size<=b)->G x b)) (hQ:∀ x w2 w3,Q x w2->Xc Xe w2 w3->Q x w3) (hS:∀ b,S b->b<w.heap.size)
 (hg:∀ b x w1,w.heap.size<=b->w1.heap[b]? = some (.cells l.toArray t (0,0))->Xc S w w1->Q x w1->G x b->Xd P f R n ds k ops q S U3 ((da,false,.pointer (some ⟨b,0,none⟩))::e2 x) w0 w1):Xd P f R n ds k ops q S U e w0 w:=by
 have D:=(hd w (Xc.refl _ _)).fn;have u:(i=ic/\j=ia)\/(i=ia/\j=ic):=by
  rcases Xcc ops i j with h | h <;> rw [hp] at h <;> simp only [Prod.mk.injEq] at h
  ·exact .inl ⟨h.1.symm,h.2.symm⟩
  ·exact .inr ⟨h.2.symm,h.1.symm⟩
 have m:∀ w',Xc Xe w w'->Xq P f R n ds k ops q S U ic e w0 w':=fun w' a=>by
  refine Xq.call (Post:=fun v w2=>Xc S w w2 /\ ∃ x,v=F x/\Q x w2 /\ ∀ b,w.heap.size<=b->(b<w'.heap.size\/w2.heap.size<=b)->G x b) hc D (fun A=>(hd w' a).mono fun v w2 ⟨d,p⟩=>⟨A.trans d,(a.mono fun _ _ h=>h.elim).trans d,p⟩) fun v w1 _ ⟨E,x,B,H,I⟩ => ?_;subst B;refine Xd.adv hT hB (had x) ?_;refine Xd.turn1 hB hfa fun w2 c => ?_;refine Xq.alloc0 hT (ha' x) fun b w3 o s y _ => ?_;rw [h23];have r:=E.up c;exact hg b x w3 (by rw [o]; exact r.size) s (r.up y) (hQ _ _ _ H (c.trans y)) (I b (by rw [o]; exact r.size) (.inr (by rw [o]; exact c.size)))
 have g:∀ w',Xc Xe w w'->Xq P f R n ds k ops q S U ia e w0 w':=fun w' a=>by
  refine Xq.alloc0 hT ha fun b w1 o s z _ => ?_;refine Xd.turn1 hB hfc fun w2 c => ?_;refine Xq.call (Post:=fun v w3=>Xc S w w3/\(∃ x,v=F x/\Q x w3/\G x b)/\w3.heap[b]? = some (.cells l.toArray t (0,0))) (hc' b) D (fun A=>(hd w2 ((a.trans z).trans c)).mono fun v w3 ⟨d,x,p,C,J⟩ =>
   ⟨A.trans d,(((a.trans z).trans c).mono fun _ _ h=>h.elim).trans d,⟨x,p,C,J b (by rw [o]; exact a.size) (.inl (by have:=Xg (c.heap' s); exact this))⟩,d.heap (c.heap' s) (fun K=>by have:=hS b K; have:=a.size; omega)⟩) fun v w3 _ ⟨d,⟨x,B,p,C⟩,L⟩ => ?_
  subst B;refine Xd.adv hT hB (had' b x) ?_;exact Xd.subst (hsub b x) (hg b x w3 (by rw [o]; exact a.size) L d p C)
 refine Xd.turn2 hB hU ?_ ?_
 ·intro w' a;rcases u with ⟨rfl,rfl⟩ | ⟨rfl,rfl⟩
  ·exact m w' a
  ·exact g w' a
 ·intro w' a;rcases u with ⟨rfl,rfl⟩ | ⟨rfl,rfl⟩
  ·exact g w' a
  ·exact m w' a
end
end Go.Proofs.YtohjeeapehmkcaaGreatDoor
