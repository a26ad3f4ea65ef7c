/-
  Rule21
-/
import Derived.Test.YtdeihcnepljjaaaGreatDoorQRule9
namespace Go.Proofs.YtdeihcnepljjaaaGreatDoor
open Go.RowKit
section
variable {P:Program}{T:Tab}{ops:Array Oper}{f:FuncId}{R:Aim}{k:List Item}{q n:Nat}{ds:List Deferred}{s s':List Item}{w w0:World}{e e':Env}{U:List Nat}{S:Nat->Prop}
theorem Xd.callAllocG{β:Type}(F:β->Value)(Q:β->World->Prop)(G:β->Nat->Prop)(hT:Xp P T)(hB:Zu ops q=true){i j ic ia fk dc da t:Nat}{as l:List Value}{U2 U3:List Nat}{e2:β->Env}{e3:Nat->β->Env}(hU:C4 ops q U U=[i,j])(hp:Pz ops i j=(ic,ia))(hc:Cs (Ge e) n ops e ic=some ((fk,as),dc))(hc':∀b,Cs (Ge ((da,false,.pointer (some ⟨b,0,none⟩))::e)) n ops ((da,false,.pointer (some ⟨b,0,none⟩))::e) ic=some ((fk,as),dc))(ha:Cs (Ix T e) n ops e ia=some ((l,t),da))(had:∀x,Z3 T n ops q (Xt ic U) (Xt ic U) ((dc,false,F x)::e)=(U2,e2 x))(ha':∀x,Cs (Ix T (e2 x)) n ops (e2 x) ia=some ((l,t),da))(hfa:C4 ops q U2 U2=[ia])(hfc:C4 ops q (Xt ia U) (Xt ia U)=[ic])(had':∀b x,Z3 T n ops q (Xt ic (Xt ia U)) (Xt ic (Xt ia U)) ((dc,false,F x)::(da,false,.pointer (some ⟨b,0,none⟩))::e)=(U3,e3 b x))(h23:Xt ia U2=U3)(hsub:∀b x,Ox [] ((da,false,.pointer (some ⟨b,0,none⟩))::e2 x) (e3 b x)=Pd [] ((da,false,.pointer (some ⟨b,0,none⟩))::e2 x))(hd:∀w',Xc Xe w w'->Xf P fk as.toArray w' (λv w2=>Xc S w' w2/\∃x,v=F x/\Q x w2/\∀b,w.heap.size<=b->(b<w'.heap.size\/w2.heap.size<=b)->G x b))(hQ:∀x w2 w3,Q x w2->Xc Xe w2 w3->Q x w3)(hS:∀b,S b->b<w.heap.size)(hg:∀b x w1,w.heap.size<=b->w1.heap[b]?=some (.cells l.toArray t (0,0))->Xc S w w1->Q x w1->G x b->Xd P f R n ds k ops q S U3 ((da,false,.pointer (some ⟨b,0,none⟩))::e2 x) w0 w1):Xd P f R n ds k ops q S U e w0 w:=by
 have D:=(hd w (Xc.refl _ _)).fn;have u:(i=ic/\j=ia)\/(i=ia/\j=ic):=by
  rcases XdG ops i j with h|h <;> rw[hp] at h <;> simp only[Prod.mk.injEq] at h
  .exact .inl ⟨h.1.symm,h.2.symm⟩
  .exact .inr ⟨h.2.symm,h.1.symm⟩
 have m:∀w',Xc Xe w w'->Xn P f R n ds k ops q S U ic e w0 w':=λw' a=>by
  refine Xn.call (Post:=λv w2=>Xc S w w2/\∃x,v=F x/\Q x w2/\∀b,w.heap.size<=b->(b<w'.heap.size\/w2.heap.size<=b)->G x b) hc D (λA=>(hd w' a).mono λv w2 ⟨d,p⟩=>⟨A.trans d,(a.mono λ_ _ h=>h.elim).trans d,p⟩) λv w1 _ ⟨E,x,B,H,I⟩=>?_;subst B;refine Xd.adv hT hB (had x) ?_;refine Xd.cK hB hfa λw2 c=>?_;refine Xn.alloc0 hT (ha' x) λb w3 o s y _=>?_;rw[h23];have r:=E.up c;exact hg b x w3 (by rw[o];exact r.size) s (r.up y) (hQ _ _ _ H (c.trans y)) (I b (by rw[o];exact r.size) (.inr (by rw[o];exact c.size)))
 have g:∀w',Xc Xe w w'->Xn P f R n ds k ops q S U ia e w0 w':=λw' a=>by
  refine Xn.alloc0 hT ha λb w1 o s z _=>?_;refine Xd.cK hB hfc λw2 c=>?_;refine Xn.call (Post:=λv w3=>Xc S w w3/\(∃x,v=F x/\Q x w3/\G x b)/\w3.heap[b]?=some (.cells l.toArray t (0,0))) (hc' b) D (λA=>(hd w2 ((a.trans z).trans c)).mono λv w3 ⟨d,x,p,C,J⟩=>
   ⟨A.trans d,(((a.trans z).trans c).mono λ_ _ h=>h.elim).trans d,⟨x,p,C,J b (by rw[o];exact a.size) (.inl (by have:=Xg (c.bP s);exact this))⟩,d.heap (c.bP s) (λK=>by have:=hS b K;have:=a.size;omega)⟩) λv w3 _ ⟨d,⟨x,B,p,C⟩,L⟩=>?_
  subst B;exact Xd.adv hT hB (had' b x) (Xd.subst (hsub b x) (hg b x w3 (by rw[o];exact a.size) L d p C))
 refine Xd.turn2 hB hU ?_ ?_
 .intro w' a;rcases u with⟨rfl,rfl⟩|⟨rfl,rfl⟩
  .exact m w' a
  .exact g w' a
 .intro w' a;rcases u with⟨rfl,rfl⟩|⟨rfl,rfl⟩
  .exact g w' a
  .exact m w' a
end
end Go.Proofs.YtdeihcnepljjaaaGreatDoor
