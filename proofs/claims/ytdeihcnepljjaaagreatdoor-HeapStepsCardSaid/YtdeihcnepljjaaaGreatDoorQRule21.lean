/-
  Rule21
-/
import Derived.Test.YtdeihcnepljjaaaGreatDoorQRule9
namespace Go.Proofs.YtdeihcnepljjaaaGreatDoor
open Go.RowKit
section
variable {P:Program}{T:Tab}{ops:Array Oper}{f:FuncId}{R:Aim}{k:List Item}{q n:Nat}{ds:List Deferred}{s s':List Item}{w w0:World}{e e':Env}{U:List Nat}{S:Nat->Prop}
theorem Xd.callAllocG{β:Type}(F:β->Value)(Q:β->World->Prop)(G:β->Nat->Prop)(hT:Xp P T)(hB:Z0 ops q=true){i j ic ia fk dc da t:Nat}{as l:List Value}{U2 U3:List Nat}{e2:β->Env}{e3:Nat->β->Env}(hU:C3 ops q U U=[i,j])(hp:Rp ops i j=(ic,ia))(hc:Cp (Gj e) n ops e ic=some ((fk,as),dc))(hc':∀b,Cp (Gj ((da,false,.pointer (some ⟨b,0,none⟩))::e)) n ops ((da,false,.pointer (some ⟨b,0,none⟩))::e) ic=some ((fk,as),dc))(ha:Cp (I4 T e) n ops e ia=some ((l,t),da))(had:∀x,Z7 T n ops q (Xv ic U) (Xv ic U) ((dc,false,F x)::e)=(U2,e2 x))(ha':∀x,Cp (I4 T (e2 x)) n ops (e2 x) ia=some ((l,t),da))(hfa:C3 ops q U2 U2=[ia])(hfc:C3 ops q (Xv ia U) (Xv ia U)=[ic])(had':∀b x,Z7 T n ops q (Xv ic (Xv ia U)) (Xv ic (Xv ia U)) ((dc,false,F x)::(da,false,.pointer (some ⟨b,0,none⟩))::e)=(U3,e3 b x))(h23:Xv ia U2=U3)(hsub:∀b x,Pd [] ((da,false,.pointer (some ⟨b,0,none⟩))::e2 x) (e3 b x)=Py [] ((da,false,.pointer (some ⟨b,0,none⟩))::e2 x))(hd:∀w',Xc Xf w w'->Xe P fk as.toArray w' (λv w2=>Xc S w' w2/\∃x,v=F x/\Q x w2/\∀b,w.heap.size<=b->(b<w'.heap.size\/w2.heap.size<=b)->G x b))(hQ:∀x w2 w3,Q x w2->Xc Xf w2 w3->Q x w3)(hS:∀b,S b->b<w.heap.size)(hg:∀b x w1,w.heap.size<=b->w1.heap[b]?=some (.cells l.toArray t (0,0))->Xc S w w1->Q x w1->G x b->Xd P f R n ds k ops q S U3 ((da,false,.pointer (some ⟨b,0,none⟩))::e2 x) w0 w1):Xd P f R n ds k ops q S U e w0 w:=by
 have D:=(hd w (Xc.refl _ _)).fn;have u:(i=ic/\j=ia)\/(i=ia/\j=ic):=by
  rcases Xea ops i j with h|h <;> rw[hp] at h <;> simp only[Prod.mk.injEq] at h
  .exact .inl ⟨h.1.symm,h.2.symm⟩
  .exact .inr ⟨h.2.symm,h.1.symm⟩
 have m:∀w',Xc Xf w w'->Xo P f R n ds k ops q S U ic e w0 w':=λw' a=>by
  refine Xo.call (Post:=λv w2=>Xc S w w2/\∃x,v=F x/\Q x w2/\∀b,w.heap.size<=b->(b<w'.heap.size\/w2.heap.size<=b)->G x b) hc D (λA=>(hd w' a).mono λv w2 ⟨d,p⟩=>⟨A.trans d,(a.mono λ_ _ h=>h.elim).trans d,p⟩) λv w1 _ ⟨E,x,B,H,I⟩=>?_;subst B;refine Xd.adv hT hB (had x) ?_;refine Xd.cK hB hfa λw2 c=>?_;refine Xo.alloc0 hT (ha' x) λb w3 o s y _=>?_;rw[h23];have r:=E.up c;exact hg b x w3 (by rw[o];exact r.size) s (r.up y) (hQ _ _ _ H (c.trans y)) (I b (by rw[o];exact r.size) (.inr (by rw[o];exact c.size)))
 have g:∀w',Xc Xf w w'->Xo P f R n ds k ops q S U ia e w0 w':=λw' a=>by
  refine Xo.alloc0 hT ha λb w1 o s z _=>?_;refine Xd.cK hB hfc λw2 c=>?_;refine Xo.call (Post:=λv w3=>Xc S w w3/\(∃x,v=F x/\Q x w3/\G x b)/\w3.heap[b]?=some (.cells l.toArray t (0,0))) (hc' b) D (λA=>(hd w2 ((a.trans z).trans c)).mono λv w3 ⟨d,x,p,C,J⟩=>
   ⟨A.trans d,(((a.trans z).trans c).mono λ_ _ h=>h.elim).trans d,⟨x,p,C,J b (by rw[o];exact a.size) (.inl (by have:=Xg (c.bP s);exact this))⟩,d.heap (c.bP s) (λK=>xI (hS b K) a.size)⟩) λv w3 _ ⟨d,⟨x,B,p,C⟩,L⟩=>?_
  subst B;exact Xd.adv hT hB (had' b x) (Xd.subst (hsub b x) (hg b x w3 (by rw[o];exact a.size) L d p C))
 refine Xd.turn2 hB hU ?_ ?_
 .intro w' a;rcases u with⟨rfl,rfl⟩|⟨rfl,rfl⟩
  .exact m w' a
  .exact g w' a
 .intro w' a;rcases u with⟨rfl,rfl⟩|⟨rfl,rfl⟩
  .exact g w' a
  .exact m w' a
end
end Go.Proofs.YtdeihcnepljjaaaGreatDoor
