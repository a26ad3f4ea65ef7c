/-
  Rule26
-/
import Derived.Test.YtdeihcnepljjaaaGreatDoorQRule24
namespace Go.Proofs.YtdeihcnepljjaaaGreatDoor
open Go.RowKit
section
variable {P:Program}{T:Tab}{f:FuncId}{R:Aim}{Post:Value->World->Prop}{n:Nat}{ds:List Deferred}{s s':List Item}{e e':Env}{w w':World}
def Wu(P:Program)(k:FuncId)(args:Array Value)(v:Value):Prop:=
 ∃ fn g, P.funcs[k]? = some fn ∧ (fn.name == "runtime.NumGoroutine") = false ∧ fn.body.isNone = true ∧ Extern.findNext fn = none ∧ Extern.find fn = some g ∧ ∀ w, (g args).run P w = .ok v w
theorem XiC{k:Nat}{l:List Value}{o:Oper}{v:Value}(h:Ef e o=some (k,l))(hk:Wu P k l.toArray v):∀a,X7 n a e->(execOp a.eval o).run P w=.ok (.value v) w:=by
 intro a hf;obtain⟨fn,g,p,b,d,f,i,m⟩:=hk;unfold Ef at h;split at h
 .rename_i c q
  split at h
  .rename_i x r s t
   split at h
   .rename_i y first captured u
    cases h
    have j:=Ge (hf.evs t);simp only[execOp,q,resolve,s,j,hf.ev u,Deferred.ofValue];refine(Xh (show(pure _:Sem Deferred).run P w=.ok _ w from rfl)).trans ?_;simp only[invoke,callFunc];refine(Xh (x:=P) (w':=w) rfl).trans ?_;simp only[p,b,Bool.false_eq_true,if_false,d,if_true];refine(Xh (x:=()) (w':=w) rfl).trans ?_;simp only[f,i];rw[show first++r.toArray++captured=(first.toList++r++captured.toList).toArray from Array.ext' (by simp)];exact(Xh (m w)).trans rfl
   .cases h
  .cases h
 .cases h
theorem Xa.ext(hT:Xp P T){k d:Nat}{l:List Value}{v:Value}{s2:List Item}{e2:Env}(h:Yy (Ef e) n s e=some ((k,l),d,s'))(hk:Wu P k l.toArray v)(ha:Go.Proofs.YtdeihcnepljjaaaGreatDoor.adv T n 400 s' ((d,false,v)::e)=(s2,e2))(hg:Xa P f R n ds s2 e2 w):Xa P f R n ds s e w:=
 Xa.val h (λ_ a x hf=>XiC a hk x hf) (Xa.adv hT 400 ha hg)
end
end Go.Proofs.YtdeihcnepljjaaaGreatDoor
