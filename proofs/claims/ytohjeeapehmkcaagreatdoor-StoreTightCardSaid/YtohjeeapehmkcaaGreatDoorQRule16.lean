/-
  Rule16
-/
import Derived.Test.YtohjeeapehmkcaaGreatDoorQRule8
namespace Go.Proofs.YtohjeeapehmkcaaGreatDoor
open Go.RowKit
section
variable {P:Program}{T:Tab}{f:FuncId}{R:Aim}{Post:Value->World->Prop}{k:List Item}{n:Nat}{ds:List Deferred}{s s':List Item}{w:World}{e:Env}
theorem Ge.mono{k:FuncId}{args:Array Value}{Post Post':Value->World->Prop}(h:Ge P k args w Post)(hp:∀v w',Post v w'->Post' v w'):Ge P k args w Post':=
 ⟨h.fn,λc cs b=>by
  obtain⟨en,u',w',fr,⟨d,v,e,f⟩,a⟩:=h.calls c cs b;exact⟨en,u',w',fr,⟨d,v,e,hp _ _ f⟩,a⟩⟩
theorem Xa.retD(hT:Xq P T){fn:Func}{k:Nat}{d:Deferred}{fv:Fn}{cap args:Array Value}(hs:Ep s=true)(hfn:P.funcs[f]?=some fn)(ht:d.target=.fn fv cap)(hi:(invoke d.target d.args).run P w=.ok (.enter k args) w)(hd:Ge P k args w (λ_ w'=>∃vs,Xm P T w' e fn.results.toList vs/\Post (Jd vs) w')):Xa P f (E2 Post) n [d] s e w:=by
 intro b cs a j l m t;have h:∃todo,Go.step P (lone (b.atR a s) cs w)=.next (lone {b.atR a todo with mode:=.returning} cs w):=by
  unfold Ep at hs;split at hs
  ·exact⟨[],stepR_end l⟩
  ·rename_i k;exact⟨.code .ret::k,stepR_ret l⟩
  ·cases hs
 obtain⟨todo,o⟩:=h;have u:=step_defer (P:=P) (fr:={b.atR a todo with mode:=.returning}) (cs:=cs) (w:=w) (d:=d) (ds:=[]) (by simp) m ht hi;obtain⟨en,u',w',frX,⟨rfl,x,rfl,vs,v,y⟩,g,p,q⟩:=hd.calls {({b.atR a todo with mode:=.returning}:Frame) with defers:=[]} cs rfl;have z:=step_going_returned (P:=P) (c:={({({b.atR a todo with mode:=.returning}:Frame) with defers:=[]}:Frame) with mode:=.returning}) (cs:=cs) p q;have i:=Uf (w:=w') hT t (vs:=vs) (fn:=fn) v;exact⟨.returned (Jd vs),w',_,λ_=>⟨_,rfl,y⟩,Steps.head o (.head u (Steps.trans g (.one z))),j,λ_=>⟨rfl,rfl,rfl,fn,by rw[<-hfn,<-j];rfl,i⟩,λr=>absurd rfl r⟩
end
end Go.Proofs.YtohjeeapehmkcaaGreatDoor
