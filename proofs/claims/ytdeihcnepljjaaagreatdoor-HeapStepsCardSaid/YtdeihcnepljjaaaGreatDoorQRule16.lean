/-
  Rule16
-/
import Derived.Test.YtdeihcnepljjaaaGreatDoorQRule8
namespace Go.Proofs.YtdeihcnepljjaaaGreatDoor
open Go.RowKit
section
variable {P:Program}{T:Tab}{f:FuncId}{R:Aim}{Post:Value->World->Prop}{k:List Item}{n:Nat}{ds:List Deferred}{s s':List Item}{w:World}{e:Env}
theorem Hp.mono{k:FuncId}{args:Array Value}{Post Post':Value->World->Prop}(h:Hp P k args w Post)(hp:∀v w',Post v w'->Post' v w'):Hp P k args w Post':=
 ⟨h.fn,λc cs b=>by
  obtain⟨en,u',w',fr,⟨d,v,f,g⟩,a⟩:=h.calls c cs b;exact⟨en,u',w',fr,⟨d,v,f,hp _ _ g⟩,a⟩⟩
theorem Xa.retD(hT:Xp P T){fn:Func}{k:Nat}{d:Deferred}{fv:Fn}{cap args:Array Value}(hs:Fm s=true)(hfn:P.funcs[f]?=some fn)(ht:d.target=.fn fv cap)(hi:(invoke d.target d.args).run P w=.ok (.enter k args) w)(hd:Hp P k args w (λ_ w'=>∃vs,Xi P T w' e fn.results.toList vs/\Post (J8 vs) w')):Xa P f (Gh Post) n [d] s e w:=by
 intro b cs a j l m hf;have h:∃todo,Go.step P (lone (b.atR a s) cs w)=.next (lone {b.atR a todo with mode:=.returning} cs w):=by
  unfold Fm at hs;split at hs
  .exact⟨[],stepR_end l⟩
  .rename_i k;exact⟨.code .ret::k,stepR_ret l⟩
  .cases hs
 obtain⟨todo,o⟩:=h;have t:=step_defer (P:=P) (fr:={b.atR a todo with mode:=.returning}) (cs:=cs) (w:=w) (d:=d) (ds:=[]) xS m ht hi;obtain⟨en,u',w',frX,⟨rfl,x,rfl,vs,hr,u⟩,g,p,q⟩:=hd.calls {({b.atR a todo with mode:=.returning}:Frame) with defers:=[]} cs rfl;have v:=step_going_returned (P:=P) (c:={({({b.atR a todo with mode:=.returning}:Frame) with defers:=[]}:Frame) with mode:=.returning}) (cs:=cs) p q;have i:=V4 (w:=w') hT hf (vs:=vs) (fn:=fn) hr;exact⟨.returned (J8 vs),w',_,λ_=>⟨_,rfl,u⟩,Steps.head o (.head t (Steps.trans g (.one v))),j,λ_=>⟨rfl,rfl,rfl,fn,by rw[<-hfn,<-j];rfl,i⟩,λr=>absurd rfl r⟩
end
end Go.Proofs.YtdeihcnepljjaaaGreatDoor
