/-
  Rule16
-/
import Derived.Test.YtgddpaiandefgaaGreatDoorQRule8
namespace Go.Proofs.YtgddpaiandefgaaGreatDoor
open Go.RowKit
section
variable {P:Program} {T:Tab} {f:FuncId} {R:Aim} {Post:Value→World→Prop} {k:List Item} {n:Nat} {ds:List Deferred} {s s':List Item} {w:World} {e:Env}
theorem Xao.mono {k:FuncId} {args:Array Value} {Post Post':Value→World→Prop} (h:Xao P k args w Post) (hp:∀ v w',Post v w'→Post' v w'):Xao P k args w Post' :=
 ⟨h.fn,fun c cs b=>by
  obtain ⟨en,u',w',fr,⟨d,v,e,f⟩,a⟩:=h.calls c cs b;exact ⟨en,u',w',fr,⟨d,v,e,hp _ _ f⟩,a⟩⟩
theorem Xay.retD (hT:XbE P T) {fn:Func} {k:Nat} {d:Deferred} {fv:Fn} {cap args:Array Value} (hs:XcX s=true) (hfn:P.funcs[f]? = some fn)
 (ht:d.target = .fn fv cap) (hi:(invoke d.target d.args).run P w = .ok (.enter k args) w) (hd:Xao P k args w (fun _ w' => ∃ vs,Xbd P T w' e fn.results.toList vs∧Post (Xpc vs) w')):Xay P f (Xbe Post) n [d] s e w:=by
 intro b cs a j l m hf;have h:∃ todo,Go.step P (lone (b.atR a s) cs w) = .next (lone {b.atR a todo with mode := .returning} cs w):=by
  unfold XcX at hs;split at hs
  ·exact ⟨[],stepR_end l⟩
  ·rename_i k; exact ⟨.code .ret::k,stepR_ret l⟩
  ·cases hs
 obtain ⟨todo,o⟩:=h;have t:=step_defer (P:=P) (fr:={b.atR a todo with mode := .returning}) (cs:=cs) (w:=w) (d:=d) (ds := []) (by simp) m ht hi;obtain ⟨en,u',w',frX,⟨rfl,x,rfl,vs,u,v⟩,g,p,q⟩:=hd.calls {({b.atR a todo with mode := .returning}:Frame) with defers := []} cs rfl;have y:=step_going_returned (P:=P) (c:={({({b.atR a todo with mode := .returning}:Frame) with defers := []}:Frame) with mode := .returning}) (cs:=cs) p q;have i:=Xpe (w:=w') hT hf (vs:=vs) (fn:=fn) u;exact ⟨.returned (Xpc vs),w',_,fun _=>⟨_,rfl,v⟩,Steps.head o (.head t (Steps.trans g (.one y))),j,fun _=>⟨rfl,rfl,rfl,fn,by rw [← hfn,← j]; rfl,i⟩,fun r=>absurd rfl r⟩
end
end Go.Proofs.YtgddpaiandefgaaGreatDoor
