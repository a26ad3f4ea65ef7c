/-
  Rule16
-/
import Derived.Test.YtnaoiegcobineaaGreatDoorQRule8
namespace Go.Proofs.YtnaoiegcobineaaGreatDoor
open Go.RowKit
section
variable {P:Program} {T:Tab} {f:FuncId} {R:Aim} {Post:Value→World→Prop} {k:List Item} {n:Nat} {ds:List Deferred} {s s':List Item} {w:World} {e:Env}
theorem DoesD.mono {k:FuncId} {args:Array Value} {Post Post':Value→World→Prop} (h:DoesD P k args w Post) (hp:∀ v w',Post v w'→Post' v w'):DoesD P k args w Post' :=
 ⟨h.fn,fun c cs hu=>by
  obtain ⟨en,u',w',fr,⟨h7,v,h8,h9⟩,hrest⟩:=h.calls c cs hu
  exact ⟨en,u',w',fr,⟨h7,v,h8,hp _ _ h9⟩,hrest⟩⟩
theorem Goes.retD (hT:TabOk P T) {fn:Func} {k:Nat} {d:Deferred} {fv:Fn} {cap args:Array Value} (hs:atEnd s=true) (hfn:P.funcs[f]? = some fn)
 (ht:d.target = .fn fv cap) (hi:(invoke d.target d.args).run P w = .ok (.enter k args) w) (hd:DoesD P k args w (fun _ w' => ∃ vs,ResOk P T w' e fn.results.toList vs∧Post (resV vs) w')):Goes P f (RetA Post) n [d] s e w:=by
 intro b cs a hb hk hds hf
 have hstep:∃ todo,Go.step P (lone (b.atR a s) cs w) = .next (lone {b.atR a todo with mode := .returning} cs w):=by
  unfold atEnd at hs
  split at hs
  ·exact ⟨[],stepR_end hk⟩
  ·rename_i k; exact ⟨.code .ret::k,stepR_ret hk⟩
  ·cases hs
 obtain ⟨todo,hst⟩:=hstep
 have h1:=step_defer (P:=P) (fr:={b.atR a todo with mode := .returning}) (cs:=cs) (w:=w) (d:=d) (ds := []) (by simp) hds ht hi
 obtain ⟨en,u',w',frX,⟨rfl,x,rfl,vs,hr,hp⟩,hsteps,hkX,hgo⟩:=hd.calls {({b.atR a todo with mode := .returning}:Frame) with defers := []} cs rfl
 have h2:=step_going_returned (P:=P) (c:={({({b.atR a todo with mode := .returning}:Frame) with defers := []}:Frame) with mode := .returning}) (cs:=cs) hkX hgo
 have hres:=results_run (w:=w') hT hf (vs:=vs) (fn:=fn) hr
 exact ⟨.returned (resV vs),w',_,fun _=>⟨_,rfl,hp⟩,Steps.head hst (.head h1 (Steps.trans hsteps (.one h2))),hb,fun _=>⟨rfl,rfl,rfl,fn,by rw [← hfn,← hb]; rfl,hres⟩,fun hne=>absurd rfl hne⟩
end
end Go.Proofs.YtnaoiegcobineaaGreatDoor
