/-
  Rule8
-/
import Derived.Test.YtnaoiegcobineaaGreatDoorQRule7
import Derived.Defers
namespace Go.Proofs.YtnaoiegcobineaaGreatDoor
open Go.RowKit
section
variable {P:Program} {T:Tab} {f:FuncId} {R:Aim} {Post:Value→World→Prop} {k:List Item} {n:Nat} {ds:List Deferred} {s s':List Item} {w:World} {e:Env}
structure DoesD (P:Program) (k:FuncId) (args:Array Value) (w:World) (Post:Value→World→Prop):Prop where
 fn:FnOk P k
 calls:CallsD P k args .returning w (fun en u' w'=>u' = .returning ∧ ∃ v,en = .returned v∧Post v w')
theorem DoesD.enter {k:FuncId} {fn:Func} {c:Code} {l:List Value} {n:Nat}
 (hf : P.funcs[k]? = some fn) (hb : fn.body = some c) (hn : fn.ntmps = n) (hname : (fn.name == "runtime.NumGoroutine") = false) (hle' : Nat.ble l.length n = true)
 (h:Goes P k (RetA Post) n [] [.code c] (argEnv 0 l) w):DoesD P k l.toArray w Post:=by
 have hle:l.length≤n:=Nat.le_of_ble_eq_true hle'
 refine ⟨⟨fn,hf,hname,by rw [hb]; rfl⟩,fun c0 cs hu => ?_⟩
 let b:Frame:={(default:Frame) with fn:=k,kind := .deferred,roundOf:=none}
 let a:Act:={tmps:=l.toArray++Array.replicate (fn.ntmps - l.toArray.size) undef,defers := []}
 have henter:Frame.enter P k l.toArray .deferred=b.atR a [.code c]:=by
  simp [Frame.enter,Frame.atR,hf,hb,b,a]
 obtain ⟨en,w',fr,hRn,hc,h1,h2⟩:=h b (c0::cs) a rfl rfl rfl ⟨by simp [a,hn]; omega,fun t v ht=>by
  obtain ⟨_,h1⟩:=look_argEnv l 0 t v ht
  have hlt:t<l.length:=by
   have:=(List.getElem?_eq_some_iff.1 h1).1; simpa using this
  simp only [a]
  rw [Array.getElem?_append_left (by simpa using hlt)]
  simpa using h1⟩
 rw [← henter] at hc
 obtain ⟨v,rfl,hp⟩:=hRn rfl
 obtain ⟨g1,g2,g3,g4⟩:=h2.1 rfl
 refine ⟨.returned v,.returning,w',fr,⟨rfl,v,rfl,hp⟩,?_,g3,g1,g2,g4⟩
 have hc0:({c0 with mode := .returning}:Frame)=c0:=by rw [← hu]
 rw [hc0]
 exact hc
theorem Goes.deferred (hro:R.ro=none) {o:Oper} {d:Deferred} (h:headOp s e=some (o,s')) (hd:o.dst=none) (hrun:∀ a,Fits n a e→(execOp a.eval o).run P w = .ok (.defer d) w) (hg:Goes P f R n (d::ds) s' e w):Goes P f R n ds s e w:=by
 unfold headOp at h
 split at h
 ·rename_i ops i l k
  split at h
  ·rename_i o' ho
   split at h
   ·rename_i hw
    cases h
    intro b cs a hb hk hds hf
    obtain ⟨en,w2,fr,hR,hc,h1,h2⟩:=hg b cs {a with defers:=d::a.defers} hb hk (by simp [hds]) ⟨hf.1,hf.2⟩
    refine ⟨en,w2,fr,hR,.of_steps (.one (step_lone_go ?_)) hc,h1,h2⟩
    rw [stepGR_op (nth_at ho) (want_ok hf hw),hk,hro,Oper.semAt_none]
    simp [stepG.apply,hrun a hf,Frame.atR,Frame.finish,nth_at ho,hd]
   ·cases h
  ·cases h
 ·cases h
theorem Goes.ret1D (hT:TabOk P T) {fn:Func} {t k:Nat} {v:Value} {d:Deferred} {fv:Fn} {cap args:Array Value} (hs:atEnd s=true) (hfn:P.funcs[f]? = some fn) (hr:fn.results.toList = [.tmp t]) (hv:look e t=some v)
 (ht:d.target = .fn fv cap) (hi:(invoke d.target d.args).run P w = .ok (.enter k args) w) (hd:DoesD P k args w (fun _ w'=>Post v w')):Goes P f (RetA Post) n [d] s e w:=by
 intro b cs a hb hk hds hf
 have hstep:∃ todo,Go.step P (lone (b.atR a s) cs w) = .next (lone {b.atR a todo with mode := .returning} cs w):=by
  unfold atEnd at hs
  split at hs
  ·exact ⟨[],stepR_end hk⟩
  ·rename_i k; exact ⟨.code .ret::k,stepR_ret hk⟩
  ·cases hs
 obtain ⟨todo,hst⟩:=hstep
 have h1:=step_defer (P:=P) (fr:={b.atR a todo with mode := .returning}) (cs:=cs) (w:=w) (d:=d) (ds := []) (by simp) hds ht hi
 obtain ⟨en,u',w',frX,⟨rfl,x,rfl,hp⟩,hsteps,hkX,hgo⟩:=hd.calls {({b.atR a todo with mode := .returning}:Frame) with defers := []} cs rfl
 have h2:=step_going_returned (P:=P) (c:={({({b.atR a todo with mode := .returning}:Frame) with defers := []}:Frame) with mode := .returning}) (cs:=cs) hkX hgo
 have hres:=results_run (w:=w') hT hf (vs := [v]) (fn:=fn) (by rw [hr]; exact .tmp hv .nil)
 exact ⟨.returned v,w',_,fun _=>⟨_,rfl,hp⟩,Steps.head hst (.head h1 (Steps.trans hsteps (.one h2))),hb,fun _=>⟨rfl,rfl,rfl,fn,by rw [← hfn,← hb]; rfl,hres⟩,fun hne=>absurd rfl hne⟩
def deferAt (s:List Item) (e:Env):Option (Nat × List Value × List Value × List Item) :=
 match headOp s e with
 |some (o,s')=>match o.dst,o.op with
  |none,.defer c=>match c.callee,evs e c.args.toList with
   |.value x,some l=>match ev e x with
    |some (.func (.func k) first captured)=>some (k,first.toList++l,captured.toList,s')
    |_=>none
   |_,_=>none
  |_,_=>none
 |none=>none
abbrev dfr (k:Nat) (args captured:List Value):Deferred:={target := .fn (.func k) captured.toArray,args:=args.toArray}
theorem Goes.defer (hro:R.ro=none) {k:Nat} {args captured:List Value} (h:deferAt s e=some (k,args,captured,s')) (hg:Goes P f R n (dfr k args captured::ds) s' e w):Goes P f R n ds s e w:=by
 unfold deferAt at h
 split at h
 ·rename_i o s1 ho
  split at h
  ·rename_i c hd hop
   split at h
   ·rename_i x l hc hl
    split at h
    ·rename_i k1 first captured1 hx
     cases h
     refine Goes.deferred hro ho hd (fun a hf => ?_) hg
     have hargs:c.args.map a.eval=l.toArray:=map_of_toList (hf.evs hl)
     simp only [execOp,hop,resolve,hc,hargs,hf.ev hx,Deferred.ofValue]
     refine (run_bind_ok (show (pure _:Sem Deferred).run P w = .ok _ w from rfl)).trans ?_
     rw [show first++l.toArray=(first.toList++l).toArray from Array.ext' (by simp)]
     simp [dfr,Sem.run_pure]
    ·cases h
   ·cases h
  ·cases h
 ·cases h
theorem invoke_dfr {k:Nat} {args captured:List Value} (hk:FnOk P k):(invoke (dfr k args captured).target (dfr k args captured).args).run P w = .ok (.enter k (args++captured).toArray) w:=by
 obtain ⟨fn,hfn,hname,hbody⟩:=hk
 simp only [invoke,callFunc,dfr]
 refine (run_bind_ok (x:=P) (w':=w) rfl).trans ?_
 simp only [hfn,hname,Bool.false_eq_true,if_false,hbody]
 rw [show args.toArray++captured.toArray=(args++captured).toArray from by simp]
 rfl
end
end Go.Proofs.YtnaoiegcobineaaGreatDoor
