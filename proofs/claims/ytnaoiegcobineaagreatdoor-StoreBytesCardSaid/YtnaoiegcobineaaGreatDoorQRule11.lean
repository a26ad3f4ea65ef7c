/-
  Rule11
-/
import Derived.Test.YtnaoiegcobineaaGreatDoorQRule10
namespace Go.Proofs.YtnaoiegcobineaaGreatDoor
open Go.RowKit
section
variable {P:Program} {T:Tab} {f:FuncId} {R:Aim} {Post:Value→World→Prop} {k:List Item} {n:Nat} {ds:List Deferred} {s s':List Item} {w:World} {e:Env}
theorem chg_putObj {w:World} {l:Nat} {o:Obj}:Chg (fun b=>b=l) w (w.putObj l o):=chg_setObj
theorem heap_putObj {w:World} {l:Nat} {o:Obj} (h:l<w.heap.size):(w.putObj l o).heap[l]? = some o:=heap_setObj h
abbrev yieldV (l:Nat):Value := .func (.yield l) #[] #[]
abbrev roundTmps (r:Loop) (args:List Value):Array Value:=(r.params.zip args.toArray).foldl (fun tmps (t,a)=>tmps.setIfInBounds t a) r.tmps
def YDoes (P:Program) (l:Nat) (args:List Value) (w:World) (Q:Value→World→Prop):Prop :=
 ∃ r,w.heap[l]? = some (.loop r)∧args.length=r.params.size ∧
  ∀ c cs,∃ v w',Q v w'∧Steps P (lone (Frame.round l r.fn (roundTmps r args) r.assign r.body .normal) (c::cs) w) (lone (c.finish v) cs w')
theorem YDoes.mono {l:Nat} {args:List Value} {Q Q':Value→World→Prop} (h:YDoes P l args w Q) (hq:∀ v w',Q v w'→Q' v w'):YDoes P l args w Q':=by
 obtain ⟨r,h1,h2,h3⟩:=h
 exact ⟨r,h1,h2,fun c cs=>by obtain ⟨v,w',a,b⟩:=h3 c cs; exact ⟨v,w',hq _ _ a,b⟩⟩
def yieldOf (e:Env) (o:Oper):Option (Nat × List Value) :=
 match o.op with
 |.call c=>match c.callee,evs e c.args.toList with
  |.value x,some l=>match ev e x with
   |some (.func (.yield r) first captured)=>match first.toList,captured.toList with
    |[],[]=>some (r,l)
    |_,_=>none
   |_=>none
  |_,_=>none
 |_=>none
theorem yieldOf_run {l:Nat} {args:List Value} {o:Oper} {r:Loop} (h:yieldOf e o=some (l,args)) (hl:w.heap[l]? = some (.loop r)) (hs:args.length=r.params.size) (a:Act) (hf:Fits n a e) :
 (execOp a.eval o).run P w = .ok (.round l r.fn (roundTmps r args) r.assign r.body) w:=by
 unfold yieldOf at h
 split at h
 ·rename_i c hop
  split at h
  ·rename_i x l1 hc hx
   split at h
   ·rename_i r1 first captured hv
    split at h
    ·rename_i h1 h2
     cases h
     have e1:first = #[]:=Array.ext' (by simpa using h1)
     have e2:captured = #[]:=Array.ext' (by simpa using h2)
     subst e1; subst e2
     have hargs:c.args.map a.eval=args.toArray:=map_of_toList (hf.evs hx)
     simp only [execOp,hop,resolve,hc,hargs,hf.ev hv,Deferred.ofValue]
     refine (run_bind_ok (show (pure _:Sem Deferred).run P w = .ok _ w from rfl)).trans ?_
     simp only [invoke,Array.empty_append]
     first
      |exact run_yield hl (by simpa using hs)
      |(refine (run_bind_ok (x:=P) (w':=w) rfl).trans ?_; exact run_yield hl (by simpa using hs))
    ·cases h
   ·cases h
  ·cases h
 ·cases h
theorem Goes.yieldH {o:Oper} {l d:Nat} {args:List Value} {Q:Value→World→Prop} (h:headOp s e=some (o,s')) (hdd:o.dst=some d) (hlt:Nat.blt d n=true) (hx:yieldOf e o=some (l,args)) (hy:YDoes P l args w Q)
 (hg:∀ v w1,Q v w1→Goes P f R n ds s' ((d,false,v)::e) w1):Goes P f R n ds s e w:=by
 unfold headOp at h
 split at h
 ·rename_i ops i rest k'
  split at h
  ·rename_i o' ho
   split at h
   ·rename_i hw
    cases h
    intro b cs a hb hk hds hf
    obtain ⟨r,hl,hs,hsteps⟩:=hy
    have hr:=yieldOf_run (P:=P) hx hl hs a hf
    obtain ⟨v,w1,hQ,hst⟩:=hsteps (b.atR a (.inRegion ops (i::rest)::k')) cs
    have henter:Go.step P (lone (b.atR a (.inRegion ops (i::rest)::k')) cs w) =
     .next (lone (Frame.round l r.fn (roundTmps r args) r.assign r.body .normal) (b.atR a (.inRegion ops (i::rest)::k')::cs) w) :=
     step_lone_go (by rw [stepE (nth_at ho) (want_ok hf hw) hr (by simp)]; simp [stepG.apply,hr,Frame.atR])
    have hds':(a.put o.dst v).defers=ds:=by cases o.dst <;> exact hds
    obtain ⟨en2,w2,fr2,hR,hc,h1,h2⟩:=hg v w1 hQ b cs (a.put o.dst v) hb hk hds' (putE_ok (by rw [hdd]; exact putE_lt hlt) a hf)
    have hfin:(b.atR a (.inRegion ops (i::rest)::k')).finish v=b.atR (a.put o.dst v) (.inRegion ops rest::k'):=by
     rw [Frame.finish_atR,nth_at ho]; rfl
    rw [hfin] at hst
    exact ⟨en2,w2,fr2,hR,.of_steps (.head henter hst) hc,h1,h2⟩
   ·cases h
  ·cases h
 ·cases h
theorem Goes.yield {l d:Nat} {args:List Value} {Q:Value→World→Prop} (h:atHead (yieldOf e) n s e=some ((l,args),d,s')) (hy:YDoes P l args w Q)
 (hg:∀ v w1,Q v w1→Goes P f R n ds s' ((d,false,v)::e) w1):Goes P f R n ds s e w:=by
 obtain ⟨o,ho,hdd,hlt,hx⟩:=atHead_ok h
 exact Goes.yieldH ho hdd hlt hx hy hg
def bindL:List Nat→List Value→Env→Env
 |p::ps,v::vs,e=>bindL ps vs ((p,false,v)::e)
 |_,_,e=>e
theorem fits_bindL:∀ (ps:List Nat) (vs:List Value) (tmps:Array Value) (e:Env),Fits n {tmps,defers := []} e→(ps.all fun p=>Nat.blt p n)=true →
 Fits n {tmps:=(ps.zip vs).foldl (fun tmps (x:Nat × Value)=>tmps.setIfInBounds x.1 x.2) tmps,defers := []} (bindL ps vs e)
 |[],_,_,_,h,_=>h
 |_::_,[],_,_,h,_=>h
 |p::ps,v::vs,tmps,e,h,hp=>by
  simp only [List.all_cons,Bool.and_eq_true] at hp
  have h1:=h.put p false v (by simpa [Nat.blt_eq] using hp.1)
  exact fits_bindL ps vs _ _ h1 hp.2
abbrev roundAim (l:Nat) (Q:Value→World→Prop):Aim:=⟨some l,fun en w' => ∃ v,en = .returned v∧Q v w'⟩
theorem YDoes.enter {l:Nat} {r:Loop} {args:List Value} {ps:List Nat} {e:Env} {Q:Value→World→Prop} (hl:w.heap[l]? = some (.loop r)) (hps:r.params=ps.toArray) (hs:args.length=ps.length)
 (hf:Fits n {tmps:=r.tmps,defers := []} e) (hp:(ps.all fun p=>Nat.blt p n)=true)
 (hg:Goes P r.fn (roundAim l Q) n [] [.code r.assign,.beginRound,.code r.body] (bindL ps args e) w):YDoes P l args w Q:=by
 refine ⟨r,hl,by rw [hps]; simpa using hs,fun c cs => ?_⟩
 let b:Frame:={(default:Frame) with fn:=r.fn,kind := .normal,roundOf:=some l}
 have hfit:=fits_bindL ps args r.tmps e hf hp
 have htmps:roundTmps r args=(ps.zip args).foldl (fun tmps (x:Nat × Value)=>tmps.setIfInBounds x.1 x.2) r.tmps:=by
  unfold roundTmps
  rw [hps,← Array.foldl_toList]
  simp
 rw [← htmps] at hfit
 obtain ⟨en,w',fr,_,hc,_,h2⟩:=hg b (c::cs) _ rfl rfl rfl hfit
 obtain ⟨v,w2,rfl,⟨v',hv,hq⟩,hst⟩:=h2.2 (by simp)
 cases hv
 have hfr:Frame.round l r.fn (roundTmps r args) r.assign r.body .normal=b.atR {tmps:=roundTmps r args,defers := []} [.code r.assign,.beginRound,.code r.body]:=by
  simp [Frame.round,Frame.atR,b]
 rw [hfr]
 exact ⟨v,w2,hq,Steps.trans hc (.one (hst rfl c cs rfl))⟩
theorem Goes.beginRound {l:Nat} {r:Loop} (hro:R.ro=some l) (hl:w.heap[l]? = some (.loop r)) (hr:r.state = .ready) (hg:∀ w1,w1.heap[l]? = some (.loop {r with state := .busy})→Chg (fun b=>b=l) w w1→w1.heap.size=w.heap.size→Goes P f R n ds k e w1):Goes P f R n ds (.beginRound::k) e w:=by
 replace hg:=hg _ (heap_putObj (lt_of_heap hl)) chg_putObj (by simp)
 intro b cs a hb hk hd hf
 obtain ⟨en,w2,fr,hR,hc,h1,h2⟩:=hg b cs a hb hk hd hf
 exact ⟨en,w2,fr,hR,.of_steps (.one (stepR_beginRound (hk.trans hro) (run_beginRound hl hr))) hc,h1,h2⟩
theorem Goes.roundEnd {l:Nat} {r:Loop} (hro:R.ro=some l) (hl:w.heap[l]? = some (.loop r)) (hp:∀ w1,w1.heap[l]? = some (.loop {r with state := .ready,pending:=none})→Chg (fun b=>b=l) w w1→w1.heap.size=w.heap.size→R.post (.returned (.bool true)) w1):Goes P f R n ds [] e w:=by
 replace hp:=hp _ (heap_putObj (lt_of_heap hl)) chg_putObj (by simp)
 intro b cs a hb hk hd hf
 refine ⟨.returned (.bool true),w,b.atR a [],fun h=>(by rw [hro] at h; cases h),Steps.refl _ _,hb,fun h=>(by rw [hro] at h; cases h),fun _=>⟨_,_,rfl,hp,fun hkn c cs' hcs => ?_⟩⟩
 subst hcs
 exact stepR_round_end (hk.trans hro) hkn (run_endRound none hl)
abbrev markD (b:Nat):Deferred:={target := .collected b,args := #[]}
abbrev loopNew (f:FuncId) (tmps:Array Value) (ps:Array Tmp) (assign body:Code) (b:Nat):Loop:={state := .ready,pending:=none,fn:=f,tmps,params:=ps,assign,body,defers:=b}
theorem chg_alloc {w:World} {o:Obj}:Chg None' w (w.alloc o):=chg_new _ _
theorem Goes.rangeFunc (hro:R.ro=none) {g:Operand} {ps:Array Tmp} {assign body:Code} {hh:Nat} {first captured:Array Value} (hg:ev e g=some (.func (.func hh) first captured)) (hk:FnOk P hh)
 (hcall:∀ r B tmps w2,r=loopNew f tmps ps assign body B→B=w.heap.size→Fits n {tmps,defers := []} e→w2.heap[B]? = some (.deferred (some []))→w2.heap[B+1]? = some (.loop r)→Chg None' w w2→w2.heap.size=B+2 →
  Does P hh (first.toList ++ [yieldV (B+1)]++captured.toList).toArray w2 (fun _ w3 => ∃ r,w3.heap[B+1]? = some (.loop r)∧r.state ≠ .busy ∧
   ∀ w4,Chg (fun b=>b=B+1) w3 w4→w4.heap.size=w3.heap.size→Goes P f R n (markD B::ds) ((r.pending.map Item.code).toList++k) e w4)) :
 Goes P f R n ds (.code (.rangeFunc g ps assign body)::k) e w:=by
 intro b cs a hb hkk hd hf
 let w1:=(w.alloc (.deferred (some []))).alloc (.loop (loopNew b.fn a.tmps ps assign body w.heap.size))
 have he:(Instr.enterLoop b.fn a.tmps ps assign body b.roundOf).run P w = .ok (w.heap.size+1,[markD w.heap.size]) w1:=by
  rw [hkk.trans hro]; exact run_enterLoop_outer _ _ _ _ _
 have hfa:Fits n {tmps:=a.tmps,defers := []} e:=⟨hf.1,hf.2⟩
 have hc0:Chg None' w w1:=chg_alloc.trans chg_alloc
 have hsz:w1.heap.size=w.heap.size+2:=by show (World.alloc _ _).heap.size=_; rw [World.size_alloc,World.size_alloc]
 have h1:w1.heap[w.heap.size]? = some (.deferred (some [])):=by
  exact (chg_alloc (w:=w.alloc (.deferred (some [])))).heap' (World.alloc_heap_new w _)
 have h2:w1.heap[w.heap.size+1]? = some (.loop (loopNew f a.tmps ps assign body w.heap.size)):=by
  rw [← hb]; have:=World.alloc_heap_new (w.alloc (.deferred (some []))) (.loop (loopNew b.fn a.tmps ps assign body w.heap.size)); rw [World.size_alloc] at this; exact this
 have hd1:=hcall _ _ a.tmps w1 rfl rfl hfa h1 h2 hc0 hsz
 have hres:(resolve a.eval (rangeCall g (w.heap.size+1)) 0).run P w1 = .ok {target := .fn (.func hh) captured,args:=first ++ #[yieldV (w.heap.size+1)]} w1:=by
  simp only [resolve,hf.ev hg,Deferred.ofValue,Sem.run_pure]
  simp [Act.eval,Frame.eval]
 have hinv:(invoke (.fn (.func hh) captured) (first ++ #[yieldV (w.heap.size+1)])).run P w1 = .ok (.enter hh (first.toList ++ [yieldV (w.heap.size+1)]++captured.toList).toArray) w1:=by
  obtain ⟨fn,hfn,hname,hbody⟩:=hk
  simp only [invoke,callFunc]
  refine (run_bind_ok (x:=P) (w':=w1) rfl).trans ?_
  simp only [hfn,hname,Bool.false_eq_true,if_false,hbody]
  rw [show first ++ #[yieldV (w.heap.size+1)]++captured=(first.toList ++ [yieldV (w.heap.size+1)]++captured.toList).toArray from Array.ext' (by simp)]
  rfl
 have henter:=stepR_rangeFunc (P:=P) (b:=b) (a:=a) (k:=k) (cs:=cs) (w:=w) he hres hinv
 obtain ⟨en,w3,fr,⟨v,hen,r,hr1,hr2,hgo⟩,hsteps,_,hleave⟩:=hd1.calls (b.atR {a with defers := [markD w.heap.size]++a.defers} (.inRangeFunc (w.heap.size+1)::k)::cs)
 subst hen
 replace hgo:=hgo _ (chg_putObj (o := .loop {r with state := .exhausted})) (by simp)
 obtain ⟨en2,w4,fr2,hR,hc,g1,g2⟩:=hgo b cs {a with defers := [markD w.heap.size]++a.defers} hb hkk (by simp [hd]) ⟨hf.1,hf.2⟩
 have hback:=step_leave_returned hleave (c:=b.atR {a with defers := [markD w.heap.size]++a.defers} (.inRangeFunc (w.heap.size+1)::k)) (cs:=cs)
 rw [finish_atR_inRangeFunc] at hback
 exact ⟨en2,w4,fr2,hR,.of_steps (.head henter (Steps.trans hsteps (.head hback (.one (stepR_endRangeFunc (run_endLoop hr1 hr2)))))) hc,g1,g2⟩
theorem Goes.retM (hT:TabOk P T) {fn:Func} {vs:List Value} {b:Nat} (hs:atEnd s=true) (hfn:P.funcs[f]? = some fn) (hm:w.heap[b]? = some (.deferred (some []))) (hr:∀ w1,Chg (fun z=>z=b) w w1→ResOk P T w1 e fn.results.toList vs)
 (hp:∀ w1,Chg (fun z=>z=b) w w1→w1.heap.size=w.heap.size→Post (resV vs) w1):Goes P f (RetA Post) n [markD b] s e w:=by
 replace hr:=hr _ (chg_putObj (l:=b) (o := .deferred none))
 replace hp:=hp _ (chg_putObj (l:=b) (o := .deferred none)) (by simp)
 intro b' cs a hb hk hd hf
 have hres:=results_run hT hf hr
 have hstep:∃ todo,Go.step P (lone (b'.atR a s) cs w) = .next (lone {b'.atR a todo with mode := .returning} cs w):=by
  unfold atEnd at hs
  split at hs
  ·exact ⟨[],stepR_end hk⟩
  ·rename_i k; exact ⟨.code .ret::k,stepR_ret hk⟩
  ·cases hs
 obtain ⟨todo,hst⟩:=hstep
 have h1:=step_collected (P:=P) (fr:={b'.atR a todo with mode := .returning}) (cs:=cs) (w:=w) (d:=markD b) (ds := []) (by simp) hd rfl (run_takeDeferred hm)
 exact ⟨.returned (resV vs),_,_,fun _=>⟨_,rfl,hp⟩,.head hst (.one h1),hb,fun _=>⟨rfl,by simp,rfl,fn,by rw [← hfn,← hb]; rfl,hres⟩,fun hne=>absurd rfl hne⟩
end
section
variable {P:Program} {T:Tab} {ops:Array Oper} {f:FuncId} {R:Aim} {k:List Item} {q n:Nat} {ds:List Deferred} {w w0:World} {e:Env} {U:List Nat} {S:Nat→Prop}
theorem Drawn.loadbAt (i:Nat) (hT:TabOk P T) (hB:drawB ops q=true) {b off d:Nat} {v:Value} {c:List Value} {t:TypeId} {fz:Nat × Nat} {U2:List Nat} {e2:Env} (hU:hasN i U=true) (hfr:freeL ops q U [i] = [i]) (h:atTurn (loadOf T e) n ops e i=some ((b,off,none),d))
 (hc:w0.heap[b]? = some (.cells c.toArray t fz)) (hS:¬ S b) (hv:nthV c off=some v)
 (ha:advD T n ops q (rmN i U) (rmN i U) ((d,false,v)::e)=(U2,e2)) (hg:Drawn P f R n ds k ops q S U2 e2 w0 w):Drawn P f R n ds k ops q S U e w0 w:=by
 obtain ⟨o,ho,hw,hd,hlt,hx⟩:=atTurn_ok h
 have hm:i ∈ freeL ops q U [i]:=by rw [hfr]; simp
 obtain ⟨_,o',ho',hfree⟩:=freeL_mem.1 hm
 obtain rfl:o=o':=Option.some.inj (ho.symm.trans ho')
 exact Drawn.one hB ho (hasN_iff.1 hU) hfree hw (by rw [hd]; exact putE_dst hlt) (fun a w' hw' hf=>by
  unfold quietSt
  rw [loadOf_run hT hx (hw'.cell (cell_nth hc hv) hS) a hf]
  exact ⟨rfl,rfl⟩) (Drawn.adv hT hB ha hg)
theorem Turn.loadb (hT:TabOk P T) (hB:drawB ops q=true) {b off d i:Nat} {v:Value} {c:List Value} {t:TypeId} {fz:Nat × Nat} {U2:List Nat} {e2:Env} (h:atTurn (loadOf T e) n ops e i=some ((b,off,none),d))
 (hc:w.heap[b]? = some (.cells c.toArray t fz)) (hv:nthV c off=some v)
 (ha:advD T n ops q (rmN i U) (rmN i U) ((d,false,v)::e)=(U2,e2)) (hg:Drawn P f R n ds k ops q S U2 e2 w0 w):Turn P f R n ds k ops q S U i e w0 w :=
 Turn.val hT hB h (fun _ ho a hf=>loadOf_run hT ho (cell_nth hc hv) a hf) id ha hg
end
end Go.Proofs.YtnaoiegcobineaaGreatDoor
