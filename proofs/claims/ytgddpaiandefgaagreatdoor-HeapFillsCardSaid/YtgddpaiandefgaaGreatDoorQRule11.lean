/-
  Rule11
-/
import Derived.Test.YtgddpaiandefgaaGreatDoorQRule10
namespace Go.Proofs.YtgddpaiandefgaaGreatDoor
open Go.RowKit
section
variable {P:Program} {T:Tab} {f:FuncId} {R:Aim} {Post:Value→World→Prop} {k:List Item} {n:Nat} {ds:List Deferred} {s s':List Item} {w:World} {e:Env}
theorem XeV {w:World} {l:Nat} {o:Obj}:Chg (fun b=>b=l) w (w.putObj l o):=XeX
theorem XhS {w:World} {l:Nat} {o:Obj} (h:l<w.heap.size):(w.putObj l o).heap[l]? = some o:=XhT h
abbrev XwG (l:Nat):Value := .func (.yield l) #[] #[]
abbrev Xqx (r:Loop) (args:List Value):Array Value:=(r.params.zip args.toArray).foldl (fun tmps (t,a)=>tmps.setIfInBounds t a) r.tmps
def XbT (P:Program) (l:Nat) (args:List Value) (w:World) (Q:Value→World→Prop):Prop :=
 ∃ r,w.heap[l]? = some (.loop r)∧args.length=r.params.size ∧
  ∀ c cs,∃ v w',Q v w'∧Steps P (lone (Frame.round l r.fn (Xqx r args) r.assign r.body .normal) (c::cs) w) (lone (c.finish v) cs w')
theorem XbT.mono {l:Nat} {args:List Value} {Q Q':Value→World→Prop} (h:XbT P l args w Q) (hq:∀ v w',Q v w'→Q' v w'):XbT P l args w Q':=by
 obtain ⟨r,d,e,f⟩:=h;exact ⟨r,d,e,fun c cs=>by obtain ⟨v,w',a,b⟩:=f c cs; exact ⟨v,w',hq _ _ a,b⟩⟩
def XwE (e:Env) (o:Oper):Option (Nat × List Value) :=
 match o.op with
 |.call c=>match c.callee,evs e c.args.toList with
  |.value x,some l=>match ev e x with
   |some (.func (.yield r) first captured)=>match first.toList,captured.toList with
    |[],[]=>some (r,l)
    |_,_=>none
   |_=>none
  |_,_=>none
 |_=>none
theorem XwF {l:Nat} {args:List Value} {o:Oper} {r:Loop} (h:XwE e o=some (l,args)) (hl:w.heap[l]? = some (.loop r)) (hs:args.length=r.params.size) (a:Act) (hf:Xau n a e) :
 (execOp a.eval o).run P w = .ok (.round l r.fn (Xqx r args) r.assign r.body) w:=by
 unfold XwE at h;split at h
 ·rename_i c d
  split at h
  ·rename_i x m f g
   split at h
   ·rename_i p first captured i
    split at h
    ·rename_i j k
     cases h
     have e1:first = #[]:=Array.ext' (by simpa using j);have e2:captured = #[]:=Array.ext' (by simpa using k);subst e1; subst e2;have b:c.args.map a.eval=args.toArray:=XkD (hf.evs g);simp only [execOp,d,resolve,f,b,hf.ev i,Deferred.ofValue];refine (XqJ (show (pure _:Sem Deferred).run P w = .ok _ w from rfl)).trans ?_;simp only [invoke,Array.empty_append]
     first
      |exact run_yield hl (by simpa using hs)
      |(refine (XqJ (x:=P) (w':=w) rfl).trans ?_; exact run_yield hl (by simpa using hs))
    ·cases h
   ·cases h
  ·cases h
 ·cases h
theorem Xay.yieldH {o:Oper} {l d:Nat} {args:List Value} {Q:Value→World→Prop} (h:XhA s e=some (o,s')) (hdd:o.dst=some d) (hlt:Nat.blt d n=true) (hx:XwE e o=some (l,args)) (hy:XbT P l args w Q)
 (hg:∀ v w1,Q v w1→Xay P f R n ds s' ((d,false,v)::e) w1):Xay P f R n ds s e w:=by
 unfold XhA at h;split at h
 ·rename_i ops i rest k'
  split at h
  ·rename_i o' p
   split at h
   ·rename_i y
    cases h
    intro b cs a z A q hf;obtain ⟨r,B,C,c⟩:=hy;have t:=XwF (P:=P) hx B C a hf;obtain ⟨v,w1,D,j⟩:=c (b.atR a (.inRegion ops (i::rest)::k')) cs;have g:Go.step P (lone (b.atR a (.inRegion ops (i::rest)::k')) cs w) =
     .next (lone (Frame.round l r.fn (Xqx r args) r.assign r.body .normal) (b.atR a (.inRegion ops (i::rest)::k')::cs) w) :=
     step_lone_go (by rw [Xtu (Xl5 p) (Xv4 hf y) t (by simp)]; simp [stepG.apply,t,Frame.atR])
    have k:(a.put o.dst v).defers=ds:=by cases o.dst <;> exact q
    obtain ⟨u,E,x,F,G,H,I⟩:=hg v w1 D b cs (a.put o.dst v) z A k (XoE (by rw [hdd]; exact XoD hlt) a hf);have m:(b.atR a (.inRegion ops (i::rest)::k')).finish v=b.atR (a.put o.dst v) (.inRegion ops rest::k'):=by
     rw [Frame.finish_atR,Xl5 p]; rfl
    rw [m] at j;exact ⟨u,E,x,F,.of_steps (.head g j) G,H,I⟩
   ·cases h
  ·cases h
 ·cases h
theorem Xay.yield {l d:Nat} {args:List Value} {Q:Value→World→Prop} (h:XcY (XwE e) n s e=some ((l,args),d,s')) (hy:XbT P l args w Q)
 (hg:∀ v w1,Q v w1→Xay P f R n ds s' ((d,false,v)::e) w1):Xay P f R n ds s e w:=by
 obtain ⟨o,c,a,b,g⟩:=Xc1 h;exact Xay.yieldH c a b g hy hg
def Xdq:List Nat→List Value→Env→Env
 |p::ps,v::vs,e=>Xdq ps vs ((p,false,v)::e)
 |_,_,e=>e
theorem Xgr:∀ (ps:List Nat) (vs:List Value) (tmps:Array Value) (e:Env),Xau n {tmps,defers := []} e→(ps.all fun p=>Nat.blt p n)=true →
 Xau n {tmps:=(ps.zip vs).foldl (fun tmps (x:Nat × Value)=>tmps.setIfInBounds x.1 x.2) tmps,defers := []} (Xdq ps vs e)
 |[],_,_,_,h,_=>h
 |_::_,[],_,_,h,_=>h
 |p::ps,v::vs,tmps,e,h,a=>by
  simp only [List.all_cons,Bool.and_eq_true] at a;have b:=h.put p false v (by simpa [Nat.blt_eq] using a.1);exact Xgr ps vs _ _ b a.2
abbrev Xqw (l:Nat) (Q:Value→World→Prop):Aim:=⟨some l,fun en w' => ∃ v,en = .returned v∧Q v w'⟩
theorem XbT.enter {l:Nat} {r:Loop} {args:List Value} {ps:List Nat} {e:Env} {Q:Value→World→Prop} (hl:w.heap[l]? = some (.loop r)) (hps:r.params=ps.toArray) (hs:args.length=ps.length)
 (hf:Xau n {tmps:=r.tmps,defers := []} e) (hp:(ps.all fun p=>Nat.blt p n)=true)
 (hg:Xay P r.fn (Xqw l Q) n [] [.code r.assign,.beginRound,.code r.body] (Xdq ps args e) w):XbT P l args w Q:=by
 refine ⟨r,hl,by rw [hps]; simpa using hs,fun c cs => ?_⟩
 let b:Frame:={(default:Frame) with fn:=r.fn,kind := .normal,roundOf:=some l}
 have a:=Xgr ps args r.tmps e hf hp;have d:Xqx r args=(ps.zip args).foldl (fun tmps (x:Nat × Value)=>tmps.setIfInBounds x.1 x.2) r.tmps:=by
  unfold Xqx;rw [hps,← Array.foldl_toList]
  simp
 rw [← d] at a;obtain ⟨en,w',fr,_,h,_,i⟩:=hg b (c::cs) _ rfl rfl rfl a;obtain ⟨v,j,rfl,⟨v',k,m⟩,f⟩:=i.2 (by simp);cases k
 have g:Frame.round l r.fn (Xqx r args) r.assign r.body .normal=b.atR {tmps:=Xqx r args,defers := []} [.code r.assign,.beginRound,.code r.body]:=by
  simp [Frame.round,Frame.atR,b]
 rw [g];exact ⟨v,j,m,Steps.trans h (.one (f rfl c cs rfl))⟩
theorem Xay.beginRound {l:Nat} {r:Loop} (hro:R.ro=some l) (hl:w.heap[l]? = some (.loop r)) (hr:r.state = .ready) (hg:∀ w1,w1.heap[l]? = some (.loop {r with state := .busy})→Chg (fun b=>b=l) w w1→w1.heap.size=w.heap.size→Xay P f R n ds k e w1):Xay P f R n ds (.beginRound::k) e w:=by
 replace hg:=hg _ (XhS (Xkj hl)) XeV (by simp);intro b cs a d c g hf;obtain ⟨en,h,fr,i,j,m,o⟩:=hg b cs a d c g hf;exact ⟨en,h,fr,i,.of_steps (.one (stepR_beginRound (c.trans hro) (run_beginRound hl hr))) j,m,o⟩
theorem Xay.roundEnd {l:Nat} {r:Loop} (hro:R.ro=some l) (hl:w.heap[l]? = some (.loop r)) (hp:∀ w1,w1.heap[l]? = some (.loop {r with state := .ready,pending:=none})→Chg (fun b=>b=l) w w1→w1.heap.size=w.heap.size→R.post (.returned (.bool true)) w1):Xay P f R n ds [] e w:=by
 replace hp:=hp _ (XhS (Xkj hl)) XeV (by simp);intro b cs a i j k hf;refine ⟨.returned (.bool true),w,b.atR a [],fun h=>(by rw [hro] at h; cases h),Steps.refl _ _,i,fun h=>(by rw [hro] at h; cases h),fun _=>⟨_,_,rfl,hp,fun d c cs' g => ?_⟩⟩;subst g;exact stepR_round_end (j.trans hro) d (run_endRound none hl)
abbrev XkE (b:Nat):Deferred:={target := .collected b,args := #[]}
abbrev Xkc (f:FuncId) (tmps:Array Value) (ps:Array Tmp) (assign body:Code) (b:Nat):Loop:={state := .ready,pending:=none,fn:=f,tmps,params:=ps,assign,body,defers:=b}
theorem XeR {w:World} {o:Obj}:Chg XaX w (w.alloc o):=XeT _ _
theorem Xay.rangeFunc (hro:R.ro=none) {g:Operand} {ps:Array Tmp} {assign body:Code} {hh:Nat} {first captured:Array Value} (hg:ev e g=some (.func (.func hh) first captured)) (hk:Xaw P hh)
 (hcall:∀ r B tmps w2,r=Xkc f tmps ps assign body B→B=w.heap.size→Xau n {tmps,defers := []} e→w2.heap[B]? = some (.deferred (some []))→w2.heap[B+1]? = some (.loop r)→Chg XaX w w2→w2.heap.size=B+2 →
  Xan P hh (first.toList ++ [XwG (B+1)]++captured.toList).toArray w2 (fun _ w3 => ∃ r,w3.heap[B+1]? = some (.loop r)∧r.state ≠ .busy ∧
   ∀ w4,Chg (fun b=>b=B+1) w3 w4→w4.heap.size=w3.heap.size→Xay P f R n (XkE B::ds) ((r.pending.map Item.code).toList++k) e w4)) :
 Xay P f R n ds (.code (.rangeFunc g ps assign body)::k) e w:=by
 intro b cs a y s K hf
 let d:=(w.alloc (.deferred (some []))).alloc (.loop (Xkc b.fn a.tmps ps assign body w.heap.size))
 have L:(Instr.enterLoop b.fn a.tmps ps assign body b.roundOf).run P w = .ok (w.heap.size+1,[XkE w.heap.size]) d:=by
  rw [s.trans hro]; exact run_enterLoop_outer _ _ _ _ _
 have z:Xau n {tmps:=a.tmps,defers := []} e:=⟨hf.1,hf.2⟩;have A:Chg XaX w d:=XeR.trans XeR;have C:d.heap.size=w.heap.size+2:=by show (World.alloc _ _).heap.size=_; rw [World.size_alloc,World.size_alloc]
 have M:d.heap[w.heap.size]? = some (.deferred (some [])):=by
  exact (XeR (w:=w.alloc (.deferred (some [])))).heap' (World.alloc_heap_new w _)
 have N:d.heap[w.heap.size+1]? = some (.loop (Xkc f a.tmps ps assign body w.heap.size)):=by
  rw [← y]; have:=World.alloc_heap_new (w.alloc (.deferred (some []))) (.loop (Xkc b.fn a.tmps ps assign body w.heap.size)); rw [World.size_alloc] at this; exact this
 have D:=hcall _ _ a.tmps d rfl rfl z M N A C;have t:(resolve a.eval (rangeCall g (w.heap.size+1)) 0).run P d = .ok {target := .fn (.func hh) captured,args:=first ++ #[XwG (w.heap.size+1)]} d:=by
  simp only [resolve,hf.ev hg,Deferred.ofValue,Sem.run_pure];simp [Act.eval,Frame.eval]
 have u:(invoke (.fn (.func hh) captured) (first ++ #[XwG (w.heap.size+1)])).run P d = .ok (.enter hh (first.toList ++ [XwG (w.heap.size+1)]++captured.toList).toArray) d:=by
  obtain ⟨fn,E,p,q⟩:=hk;simp only [invoke,callFunc];refine (XqJ (x:=P) (w':=d) rfl).trans ?_;simp only [E,p,Bool.false_eq_true,if_false,q];rw [show first ++ #[XwG (w.heap.size+1)]++captured=(first.toList ++ [XwG (w.heap.size+1)]++captured.toList).toArray from Array.ext' (by simp)];rfl
 have i:=stepR_rangeFunc (P:=P) (b:=b) (a:=a) (k:=k) (cs:=cs) (w:=w) L t u;obtain ⟨en,w3,fr,⟨v,F,r,G,H,j⟩,l,_,m⟩:=D.calls (b.atR {a with defers := [XkE w.heap.size]++a.defers} (.inRangeFunc (w.heap.size+1)::k)::cs);subst F;replace j:=j _ (XeV (o := .loop {r with state := .exhausted})) (by simp);obtain ⟨I,w4,J,O,Q,S,T⟩:=j b cs {a with defers := [XkE w.heap.size]++a.defers} y s (by simp [K]) ⟨hf.1,hf.2⟩;have h:=step_leave_returned m (c:=b.atR {a with defers := [XkE w.heap.size]++a.defers} (.inRangeFunc (w.heap.size+1)::k)) (cs:=cs);rw [finish_atR_inRangeFunc] at h;exact ⟨I,w4,J,O,.of_steps (.head i (Steps.trans l (.head h (.one (stepR_endRangeFunc (run_endLoop G H)))))) Q,S,T⟩
theorem Xay.retM (hT:XbE P T) {fn:Func} {vs:List Value} {b:Nat} (hs:XcX s=true) (hfn:P.funcs[f]? = some fn) (hm:w.heap[b]? = some (.deferred (some []))) (hr:∀ w1,Chg (fun z=>z=b) w w1→Xbd P T w1 e fn.results.toList vs)
 (hp:∀ w1,Chg (fun z=>z=b) w w1→w1.heap.size=w.heap.size→Post (Xpc vs) w1):Xay P f (Xbe Post) n [XkE b] s e w:=by
 replace hr:=hr _ (XeV (l:=b) (o := .deferred none));replace hp:=hp _ (XeV (l:=b) (o := .deferred none)) (by simp);intro b' cs a h i p hf;have g:=Xpe hT hf hr;have c:∃ todo,Go.step P (lone (b'.atR a s) cs w) = .next (lone {b'.atR a todo with mode := .returning} cs w):=by
  unfold XcX at hs;split at hs
  ·exact ⟨[],stepR_end i⟩
  ·rename_i k; exact ⟨.code .ret::k,stepR_ret i⟩
  ·cases hs
 obtain ⟨todo,j⟩:=c;have q:=step_collected (P:=P) (fr:={b'.atR a todo with mode := .returning}) (cs:=cs) (w:=w) (d:=XkE b) (ds := []) (by simp) p rfl (run_takeDeferred hm);exact ⟨.returned (Xpc vs),_,_,fun _=>⟨_,rfl,hp⟩,.head j (.one q),h,fun _=>⟨rfl,by simp,rfl,fn,by rw [← hfn,← h]; rfl,g⟩,fun m=>absurd rfl m⟩
end
section
variable {P:Program} {T:Tab} {ops:Array Oper} {f:FuncId} {R:Aim} {k:List Item} {q n:Nat} {ds:List Deferred} {w w0:World} {e:Env} {U:List Nat} {S:Nat→Prop}
theorem Xaq.loadbAt (i:Nat) (hT:XbE P T) (hB:XfJ ops q=true) {b off d:Nat} {v:Value} {c:List Value} {t:TypeId} {fz:Nat × Nat} {U2:List Nat} {e2:Env} (hU:Xhu i U=true) (hfr:XgS ops q U [i] = [i]) (h:Xc2 (XjW T e) n ops e i=some ((b,off,none),d))
 (hc:w0.heap[b]? = some (.cells c.toArray t fz)) (hS:¬ S b) (hv:Xl3 c off=some v)
 (ha:Xb2 T n ops q (rmN i U) (rmN i U) ((d,false,v)::e)=(U2,e2)) (hg:Xaq P f R n ds k ops q S U2 e2 w0 w):Xaq P f R n ds k ops q S U e w0 w:=by
 obtain ⟨o,j,r,s,l,u⟩:=Xc3 h;have hm:i ∈ XgS ops q U [i]:=by rw [hfr]; simp
 obtain ⟨_,o',m,g⟩:=XgT.1 hm;obtain rfl:o=o':=Option.some.inj (j.symm.trans m);exact Xaq.one hB j (Xhv.1 hU) g r (by rw [s]; exact XoB l) (fun a w' p hf=>by
  unfold XoI;rw [XjX hT u (p.cell (Xek hc hv) hS) a hf];exact ⟨rfl,rfl⟩) (Xaq.adv hT hB ha hg)
theorem XbO.loadb (hT:XbE P T) (hB:XfJ ops q=true) {b off d i:Nat} {v:Value} {c:List Value} {t:TypeId} {fz:Nat × Nat} {U2:List Nat} {e2:Env} (h:Xc2 (XjW T e) n ops e i=some ((b,off,none),d))
 (hc:w.heap[b]? = some (.cells c.toArray t fz)) (hv:Xl3 c off=some v)
 (ha:Xb2 T n ops q (rmN i U) (rmN i U) ((d,false,v)::e)=(U2,e2)) (hg:Xaq P f R n ds k ops q S U2 e2 w0 w):XbO P f R n ds k ops q S U i e w0 w :=
 XbO.val hT hB h (fun _ g a hf=>XjX hT g (Xek hc hv) a hf) id ha hg
end
end Go.Proofs.YtgddpaiandefgaaGreatDoor
