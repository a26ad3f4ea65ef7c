/-
  Rule11
-/
import Derived.Test.YtgddpaiandefgaaGreatDoorQRule10
namespace Go.Proofs.YtgddpaiandefgaaGreatDoor
open Go.RowKit
section
variable {P:Program} {T:Tab} {f:FuncId} {R:Aim} {Post:Value→World→Prop} {k:List Item} {n:Nat} {ds:List Deferred} {s s':List Item} {w:World} {e:Env}
theorem XeG {w:World} {l:Nat} {o:Obj}:Chg (fun b=>b=l) w (w.putObj l o):=XeI
theorem Xhl {w:World} {l:Nat} {o:Obj} (h:l<w.heap.size):(w.putObj l o).heap[l]? = some o:=Xhm h
abbrev XuP (l:Nat):Value := .func (.yield l) #[] #[]
abbrev Xpg (r:Loop) (args:List Value):Array Value:=(r.params.zip args.toArray).foldl (fun tmps (t,a)=>tmps.setIfInBounds t a) r.tmps
def XbP (P:Program) (l:Nat) (args:List Value) (w:World) (Q:Value→World→Prop):Prop :=
 ∃ r,w.heap[l]? = some (.loop r)∧args.length=r.params.size ∧
  ∀ c cs,∃ v w',Q v w'∧Steps P (lone (Frame.round l r.fn (Xpg r args) r.assign r.body .normal) (c::cs) w) (lone (c.finish v) cs w')
theorem XbP.mono {l:Nat} {args:List Value} {Q Q':Value→World→Prop} (h:XbP P l args w Q) (hq:∀ v w',Q v w'→Q' v w'):XbP P l args w Q':=by
 obtain ⟨r,d,e,f⟩:=h;exact ⟨r,d,e,fun c cs=>by obtain ⟨v,w',a,b⟩:=f c cs; exact ⟨v,w',hq _ _ a,b⟩⟩
def XuN (e:Env) (o:Oper):Option (Nat × List Value) :=
 match o.op with
 |.call c=>match c.callee,evs e c.args.toList with
  |.value x,some l=>match ev e x with
   |some (.func (.yield r) first captured)=>match first.toList,captured.toList with
    |[],[]=>some (r,l)
    |_,_=>none
   |_=>none
  |_,_=>none
 |_=>none
theorem XuO {l:Nat} {args:List Value} {o:Oper} {r:Loop} (h:XuN e o=some (l,args)) (hl:w.heap[l]? = some (.loop r)) (hs:args.length=r.params.size) (a:Act) (hf:Xau n a e) :
 (execOp a.eval o).run P w = .ok (.round l r.fn (Xpg r args) r.assign r.body) w:=by
 unfold XuN at h;split at h
 ·rename_i c d
  split at h
  ·rename_i x m f g
   split at h
   ·rename_i p first captured i
    split at h
    ·rename_i j k
     cases h
     have e1:first = #[]:=Array.ext' (by simpa using j);have e2:captured = #[]:=Array.ext' (by simpa using k);subst e1; subst e2;have b:c.args.map a.eval=args.toArray:=XjJ (hf.evs g);simp only [execOp,d,resolve,f,b,hf.ev i,Deferred.ofValue];refine (Xpj (show (pure _:Sem Deferred).run P w = .ok _ w from rfl)).trans ?_;simp only [invoke,Array.empty_append]
     first
      |exact run_yield hl (by simpa using hs)
      |(refine (Xpj (x:=P) (w':=w) rfl).trans ?_; exact run_yield hl (by simpa using hs))
    ·cases h
   ·cases h
  ·cases h
 ·cases h
theorem Xay.yieldH {o:Oper} {l d:Nat} {args:List Value} {Q:Value→World→Prop} (h:Xg6 s e=some (o,s')) (hdd:o.dst=some d) (hlt:Nat.blt d n=true) (hx:XuN e o=some (l,args)) (hy:XbP P l args w Q)
 (hg:∀ v w1,Q v w1→Xay P f R n ds s' ((d,false,v)::e) w1):Xay P f R n ds s e w:=by
 unfold Xg6 at h;split at h
 ·rename_i ops i rest k'
  split at h
  ·rename_i o' q
   split at h
   ·rename_i z
    cases h
    intro b cs a A B t k;obtain ⟨r,C,D,c⟩:=hy;have u:=XuO (P:=P) hx C D a k;obtain ⟨v,w1,E,j⟩:=c (b.atR a (.inRegion ops (i::rest)::k')) cs;have g:Go.step P (lone (b.atR a (.inRegion ops (i::rest)::k')) cs w) =
     .next (lone (Frame.round l r.fn (Xpg r args) r.assign r.body .normal) (b.atR a (.inRegion ops (i::rest)::k')::cs) w) :=
     step_lone_go (by rw [XrT (Xla q) (Xuf k z) u (by simp)]; simp [stepG.apply,u,Frame.atR])
    have m:(a.put o.dst v).defers=ds:=by cases o.dst <;> exact t
    obtain ⟨x,F,y,G,H,I,J⟩:=hg v w1 E b cs (a.put o.dst v) A B m (Xny (by rw [hdd]; exact Xnx hlt) a k);have p:(b.atR a (.inRegion ops (i::rest)::k')).finish v=b.atR (a.put o.dst v) (.inRegion ops rest::k'):=by
     rw [Frame.finish_atR,Xla q]; rfl
    rw [p] at j;exact ⟨x,F,y,G,.of_steps (.head g j) H,I,J⟩
   ·cases h
  ·cases h
 ·cases h
theorem Xay.yield {l d:Nat} {args:List Value} {Q:Value→World→Prop} (h:XcR (XuN e) n s e=some ((l,args),d,s')) (hy:XbP P l args w Q)
 (hg:∀ v w1,Q v w1→Xay P f R n ds s' ((d,false,v)::e) w1):Xay P f R n ds s e w:=by
 obtain ⟨o,c,a,b,g⟩:=XcU h;exact Xay.yieldH c a b g hy hg
def Xdh:List Nat→List Value→Env→Env
 |p::ps,v::vs,e=>Xdh ps vs ((p,false,v)::e)
 |_,_,e=>e
theorem Xf8:∀ (ps:List Nat) (vs:List Value) (tmps:Array Value) (e:Env),Xau n {tmps,defers := []} e→(ps.all fun p=>Nat.blt p n)=true →
 Xau n {tmps:=(ps.zip vs).foldl (fun tmps (x:Nat × Value)=>tmps.setIfInBounds x.1 x.2) tmps,defers := []} (Xdh ps vs e)
 |[],_,_,_,h,_=>h
 |_::_,[],_,_,h,_=>h
 |p::ps,v::vs,tmps,e,h,a=>by
  simp only [List.all_cons,Bool.and_eq_true] at a;have b:=h.put p false v (by simpa [Nat.blt_eq] using a.1);exact Xf8 ps vs _ _ b a.2
abbrev Xpf (l:Nat) (Q:Value→World→Prop):Aim:=⟨some l,fun en w' => ∃ v,en = .returned v∧Q v w'⟩
theorem XbP.enter {l:Nat} {r:Loop} {args:List Value} {ps:List Nat} {e:Env} {Q:Value→World→Prop} (hl:w.heap[l]? = some (.loop r)) (hps:r.params=ps.toArray) (hs:args.length=ps.length)
 (hf:Xau n {tmps:=r.tmps,defers := []} e) (hp:(ps.all fun p=>Nat.blt p n)=true)
 (hg:Xay P r.fn (Xpf l Q) n [] [.code r.assign,.beginRound,.code r.body] (Xdh ps args e) w):XbP P l args w Q:=by
 refine ⟨r,hl,by rw [hps]; simpa using hs,fun c cs => ?_⟩
 let b:Frame:={(default:Frame) with fn:=r.fn,kind := .normal,roundOf:=some l}
 have a:=Xf8 ps args r.tmps e hf hp;have d:Xpg r args=(ps.zip args).foldl (fun tmps (x:Nat × Value)=>tmps.setIfInBounds x.1 x.2) r.tmps:=by
  unfold Xpg;rw [hps,← Array.foldl_toList]
  simp
 rw [← d] at a;obtain ⟨en,w',fr,_,h,_,i⟩:=hg b (c::cs) _ rfl rfl rfl a;obtain ⟨v,j,rfl,⟨v',k,m⟩,f⟩:=i.2 (by simp);cases k
 have g:Frame.round l r.fn (Xpg r args) r.assign r.body .normal=b.atR {tmps:=Xpg r args,defers := []} [.code r.assign,.beginRound,.code r.body]:=by
  simp [Frame.round,Frame.atR,b]
 rw [g];exact ⟨v,j,m,Steps.trans h (.one (f rfl c cs rfl))⟩
theorem Xay.beginRound {l:Nat} {r:Loop} (hro:R.ro=some l) (hl:w.heap[l]? = some (.loop r)) (hr:r.state = .ready) (hg:∀ w1,w1.heap[l]? = some (.loop {r with state := .busy})→Chg (fun b=>b=l) w w1→w1.heap.size=w.heap.size→Xay P f R n ds k e w1):Xay P f R n ds (.beginRound::k) e w:=by
 replace hg:=hg _ (Xhl (Xjs hl)) XeG (by simp);intro b cs a d c g h;obtain ⟨en,i,fr,j,m,o,p⟩:=hg b cs a d c g h;exact ⟨en,i,fr,j,.of_steps (.one (stepR_beginRound (c.trans hro) (run_beginRound hl hr))) m,o,p⟩
theorem Xay.roundEnd {l:Nat} {r:Loop} (hro:R.ro=some l) (hl:w.heap[l]? = some (.loop r)) (hp:∀ w1,w1.heap[l]? = some (.loop {r with state := .ready,pending:=none})→Chg (fun b=>b=l) w w1→w1.heap.size=w.heap.size→R.post (.returned (.bool true)) w1):Xay P f R n ds [] e w:=by
 replace hp:=hp _ (Xhl (Xjs hl)) XeG (by simp);intro b cs a i j k m;refine ⟨.returned (.bool true),w,b.atR a [],fun h=>(by rw [hro] at h; cases h),Steps.refl _ _,i,fun h=>(by rw [hro] at h; cases h),fun _=>⟨_,_,rfl,hp,fun d c cs' g => ?_⟩⟩;subst g;exact stepR_round_end (j.trans hro) d (run_endRound none hl)
abbrev XjK (b:Nat):Deferred:={target := .collected b,args := #[]}
abbrev Xjl (f:FuncId) (tmps:Array Value) (ps:Array Tmp) (assign body:Code) (b:Nat):Loop:={state := .ready,pending:=none,fn:=f,tmps,params:=ps,assign,body,defers:=b}
theorem XeC {w:World} {o:Obj}:Chg XaW w (w.alloc o):=XeE _ _
theorem Xay.rangeFunc (hro:R.ro=none) {g:Operand} {ps:Array Tmp} {assign body:Code} {hh:Nat} {first captured:Array Value} (hg:ev e g=some (.func (.func hh) first captured)) (hk:Xaw P hh)
 (hcall:∀ r B tmps w2,r=Xjl f tmps ps assign body B→B=w.heap.size→Xau n {tmps,defers := []} e→w2.heap[B]? = some (.deferred (some []))→w2.heap[B+1]? = some (.loop r)→Chg XaW w w2→w2.heap.size=B+2 →
  Xan P hh (first.toList ++ [XuP (B+1)]++captured.toList).toArray w2 (fun _ w3 => ∃ r,w3.heap[B+1]? = some (.loop r)∧r.state ≠ .busy ∧
   ∀ w4,Chg (fun b=>b=B+1) w3 w4→w4.heap.size=w3.heap.size→Xay P f R n (XjK B::ds) ((r.pending.map Item.code).toList++k) e w4)) :
 Xay P f R n ds (.code (.rangeFunc g ps assign body)::k) e w:=by
 intro b cs a z t L i
 let d:=(w.alloc (.deferred (some []))).alloc (.loop (Xjl b.fn a.tmps ps assign body w.heap.size))
 have M:(Instr.enterLoop b.fn a.tmps ps assign body b.roundOf).run P w = .ok (w.heap.size+1,[XjK w.heap.size]) d:=by
  rw [t.trans hro]; exact run_enterLoop_outer _ _ _ _ _
 have A:Xau n {tmps:=a.tmps,defers := []} e:=⟨i.1,i.2⟩;have C:Chg XaW w d:=XeC.trans XeC;have D:d.heap.size=w.heap.size+2:=by show (World.alloc _ _).heap.size=_; rw [World.size_alloc,World.size_alloc]
 have N:d.heap[w.heap.size]? = some (.deferred (some [])):=by
  exact (XeC (w:=w.alloc (.deferred (some [])))).heap' (World.alloc_heap_new w _)
 have O:d.heap[w.heap.size+1]? = some (.loop (Xjl f a.tmps ps assign body w.heap.size)):=by
  rw [← z]; have:=World.alloc_heap_new (w.alloc (.deferred (some []))) (.loop (Xjl b.fn a.tmps ps assign body w.heap.size)); rw [World.size_alloc] at this; exact this
 have E:=hcall _ _ a.tmps d rfl rfl A N O C D;have u:(resolve a.eval (rangeCall g (w.heap.size+1)) 0).run P d = .ok {target := .fn (.func hh) captured,args:=first ++ #[XuP (w.heap.size+1)]} d:=by
  simp only [resolve,i.ev hg,Deferred.ofValue,Sem.run_pure];simp [Act.eval,Frame.eval]
 have y:(invoke (.fn (.func hh) captured) (first ++ #[XuP (w.heap.size+1)])).run P d = .ok (.enter hh (first.toList ++ [XuP (w.heap.size+1)]++captured.toList).toArray) d:=by
  obtain ⟨fn,F,q,s⟩:=hk;simp only [invoke,callFunc];refine (Xpj (x:=P) (w':=d) rfl).trans ?_;simp only [F,q,Bool.false_eq_true,if_false,s];rw [show first ++ #[XuP (w.heap.size+1)]++captured=(first.toList ++ [XuP (w.heap.size+1)]++captured.toList).toArray from Array.ext' (by simp)];rfl
 have j:=stepR_rangeFunc (P:=P) (b:=b) (a:=a) (k:=k) (cs:=cs) (w:=w) M u y;obtain ⟨en,w3,fr,⟨v,G,r,H,I,l⟩,m,_,p⟩:=E.calls (b.atR {a with defers := [XjK w.heap.size]++a.defers} (.inRangeFunc (w.heap.size+1)::k)::cs);subst G;replace l:=l _ (XeG (o := .loop {r with state := .exhausted})) (by simp);obtain ⟨J,w4,K,Q,S,T,U⟩:=l b cs {a with defers := [XjK w.heap.size]++a.defers} z t (by simp [L]) ⟨i.1,i.2⟩;have h:=step_leave_returned p (c:=b.atR {a with defers := [XjK w.heap.size]++a.defers} (.inRangeFunc (w.heap.size+1)::k)) (cs:=cs);rw [finish_atR_inRangeFunc] at h;exact ⟨J,w4,K,Q,.of_steps (.head j (Steps.trans m (.head h (.one (stepR_endRangeFunc (run_endLoop H I)))))) S,T,U⟩
theorem Xay.retM (hT:XbB P T) {fn:Func} {vs:List Value} {b:Nat} (hs:XcQ s=true) (hfn:P.funcs[f]? = some fn) (hm:w.heap[b]? = some (.deferred (some []))) (hr:∀ w1,Chg (fun z=>z=b) w w1→Xba P T w1 e fn.results.toList vs)
 (hp:∀ w1,Chg (fun z=>z=b) w w1→w1.heap.size=w.heap.size→Post (XnV vs) w1):Xay P f (Xbb Post) n [XjK b] s e w:=by
 replace hr:=hr _ (XeG (l:=b) (o := .deferred none));replace hp:=hp _ (XeG (l:=b) (o := .deferred none)) (by simp);intro b' cs a h i p q;have g:=XnW hT q hr;have c:∃ todo,Go.step P (lone (b'.atR a s) cs w) = .next (lone {b'.atR a todo with mode := .returning} cs w):=by
  unfold XcQ at hs;split at hs
  ·exact ⟨[],stepR_end i⟩
  ·rename_i k; exact ⟨.code .ret::k,stepR_ret i⟩
  ·cases hs
 obtain ⟨todo,j⟩:=c;have r:=step_collected (P:=P) (fr:={b'.atR a todo with mode := .returning}) (cs:=cs) (w:=w) (d:=XjK b) (ds := []) (by simp) p rfl (run_takeDeferred hm);exact ⟨.returned (XnV vs),_,_,fun _=>⟨_,rfl,hp⟩,.head j (.one r),h,fun _=>⟨rfl,by simp,rfl,fn,by rw [← hfn,← h]; rfl,g⟩,fun m=>absurd rfl m⟩
end
section
variable {P:Program} {T:Tab} {ops:Array Oper} {f:FuncId} {R:Aim} {k:List Item} {q n:Nat} {ds:List Deferred} {w w0:World} {e:Env} {U:List Nat} {S:Nat→Prop}
theorem Xaq.loadbAt (i:Nat) (hT:XbB P T) (hB:Xfs ops q=true) {b off d:Nat} {v:Value} {c:List Value} {t:TypeId} {fz:Nat × Nat} {U2:List Nat} {e2:Env} (hU:Xg0 i U=true) (hfr:Xgp ops q U [i] = [i]) (h:XcV (Xi6 T e) n ops e i=some ((b,off,none),d))
 (hc:w0.heap[b]? = some (.cells c.toArray t fz)) (hS:¬ S b) (hv:Xk8 c off=some v)
 (ha:XbV T n ops q (rmN i U) (rmN i U) ((d,false,v)::e)=(U2,e2)) (hg:Xaq P f R n ds k ops q S U2 e2 w0 w):Xaq P f R n ds k ops q S U e w0 w:=by
 obtain ⟨o,j,r,s,l,u⟩:=XcW h;have hm:i ∈ Xgp ops q U [i]:=by rw [hfr]; simp
 obtain ⟨_,o',m,g⟩:=Xgq.1 hm;obtain rfl:o=o':=Option.some.inj (j.symm.trans m);exact Xaq.one hB j (Xg1.1 hU) g r (by rw [s]; exact Xnv l) (fun a w' p x=>by
  unfold XnC;rw [Xi7 hT u (p.cell (Xd6 hc hv) hS) a x];exact ⟨rfl,rfl⟩) (Xaq.adv hT hB ha hg)
theorem XbK.loadb (hT:XbB P T) (hB:Xfs ops q=true) {b off d i:Nat} {v:Value} {c:List Value} {t:TypeId} {fz:Nat × Nat} {U2:List Nat} {e2:Env} (h:XcV (Xi6 T e) n ops e i=some ((b,off,none),d))
 (hc:w.heap[b]? = some (.cells c.toArray t fz)) (hv:Xk8 c off=some v)
 (ha:XbV T n ops q (rmN i U) (rmN i U) ((d,false,v)::e)=(U2,e2)) (hg:Xaq P f R n ds k ops q S U2 e2 w0 w):XbK P f R n ds k ops q S U i e w0 w :=
 XbK.val hT hB h (fun _ g a j=>Xi7 hT g (Xd6 hc hv) a j) id ha hg
end
end Go.Proofs.YtgddpaiandefgaaGreatDoor
