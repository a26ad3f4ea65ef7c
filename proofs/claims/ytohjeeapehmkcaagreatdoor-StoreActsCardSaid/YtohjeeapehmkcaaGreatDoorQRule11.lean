/-
  Rule11
-/
import Derived.Test.YtohjeeapehmkcaaGreatDoorQRule10
namespace Go.Proofs.YtohjeeapehmkcaaGreatDoor
open Go.RowKit
section
variable {P:Program} {T:Tab} {f:FuncId} {R:Aim} {Post:Value->World->Prop} {k:List Item} {n:Nat} {ds:List Deferred} {s s':List Item} {w:World} {e:Env}
theorem Oc {w:World} {l:Nat} {o:Obj}:Xc (fun b=>b=l) w (w.putObj l o):=I3
theorem XcZ {w:World} {l:Nat} {o:Obj} (h:l<w.heap.size):(w.putObj l o).heap[l]? = some o:=I6 h
abbrev Iz (l:Nat):Value := .func (.yield l) #[] #[]
abbrev Ln (r:Loop) (args:List Value):Array Value:=(r.params.zip args.toArray).foldl (fun tmps (t,a)=>tmps.setIfInBounds t a) r.tmps
def Hl (P:Program) (l:Nat) (args:List Value) (w:World) (Q:Value->World->Prop):Prop :=
 ∃ r,w.heap[l]? = some (.loop r)/\args.length=r.params.size /\
  ∀ c cs,∃ v w',Q v w'/\Steps P (lone (Frame.round l r.fn (Ln r args) r.assign r.body .normal) (c::cs) w) (lone (c.finish v) cs w')
theorem Hl.mono {l:Nat} {args:List Value} {Q Q':Value->World->Prop} (h:Hl P l args w Q) (hq:∀ v w',Q v w'->Q' v w'):Hl P l args w Q':=by
 obtain ⟨r,d,e,f⟩:=h;exact ⟨r,d,e,fun c cs=>by obtain ⟨v,w',a,b⟩:=f c cs; exact ⟨v,w',hq _ _ a,b⟩⟩
def T9 (e:Env) (o:Oper):Option (Nat × List Value) :=
 match o.op with
 |.call c=>match c.callee,evs e c.args.toList with
  |.value x,some l=>match ev e x with
   |some (.func (.yield r) first captured)=>match first.toList,captured.toList with
    |[],[]=>some (r,l)
    |_,_=>none
   |_=>none
  |_,_=>none
 |_=>none
theorem Xl3 {l:Nat} {args:List Value} {o:Oper} {r:Loop} (h:T9 e o=some (l,args)) (hl:w.heap[l]? = some (.loop r)) (hs:args.length=r.params.size) (a:Act) (hf:X5 n a e) :
 (execOp a.eval o).run P w = .ok (.round l r.fn (Ln r args) r.assign r.body) w:=by
 unfold T9 at h;split at h
 ·rename_i c d
  split at h
  ·rename_i x m f g
   split at h
   ·rename_i p first captured i
    split at h
    ·rename_i j k
     cases h
     have e1:first = #[]:=Array.ext' (by simpa using j);have e2:captured = #[]:=Array.ext' (by simpa using k);subst e1; subst e2;have b:c.args.map a.eval=args.toArray:=Fc (hf.evs g);simp only [execOp,d,resolve,f,b,hf.ev i,Deferred.ofValue];refine (Xh (show (pure _:Sem Deferred).run P w = .ok _ w from rfl)).trans ?_;simp only [invoke,Array.empty_append]
     first
      |exact run_yield hl (by simpa using hs)
      |(refine (Xh (x:=P) (w':=w) rfl).trans ?_; exact run_yield hl (by simpa using hs))
    ·cases h
   ·cases h
  ·cases h
 ·cases h
theorem Xa.yieldH {o:Oper} {l d:Nat} {args:List Value} {Q:Value->World->Prop} (h:Dy s e=some (o,s')) (hdd:o.dst=some d) (hlt:Nat.blt d n=true) (hx:T9 e o=some (l,args)) (hy:Hl P l args w Q)
 (hg:∀ v w1,Q v w1->Xa P f R n ds s' ((d,false,v)::e) w1):Xa P f R n ds s e w:=by
 unfold Dy at h;split at h
 ·rename_i ops i rest k'
  split at h
  ·rename_i o' q
   split at h
   ·rename_i z
    cases h
    intro b cs a A B t k;obtain ⟨r,C,D,c⟩:=hy;have u:=Xl3 (P:=P) hx C D a k;obtain ⟨v,w1,E,j⟩:=c (b.atR a (.inRegion ops (i::rest)::k')) cs;have g:Go.step P (lone (b.atR a (.inRegion ops (i::rest)::k')) cs w) =
     .next (lone (Frame.round l r.fn (Ln r args) r.assign r.body .normal) (b.atR a (.inRegion ops (i::rest)::k')::cs) w) :=
     step_lone_go (by rw [Js (A2 q) (Cs k z) u (by simp)]; simp [stepG.apply,u,Frame.atR])
    have m:(a.put o.dst v).defers=ds:=by cases o.dst <;> exact t
    obtain ⟨x,F,y,G,H,I,J⟩:=hg v w1 E b cs (a.put o.dst v) A B m (Ek (by rw [hdd]; exact Jh hlt) a k);have p:(b.atR a (.inRegion ops (i::rest)::k')).finish v=b.atR (a.put o.dst v) (.inRegion ops rest::k'):=by
     rw [Frame.finish_atR,A2 q]; rfl
    rw [p] at j;exact ⟨x,F,y,G,.of_steps (.head g j) H,I,J⟩
   ·cases h
  ·cases h
 ·cases h
theorem Xa.yield {l d:Nat} {args:List Value} {Q:Value->World->Prop} (h:Qa (T9 e) n s e=some ((l,args),d,s')) (hy:Hl P l args w Q)
 (hg:∀ v w1,Q v w1->Xa P f R n ds s' ((d,false,v)::e) w1):Xa P f R n ds s e w:=by
 obtain ⟨o,c,a,b,g⟩:=Ku h;exact Xa.yieldH c a b g hy hg
def Ux:List Nat->List Value->Env->Env
 |p::ps,v::vs,e=>Ux ps vs ((p,false,v)::e)
 |_,_,e=>e
theorem XcQ:∀ (ps:List Nat) (vs:List Value) (tmps:Array Value) (e:Env),X5 n {tmps,defers := []} e->(ps.all fun p=>Nat.blt p n)=true ->
 X5 n {tmps:=(ps.zip vs).foldl (fun tmps (x:Nat × Value)=>tmps.setIfInBounds x.1 x.2) tmps,defers := []} (Ux ps vs e)
 |[],_,_,_,h,_=>h
 |_::_,[],_,_,h,_=>h
 |p::ps,v::vs,tmps,e,h,a=>by
  simp only [List.all_cons,Bool.and_eq_true] at a;have b:=h.put p false v (by simpa [Nat.blt_eq] using a.1);exact XcQ ps vs _ _ b a.2
abbrev Xkj (l:Nat) (Q:Value->World->Prop):Aim:=⟨some l,fun en w' => ∃ v,en = .returned v/\Q v w'⟩
theorem Hl.enter {l:Nat} {r:Loop} {args:List Value} {ps:List Nat} {e:Env} {Q:Value->World->Prop} (hl:w.heap[l]? = some (.loop r)) (hps:r.params=ps.toArray) (hs:args.length=ps.length)
 (hf:X5 n {tmps:=r.tmps,defers := []} e) (hp:(ps.all fun p=>Nat.blt p n)=true)
 (hg:Xa P r.fn (Xkj l Q) n [] [.code r.assign,.beginRound,.code r.body] (Ux ps args e) w):Hl P l args w Q:=by
 refine ⟨r,hl,by rw [hps]; simpa using hs,fun c cs => ?_⟩
 let b:Frame:={(default:Frame) with fn:=r.fn,kind := .normal,roundOf:=some l}
 have a:=XcQ ps args r.tmps e hf hp;have d:Ln r args=(ps.zip args).foldl (fun tmps (x:Nat × Value)=>tmps.setIfInBounds x.1 x.2) r.tmps:=by
  unfold Ln;rw [hps,<- Array.foldl_toList]
  simp
 rw [<- d] at a;obtain ⟨en,w',fr,_,h,_,i⟩:=hg b (c::cs) _ rfl rfl rfl a;obtain ⟨v,j,rfl,⟨v',k,m⟩,f⟩:=i.2 (by simp);cases k
 have g:Frame.round l r.fn (Ln r args) r.assign r.body .normal=b.atR {tmps:=Ln r args,defers := []} [.code r.assign,.beginRound,.code r.body]:=by
  simp [Frame.round,Frame.atR,b]
 rw [g];exact ⟨v,j,m,Steps.trans h (.one (f rfl c cs rfl))⟩
theorem Xa.beginRound {l:Nat} {r:Loop} (hro:R.ro=some l) (hl:w.heap[l]? = some (.loop r)) (hr:r.state = .ready) (hg:∀ w1,w1.heap[l]? = some (.loop {r with state := .busy})->Xc (fun b=>b=l) w w1->w1.heap.size=w.heap.size->Xa P f R n ds k e w1):Xa P f R n ds (.beginRound::k) e w:=by
 replace hg:=hg _ (XcZ (Xg hl)) Oc (by simp);intro b cs a d c g h;obtain ⟨en,i,fr,j,m,o,p⟩:=hg b cs a d c g h;exact ⟨en,i,fr,j,.of_steps (.one (stepR_beginRound (c.trans hro) (run_beginRound hl hr))) m,o,p⟩
theorem Xa.roundEnd {l:Nat} {r:Loop} (hro:R.ro=some l) (hl:w.heap[l]? = some (.loop r)) (hp:∀ w1,w1.heap[l]? = some (.loop {r with state := .ready,pending:=none})->Xc (fun b=>b=l) w w1->w1.heap.size=w.heap.size->R.post (.returned (.bool true)) w1):Xa P f R n ds [] e w:=by
 replace hp:=hp _ (XcZ (Xg hl)) Oc (by simp);intro b cs a i j k m;refine ⟨.returned (.bool true),w,b.atR a [],fun h=>(by rw [hro] at h; cases h),Steps.refl _ _,i,fun h=>(by rw [hro] at h; cases h),fun _=>⟨_,_,rfl,hp,fun d c cs' g => ?_⟩⟩;subst g;exact stepR_round_end (j.trans hro) d (run_endRound none hl)
abbrev Lc (b:Nat):Deferred:={target := .collected b,args := #[]}
abbrev Sf (f:FuncId) (tmps:Array Value) (ps:Array Tmp) (assign body:Code) (b:Nat):Loop:={state := .ready,pending:=none,fn:=f,tmps,params:=ps,assign,body,defers:=b}
theorem Vd {w:World} {o:Obj}:Xc Xe w (w.alloc o):=Dx _ _
theorem Xa.rangeFunc (hro:R.ro=none) {g:Operand} {ps:Array Tmp} {assign body:Code} {hh:Nat} {first captured:Array Value} (hg:ev e g=some (.func (.func hh) first captured)) (hk:L3 P hh)
 (hcall:∀ r B tmps w2,r=Sf f tmps ps assign body B->B=w.heap.size->X5 n {tmps,defers := []} e->w2.heap[B]? = some (.deferred (some []))->w2.heap[B+1]? = some (.loop r)->Xc Xe w w2->w2.heap.size=B+2 ->
  Xf P hh (first.toList ++ [Iz (B+1)]++captured.toList).toArray w2 (fun _ w3 => ∃ r,w3.heap[B+1]? = some (.loop r)/\r.state ≠ .busy /\
   ∀ w4,Xc (fun b=>b=B+1) w3 w4->w4.heap.size=w3.heap.size->Xa P f R n (Lc B::ds) ((r.pending.map Item.code).toList++k) e w4)) :
 Xa P f R n ds (.code (.rangeFunc g ps assign body)::k) e w:=by
 intro b cs a z t L i
 let d:=(w.alloc (.deferred (some []))).alloc (.loop (Sf b.fn a.tmps ps assign body w.heap.size))
 have M:(Instr.enterLoop b.fn a.tmps ps assign body b.roundOf).run P w = .ok (w.heap.size+1,[Lc w.heap.size]) d:=by
  rw [t.trans hro]; exact run_enterLoop_outer _ _ _ _ _
 have A:X5 n {tmps:=a.tmps,defers := []} e:=⟨i.1,i.2⟩;have C:Xc Xe w d:=Vd.trans Vd;have D:d.heap.size=w.heap.size+2:=by show (World.alloc _ _).heap.size=_; rw [World.size_alloc,World.size_alloc]
 have N:d.heap[w.heap.size]? = some (.deferred (some [])):=by
  exact (Vd (w:=w.alloc (.deferred (some [])))).heap' (World.alloc_heap_new w _)
 have O:d.heap[w.heap.size+1]? = some (.loop (Sf f a.tmps ps assign body w.heap.size)):=by
  rw [<- z]; have:=World.alloc_heap_new (w.alloc (.deferred (some []))) (.loop (Sf b.fn a.tmps ps assign body w.heap.size)); rw [World.size_alloc] at this; exact this
 have E:=hcall _ _ a.tmps d rfl rfl A N O C D;have u:(resolve a.eval (rangeCall g (w.heap.size+1)) 0).run P d = .ok {target := .fn (.func hh) captured,args:=first ++ #[Iz (w.heap.size+1)]} d:=by
  simp only [resolve,i.ev hg,Deferred.ofValue,Sem.run_pure];simp [Act.eval,Frame.eval]
 have y:(invoke (.fn (.func hh) captured) (first ++ #[Iz (w.heap.size+1)])).run P d = .ok (.enter hh (first.toList ++ [Iz (w.heap.size+1)]++captured.toList).toArray) d:=by
  obtain ⟨fn,F,q,s⟩:=hk;simp only [invoke,callFunc];refine (Xh (x:=P) (w':=d) rfl).trans ?_;simp only [F,q,Bool.false_eq_true,if_false,s];rw [show first ++ #[Iz (w.heap.size+1)]++captured=(first.toList ++ [Iz (w.heap.size+1)]++captured.toList).toArray from Array.ext' (by simp)];rfl
 have j:=stepR_rangeFunc (P:=P) (b:=b) (a:=a) (k:=k) (cs:=cs) (w:=w) M u y;obtain ⟨en,w3,fr,⟨v,G,r,H,I,l⟩,m,_,p⟩:=E.calls (b.atR {a with defers := [Lc w.heap.size]++a.defers} (.inRangeFunc (w.heap.size+1)::k)::cs);subst G;replace l:=l _ (Oc (o := .loop {r with state := .exhausted})) (by simp);obtain ⟨J,w4,K,Q,S,T,U⟩:=l b cs {a with defers := [Lc w.heap.size]++a.defers} z t (by simp [L]) ⟨i.1,i.2⟩;have h:=step_leave_returned p (c:=b.atR {a with defers := [Lc w.heap.size]++a.defers} (.inRangeFunc (w.heap.size+1)::k)) (cs:=cs);rw [finish_atR_inRangeFunc] at h;exact ⟨J,w4,K,Q,.of_steps (.head j (Steps.trans m (.head h (.one (stepR_endRangeFunc (run_endLoop H I)))))) S,T,U⟩
theorem Xa.retM (hT:Xp P T) {fn:Func} {vs:List Value} {b:Nat} (hs:Ec s=true) (hfn:P.funcs[f]? = some fn) (hm:w.heap[b]? = some (.deferred (some []))) (hr:∀ w1,Xc (fun z=>z=b) w w1->Xk P T w1 e fn.results.toList vs)
 (hp:∀ w1,Xc (fun z=>z=b) w w1->w1.heap.size=w.heap.size->Post (Ir vs) w1):Xa P f (Eo Post) n [Lc b] s e w:=by
 replace hr:=hr _ (Oc (l:=b) (o := .deferred none));replace hp:=hp _ (Oc (l:=b) (o := .deferred none)) (by simp);intro b' cs a h i p q;have g:=S8 hT q hr;have c:∃ todo,Go.step P (lone (b'.atR a s) cs w) = .next (lone {b'.atR a todo with mode := .returning} cs w):=by
  unfold Ec at hs;split at hs
  ·exact ⟨[],stepR_end i⟩
  ·rename_i k; exact ⟨.code .ret::k,stepR_ret i⟩
  ·cases hs
 obtain ⟨todo,j⟩:=c;have r:=step_collected (P:=P) (fr:={b'.atR a todo with mode := .returning}) (cs:=cs) (w:=w) (d:=Lc b) (ds := []) (by simp) p rfl (run_takeDeferred hm);exact ⟨.returned (Ir vs),_,_,fun _=>⟨_,rfl,hp⟩,.head j (.one r),h,fun _=>⟨rfl,by simp,rfl,fn,by rw [<- hfn,<- h]; rfl,g⟩,fun m=>absurd rfl m⟩
end
section
variable {P:Program} {T:Tab} {ops:Array Oper} {f:FuncId} {R:Aim} {k:List Item} {q n:Nat} {ds:List Deferred} {w w0:World} {e:Env} {U:List Nat} {S:Nat->Prop}
theorem Xd.loadbAt (i:Nat) (hT:Xp P T) (hB:Zm ops q=true) {b off d:Nat} {v:Value} {c:List Value} {t:TypeId} {fz:Nat × Nat} {U2:List Nat} {e2:Env} (hU:Cv i U=true) (hfr:Cc ops q U [i] = [i]) (h:Bl (Bn T e) n ops e i=some ((b,off,none),d))
 (hc:w0.heap[b]? = some (.cells c.toArray t fz)) (hS:¬ S b) (hv:Gc c off=some v)
 (ha:Zr T n ops q (Xu i U) (Xu i U) ((d,false,v)::e)=(U2,e2)) (hg:Xd P f R n ds k ops q S U2 e2 w0 w):Xd P f R n ds k ops q S U e w0 w:=by
 obtain ⟨o,j,r,s,l,u⟩:=Jw h;have x:i ∈ Cc ops q U [i]:=by rw [hfr]; simp
 obtain ⟨_,o',m,g⟩:=K5.1 x;obtain rfl:o=o':=Option.some.inj (j.symm.trans m);exact Xd.one hB j (Hr.1 hU) g r (by rw [s]; exact Jg l) (fun a w' p y=>by
  unfold C3;rw [Ow hT u (p.cell (Ee hc hv) hS) a y];exact ⟨rfl,rfl⟩) (Xd.adv hT hB ha hg)
theorem Xq.loadb (hT:Xp P T) (hB:Zm ops q=true) {b off d i:Nat} {v:Value} {c:List Value} {t:TypeId} {fz:Nat × Nat} {U2:List Nat} {e2:Env} (h:Bl (Bn T e) n ops e i=some ((b,off,none),d))
 (hc:w.heap[b]? = some (.cells c.toArray t fz)) (hv:Gc c off=some v)
 (ha:Zr T n ops q (Xu i U) (Xu i U) ((d,false,v)::e)=(U2,e2)) (hg:Xd P f R n ds k ops q S U2 e2 w0 w):Xq P f R n ds k ops q S U i e w0 w :=
 Xq.val hT hB h (fun _ g a j=>Ow hT g (Ee hc hv) a j) id ha hg
end
end Go.Proofs.YtohjeeapehmkcaaGreatDoor
