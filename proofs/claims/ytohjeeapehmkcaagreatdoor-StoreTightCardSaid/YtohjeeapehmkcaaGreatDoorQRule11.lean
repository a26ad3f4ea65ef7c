/-
  Rule11
-/
import Derived.Test.YtohjeeapehmkcaaGreatDoorQRule10
namespace Go.Proofs.YtohjeeapehmkcaaGreatDoor
open Go.RowKit
section
variable {P:Program}{T:Tab}{f:FuncId}{R:Aim}{Post:Value->World->Prop}{k:List Item}{n:Nat}{ds:List Deferred}{s s':List Item}{w:World}{e:Env}
theorem Pb{w:World}{l:Nat}{o:Obj}:Xc (λb=>b=l) w (w.putObj l o):=Jq
theorem Xd3{w:World}{l:Nat}{o:Obj}(h:l<w.heap.size):(w.putObj l o).heap[l]?=some o:=Jv h
abbrev Jm(l:Nat):Value:=.func (.yield l) #[] #[]
abbrev Mg(r:Loop)(args:List Value):Array Value:=(r.params.zip args.toArray).foldl (λtmps (t,a)=>tmps.setIfInBounds t a) r.tmps
def H5(P:Program)(l:Nat)(args:List Value)(w:World)(Q:Value->World->Prop):Prop:=
 ∃r,w.heap[l]?=some (.loop r)/\args.length=r.params.size/\
  ∀c cs,∃v w',Q v w'/\Steps P (lone (Frame.round l r.fn (Mg r args) r.assign r.body .normal) (c::cs) w) (lone (c.finish v) cs w')
theorem H5.mono{l:Nat}{args:List Value}{Q Q':Value->World->Prop}(h:H5 P l args w Q)(hq:∀v w',Q v w'->Q' v w'):H5 P l args w Q':=by
 obtain⟨r,d,e,f⟩:=h;exact⟨r,d,e,λc cs=>by obtain⟨v,w',a,b⟩:=f c cs;exact⟨v,w',hq _ _ a,b⟩⟩
def Vi(e:Env)(o:Oper):Option (Nat×List Value):=
 match o.op with
 |.call c=>match c.callee,evs e c.args.toList with
  |.value x,some l=>match ev e x with
   |some (.func (.yield r) first captured)=>match first.toList,captured.toList with
    |[],[]=>some (r,l)
    |_,_=>none
   |_=>none
  |_,_=>none
 |_=>none
theorem Xnp{l:Nat}{args:List Value}{o:Oper}{r:Loop}(h:Vi e o=some (l,args))(hl:w.heap[l]?=some (.loop r))(hs:args.length=r.params.size)(a:Act)(hf:X8 n a e):(execOp a.eval o).run P w=.ok (.round l r.fn (Mg r args) r.assign r.body) w:=by
 unfold Vi at h;split at h
 ·rename_i c d
  split at h
  ·rename_i x m f g
   split at h
   ·rename_i p first captured i
    split at h
    ·rename_i j k
     cases h
     have e1:=Array.ext' (by simpa using j);have e2:=Array.ext' (by simpa using k);subst e1;subst e2;have b:=Fs (hf.evs g);simp only[execOp,d,resolve,f,b,hf.ev i,Deferred.ofValue];refine(Xh (show(pure _:Sem Deferred).run P w=.ok _ w from rfl)).trans ?_;simp only[invoke,Array.empty_append]
     first
      |exact run_yield hl (by simpa using hs)
      |(refine(Xh (x:=P) (w':=w) rfl).trans ?_;exact run_yield hl (by simpa using hs))
    ·cases h
   ·cases h
  ·cases h
 ·cases h
theorem Xa.yieldH{o:Oper}{l d:Nat}{args:List Value}{Q:Value->World->Prop}(h:Ec s e=some (o,s'))(hdd:o.dst=some d)(hlt:Nat.blt d n=true)(hx:Vi e o=some (l,args))(hy:H5 P l args w Q)(hg:∀v w1,Q v w1->Xa P f R n ds s' ((d,false,v)::e) w1):Xa P f R n ds s e w:=by
 unfold Ec at h;split at h
 ·rename_i ops i rest k'
  split at h
  ·rename_i o' q
   split at h
   ·rename_i z
    cases h
    intro b cs a A B t k;obtain⟨r,C,D,c⟩:=hy;have u:=Xnp (P:=P) hx C D a k;obtain⟨v,w1,E,j⟩:=c (b.atR a (.inRegion ops (i::rest)::k')) cs;have g:Go.step P (lone (b.atR a (.inRegion ops (i::rest)::k')) cs w) =
     .next (lone (Frame.round l r.fn (Mg r args) r.assign r.body .normal) (b.atR a (.inRegion ops (i::rest)::k')::cs) w):=
     step_lone_go (by rw[Ke (Bg q) (C8 k z) u (by simp)];simp[stepG.apply,u,Frame.atR])
    have m:(a.put o.dst v).defers=ds:=by cases o.dst <;> exact t
    obtain⟨x,F,y,G,H,I,J⟩:=hg v w1 E b cs (a.put o.dst v) A B m (Ez (by rw[hdd];exact J3 hlt) a k);have p:(b.atR a (.inRegion ops (i::rest)::k')).finish v=b.atR (a.put o.dst v) (.inRegion ops rest::k'):=by
     rw[Frame.finish_atR,Bg q];rfl
    rw[p] at j;exact⟨x,F,y,G,.of_steps (.head g j) H,I,J⟩
   ·cases h
  ·cases h
 ·cases h
theorem Xa.yield{l d:Nat}{args:List Value}{Q:Value->World->Prop}(h:Ql (Vi e) n s e=some ((l,args),d,s'))(hy:H5 P l args w Q)(hg:∀v w1,Q v w1->Xa P f R n ds s' ((d,false,v)::e) w1):Xa P f R n ds s e w:=by
 obtain⟨o,c,a,b,g⟩:=Ll h;exact Xa.yieldH c a b g hy hg
def V7:List Nat->List Value->Env->Env
 |p::ps,v::vs,e=>V7 ps vs ((p,false,v)::e)
 |_,_,e=>e
theorem XdR:∀(ps:List Nat) (vs:List Value) (tmps:Array Value) (e:Env),X8 n {tmps,defers:=[]} e->(ps.all λp=>Nat.blt p n)=true ->
 X8 n {tmps:=(ps.zip vs).foldl (λtmps (x:Nat×Value)=>tmps.setIfInBounds x.1 x.2) tmps,defers:=[]} (V7 ps vs e)
 |[],_,_,_,h,_=>h
 |_::_,[],_,_,h,_=>h
 |p::ps,v::vs,tmps,e,h,a=>by
  simp only[List.all_cons,Bool.and_eq_true] at a;have b:=h.put p false v (by simpa [Nat.blt_eq] using a.1);exact XdR ps vs _ _ b a.2
abbrev XlC(l:Nat)(Q:Value->World->Prop):Aim:=⟨some l,λen w'=>∃v,en=.returned v/\Q v w'⟩
theorem H5.enter{l:Nat}{r:Loop}{args:List Value}{ps:List Nat}{e:Env}{Q:Value->World->Prop}(hl:w.heap[l]?=some (.loop r))(hps:r.params=ps.toArray)(hs:args.length=ps.length)(hf:X8 n {tmps:=r.tmps,defers:=[]} e)(hp:(ps.all λp=>Nat.blt p n)=true)(hg:Xa P r.fn (XlC l Q) n [] [.code r.assign,.beginRound,.code r.body] (V7 ps args e) w):H5 P l args w Q:=by
 refine⟨r,hl,by rw[hps];simpa using hs,λc cs=>?_⟩
 let b:Frame:={(default:Frame) with fn:=r.fn,kind:=.normal,roundOf:=some l}
 have a:=XdR ps args r.tmps e hf hp;have d:Mg r args=(ps.zip args).foldl (λtmps (x:Nat×Value)=>tmps.setIfInBounds x.1 x.2) r.tmps:=by
  unfold Mg;rw[hps,<-Array.foldl_toList]
  simp
 rw[<-d] at a;obtain⟨en,w',fr,_,h,_,i⟩:=hg b (c::cs) _ rfl rfl rfl a;obtain⟨v,j,rfl,⟨v',k,m⟩,f⟩:=i.2 (by simp);cases k
 have g:Frame.round l r.fn (Mg r args) r.assign r.body .normal=b.atR {tmps:=Mg r args,defers:=[]} [.code r.assign,.beginRound,.code r.body]:=by
  simp[Frame.round,Frame.atR,b]
 rw[g];exact⟨v,j,m,Steps.trans h (.one (f rfl c cs rfl))⟩
theorem Xa.beginRound{l:Nat}{r:Loop}(hro:R.ro=some l)(hl:w.heap[l]?=some (.loop r))(hr:r.state=.ready)(hg:∀w1,w1.heap[l]?=some (.loop {r with state:=.busy})->Xc (λb=>b=l) w w1->w1.heap.size=w.heap.size->Xa P f R n ds k e w1):Xa P f R n ds (.beginRound::k) e w:=by
 replace hg:=hg _ (Xd3 (Xg hl)) Pb (by simp);intro b cs a d c g h;obtain⟨en,i,fr,j,m,o,p⟩:=hg b cs a d c g h;exact⟨en,i,fr,j,.of_steps (.one (stepR_beginRound (c.trans hro) (run_beginRound hl hr))) m,o,p⟩
theorem Xa.roundEnd{l:Nat}{r:Loop}(hro:R.ro=some l)(hl:w.heap[l]?=some (.loop r))(hp:∀w1,w1.heap[l]?=some (.loop {r with state:=.ready,pending:=none})->Xc (λb=>b=l) w w1->w1.heap.size=w.heap.size->R.post (.returned (.bool true)) w1):Xa P f R n ds [] e w:=by
 replace hp:=hp _ (Xd3 (Xg hl)) Pb (by simp);intro b cs a i j k m;refine⟨.returned (.bool true),w,b.atR a [],λh=>(by rw[hro] at h;cases h),Steps.refl _ _,i,λh=>(by rw[hro] at h;cases h),λ_=>⟨_,_,rfl,hp,λd c cs' g=>?_⟩⟩;subst g;exact stepR_round_end (j.trans hro) d (run_endRound none hl)
abbrev L3(b:Nat):Deferred:={target:=.collected b,args:=#[]}
abbrev Tn(f:FuncId)(tmps:Array Value)(ps:Array Tmp)(assign body:Code)(b:Nat):Loop:={state:=.ready,pending:=none,fn:=f,tmps,params:=ps,assign,body,defers:=b}
theorem W9{w:World}{o:Obj}:Xc Xe w (w.alloc o):=Ea _ _
theorem Xa.rangeFunc(hro:R.ro=none){g:Operand}{ps:Array Tmp}{assign body:Code}{hh:Nat}{first captured:Array Value}(hg:ev e g=some (.func (.func hh) first captured))(hk:Mw P hh)(hcall:∀r B tmps w2,r=Tn f tmps ps assign body B->B=w.heap.size->X8 n {tmps,defers:=[]} e->w2.heap[B]?=some (.deferred (some []))->w2.heap[B+1]?=some (.loop r)->Xc Xe w w2->w2.heap.size=B+2 -> Xf P hh (first.toList++[Jm (B+1)]++captured.toList).toArray w2 (λ_ w3=>∃r,w3.heap[B+1]?=some (.loop r)/\r.state≠.busy/\ ∀w4,Xc (λb=>b=B+1) w3 w4->w4.heap.size=w3.heap.size->Xa P f R n (L3 B::ds) ((r.pending.map Item.code).toList++k) e w4)):Xa P f R n ds (.code (.rangeFunc g ps assign body)::k) e w:=by
 intro b cs a z t L i
 let d:=(w.alloc (.deferred (some []))).alloc (.loop (Tn b.fn a.tmps ps assign body w.heap.size))
 have M:(Instr.enterLoop b.fn a.tmps ps assign body b.roundOf).run P w=.ok (w.heap.size+1,[L3 w.heap.size]) d:=by
  rw[t.trans hro];exact run_enterLoop_outer _ _ _ _ _
 have A:X8 n {tmps:=a.tmps,defers:=[]} e:=⟨i.1,i.2⟩;have C:Xc Xe w d:=W9.trans W9;have D:d.heap.size=w.heap.size+2:=by show(World.alloc _ _).heap.size=_;rw[World.size_alloc,World.size_alloc]
 have N:d.heap[w.heap.size]?=some (.deferred (some [])):=by
  exact(W9 (w:=w.alloc (.deferred (some [])))).heap' (World.alloc_heap_new w _)
 have O:d.heap[w.heap.size+1]?=some (.loop (Tn f a.tmps ps assign body w.heap.size)):=by
  rw[<-z];have:=World.alloc_heap_new (w.alloc (.deferred (some []))) (.loop (Tn b.fn a.tmps ps assign body w.heap.size));rw[World.size_alloc] at this;exact this
 have E:=hcall _ _ a.tmps d rfl rfl A N O C D;have u:(resolve a.eval (rangeCall g (w.heap.size+1)) 0).run P d=.ok {target:=.fn (.func hh) captured,args:=first ++ #[Jm (w.heap.size+1)]} d:=by
  simp only[resolve,i.ev hg,Deferred.ofValue,Sem.run_pure];simp[Act.eval,Frame.eval]
 have y:(invoke (.fn (.func hh) captured) (first ++ #[Jm (w.heap.size+1)])).run P d=.ok (.enter hh (first.toList++[Jm (w.heap.size+1)]++captured.toList).toArray) d:=by
  obtain⟨fn,F,q,s⟩:=hk;simp only[invoke,callFunc];refine(Xh (x:=P) (w':=d) rfl).trans ?_;simp only[F,q,Bool.false_eq_true,if_false,s];rw[show first ++ #[Jm (w.heap.size+1)]++captured=(first.toList++[Jm (w.heap.size+1)]++captured.toList).toArray from Array.ext' (by simp)];rfl
 have j:=stepR_rangeFunc (P:=P) (b:=b) (a:=a) (k:=k) (cs:=cs) (w:=w) M u y;obtain⟨en,w3,fr,⟨v,G,r,H,I,l⟩,m,_,p⟩:=E.calls (b.atR {a with defers:=[L3 w.heap.size]++a.defers} (.inRangeFunc (w.heap.size+1)::k)::cs);subst G;replace l:=l _ (Pb (o:=.loop {r with state:=.exhausted})) (by simp);obtain⟨J,w4,K,Q,S,T,U⟩:=l b cs {a with defers:=[L3 w.heap.size]++a.defers} z t (by simp[L]) ⟨i.1,i.2⟩;have h:=step_leave_returned p (c:=b.atR {a with defers:=[L3 w.heap.size]++a.defers} (.inRangeFunc (w.heap.size+1)::k)) (cs:=cs);rw[finish_atR_inRangeFunc] at h;exact⟨J,w4,K,Q,.of_steps (.head j (Steps.trans m (.head h (.one (stepR_endRangeFunc (run_endLoop H I)))))) S,T,U⟩
theorem Xa.retM(hT:Xq P T){fn:Func}{vs:List Value}{b:Nat}(hs:Ep s=true)(hfn:P.funcs[f]?=some fn)(hm:w.heap[b]?=some (.deferred (some [])))(hr:∀w1,Xc (λz=>z=b) w w1->Xm P T w1 e fn.results.toList vs)(hp:∀w1,Xc (λz=>z=b) w w1->w1.heap.size=w.heap.size->Post (Jd vs) w1):Xa P f (E2 Post) n [L3 b] s e w:=by
 replace hr:=hr _ (Pb (l:=b) (o:=.deferred none));replace hp:=hp _ (Pb (l:=b) (o:=.deferred none)) (by simp);intro b' cs a h i p q;have g:=Uf hT q hr;have c:∃todo,Go.step P (lone (b'.atR a s) cs w)=.next (lone {b'.atR a todo with mode:=.returning} cs w):=by
  unfold Ep at hs;split at hs
  ·exact⟨[],stepR_end i⟩
  ·rename_i k;exact⟨.code .ret::k,stepR_ret i⟩
  ·cases hs
 obtain⟨todo,j⟩:=c;have r:=step_collected (P:=P) (fr:={b'.atR a todo with mode:=.returning}) (cs:=cs) (w:=w) (d:=L3 b) (ds:=[]) (by simp) p rfl (run_takeDeferred hm);exact⟨.returned (Jd vs),_,_,λ_=>⟨_,rfl,hp⟩,.head j (.one r),h,λ_=>⟨rfl,by simp,rfl,fn,by rw[<-hfn,<-h];rfl,g⟩,λm=>absurd rfl m⟩
end
section
variable {P:Program}{T:Tab}{ops:Array Oper}{f:FuncId}{R:Aim}{k:List Item}{q n:Nat}{ds:List Deferred}{w w0:World}{e:Env}{U:List Nat}{S:Nat->Prop}
theorem Xd.loadbAt(i:Nat)(hT:Xq P T)(hB:Zp ops q=true){b off d:Nat}{v:Value}{c:List Value}{t:TypeId}{fz:Nat×Nat}{U2:List Nat}{e2:Env}(hU:Db i U=true)(hfr:Co ops q U [i]=[i])(h:Bx (Bz T e) n ops e i=some ((b,off,none),d))(hc:w0.heap[b]?=some (.cells c.toArray t fz))(hS:¬S b)(hv:Gt c off=some v)(ha:Zu T n ops q (Xw i U) (Xw i U) ((d,false,v)::e)=(U2,e2))(hg:Xd P f R n ds k ops q S U2 e2 w0 w):Xd P f R n ds k ops q S U e w0 w:=by
 obtain⟨o,j,r,s,l,u⟩:=Kj h;have x:i∈Co ops q U [i]:=by rw[hfr];simp
 obtain⟨_,o',m,g⟩:=Lx.1 x;obtain rfl:o=o':=Option.some.inj (j.symm.trans m);exact Xd.one hB j (H9.1 hU) g r (by rw[s];exact J2 l) (λa w' p y=>by
  unfold Dh;rw[Pt hT u (p.cell (Es hc hv) hS) a y];exact⟨rfl,rfl⟩) (Xd.adv hT hB ha hg)
theorem Xp.loadb(hT:Xq P T)(hB:Zp ops q=true){b off d i:Nat}{v:Value}{c:List Value}{t:TypeId}{fz:Nat×Nat}{U2:List Nat}{e2:Env}(h:Bx (Bz T e) n ops e i=some ((b,off,none),d))(hc:w.heap[b]?=some (.cells c.toArray t fz))(hv:Gt c off=some v)(ha:Zu T n ops q (Xw i U) (Xw i U) ((d,false,v)::e)=(U2,e2))(hg:Xd P f R n ds k ops q S U2 e2 w0 w):Xp P f R n ds k ops q S U i e w0 w:=
 Xp.val hT hB h (λ_ g a j=>Pt hT g (Es hc hv) a j) id ha hg
end
end Go.Proofs.YtohjeeapehmkcaaGreatDoor
