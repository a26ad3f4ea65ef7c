/-
  Rule11
-/
import Derived.Test.YtdeihcnepljjaaaGreatDoorQRule10
namespace Go.Proofs.YtdeihcnepljjaaaGreatDoor
open Go.RowKit
section
variable {P:Program}{T:Tab}{f:FuncId}{R:Aim}{Post:Value->World->Prop}{k:List Item}{n:Nat}{ds:List Deferred}{s s':List Item}{w:World}{e:Env}
theorem Rs{w:World}{l:Nat}{o:Obj}:Xc (λb=>b=l) w (w.putObj l o):=Kl
theorem Xe5{w:World}{l:Nat}{o:Obj}(h:l<w.heap.size):(w.putObj l o).heap[l]?=some o:=Kp h
abbrev Ke(l:Nat):Value:=.func (.yield l) #[] #[]
abbrev Nu(r:Loop)(args:List Value):Array Value:=(r.params.zip args.toArray).foldl (λtmps (t,a)=>tmps.setIfInBounds t a) r.tmps
def Lh(P:Program)(l:Nat)(args:List Value)(w:World)(Q:Value->World->Prop):Prop:=
 ∃r,w.heap[l]?=some (.loop r)/\args.length=r.params.size/\
  ∀c cs,∃v w',Q v w'/\Steps P (lone (Frame.round l r.fn (Nu r args) r.assign r.body .normal) (c::cs) w) (lone (c.finish v) cs w')
def Xam(e:Env)(o:Oper):Option (Nat×List Value):=
 match o.op with
 |.call c=>match c.callee,evs e c.args.toList with
  |.value x,some l=>match ev e x with
   |some (.func (.yield r) first captured)=>match first.toList,captured.toList with
    |[],[]=>some (r,l)
    |_,_=>none
   |_=>none
  |_,_=>none
 |_=>none
theorem Xo9{l:Nat}{args:List Value}{o:Oper}{r:Loop}(h:Xam e o=some (l,args))(hl:w.heap[l]?=some (.loop r))(hs:args.length=r.params.size)(a:Act)(hf:Za n a e):(execOp a.eval o).run P w=.ok (.round l r.fn (Nu r args) r.assign r.body) w:=by
 unfold Xam at h;split at h
 .rename_i c d
  split at h
  .rename_i x m f g
   split at h
   .rename_i p first captured i
    split at h
    .rename_i j k
     cases h
     have e1:=Array.ext' (xU j);have e2:=Array.ext' (xU k);subst e1;subst e2;have b:=G8 (hf.evs g);simp only[execOp,d,resolve,f,b,hf.ev i,Deferred.ofValue];refine(Xh (show(pure _:Sem Deferred).run P w=.ok _ w from rfl)).trans ?_;simp only[invoke,Array.empty_append]
     first
      |exact run_yield hl (xU hs)
      |(refine(Xh (x:=P) (w':=w) rfl).trans ?_;exact run_yield hl (xU hs))
    .cases h
   .cases h
  .cases h
 .cases h
theorem Xa.yieldH{o:Oper}{l d:Nat}{args:List Value}{Q:Value->World->Prop}(h:E7 s e=some (o,s'))(hdd:o.dst=some d)(hlt:Nat.blt d n=true)(hx:Xam e o=some (l,args))(hy:Lh P l args w Q)(hg:∀v w1,Q v w1->Xa P f R n ds s' ((d,false,v)::e) w1):Xa P f R n ds s e w:=by
 unfold E7 at h;split at h
 .rename_i ops i rest k'
  split at h
  .rename_i o' p
   split at h
   .rename_i x
    cases h
    intro b cs a y z q hf;obtain⟨r,A,B,c⟩:=hy;have hr:=Xo9 (P:=P) hx A B a hf;obtain⟨v,w1,C,j⟩:=c (b.atR a (.inRegion ops (i::rest)::k')) cs;have g:Go.step P (lone (b.atR a (.inRegion ops (i::rest)::k')) cs w) =
     .next (lone (Frame.round l r.fn (Nu r args) r.assign r.body .normal) (b.atR a (.inRegion ops (i::rest)::k')::cs) w):=
     step_lone_go (by rw[K9 (Bx p) (D6 hf x) hr xS];simp[stepG.apply,hr,Frame.atR])
    have k:(a.put o.dst v).defers=ds:=by cases o.dst <;> exact q
    obtain⟨t,D,u,E,F,G,H⟩:=hg v w1 C b cs (a.put o.dst v) y z k (Gq (by rw[hdd];exact K2 hlt) a hf);have m:(b.atR a (.inRegion ops (i::rest)::k')).finish v=b.atR (a.put o.dst v) (.inRegion ops rest::k'):=by
     rw[Frame.finish_atR,Bx p];rfl
    rw[m] at j;exact⟨t,D,u,E,.of_steps (.head g j) F,G,H⟩
   .cases h
  .cases h
 .cases h
theorem Xa.yield{l d:Nat}{args:List Value}{Q:Value->World->Prop}(h:Qb (Xam e) n s e=some ((l,args),d,s'))(hy:Lh P l args w Q)(hg:∀v w1,Q v w1->Xa P f R n ds s' ((d,false,v)::e) w1):Xa P f R n ds s e w:=by
 obtain⟨o,c,a,b,g⟩:=Mp h;exact Xa.yieldH c a b g hy hg
def XaR:List Nat->List Value->Env->Env
 |p::ps,v::vs,e=>XaR ps vs ((p,false,v)::e)
 |_,_,e=>e
theorem XeP:∀(ps:List Nat) (vs:List Value) (tmps:Array Value) (e:Env),Za n {tmps,defers:=[]} e->(ps.all λp=>Nat.blt p n)=true ->
 Za n {tmps:=(ps.zip vs).foldl (λtmps (x:Nat×Value)=>tmps.setIfInBounds x.1 x.2) tmps,defers:=[]} (XaR ps vs e)
 |[],_,_,_,h,_=>h
 |_::_,[],_,_,h,_=>h
 |p::ps,v::vs,tmps,e,h,a=>by
  simp only[List.all_cons,Bool.and_eq_true] at a;have b:=h.put p false v (by simpa [Nat.blt_eq] using a.1);exact XeP ps vs _ _ b a.2
abbrev Xnq(l:Nat)(Q:Value->World->Prop):Aim:=⟨some l,λen w'=>∃v,en=.returned v/\Q v w'⟩
theorem Lh.enter{l:Nat}{r:Loop}{args:List Value}{ps:List Nat}{e:Env}{Q:Value->World->Prop}(hl:w.heap[l]?=some (.loop r))(hps:r.params=ps.toArray)(hs:args.length=ps.length)(hf:Za n {tmps:=r.tmps,defers:=[]} e)(hp:(ps.all λp=>Nat.blt p n)=true)(hg:Xa P r.fn (Xnq l Q) n [] [.code r.assign,.beginRound,.code r.body] (XaR ps args e) w):Lh P l args w Q:=by
 refine⟨r,hl,by rw[hps];simpa using hs,λc cs=>?_⟩
 let b:Frame:={(default:Frame) with fn:=r.fn,kind:=.normal,roundOf:=some l}
 have a:=XeP ps args r.tmps e hf hp;have d:Nu r args=(ps.zip args).foldl (λtmps (x:Nat×Value)=>tmps.setIfInBounds x.1 x.2) r.tmps:=by
  unfold Nu;rw[hps,<-Array.foldl_toList]
  simp
 rw[<-d] at a;obtain⟨en,w',fr,_,h,_,i⟩:=hg b (c::cs) _ rfl rfl rfl a;obtain⟨v,j,rfl,⟨v',k,m⟩,f⟩:=i.2 xS;cases k
 have g:Frame.round l r.fn (Nu r args) r.assign r.body .normal=b.atR {tmps:=Nu r args,defers:=[]} [.code r.assign,.beginRound,.code r.body]:=by
  simp[Frame.round,Frame.atR,b]
 rw[g];exact⟨v,j,m,Steps.trans h (.one (f rfl c cs rfl))⟩
theorem Xa.beginRound{l:Nat}{r:Loop}(hro:R.ro=some l)(hl:w.heap[l]?=some (.loop r))(hr:r.state=.ready)(hg:∀w1,w1.heap[l]?=some (.loop {r with state:=.busy})->Xc (λb=>b=l) w w1->w1.heap.size=w.heap.size->Xa P f R n ds k e w1):Xa P f R n ds (.beginRound::k) e w:=by
 replace hg:=hg _ (Xe5 (Xg hl)) Rs xS;intro b cs a d c g hf;obtain⟨en,h,fr,i,j,m,o⟩:=hg b cs a d c g hf;exact⟨en,h,fr,i,.of_steps (.one (stepR_beginRound (c.trans hro) (run_beginRound hl hr))) j,m,o⟩
theorem Xa.roundEnd{l:Nat}{r:Loop}(hro:R.ro=some l)(hl:w.heap[l]?=some (.loop r))(hp:∀w1,w1.heap[l]?=some (.loop {r with state:=.ready,pending:=none})->Xc (λb=>b=l) w w1->w1.heap.size=w.heap.size->R.post (.returned (.bool true)) w1):Xa P f R n ds [] e w:=by
 replace hp:=hp _ (Xe5 (Xg hl)) Rs xS;intro b cs a i j k hf;refine⟨.returned (.bool true),w,b.atR a [],λh=>(by rw[hro] at h;cases h),Steps.refl _ _,i,λh=>(by rw[hro] at h;cases h),λ_=>⟨_,_,rfl,hp,λd c cs' g=>?_⟩⟩;subst g;exact stepR_round_end (j.trans hro) d (run_endRound none hl)
abbrev Nl(b:Nat):Deferred:={target:=.collected b,args:=#[]}
abbrev Va(f:FuncId)(tmps:Array Value)(ps:Array Tmp)(assign body:Code)(b:Nat):Loop:={state:=.ready,pending:=none,fn:=f,tmps,params:=ps,assign,body,defers:=b}
theorem Xa4{w:World}{o:Obj}:Xc Xf w (w.alloc o):=E5 _ _
theorem Xa.rangeFunc(hro:R.ro=none){g:Operand}{ps:Array Tmp}{assign body:Code}{hh:Nat}{first captured:Array Value}(hg:ev e g=some (.func (.func hh) first captured))(hk:Ob P hh)(hcall:∀r B tmps w2,r=Va f tmps ps assign body B->B=w.heap.size->Za n {tmps,defers:=[]} e->w2.heap[B]?=some (.deferred (some []))->w2.heap[B+1]?=some (.loop r)->Xc Xf w w2->w2.heap.size=B+2 -> Xe P hh (first.toList++[Ke (B+1)]++captured.toList).toArray w2 (λ_ w3=>∃r,w3.heap[B+1]?=some (.loop r)/\r.state≠.busy/\ ∀w4,Xc (λb=>b=B+1) w3 w4->w4.heap.size=w3.heap.size->Xa P f R n (Nl B::ds) ((r.pending.map Item.code).toList++k) e w4)):Xa P f R n ds (.code (.rangeFunc g ps assign body)::k) e w:=by
 intro b cs a y s K hf
 let d:=(w.alloc (.deferred (some []))).alloc (.loop (Va b.fn a.tmps ps assign body w.heap.size))
 have L:(Instr.enterLoop b.fn a.tmps ps assign body b.roundOf).run P w=.ok (w.heap.size+1,[Nl w.heap.size]) d:=by
  rw[s.trans hro];exact run_enterLoop_outer _ _ _ _ _
 have z:Za n {tmps:=a.tmps,defers:=[]} e:=⟨hf.1,hf.2⟩;have A:Xc Xf w d:=Xa4.trans Xa4;have C:d.heap.size=w.heap.size+2:=by show(World.alloc _ _).heap.size=_;rw[World.size_alloc,World.size_alloc]
 have M:d.heap[w.heap.size]?=some (.deferred (some [])):=by
  exact(Xa4 (w:=w.alloc (.deferred (some [])))).bP (World.alloc_heap_new w _)
 have N:d.heap[w.heap.size+1]?=some (.loop (Va f a.tmps ps assign body w.heap.size)):=by
  rw[<-y];have:=World.alloc_heap_new (w.alloc (.deferred (some []))) (.loop (Va b.fn a.tmps ps assign body w.heap.size));rw[World.size_alloc] at this;exact this
 have D:=hcall _ _ a.tmps d rfl rfl z M N A C;have t:(resolve a.eval (rangeCall g (w.heap.size+1)) 0).run P d=.ok {target:=.fn (.func hh) captured,args:=first ++ #[Ke (w.heap.size+1)]} d:=by
  simp only[resolve,hf.ev hg,Deferred.ofValue,Sem.run_pure];simp[Act.eval,Frame.eval]
 have u:(invoke (.fn (.func hh) captured) (first ++ #[Ke (w.heap.size+1)])).run P d=.ok (.enter hh (first.toList++[Ke (w.heap.size+1)]++captured.toList).toArray) d:=by
  obtain⟨fn,E,p,q⟩:=hk;simp only[invoke,callFunc];refine(Xh (x:=P) (w':=d) rfl).trans ?_;simp only[E,p,Bool.false_eq_true,if_false,q];rw[show first ++ #[Ke (w.heap.size+1)]++captured=(first.toList++[Ke (w.heap.size+1)]++captured.toList).toArray from Array.ext' xS];rfl
 have i:=stepR_rangeFunc (P:=P) (b:=b) (a:=a) (k:=k) (cs:=cs) (w:=w) L t u;obtain⟨en,w3,fr,⟨v,F,r,G,H,j⟩,l,_,m⟩:=D.calls (b.atR {a with defers:=[Nl w.heap.size]++a.defers} (.inRangeFunc (w.heap.size+1)::k)::cs);subst F;replace j:=j _ (Rs (o:=.loop {r with state:=.exhausted})) xS;obtain⟨I,w4,J,O,Q,S,T⟩:=j b cs {a with defers:=[Nl w.heap.size]++a.defers} y s (by simp[K]) ⟨hf.1,hf.2⟩;have h:=step_leave_returned m (c:=b.atR {a with defers:=[Nl w.heap.size]++a.defers} (.inRangeFunc (w.heap.size+1)::k)) (cs:=cs);rw[finish_atR_inRangeFunc] at h;exact⟨I,w4,J,O,.of_steps (.head i (Steps.trans l (.head h (.one (stepR_endRangeFunc (run_endLoop G H)))))) Q,S,T⟩
theorem Xa.retM(hT:Xp P T){fn:Func}{vs:List Value}{b:Nat}(hs:Fm s=true)(hfn:P.funcs[f]?=some fn)(hm:w.heap[b]?=some (.deferred (some [])))(hr:∀w1,Xc (λz=>z=b) w w1->Xi P T w1 e fn.results.toList vs)(hp:∀w1,Xc (λz=>z=b) w w1->w1.heap.size=w.heap.size->Post (J8 vs) w1):Xa P f (Gh Post) n [Nl b] s e w:=by
 replace hr:=hr _ (Rs (l:=b) (o:=.deferred none));replace hp:=hp _ (Rs (l:=b) (o:=.deferred none)) xS;intro b' cs a h i p hf;have g:=V4 hT hf hr;have c:∃todo,Go.step P (lone (b'.atR a s) cs w)=.next (lone {b'.atR a todo with mode:=.returning} cs w):=by
  unfold Fm at hs;split at hs
  .exact⟨[],stepR_end i⟩
  .rename_i k;exact⟨.code .ret::k,stepR_ret i⟩
  .cases hs
 obtain⟨todo,j⟩:=c;have q:=step_collected (P:=P) (fr:={b'.atR a todo with mode:=.returning}) (cs:=cs) (w:=w) (d:=Nl b) (ds:=[]) xS p rfl (run_takeDeferred hm);exact⟨.returned (J8 vs),_,_,λ_=>⟨_,rfl,hp⟩,.head j (.one q),h,λ_=>⟨rfl,xS,rfl,fn,by rw[<-hfn,<-h];rfl,g⟩,λm=>absurd rfl m⟩
end
section
variable {P:Program}{T:Tab}{ops:Array Oper}{f:FuncId}{R:Aim}{k:List Item}{q n:Nat}{ds:List Deferred}{w w0:World}{e:Env}{U:List Nat}{S:Nat->Prop}
theorem Xd.loadbAt(i:Nat)(hT:Xp P T)(hB:Z0 ops q=true){b off d:Nat}{v:Value}{c:List Value}{t:TypeId}{fz:Nat×Nat}{U2:List Nat}{e2:Env}(hU:Dp i U=true)(hfr:C3 ops q U [i]=[i])(h:Cp (Cj T e) n ops e i=some ((b,off,none),d))(hc:w0.heap[b]?=some (.cells c.toArray t fz))(hS:¬S b)(hv:Hz c off=some v)(ha:Z7 T n ops q (Xv i U) (Xv i U) ((d,false,v)::e)=(U2,e2))(hg:Xd P f R n ds k ops q S U2 e2 w0 w):Xd P f R n ds k ops q S U e w0 w:=by
 obtain⟨o,j,r,s,l,u⟩:=Mq h;have hm:i∈C3 ops q U [i]:=by rw[hfr];simp
 obtain⟨_,o',m,g⟩:=Na.1 hm;obtain rfl:o=o':=Option.some.inj (j.symm.trans m);exact Xd.one hB j (I7.1 hU) g r (by rw[s];exact Lz l) (λa w' p hf=>by
  unfold D1;rw[Sd hT u (p.cell (Cr hc hv) hS) a hf];exact⟨rfl,rfl⟩) (Xd.adv hT hB ha hg)
theorem Xo.cJ(hT:Xp P T)(hB:Z0 ops q=true){b off d i:Nat}{v:Value}{c:List Value}{t:TypeId}{fz:Nat×Nat}{U2:List Nat}{e2:Env}(h:Cp (Cj T e) n ops e i=some ((b,off,none),d))(hc:w.heap[b]?=some (.cells c.toArray t fz))(hv:Hz c off=some v)(ha:Z7 T n ops q (Xv i U) (Xv i U) ((d,false,v)::e)=(U2,e2))(hg:Xd P f R n ds k ops q S U2 e2 w0 w):Xo P f R n ds k ops q S U i e w0 w:=
 Xo.val hT hB h (λ_ g a hf=>Sd hT g (Cr hc hv) a hf) id ha hg
end
end Go.Proofs.YtdeihcnepljjaaaGreatDoor
