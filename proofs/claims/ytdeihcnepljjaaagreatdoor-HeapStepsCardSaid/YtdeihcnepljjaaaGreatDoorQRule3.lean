/-
  Rule3
-/
import Derived.Test.YtdeihcnepljjaaaGreatDoorQMix
import Derived.Deep.Quiet
namespace Go.Proofs.YtdeihcnepljjaaaGreatDoor
open Go.RowKit
section
variable {P:Program}{T:Tab}{f:FuncId}{R:Aim}{Post:Value->World->Prop}{n:Nat}{ds:List Deferred}{s s':List Item}{e e':Env}{w w':World}
def Gj(e:Env)(o:Oper):Option (Nat×List Value):=
 match o.op with
 |.call c=>match c.callee,evs e c.args.toList with
  |.value x,some l=>match ev e x with
   |some (.func (.func k) first captured)=>some (k,first.toList++l++captured.toList)
   |_=>none
  |_,_=>none
 |_=>none
theorem Uc{k:Nat}{l:List Value}{o:Oper}(h:Gj e o=some (k,l))(hk:Ob P k):∀a,Za n a e->(execOp a.eval o).run P w=.ok (.enter k l.toArray) w:=by
 intro a hf;obtain⟨fn,g,b,d⟩:=hk;unfold Gj at h;split at h
 .rename_i c i
  split at h
  .rename_i x j m p
   split at h
   .rename_i r first captured q
    cases h
    have f:=G8 (hf.evs p);simp only[execOp,i,resolve,m,f,hf.ev q,Deferred.ofValue];refine(Xh (show(pure _:Sem Deferred).run P w=.ok _ w from rfl)).trans ?_;simp only[invoke,callFunc];refine(Xh (x:=P) (w':=w) rfl).trans ?_;simp only[g,b,Bool.false_eq_true,if_false,d];rw[show first++j.toArray++captured=(first.toList++j++captured.toList).toArray from Array.ext' xS];rfl
   .cases h
  .cases h
 .cases h
theorem Xa.enter{o:Oper}{k:Nat}{l:List Value}{Q:Value->World->Prop}{E:Value->Env}(h:E7 s e=some (o,s'))(hcl:Gj e o=some (k,l))(hd:Xe P k l.toArray w Q)(hp:∀v,Fy n o.dst false v e=some (E v))(hg:∀v w1,Q v w1->Xa P f R n ds s' (E v) w1):Xa P f R n ds s e w:=by
 unfold E7 at h;split at h
 .rename_i ops i rest k'
  split at h
  .rename_i o' p
   split at h
   .rename_i x
    cases h
    intro b cs a y z q hf;have hr:=Uc (P:=P) (w:=w) hcl hd.fn a hf;obtain⟨en,w1,fr,⟨v,r,A⟩,c,_,d⟩:=hd.calls (b.atR a (.inRegion ops (i::rest)::k')::cs);subst r;have g:Go.step P (lone (b.atR a (.inRegion ops (i::rest)::k')) cs w) =
     .next (lone (Frame.enter P k l.toArray .normal) (b.atR a (.inRegion ops (i::rest)::k')::cs) w):=
     step_lone_go (by rw[K9 (Bx p) (D6 hf x) hr xS];simp[stepG.apply,hr,Frame.atR])
    have j:(a.put o.dst v).defers=ds:=by cases o.dst <;> exact q
    obtain⟨t,B,u,C,D,F,G⟩:=hg v w1 A b cs (a.put o.dst v) y z j (Gq (hp v) a hf);refine⟨t,B,u,C,.of_steps (.head g (Steps.trans c (.one ?_))) D,F,G⟩;have m:(b.atR a (.inRegion ops (i::rest)::k')).finish v=b.atR (a.put o.dst v) (.inRegion ops rest::k'):=by
     rw[Frame.finish_atR,Bx p];rfl
    rw[<-m];exact step_leave_returned d
   .cases h
  .cases h
 .cases h
theorem Xa.call{k d:Nat}{l:List Value}{Q:Value->World->Prop}(h:Qb (Gj e) n s e=some ((k,l),d,s'))(hd:Xe P k l.toArray w Q)(hg:∀v w1,Q v w1->Xa P f R n ds s' ((d,false,v)::e) w1):Xa P f R n ds s e w:=by
 obtain⟨o,c,a,b,g⟩:=Mp h;exact Xa.enter (E:=λv=>(d,false,v)::e) c g hd (λv=>by rw[a];exact K2 b) hg
inductive Xi(P:Program)(T:Tab)(w:World)(e:Env):List ResultVar->List Value->Prop
 |nil:Xi P T w e [] []
 |tmp {t:Nat} {v:Value} {rs:List ResultVar} {vs:List Value}:look e t=some v->Xi P T w e rs vs->Xi P T w e (.tmp t::rs) (v::vs)
 |cell {t ty b off:Nat} {c l:List Value} {q:TypeId} {fz:Nat×Nat} {r:Db} {rs:List ResultVar} {vs:List Value}:look e t=some (.pointer (some ⟨b,off,none⟩))->row T ty=some r->I9 r=true ->
   w.heap[b]?=some (.cells c.toArray q fz)->cut c off r.size=some l->Xi P T w e rs vs->Xi P T w e (.cell t ty::rs) (.agg l.toArray::vs)
 |one {t ty b off:Nat} {v:Value} {r:Db} {rs:List ResultVar} {vs:List Value}:look e t=some (.pointer (some ⟨b,off,none⟩))->row T ty=some r->I9 r=false ->
   w.cell? ⟨b,off,none⟩=some v->Xi P T w e rs vs->Xi P T w e (.cell t ty::rs) (v::vs)
def K4(tmps:Array Value):ResultVar->Sem Value
 |.tmp t=>pure (tmps.getD t undef)
 |.cell a t=>do loadVar t (<- asAddr (tmps.getD a undef))
theorem Xi.run(hT:Xp P T){a:Act}(hf:Za n a e):∀{rs:List ResultVar} {vs:List Value},Xi P T w e rs vs->(rs.mapM (K4 a.tmps)).run P w=.ok vs w:=by
 intro rs vs h
 induction h with
 |nil=>rfl
 |tmp b _ ih=>
  rw[List.mapM_cons];have:=hf.slot _ _ b;refine(Xh (show(K4 a.tmps (.tmp _)).run P w=.ok _ w from ?_)).trans ((Xh ih).trans rfl);simp only[K4,Array.getD_eq_getD_getElem?,this];rfl
 |cell b hr c d f _ ih=>
  rw[List.mapM_cons];have:=hf.slot _ _ b;refine(Xh (show(K4 a.tmps (.cell _ _)).run P w=.ok _ w from ?_)).trans ((Xh ih).trans rfl);simp only[K4,Array.getD_eq_getD_getElem?,this,Option.getD_some,asAddr];exact(Xh (show(pure _:Sem Addr).run P w=.ok _ w from rfl)).trans (Xft hT hr c d f)
 |one b hr c d _ ih=>
  rw[List.mapM_cons];have:=hf.slot _ _ b;refine(Xh (show(K4 a.tmps (.cell _ _)).run P w=.ok _ w from ?_)).trans ((Xh ih).trans rfl);simp only[K4,Array.getD_eq_getD_getElem?,this,Option.getD_some,asAddr];exact(Xh (show(pure _:Sem Addr).run P w=.ok _ w from rfl)).trans (Xfu hT hr c d)
def J8:List Value->Value
 |[v]=>v
 |l=>.tuple l.toArray
theorem V4(hT:Xp P T){fn:Func}{a:Act}(hf:Za n a e){vs:List Value}(h:Xi P T w e fn.results.toList vs):(results fn a.tmps).run P w=.ok (J8 vs) w:=by
 have b:=h.run hT hf;unfold results;have:(fn.results.mapM (K4 a.tmps)).run P w=.ok vs.toArray w:=by
  rw[Array.mapM_eq_mapM_toList];simp only[Sem.run_map,b,Result.andThen_ok]
 refine(Xh (s:=fn.results.mapM (K4 a.tmps)) this).trans ?_
 match vs with
 |[]=>rfl
 |[v]=>rfl
 |v::u::r=>
  simp only[J8];rw[dif_neg xS];rfl
def Fm:List Item->Bool
 |[]=>true
 |.code .ret::_=>true
 |_=>false
theorem Xa.ret(hT:Xp P T){fn:Func}{vs:List Value}(hs:Fm s=true)(hfn:P.funcs[f]?=some fn)(hr:Xi P T w e fn.results.toList vs)(hp:Post (J8 vs) w):Xa P f (Gh Post) n [] s e w:=by
 intro b cs a g h l hf;have d:=V4 hT hf hr;have c:∃todo,Go.step P (lone (b.atR a s) cs w)=.next (lone {b.atR a todo with mode:=.returning} cs w):=by
  unfold Fm at hs;split at hs
  .exact⟨[],stepR_end h⟩
  .rename_i k;exact⟨.code .ret::k,stepR_ret h⟩
  .cases hs
 obtain⟨todo,i⟩:=c;exact⟨.returned (J8 vs),w,_,λ_=>⟨_,rfl,hp⟩,.one i,g,λ_=>⟨rfl,l,rfl,fn,by rw[show({b.atR a todo with mode:=.returning}:Frame).fn=b.fn from rfl,g];exact hfn,d⟩,λj=>absurd rfl j⟩
theorem Xa.ret0(hT:Xp P T){fn:Func}(hs:Fm s=true)(hfn:P.funcs[f]?=some fn)(hr:fn.results.toList=[])(hp:Post (.tuple #[]) w):Xa P f (Gh Post) n [] s e w:=
 Xa.ret hT (vs:=[]) hs hfn (by rw[hr];exact .nil) hp
theorem Xa.ret1(hT:Xp P T){fn:Func}{t:Nat}{v:Value}(hs:Fm s=true)(hfn:P.funcs[f]?=some fn)(hr:fn.results.toList=[.tmp t])(hv:look e t=some v)(hp:Post v w):Xa P f (Gh Post) n [] s e w:=
 Xa.ret hT (vs:=[v]) hs hfn (by rw[hr];exact .tmp hv .nil) hp
theorem Xa.ret2(hT:Xp P T){fn:Func}{t t':Nat}{v v':Value}(hs:Fm s=true)(hfn:P.funcs[f]?=some fn)(hr:fn.results.toList=[.tmp t,.tmp t'])(hv:look e t=some v)(hv':look e t'=some v')(hp:Post (.tuple #[v,v']) w):Xa P f (Gh Post) n [] s e w:=
 Xa.ret hT (vs:=[v,v']) hs hfn (by rw[hr];exact .tmp hv (.tmp hv' .nil)) hp
theorem Xa.knowB{t:Nat}{p q:Bool}(h:look e t=some (.bool p))(hp:p=q)(hg:Xa P f R n ds s ((t,true,.bool q)::e) w):Xa P f R n ds s e w:=by
 subst hp;exact hg.know h
def Mi:Env->Env->Prop
 |[],_=>True
 |(t,_,v)::r,e=>look e t=some v/\Mi r e
theorem Mi.look:∀{r e:Env},Mi r e -> ∀t v,look r t=some v->look e t=some v
 |[],e,_,t,v,h=>by simp[Go.Proofs.YtdeihcnepljjaaaGreatDoor.look] at h
 |(u,_,x)::r,e,hs,t,v,h=>by
  rw[Kx] at h;by_cases he:t=u
  .subst he;rw[if_pos rfl] at h;cases h;exact hs.1
  .rw[if_neg he] at h;exact hs.2.look t v h
theorem Xa.sub(hs:Mi e' e)(h:Xa P f R n ds s e' w):Xa P f R n ds s e w:=h.weaken hs.look
theorem Xa.loop{body:Code}{k:List Item}{α:Type}(I:α->Env)(xW:α->World->Prop)(μ:α->Nat)(x0:α)(h0:Mi (I x0) e)(hw:xW x0 w)(round:∀x w,xW x w->(∀x' w' e',xW x' w'->μ x'<μ x->Mi (I x') e'->Xa P f R n ds (.inLoop body::k) e' w')->Xa P f R n ds (.code body::.inLoop body::k) (I x) w):Xa P f R n ds (.code (.loop body)::k) e w:=by
 have key:∀m x w,μ x=m->xW x w->Xa P f R n ds (.code body::.inLoop body::k) (I x) w:=by
  intro m
  induction m using Nat.strongRecOn with
  |_ m ih=>
   intro x w hm h;refine round x w h λx' w' e' d g c=>?_;exact Xa.step (λb cs a _=>stepR_inLoop) (Xa.sub c (ih (μ x') (hm▸g) x' w' rfl d))
 exact Xa.step (λb cs a _=>stepR_loop) (Xa.sub h0 (key _ x0 w rfl hw))
theorem Xa.unroll(hT:Xp P T){body:Code}{k:List Item}{s2:List Item}{e2:Env}(ha:Go.Proofs.YtdeihcnepljjaaaGreatDoor.adv T n 400 (.code body::.inLoop body::k) e=(s2,e2))(h:Xa P f R n ds s2 e2 w):Xa P f R n ds (.code (.loop body)::k) e w:=
 Xa.step (λ_ _ _ _=>stepR_loop) (Xa.adv hT 400 ha h)
theorem Xa.of_wp(hro:R.ro=none){c:Code}{k:List Item}(h:∀a,a.defers=ds->Za n a e->c.wp P (λex a' w'=>ex=.normal/\a'.defers=ds/\∃e',Za n a' e'/\Xa P f R n ds k e' w') a w):Xa P f R n ds (.code c::k) e w:=by
 intro b cs a o g p hf;obtain⟨ex,a',w',⟨i,j,e',l,q⟩,d⟩:=h a p hf b k cs;subst i;obtain⟨en,r,fr,s,m,t,u⟩:=q b cs a' o g j l;rw[Frame.atR_of_none (g.trans hro)] at m⊢;exact⟨en,r,fr,s,.of_steps d m,t,u⟩
theorem Xdn{ops:Array Oper}{Q:Act->Prop}:∀(l:List Oper) (a:Act),H6 P ops (λw'=>Xc Xf w w') Q l a->wpQuiet P ops (λw'=>Xc Xf w w') Q l a
 |[],a,h=>h
 |o::l,a,h=>by
  unfold H6 at h;unfold wpQuiet;split
  .rename_i d;rw[if_pos d] at h
   obtain⟨v,f,g⟩:=h;refine⟨v,λw' c=>?_,Xdn l _ g⟩;have b:=f w' c;unfold D1 at b;unfold Oper.quietAt;generalize (execOp a.eval o).run P w'=r at b
   cases r with
   |ok nx i=>
    cases nx <;> simp only at b <;> simp only[Oper.quietUpon] <;> first|exact b|exact b.elim|skip
    case enter k args=>exact⟨b.1,b.2.mono λen n ⟨j,m⟩=>⟨j,c.trans m⟩⟩
   |halt x i=>exact b.elim
  .rename_i d;rw[if_neg d] at h;exact Xdn l _ h
def Xk(P:Program)(n:Nat)(ops:Array Oper)(w:World)(l:List Oper)(e:Env)(K:Env->Prop):Prop:=
 ∀(a:Act) (ds:List Deferred),a.defers=ds->Za n a e->H6 P ops (λw'=>Xc Xf w w') (λa'=>a'.defers=ds/\∃e',Za n a' e'/\K e') l a
theorem Xa.quiet(hro:R.ro=none){id:Nat}{ops:Array Oper}{k:List Item}(hm:P.follows .mixedOrders=true)(hB:Region.lexB .any ops=true)(h:Xk P n ops w ops.toList e (λe'=>∀w',Xc Xf w w'->Xa P f R n ds k e' w')):Xa P f R n ds (.code (.region id ops true)::k) e w:=
 Xa.of_wp hro λa g hf=>wp_region_quiet (C:=λw'=>Xc Xf w w') hm hB ((Xc.refl _ _).drew _) (by
  refine Xdn ops.toList a (Xdm ?_ _ _ (h a ds g hf));exact λa' ⟨b,e',c,i⟩ w' d=>⟨rfl,b,e',c,i w' d⟩)
theorem Xlc{ops:Array Oper}{q:Nat}(h:XbH ops q=true):Region.noSelect ops=true/\q<ops.size/\
 (∃o,ops[q]?=some o/\o.after=#[]/\o.guard=none/\∀j oj,j<q->ops[j]?=some oj->oj.apart ops o=true/\∀e∈oj.after,Region.binds .any e=true->e.on≠q)/\
 (∀j o,q<j->ops[j]?=some o -> ∀i,i<=q -> ∃e∈o.after,Region.binds .any e=true/\e.on=i)/\
 ∃L,Pa ops q 0 (Array.replicate ops.size false)=some L/\Region.ready .any ops L=[q]/\M9 ops (ops.size-(q+1)) (q+1) (L.setIfInBounds q true)=true:=by
 unfold XbH at h;simp only[Bool.and_eq_true] at h;obtain⟨⟨⟨⟨n,p⟩,c⟩,r⟩,a⟩:=h;have s:q<ops.size:=by simpa [Nat.blt_eq] using p
 refine⟨n,s,?_,?_,?_⟩
 .split at c
  .rename_i o d
   simp only[Bool.and_eq_true] at c;obtain⟨⟨t,u⟩,v⟩:=c;refine⟨o,d,xU t,xU u,λj oj k l=>?_⟩;have:=List.all_eq_true.1 v j (xU k);rw[l] at this;simp only[Bool.and_eq_true] at this;refine⟨this.1,λe f w m=>?_⟩;have b:=Array.all_eq_true_iff_forall_mem.1 this.2 e f;simp only[md] at b;rw[w,m] at b;simp at b
  .cases c
 .intro j o k d i hi;have y:=(Array.getElem?_eq_some_iff.1 d).1;have:=List.all_eq_true.1 r j (by rw[List.mem_range'];exact⟨j-(q+1),X,X⟩);rw[d] at this;have b:=List.all_eq_true.1 this i xQ;obtain⟨e,f,g⟩:=Array.any_eq_true'.1 b;simp only[Bool.and_eq_true,beq_iff_eq] at g;exact⟨e,f,g.1,g.2⟩
 .split at a
  .rename_i L x
   simp only[Bool.and_eq_true,beq_iff_eq] at a;exact⟨L,x,a.1,a.2⟩
  .cases a
theorem Xa.quietF{id:Nat}{ops:Array Oper}{k:List Item}{q t d:Nat}{z:List Value}{o:Oper}(hT:Xp P T)(hm:P.follows .mixedOrders=true)(hB:XbH ops q=true)(ho:Av ops.toList q=some o)(hz:I4 T [] o=some (z,t))(hd:o.dst=some d)(hlt:Nat.blt d n=true)(h:Xk P n ops w (ops.toList.take q) e (λe'=>∀b w',Xc Xf w w'->w.heap.size<=b->w'.heap[b]?=some (.cells z.toArray t (0,0)) -> Xa P f R n ds (.inRegion ops (List.range' (q+1) (ops.size-(q+1)))::k) ((d,false,.pointer (some ⟨b,0,none⟩))::e') w')):Xa P f R n ds (.code (.region id ops true)::k) e w:=by
 obtain⟨g,y,⟨o',r,A,B,i⟩,p,L,S,D,s⟩:=Xlc hB;have E:o'=o:=by have:=Bx ho;rw[r] at this;exact Option.some.inj this
 subst E;intro b cs a U V F hf;have hQ:=h a ds F hf;have c:(ops.toList.take q).length=q:=xQ
 have l:=Xij (P:=P) (C:=λw'=>Xc Xf w w') (f:=q) (Lf:=L) g (by rw[D];simp) (ops.toList.take q) 0 (Array.replicate ops.size false) a
  (λj G=>by rw[c] at G;rw[List.getElem?_take,if_pos G];simp) (by rw[c];omega) (by rw[c];exact S) hQ
 rw[c] at l;have H:ops.size=q+1+(ops.size-(q+1)):=X
 have u:∀(a:Act) (w:World),(execOp a.eval o').run P w=.ok (.value (.pointer (some ⟨w.heap.size,0,none⟩))) {w with heap:=w.heap.push (.cells z.toArray t)}:=λa w=>
  Ty (n:=a.tmps.size) (e:=[]) hT hz a ⟨rfl,λt v h=>by simp[look] at h⟩
 have m:=Xld (P:=P) (fn:=f) (R:=R) (k:=k) (w0:=w) (tf:=ops.size-(q+1)) (z:=z) (t:=t) r (Region.noSelect_spec g) hd A B u i p
  (λa' w' b' ⟨I,e',J,hK⟩ x K M=>by
   intro t';rw[Xbg _ _ _ s t'];intro b2 N O Q;exact hK b' w' x K M b2 N _ O Q (by simpa [Act.put] using I) (J.put d false _ (by simpa [Nat.blt_eq] using hlt)))
  q _ a {w with drawn:=w.drawn+1} l (xU y) (by simp[y]) ((Xc.refl _ _).drew _)
 rw[<-H] at m;obtain⟨en,w',fr,hR,x,h1,h2⟩:=m (w.tape w.drawn (.order b.fn id)) b cs U V;refine⟨en,w',fr,hR,.of_steps (.one ?_) x,h1,h2⟩;rw[stepR_region_draw];simp only[Region.schedule,hm,Bool.true_or,if_true];rfl
section
variable {ops:Array Oper}{l l':List Oper}{K:Env->Prop}
def E4(T:Tab)(n:Nat)(ops:Array Oper):List Oper->Env->List Oper×Env
 |[],e=>([],e)
 |o::l,e=>match Dl e ops o with
  |some false=>match Fy n o.dst true undef e with
   |some e'=>E4 T n ops l e'
   |none=>(o::l,e)
  |some true=>match Sn T e o.op with
   |some v=>match Fy n o.dst (opF e o.op) v e with
    |some e'=>E4 T n ops l e'
    |none=>(o::l,e)
   |none=>(o::l,e)
  |none=>(o::l,e)
theorem Xk.one{o:Oper}{v:Value}(hw:Dl e ops o=some true){fl:Bool}(hp:Fy n o.dst fl v e=some e')(hrun:∀a w',Xc Xf w w'->Za n a e->(execOp a.eval o).run P w'=.ok (.value v) w')(h:Xk P n ops w l e' K):Xk P n ops w (o::l) e K:=by
 intro a ds c hf;unfold H6;rw[if_pos (D6 hf hw)];refine⟨v,λw' b=>?_,h (a.put o.dst v) ds (by cases o.dst <;> exact c) (Gq hp a hf)⟩;unfold D1;rw[hrun a w' b hf];exact⟨rfl,rfl⟩
theorem Xk.skip{o:Oper}(hw:Dl e ops o=some false){fl:Bool}(hp:Fy n o.dst fl undef e=some e')(h:Xk P n ops w l e' K):Xk P n ops w (o::l) e K:=by
 intro a ds b hf;unfold H6;rw[if_neg (by rw[D6 hf hw];simp)];exact h (a.put o.dst undef) ds (by cases o.dst <;> exact b) (Gq hp a hf)
theorem Xaw(hT:Xp P T):∀(l:List Oper) (e:Env),Xk P n ops w (E4 T n ops l e).1 (E4 T n ops l e).2 K->Xk P n ops w l e K
 |[],e,h=>h
 |o::l,e,h=>by
  unfold E4 at h;split at h
  .rename_i hw
   split at h
   .rename_i e' he;exact Xk.skip hw he (Xaw hT l e' h)
   .exact h
  .rename_i hw
   split at h
   .rename_i v hv
    split at h
    .rename_i e' he;exact Xk.one hw he (λa w' _ hf=>XbP hT hf hv w') (Xaw hT l e' h)
    .exact h
   .exact h
  .exact h
theorem Xk.adv(hT:Xp P T)(h:E4 T n ops l e=(l',e'))(hg:Xk P n ops w l' e' K):Xk P n ops w l e K:=Xaw hT l e (by rw[h];exact hg)
theorem Xk.nil(h:K e):Xk P n ops w [] e K:=λ_ _ a hf=>⟨a,e,hf,h⟩
theorem Xk.weaken(h:Xk P n ops w l e' K)(hs:∀t v,look e' t=some v->look e t=some v):Xk P n ops w l e K:=λa ds b hf=>h a ds b (hf.weaken hs)
theorem Xk.know{t:Nat}{b:Bool}{v:Value}(h:look e t=some v)(hg:Xk P n ops w l ((t,b,v)::e) K):Xk P n ops w l e K:=
 hg.weaken λu x a=>by
  rw[Kx] at a;by_cases c:u=t
  .subst c;rw[if_pos rfl] at a;rw[h,a]
  .rwa [if_neg c] at a
def T5(ops:Array Oper)(l:List Oper)(e:Env):Option (Nat×Bool):=
 match l with
 |o::_=>match o.guard,o.op with
  |none,.pick (.tmp t) _ _=>match look e t with
   |some (.bool p)=>some (t,p)
   |_=>none
  |some (j,_),_=>match Av ops.toList j with
   |some g=>match g.dst with
    |some d=>match look e d with
     |some (.bool p)=>some (d,p)
     |_=>none
    |none=>none
   |none=>none
  |_,_=>none
 |[]=>none
theorem Xfx{t:Nat}{p:Bool}(h:T5 ops l e=some (t,p)):look e t=some (.bool p):=by
 unfold T5 at h;split at h
 .split at h
  .split at h
   .cases h;assumption
   .cases h
  .split at h
   .split at h
    .split at h
     .cases h;assumption
     .cases h
    .cases h
   .cases h
  .cases h
 .cases h
theorem Xk.fork(hT:Xp P T){t:Nat}{p:Bool}{l1 l2:List Oper}{e1 e2:Env}(h:T5 ops l e=some (t,p))(ha:E4 T n ops l ((t,true,.bool true)::e)=(l1,e1))(hb:E4 T n ops l ((t,true,.bool false)::e)=(l2,e2))(ht:p=true->Xk P n ops w l1 e1 K)(hf:p=false->Xk P n ops w l2 e2 K):Xk P n ops w l e K:=by
 have a:=Xfx h;cases p with
 |true=>exact(Xk.adv hT ha (ht rfl)).know a
 |false=>exact(Xk.adv hT hb (hf rfl)).know a
def I6{δ:Type}(g:Oper->Option δ)(n:Nat)(ops:Array Oper)(l:List Oper)(e:Env):Option (δ×Nat×List Oper):=
 match l with
 |o::r=>match Dl e ops o with
  |some true=>match o.dst with
   |some d=>match Nat.blt d n with
    |true=>match g o with
     |some x=>some (x,d,r)
     |none=>none
    |false=>none
   |none=>none
  |_=>none
 |[]=>none
theorem XdS{δ:Type}{g:Oper->Option δ}{x:δ}{d:Nat}(h:I6 g n ops l e=some (x,d,l')):∃o,l=o::l'/\Dl e ops o=some true/\o.dst=some d/\Nat.blt d n=true/\g o=some x:=by
 unfold I6 at h;split at h
 .rename_i o r
  split at h
  .rename_i b
   split at h
   .rename_i i c
    split at h
    .rename_i a
     split at h
     .rename_i y f;cases h;exact⟨o,rfl,b,c,a,f⟩
     .cases h
    .cases h
   .cases h
  .cases h
 .cases h
theorem Xk.val(hT:Xp P T){δ:Type}{g:Oper->Option δ}{x:δ}{d:Nat}{v:Value}{l2:List Oper}{e2:Env}(h:I6 g n ops l e=some (x,d,l'))(hrun:∀o,g o=some x -> ∀a w',Xc Xf w w'->Za n a e->(execOp a.eval o).run P w'=.ok (.value v) w')(ha:E4 T n ops l' ((d,false,v)::e)=(l2,e2))(hg:Xk P n ops w l2 e2 K):Xk P n ops w l e K:=by
 obtain⟨o,rfl,c,f,b,i⟩:=XdS h;exact Xk.one c (by rw[f];exact K2 b) (hrun o i) (Xk.adv hT ha hg)
theorem Xk.arith(hT:Xp P T){k:IntKind}{z z':Int}{d:Nat}{l2:List Oper}{e2:Env}(h:I6 (Mn T e) n ops l e=some ((k,z),d,l'))(hz:k.wrap z=z')(ha:E4 T n ops l' ((d,false,.int k z')::e)=(l2,e2))(hg:Xk P n ops w l2 e2 K):Xk P n ops w l e K:=
 Xk.val hT h (λ_ b a w' _ hf=>XaJ hT b hz a hf w') ha hg
theorem Xk.div(hT:Xp P T){q:Bool}{k:IntKind}{x y z:Int}{d:Nat}{l2:List Oper}{e2:Env}(h:I6 (Ry e) n ops l e=some ((q,k,x,y),d,l'))(hy:y≠0)(hz:If q k x y=z)(ha:E4 T n ops l' ((d,false,.int k z)::e)=(l2,e2))(hg:Xk P n ops w l2 e2 K):Xk P n ops w l e K:=
 Xk.val hT h (λ_ b a w' _ hf=>Xbd b hy hz a hf w') ha hg
theorem Xk.index(hT:Xp P T){b off len sz d j:Nat}{i:Int}{l2:List Oper}{e2:Env}(h:I6 (Nc T e) n ops l e=some ((b,off,len,sz,i),d,l'))(h0:0<=i)(h1:i<len)(hj:i.toNat*sz=j)(ha:E4 T n ops l' ((d,false,.pointer (some ⟨b,off+j,none⟩))::e)=(l2,e2))(hg:Xk P n ops w l2 e2 K):Xk P n ops w l e K:=
 Xk.val hT h (λ_ c a w' _ hf=>Xbq hT c h0 h1 hj a hf w') ha hg
theorem Xk.load(hT:Xp P T){b off d:Nat}{v:Value}{l2:List Oper}{e2:Env}(h:I6 (Cj T e) n ops l e=some ((b,off,none),d,l'))(hc:w.cell? ⟨b,off,none⟩=some v)(ha:E4 T n ops l' ((d,false,v)::e)=(l2,e2))(hg:Xk P n ops w l2 e2 K):Xk P n ops w l e K:=
 Xk.val hT h (λ_ f a _ c hf=>Sd hT f (Om c.below hc) a hf) ha hg
theorem Xk.cJ(hT:Xp P T){b off d:Nat}{v:Value}{c:List Value}{t:TypeId}{fz:Nat×Nat}{l2:List Oper}{e2:Env}(h:I6 (Cj T e) n ops l e=some ((b,off,none),d,l'))(hc:w.heap[b]?=some (.cells c.toArray t fz))(hv:Hz c off=some v)(ha:E4 T n ops l' ((d,false,v)::e)=(l2,e2))(hg:Xk P n ops w l2 e2 K):Xk P n ops w l e K:=
 Xk.load hT h (Cr hc hv) ha hg
theorem Xk.loads(hT:Xp P T){b off m d:Nat}{c vs:List Value}{t:TypeId}{fz:Nat×Nat}{l2:List Oper}{e2:Env}(h:I6 (Cj T e) n ops l e=some ((b,off,some m),d,l'))(hc:w.heap[b]?=some (.cells c.toArray t fz))(hv:cut c off m=some vs)(ha:E4 T n ops l' ((d,false,.agg vs.toArray)::e)=(l2,e2))(hg:Xk P n ops w l2 e2 K):Xk P n ops w l e K:=
 Xk.val hT h (λ_ g a _ f hf=>U8 hT g (f.bP hc) hv a hf) ha hg
theorem Xk.call(hT:Xp P T){k d:Nat}{as:List Value}{v:Value}{l2:List Oper}{e2:Env}(h:I6 (Gj e) n ops l e=some ((k,as),d,l'))(hd:∀w',Xc Xf w w'->Xe P k as.toArray w' (λu w2=>u=v/\Xc Xf w' w2))(ha:E4 T n ops l' ((d,false,v)::e)=(l2,e2))(hg:Xk P n ops w l2 e2 K):Xk P n ops w l e K:=by
 obtain⟨o,rfl,p,c,f,q⟩:=XdS h;have g:=Xk.adv hT ha hg;intro a ds i hf;unfold H6;rw[if_pos (D6 hf p)];refine⟨v,λw' j=>?_,g (a.put o.dst v) ds (by cases o.dst <;> exact i) (Gq (by rw[c];exact K2 f) a hf)⟩;unfold D1;have b:=hd w' j;rw[Uc (P:=P) (w:=w') q b.fn a hf];refine⟨rfl,b.calls.mono λen w2 ⟨u,m,r,s⟩=>?_⟩;subst r;exact⟨m,s⟩
end
end
end Go.Proofs.YtdeihcnepljjaaaGreatDoor
