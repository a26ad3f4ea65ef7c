/-
  Rule3
-/
import Derived.Test.YtdeihcnepljjaaaGreatDoorQMix
import Derived.Deep.Quiet
namespace Go.Proofs.YtdeihcnepljjaaaGreatDoor
open Go.RowKit
section
variable {P:Program}{T:Tab}{f:FuncId}{R:Aim}{Post:Value->World->Prop}{n:Nat}{ds:List Deferred}{s s':List Item}{e e':Env}{w w':World}
def Ge(e:Env)(o:Oper):Option (Nat×List Value):=
 match o.op with
 |.call c=>match c.callee,evs e c.args.toList with
  |.value x,some l=>match ev e x with
   |some (.func (.func k) first captured)=>some (k,first.toList++l++captured.toList)
   |_=>none
  |_,_=>none
 |_=>none
theorem Tn{k:Nat}{l:List Value}{o:Oper}(h:Ge e o=some (k,l))(hk:Nw P k):∀a,X7 n a e->(execOp a.eval o).run P w=.ok (.enter k l.toArray) w:=by
 intro a hf;obtain⟨fn,g,b,d⟩:=hk;unfold Ge at h;split at h
 .rename_i c i
  split at h
  .rename_i x j m p
   split at h
   .rename_i r first captured q
    cases h
    have f:=G4 (hf.evs p);simp only[execOp,i,resolve,m,f,hf.ev q,Deferred.ofValue];refine(Xh (show(pure _:Sem Deferred).run P w=.ok _ w from rfl)).trans ?_;simp only[invoke,callFunc];refine(Xh (x:=P) (w':=w) rfl).trans ?_;simp only[g,b,Bool.false_eq_true,if_false,d];rw[show first++j.toArray++captured=(first.toList++j++captured.toList).toArray from Array.ext' (by simp)];rfl
   .cases h
  .cases h
 .cases h
theorem Xa.enter{o:Oper}{k:Nat}{l:List Value}{Q:Value->World->Prop}{E:Value->Env}(h:E6 s e=some (o,s'))(hcl:Ge e o=some (k,l))(hd:Xf P k l.toArray w Q)(hp:∀v,Fu n o.dst false v e=some (E v))(hg:∀v w1,Q v w1->Xa P f R n ds s' (E v) w1):Xa P f R n ds s e w:=by
 unfold E6 at h;split at h
 .rename_i ops i rest k'
  split at h
  .rename_i o' p
   split at h
   .rename_i x
    cases h
    intro b cs a y z q hf;have hr:=Tn (P:=P) (w:=w) hcl hd.fn a hf;obtain⟨en,w1,fr,⟨v,r,A⟩,c,_,d⟩:=hd.calls (b.atR a (.inRegion ops (i::rest)::k')::cs);subst r;have g:Go.step P (lone (b.atR a (.inRegion ops (i::rest)::k')) cs w) =
     .next (lone (Frame.enter P k l.toArray .normal) (b.atR a (.inRegion ops (i::rest)::k')::cs) w):=
     step_lone_go (by rw[K0 (Bx p) (D2 hf x) hr (by simp)];simp[stepG.apply,hr,Frame.atR])
    have j:(a.put o.dst v).defers=ds:=by cases o.dst <;> exact q
    obtain⟨t,B,u,C,D,F,G⟩:=hg v w1 A b cs (a.put o.dst v) y z j (Gl (hp v) a hf);refine⟨t,B,u,C,.of_steps (.head g (Steps.trans c (.one ?_))) D,F,G⟩;have m:(b.atR a (.inRegion ops (i::rest)::k')).finish v=b.atR (a.put o.dst v) (.inRegion ops rest::k'):=by
     rw[Frame.finish_atR,Bx p];rfl
    rw[<-m];exact step_leave_returned d
   .cases h
  .cases h
 .cases h
theorem Xa.call{k d:Nat}{l:List Value}{Q:Value->World->Prop}(h:Yy (Ge e) n s e=some ((k,l),d,s'))(hd:Xf P k l.toArray w Q)(hg:∀v w1,Q v w1->Xa P f R n ds s' ((d,false,v)::e) w1):Xa P f R n ds s e w:=by
 obtain⟨o,c,a,b,g⟩:=Ma h;exact Xa.enter (E:=λv=>(d,false,v)::e) c g hd (λv=>by rw[a];exact Ku b) hg
inductive Xi(P:Program)(T:Tab)(w:World)(e:Env):List ResultVar->List Value->Prop
 |nil:Xi P T w e [] []
 |tmp {t:Nat} {v:Value} {rs:List ResultVar} {vs:List Value}:look e t=some v->Xi P T w e rs vs->Xi P T w e (.tmp t::rs) (v::vs)
 |cell {t ty b off:Nat} {c l:List Value} {q:TypeId} {fz:Nat×Nat} {r:Df} {rs:List ResultVar} {vs:List Value}:look e t=some (.pointer (some ⟨b,off,none⟩))->row T ty=some r->Ie r=true ->
   w.heap[b]?=some (.cells c.toArray q fz)->cut c off r.size=some l->Xi P T w e rs vs->Xi P T w e (.cell t ty::rs) (.agg l.toArray::vs)
 |one {t ty b off:Nat} {v:Value} {r:Df} {rs:List ResultVar} {vs:List Value}:look e t=some (.pointer (some ⟨b,off,none⟩))->row T ty=some r->Ie r=false ->
   w.cell? ⟨b,off,none⟩=some v->Xi P T w e rs vs->Xi P T w e (.cell t ty::rs) (v::vs)
def Kv(tmps:Array Value):ResultVar->Sem Value
 |.tmp t=>pure (tmps.getD t undef)
 |.cell a t=>do loadVar t (<- asAddr (tmps.getD a undef))
theorem Xi.run(hT:Xp P T){a:Act}(hf:X7 n a e):∀{rs:List ResultVar} {vs:List Value},Xi P T w e rs vs->(rs.mapM (Kv a.tmps)).run P w=.ok vs w:=by
 intro rs vs h
 induction h with
 |nil=>rfl
 |tmp b _ ih=>
  rw[List.mapM_cons];have:=hf.slot _ _ b;refine(Xh (show(Kv a.tmps (.tmp _)).run P w=.ok _ w from ?_)).trans ((Xh ih).trans rfl);simp only[Kv,Array.getD_eq_getD_getElem?,this];rfl
 |cell b hr c d f _ ih=>
  rw[List.mapM_cons];have:=hf.slot _ _ b;refine(Xh (show(Kv a.tmps (.cell _ _)).run P w=.ok _ w from ?_)).trans ((Xh ih).trans rfl);simp only[Kv,Array.getD_eq_getD_getElem?,this,Option.getD_some,asAddr];exact(Xh (show(pure _:Sem Addr).run P w=.ok _ w from rfl)).trans (XeU hT hr c d f)
 |one b hr c d _ ih=>
  rw[List.mapM_cons];have:=hf.slot _ _ b;refine(Xh (show(Kv a.tmps (.cell _ _)).run P w=.ok _ w from ?_)).trans ((Xh ih).trans rfl);simp only[Kv,Array.getD_eq_getD_getElem?,this,Option.getD_some,asAddr];exact(Xh (show(pure _:Sem Addr).run P w=.ok _ w from rfl)).trans (XeV hT hr c d)
def J3:List Value->Value
 |[v]=>v
 |l=>.tuple l.toArray
theorem U8(hT:Xp P T){fn:Func}{a:Act}(hf:X7 n a e){vs:List Value}(h:Xi P T w e fn.results.toList vs):(results fn a.tmps).run P w=.ok (J3 vs) w:=by
 have b:=h.run hT hf;unfold results;have:(fn.results.mapM (Kv a.tmps)).run P w=.ok vs.toArray w:=by
  rw[Array.mapM_eq_mapM_toList];simp only[Sem.run_map,b,Result.andThen_ok]
 refine(Xh (s:=fn.results.mapM (Kv a.tmps)) this).trans ?_
 match vs with
 |[]=>rfl
 |[v]=>rfl
 |v::u::r=>
  simp only[J3];rw[dif_neg (by simp)];rfl
def Fj:List Item->Bool
 |[]=>true
 |.code .ret::_=>true
 |_=>false
theorem Xa.ret(hT:Xp P T){fn:Func}{vs:List Value}(hs:Fj s=true)(hfn:P.funcs[f]?=some fn)(hr:Xi P T w e fn.results.toList vs)(hp:Post (J3 vs) w):Xa P f (Gc Post) n [] s e w:=by
 intro b cs a g h l hf;have d:=U8 hT hf hr;have c:∃todo,Go.step P (lone (b.atR a s) cs w)=.next (lone {b.atR a todo with mode:=.returning} cs w):=by
  unfold Fj at hs;split at hs
  .exact⟨[],stepR_end h⟩
  .rename_i k;exact⟨.code .ret::k,stepR_ret h⟩
  .cases hs
 obtain⟨todo,i⟩:=c;exact⟨.returned (J3 vs),w,_,λ_=>⟨_,rfl,hp⟩,.one i,g,λ_=>⟨rfl,l,rfl,fn,by rw[show({b.atR a todo with mode:=.returning}:Frame).fn=b.fn from rfl,g];exact hfn,d⟩,λj=>absurd rfl j⟩
theorem Xa.ret0(hT:Xp P T){fn:Func}(hs:Fj s=true)(hfn:P.funcs[f]?=some fn)(hr:fn.results.toList=[])(hp:Post (.tuple #[]) w):Xa P f (Gc Post) n [] s e w:=
 Xa.ret hT (vs:=[]) hs hfn (by rw[hr];exact .nil) hp
theorem Xa.ret1(hT:Xp P T){fn:Func}{t:Nat}{v:Value}(hs:Fj s=true)(hfn:P.funcs[f]?=some fn)(hr:fn.results.toList=[.tmp t])(hv:look e t=some v)(hp:Post v w):Xa P f (Gc Post) n [] s e w:=
 Xa.ret hT (vs:=[v]) hs hfn (by rw[hr];exact .tmp hv .nil) hp
theorem Xa.ret2(hT:Xp P T){fn:Func}{t t':Nat}{v v':Value}(hs:Fj s=true)(hfn:P.funcs[f]?=some fn)(hr:fn.results.toList=[.tmp t,.tmp t'])(hv:look e t=some v)(hv':look e t'=some v')(hp:Post (.tuple #[v,v']) w):Xa P f (Gc Post) n [] s e w:=
 Xa.ret hT (vs:=[v,v']) hs hfn (by rw[hr];exact .tmp hv (.tmp hv' .nil)) hp
theorem Xa.knowB{t:Nat}{p q:Bool}(h:look e t=some (.bool p))(hp:p=q)(hg:Xa P f R n ds s ((t,true,.bool q)::e) w):Xa P f R n ds s e w:=by
 subst hp;exact hg.know h
def L4:Env->Env->Prop
 |[],_=>True
 |(t,_,v)::r,e=>look e t=some v/\L4 r e
theorem L4.look:∀{r e:Env},L4 r e -> ∀t v,look r t=some v->look e t=some v
 |[],e,_,t,v,h=>by simp[Go.Proofs.YtdeihcnepljjaaaGreatDoor.look] at h
 |(u,_,x)::r,e,hs,t,v,h=>by
  rw[Kq] at h;by_cases he:t=u
  .subst he;rw[if_pos rfl] at h;cases h;exact hs.1
  .rw[if_neg he] at h;exact hs.2.look t v h
theorem Xa.sub(hs:L4 e' e)(h:Xa P f R n ds s e' w):Xa P f R n ds s e w:=h.weaken hs.look
theorem Xa.loop{body:Code}{k:List Item}{α:Type}(I:α->Env)(W:α->World->Prop)(μ:α->Nat)(x0:α)(h0:L4 (I x0) e)(hw:W x0 w)(round:∀x w,W x w->(∀x' w' e',W x' w'->μ x'<μ x->L4 (I x') e'->Xa P f R n ds (.inLoop body::k) e' w')->Xa P f R n ds (.code body::.inLoop body::k) (I x) w):Xa P f R n ds (.code (.loop body)::k) e w:=by
 have key:∀m x w,μ x=m->W x w->Xa P f R n ds (.code body::.inLoop body::k) (I x) w:=by
  intro m
  induction m using Nat.strongRecOn with
  |_ m ih=>
   intro x w hm h;refine round x w h λx' w' e' d g c=>?_;exact Xa.step (λb cs a _=>stepR_inLoop) (Xa.sub c (ih (μ x') (hm▸g) x' w' rfl d))
 exact Xa.step (λb cs a _=>stepR_loop) (Xa.sub h0 (key _ x0 w rfl hw))
theorem Xa.unroll(hT:Xp P T){body:Code}{k:List Item}{s2:List Item}{e2:Env}(ha:Go.Proofs.YtdeihcnepljjaaaGreatDoor.adv T n 400 (.code body::.inLoop body::k) e=(s2,e2))(h:Xa P f R n ds s2 e2 w):Xa P f R n ds (.code (.loop body)::k) e w:=
 Xa.step (λ_ _ _ _=>stepR_loop) (Xa.adv hT 400 ha h)
theorem Xa.of_wp(hro:R.ro=none){c:Code}{k:List Item}(h:∀a,a.defers=ds->X7 n a e->c.wp P (λex a' w'=>ex=.normal/\a'.defers=ds/\∃e',X7 n a' e'/\Xa P f R n ds k e' w') a w):Xa P f R n ds (.code c::k) e w:=by
 intro b cs a o g p hf;obtain⟨ex,a',w',⟨i,j,e',l,q⟩,d⟩:=h a p hf b k cs;subst i;obtain⟨en,r,fr,s,m,t,u⟩:=q b cs a' o g j l;rw[Frame.atR_of_none (g.trans hro)] at m⊢;exact⟨en,r,fr,s,.of_steps d m,t,u⟩
theorem XcV{ops:Array Oper}{Q:Act->Prop}:∀(l:List Oper) (a:Act),H2 P ops (λw'=>Xc Xe w w') Q l a->wpQuiet P ops (λw'=>Xc Xe w w') Q l a
 |[],a,h=>h
 |o::l,a,h=>by
  unfold H2 at h;unfold wpQuiet;split
  .rename_i d;rw[if_pos d] at h
   obtain⟨v,f,g⟩:=h;refine⟨v,λw' c=>?_,XcV l _ g⟩;have b:=f w' c;unfold D0 at b;unfold Oper.quietAt;generalize (execOp a.eval o).run P w'=r at b
   cases r with
   |ok nx i=>
    cases nx <;> simp only at b <;> simp only[Oper.quietUpon] <;> first|exact b|exact b.elim|skip
    case enter k args=>exact⟨b.1,b.2.mono λen n ⟨j,m⟩=>⟨j,c.trans m⟩⟩
   |halt x i=>exact b.elim
  .rename_i d;rw[if_neg d] at h;exact XcV l _ h
def Xk(P:Program)(n:Nat)(ops:Array Oper)(w:World)(l:List Oper)(e:Env)(K:Env->Prop):Prop:=
 ∀(a:Act) (ds:List Deferred),a.defers=ds->X7 n a e->H2 P ops (λw'=>Xc Xe w w') (λa'=>a'.defers=ds/\∃e',X7 n a' e'/\K e') l a
theorem Xa.quiet(hro:R.ro=none){id:Nat}{ops:Array Oper}{k:List Item}(hm:P.follows .mixedOrders=true)(hB:Region.lexB .any ops=true)(h:Xk P n ops w ops.toList e (λe'=>∀w',Xc Xe w w'->Xa P f R n ds k e' w')):Xa P f R n ds (.code (.region id ops true)::k) e w:=
 Xa.of_wp hro λa g hf=>wp_region_quiet (C:=λw'=>Xc Xe w w') hm hB ((Xc.refl _ _).drew _) (by
  refine XcV ops.toList a (XcU ?_ _ _ (h a ds g hf));exact λa' ⟨b,e',c,i⟩ w' d=>⟨rfl,b,e',c,i w' d⟩)
theorem Xkk{ops:Array Oper}{q:Nat}(h:Xbd ops q=true):Region.noSelect ops=true/\q<ops.size/\
 (∃o,ops[q]?=some o/\o.after=#[]/\o.guard=none/\∀j oj,j<q->ops[j]?=some oj->oj.apart ops o=true/\∀e∈oj.after,Region.binds .any e=true->e.on≠q)/\
 (∀j o,q<j->ops[j]?=some o -> ∀i,i<=q -> ∃e∈o.after,Region.binds .any e=true/\e.on=i)/\
 ∃L,Ou ops q 0 (Array.replicate ops.size false)=some L/\Region.ready .any ops L=[q]/\Mk ops (ops.size-(q+1)) (q+1) (L.setIfInBounds q true)=true:=by
 unfold Xbd at h;simp only[Bool.and_eq_true] at h;obtain⟨⟨⟨⟨n,p⟩,c⟩,r⟩,a⟩:=h;have s:q<ops.size:=by simpa [Nat.blt_eq] using p
 refine⟨n,s,?_,?_,?_⟩
 .split at c
  .rename_i o d
   simp only[Bool.and_eq_true] at c;obtain⟨⟨t,u⟩,v⟩:=c;refine⟨o,d,by simpa using t,by simpa using u,λj oj k l=>?_⟩;have:=List.all_eq_true.1 v j (by simpa using k);rw[l] at this;simp only[Bool.and_eq_true] at this;refine⟨this.1,λe f w m=>?_⟩;have b:=Array.all_eq_true_iff_forall_mem.1 this.2 e f;simp only[md] at b;rw[w,m] at b;simp at b
  .cases c
 .intro j o k d i z;have y:=(Array.getElem?_eq_some_iff.1 d).1;have:=List.all_eq_true.1 r j (by rw[List.mem_range'];exact⟨j-(q+1),by omega,by omega⟩);rw[d] at this;have b:=List.all_eq_true.1 this i (by simp;omega);obtain⟨e,f,g⟩:=Array.any_eq_true'.1 b;simp only[Bool.and_eq_true,beq_iff_eq] at g;exact⟨e,f,g.1,g.2⟩
 .split at a
  .rename_i L x
   simp only[Bool.and_eq_true,beq_iff_eq] at a;exact⟨L,x,a.1,a.2⟩
  .cases a
theorem Xa.quietF{id:Nat}{ops:Array Oper}{k:List Item}{q t d:Nat}{z:List Value}{o:Oper}(hT:Xp P T)(hm:P.follows .mixedOrders=true)(hB:Xbd ops q=true)(ho:Au ops.toList q=some o)(hz:Ix T [] o=some (z,t))(hd:o.dst=some d)(hlt:Nat.blt d n=true)(h:Xk P n ops w (ops.toList.take q) e (λe'=>∀b w',Xc Xe w w'->w.heap.size<=b->w'.heap[b]?=some (.cells z.toArray t (0,0)) -> Xa P f R n ds (.inRegion ops (List.range' (q+1) (ops.size-(q+1)))::k) ((d,false,.pointer (some ⟨b,0,none⟩))::e') w')):Xa P f R n ds (.code (.region id ops true)::k) e w:=by
 obtain⟨g,y,⟨o',r,A,B,i⟩,p,L,S,D,s⟩:=Xkk hB;have E:o'=o:=by have:=Bx ho;rw[r] at this;exact Option.some.inj this
 subst E;intro b cs a U V F hf;have W:=h a ds F hf;have c:(ops.toList.take q).length=q:=by simp;omega
 have l:=Xhy (P:=P) (C:=λw'=>Xc Xe w w') (f:=q) (Lf:=L) g (by rw[D];simp) (ops.toList.take q) 0 (Array.replicate ops.size false) a
  (λj G=>by rw[c] at G;rw[List.getElem?_take,if_pos G];simp) (by rw[c];omega) (by rw[c];exact S) W
 rw[c] at l;have H:ops.size=q+1+(ops.size-(q+1)):=by omega
 have u:∀(a:Act) (w:World),(execOp a.eval o').run P w=.ok (.value (.pointer (some ⟨w.heap.size,0,none⟩))) {w with heap:=w.heap.push (.cells z.toArray t)}:=λa w=>
  Tb (n:=a.tmps.size) (e:=[]) hT hz a ⟨rfl,λt v h=>by simp[look] at h⟩
 have m:=Xkl (P:=P) (fn:=f) (R:=R) (k:=k) (w0:=w) (tf:=ops.size-(q+1)) (z:=z) (t:=t) r (Region.noSelect_spec g) hd A B u i p
  (λa' w' b' ⟨I,e',J,hK⟩ x K M=>by
   intro t';rw[XaM _ _ _ s t'];intro b2 N O Q;exact hK b' w' x K M b2 N _ O Q (by simpa [Act.put] using I) (J.put d false _ (by simpa [Nat.blt_eq] using hlt)))
  q _ a {w with drawn:=w.drawn+1} l (by simpa using y) (by simp[y]) ((Xc.refl _ _).drew _)
 rw[<-H] at m;obtain⟨en,w',fr,hR,x,h1,h2⟩:=m (w.tape w.drawn (.order b.fn id)) b cs U V;refine⟨en,w',fr,hR,.of_steps (.one ?_) x,h1,h2⟩;rw[stepR_region_draw];simp only[Region.schedule,hm,Bool.true_or,if_true];rfl
section
variable {ops:Array Oper}{l l':List Oper}{K:Env->Prop}
def E3(T:Tab)(n:Nat)(ops:Array Oper):List Oper->Env->List Oper×Env
 |[],e=>([],e)
 |o::l,e=>match Dm e ops o with
  |some false=>match Fu n o.dst true undef e with
   |some e'=>E3 T n ops l e'
   |none=>(o::l,e)
  |some true=>match Rw T e o.op with
   |some v=>match Fu n o.dst (opF e o.op) v e with
    |some e'=>E3 T n ops l e'
    |none=>(o::l,e)
   |none=>(o::l,e)
  |none=>(o::l,e)
theorem Xk.one{o:Oper}{v:Value}(hw:Dm e ops o=some true){fl:Bool}(hp:Fu n o.dst fl v e=some e')(hrun:∀a w',Xc Xe w w'->X7 n a e->(execOp a.eval o).run P w'=.ok (.value v) w')(h:Xk P n ops w l e' K):Xk P n ops w (o::l) e K:=by
 intro a ds c hf;unfold H2;rw[if_pos (D2 hf hw)];refine⟨v,λw' b=>?_,h (a.put o.dst v) ds (by cases o.dst <;> exact c) (Gl hp a hf)⟩;unfold D0;rw[hrun a w' b hf];exact⟨rfl,rfl⟩
theorem Xk.skip{o:Oper}(hw:Dm e ops o=some false){fl:Bool}(hp:Fu n o.dst fl undef e=some e')(h:Xk P n ops w l e' K):Xk P n ops w (o::l) e K:=by
 intro a ds b hf;unfold H2;rw[if_neg (by rw[D2 hf hw];simp)];exact h (a.put o.dst undef) ds (by cases o.dst <;> exact b) (Gl hp a hf)
theorem Wx(hT:Xp P T):∀(l:List Oper) (e:Env),Xk P n ops w (E3 T n ops l e).1 (E3 T n ops l e).2 K->Xk P n ops w l e K
 |[],e,h=>h
 |o::l,e,h=>by
  unfold E3 at h;split at h
  .rename_i hw
   split at h
   .rename_i e' he;exact Xk.skip hw he (Wx hT l e' h)
   .exact h
  .rename_i hw
   split at h
   .rename_i v hv
    split at h
    .rename_i e' he;exact Xk.one hw he (λa w' _ hf=>Xbl hT hf hv w') (Wx hT l e' h)
    .exact h
   .exact h
  .exact h
theorem Xk.adv(hT:Xp P T)(h:E3 T n ops l e=(l',e'))(hg:Xk P n ops w l' e' K):Xk P n ops w l e K:=Wx hT l e (by rw[h];exact hg)
theorem Xk.nil(h:K e):Xk P n ops w [] e K:=λ_ _ a hf=>⟨a,e,hf,h⟩
theorem Xk.weaken(h:Xk P n ops w l e' K)(hs:∀t v,look e' t=some v->look e t=some v):Xk P n ops w l e K:=λa ds b hf=>h a ds b (hf.weaken hs)
theorem Xk.know{t:Nat}{b:Bool}{v:Value}(h:look e t=some v)(hg:Xk P n ops w l ((t,b,v)::e) K):Xk P n ops w l e K:=
 hg.weaken λu x a=>by
  rw[Kq] at a;by_cases c:u=t
  .subst c;rw[if_pos rfl] at a;rw[h,a]
  .rwa [if_neg c] at a
def Tg(ops:Array Oper)(l:List Oper)(e:Env):Option (Nat×Bool):=
 match l with
 |o::_=>match o.guard,o.op with
  |none,.pick (.tmp t) _ _=>match look e t with
   |some (.bool p)=>some (t,p)
   |_=>none
  |some (j,_),_=>match Au ops.toList j with
   |some g=>match g.dst with
    |some d=>match look e d with
     |some (.bool p)=>some (d,p)
     |_=>none
    |none=>none
   |none=>none
  |_,_=>none
 |[]=>none
theorem XeY{t:Nat}{p:Bool}(h:Tg ops l e=some (t,p)):look e t=some (.bool p):=by
 unfold Tg at h;split at h
 .split at h
  .split at h
   .cases h;assumption
   .cases h
  .split at h
   .split at h
    .split at h
     .cases h;assumption
     .cases h
    .cases h
   .cases h
  .cases h
 .cases h
theorem Xk.fork(hT:Xp P T){t:Nat}{p:Bool}{l1 l2:List Oper}{e1 e2:Env}(h:Tg ops l e=some (t,p))(ha:E3 T n ops l ((t,true,.bool true)::e)=(l1,e1))(hb:E3 T n ops l ((t,true,.bool false)::e)=(l2,e2))(ht:p=true->Xk P n ops w l1 e1 K)(hf:p=false->Xk P n ops w l2 e2 K):Xk P n ops w l e K:=by
 have a:=XeY h;cases p with
 |true=>exact(Xk.adv hT ha (ht rfl)).know a
 |false=>exact(Xk.adv hT hb (hf rfl)).know a
def Iz{δ:Type}(g:Oper->Option δ)(n:Nat)(ops:Array Oper)(l:List Oper)(e:Env):Option (δ×Nat×List Oper):=
 match l with
 |o::r=>match Dm e ops o with
  |some true=>match o.dst with
   |some d=>match Nat.blt d n with
    |true=>match g o with
     |some x=>some (x,d,r)
     |none=>none
    |false=>none
   |none=>none
  |_=>none
 |[]=>none
theorem Xdp{δ:Type}{g:Oper->Option δ}{x:δ}{d:Nat}(h:Iz g n ops l e=some (x,d,l')):∃o,l=o::l'/\Dm e ops o=some true/\o.dst=some d/\Nat.blt d n=true/\g o=some x:=by
 unfold Iz at h;split at h
 .rename_i o r
  split at h
  .rename_i b
   split at h
   .rename_i i c
    split at h
    .rename_i a
     split at h
     .rename_i y f;cases h;exact⟨o,rfl,b,c,a,f⟩
     .cases h
    .cases h
   .cases h
  .cases h
 .cases h
theorem Xk.val(hT:Xp P T){δ:Type}{g:Oper->Option δ}{x:δ}{d:Nat}{v:Value}{l2:List Oper}{e2:Env}(h:Iz g n ops l e=some (x,d,l'))(hrun:∀o,g o=some x -> ∀a w',Xc Xe w w'->X7 n a e->(execOp a.eval o).run P w'=.ok (.value v) w')(ha:E3 T n ops l' ((d,false,v)::e)=(l2,e2))(hg:Xk P n ops w l2 e2 K):Xk P n ops w l e K:=by
 obtain⟨o,rfl,c,f,b,i⟩:=Xdp h;exact Xk.one c (by rw[f];exact Ku b) (hrun o i) (Xk.adv hT ha hg)
theorem Xk.arith(hT:Xp P T){k:IntKind}{z z':Int}{d:Nat}{l2:List Oper}{e2:Env}(h:Iz (L9 T e) n ops l e=some ((k,z),d,l'))(hz:k.wrap z=z')(ha:E3 T n ops l' ((d,false,.int k z')::e)=(l2,e2))(hg:Xk P n ops w l2 e2 K):Xk P n ops w l e K:=
 Xk.val hT h (λ_ b a w' _ hf=>Xac hT b hz a hf w') ha hg
theorem Xk.div(hT:Xp P T){q:Bool}{k:IntKind}{x y z:Int}{d:Nat}{l2:List Oper}{e2:Env}(h:Iz (P9 e) n ops l e=some ((q,k,x,y),d,l'))(hy:y≠0)(hz:Ib q k x y=z)(ha:E3 T n ops l' ((d,false,.int k z)::e)=(l2,e2))(hg:Xk P n ops w l2 e2 K):Xk P n ops w l e K:=
 Xk.val hT h (λ_ b a w' _ hf=>XaI b hy hz a hf w') ha hg
theorem Xk.index(hT:Xp P T){b off len sz d j:Nat}{i:Int}{l2:List Oper}{e2:Env}(h:Iz (Mn T e) n ops l e=some ((b,off,len,sz,i),d,l'))(h0:0<=i)(h1:i<len)(hj:i.toNat*sz=j)(ha:E3 T n ops l' ((d,false,.pointer (some ⟨b,off+j,none⟩))::e)=(l2,e2))(hg:Xk P n ops w l2 e2 K):Xk P n ops w l e K:=
 Xk.val hT h (λ_ c a w' _ hf=>XaY hT c h0 h1 hj a hf w') ha hg
theorem Xk.load(hT:Xp P T){b off d:Nat}{v:Value}{l2:List Oper}{e2:Env}(h:Iz (Ck T e) n ops l e=some ((b,off,none),d,l'))(hc:w.cell? ⟨b,off,none⟩=some v)(ha:E3 T n ops l' ((d,false,v)::e)=(l2,e2))(hg:Xk P n ops w l2 e2 K):Xk P n ops w l e K:=
 Xk.val hT h (λ_ f a _ c hf=>Rp hT f (Mc c.below hc) a hf) ha hg
theorem Xk.cJ(hT:Xp P T){b off d:Nat}{v:Value}{c:List Value}{t:TypeId}{fz:Nat×Nat}{l2:List Oper}{e2:Env}(h:Iz (Ck T e) n ops l e=some ((b,off,none),d,l'))(hc:w.heap[b]?=some (.cells c.toArray t fz))(hv:G7 c off=some v)(ha:E3 T n ops l' ((d,false,v)::e)=(l2,e2))(hg:Xk P n ops w l2 e2 K):Xk P n ops w l e K:=
 Xk.load hT h (Cu hc hv) ha hg
theorem Xk.loads(hT:Xp P T){b off m d:Nat}{c vs:List Value}{t:TypeId}{fz:Nat×Nat}{l2:List Oper}{e2:Env}(h:Iz (Ck T e) n ops l e=some ((b,off,some m),d,l'))(hc:w.heap[b]?=some (.cells c.toArray t fz))(hv:cut c off m=some vs)(ha:E3 T n ops l' ((d,false,.agg vs.toArray)::e)=(l2,e2))(hg:Xk P n ops w l2 e2 K):Xk P n ops w l e K:=
 Xk.val hT h (λ_ g a _ f hf=>Uc hT g (f.bP hc) hv a hf) ha hg
theorem Xk.call(hT:Xp P T){k d:Nat}{as:List Value}{v:Value}{l2:List Oper}{e2:Env}(h:Iz (Ge e) n ops l e=some ((k,as),d,l'))(hd:∀w',Xc Xe w w'->Xf P k as.toArray w' (λu w2=>u=v/\Xc Xe w' w2))(ha:E3 T n ops l' ((d,false,v)::e)=(l2,e2))(hg:Xk P n ops w l2 e2 K):Xk P n ops w l e K:=by
 obtain⟨o,rfl,p,c,f,q⟩:=Xdp h;have g:=Xk.adv hT ha hg;intro a ds i hf;unfold H2;rw[if_pos (D2 hf p)];refine⟨v,λw' j=>?_,g (a.put o.dst v) ds (by cases o.dst <;> exact i) (Gl (by rw[c];exact Ku f) a hf)⟩;unfold D0;have b:=hd w' j;rw[Tn (P:=P) (w:=w') q b.fn a hf];refine⟨rfl,b.calls.mono λen w2 ⟨u,m,r,s⟩=>?_⟩;subst r;exact⟨m,s⟩
end
end
end Go.Proofs.YtdeihcnepljjaaaGreatDoor
