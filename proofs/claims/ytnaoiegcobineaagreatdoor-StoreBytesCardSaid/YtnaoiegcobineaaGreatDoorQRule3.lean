/-
  Rule3
-/
import Derived.Test.YtnaoiegcobineaaGreatDoorQMix
import Derived.Deep.Quiet
namespace Go.Proofs.YtnaoiegcobineaaGreatDoor
open Go.RowKit
section
variable {P:Program} {T:Tab} {f:FuncId} {R:Aim} {Post:Value→World→Prop} {n:Nat} {ds:List Deferred} {s s':List Item} {e e':Env} {w w':World}
def callOf (e:Env) (o:Oper):Option (Nat × List Value) :=
 match o.op with
 |.call c=>match c.callee,evs e c.args.toList with
  |.value x,some l=>match ev e x with
   |some (.func (.func k) first captured)=>some (k,first.toList++l++captured.toList)
   |_=>none
  |_,_=>none
 |_=>none
theorem callOf_run {k:Nat} {l:List Value} {o:Oper} (h:callOf e o=some (k,l)) (hk:FnOk P k):∀ a,Fits n a e→(execOp a.eval o).run P w = .ok (.enter k l.toArray) w:=by
 intro a hf
 obtain ⟨fn,hfn,hname,hbody⟩:=hk
 unfold callOf at h
 split at h
 ·rename_i c hop
  split at h
  ·rename_i x l1 hc hl
   split at h
   ·rename_i k1 first captured hx
    cases h
    have hargs:c.args.map a.eval=l1.toArray:=map_of_toList (hf.evs hl)
    simp only [execOp,hop,resolve,hc,hargs,hf.ev hx,Deferred.ofValue]
    refine (run_bind_ok (show (pure _:Sem Deferred).run P w = .ok _ w from rfl)).trans ?_
    simp only [invoke,callFunc]
    refine (run_bind_ok (x:=P) (w':=w) rfl).trans ?_
    simp only [hfn,hname,Bool.false_eq_true,if_false,hbody]
    rw [show first++l1.toArray++captured=(first.toList++l1++captured.toList).toArray from Array.ext' (by simp)]
    rfl
   ·cases h
  ·cases h
 ·cases h
theorem Goes.enter {o:Oper} {k:Nat} {l:List Value} {Q:Value→World→Prop} {E:Value→Env} (h:headOp s e=some (o,s')) (hcl:callOf e o=some (k,l)) (hd:Does P k l.toArray w Q)
 (hp:∀ v,putE n o.dst false v e=some (E v)) (hg:∀ v w1,Q v w1→Goes P f R n ds s' (E v) w1):Goes P f R n ds s e w:=by
 unfold headOp at h
 split at h
 ·rename_i ops i rest k'
  split at h
  ·rename_i o' ho
   split at h
   ·rename_i hw
    cases h
    intro b cs a hb hk hds hf
    have hr:=callOf_run (P:=P) (w:=w) hcl hd.fn a hf
    obtain ⟨en,w1,fr,⟨v,hen,hQ⟩,hsteps,_,hleave⟩:=hd.calls (b.atR a (.inRegion ops (i::rest)::k')::cs)
    subst hen
    have henter:Go.step P (lone (b.atR a (.inRegion ops (i::rest)::k')) cs w) =
     .next (lone (Frame.enter P k l.toArray .normal) (b.atR a (.inRegion ops (i::rest)::k')::cs) w) :=
     step_lone_go (by rw [stepE (nth_at ho) (want_ok hf hw) hr (by simp)]; simp [stepG.apply,hr,Frame.atR])
    have hds':(a.put o.dst v).defers=ds:=by cases o.dst <;> exact hds
    obtain ⟨en2,w2,fr2,hR,hc,h1,h2⟩:=hg v w1 hQ b cs (a.put o.dst v) hb hk hds' (putE_ok (hp v) a hf)
    refine ⟨en2,w2,fr2,hR,.of_steps (.head henter (Steps.trans hsteps (.one ?_))) hc,h1,h2⟩
    have hfin:(b.atR a (.inRegion ops (i::rest)::k')).finish v=b.atR (a.put o.dst v) (.inRegion ops rest::k'):=by
     rw [Frame.finish_atR,nth_at ho]; rfl
    rw [← hfin]
    exact step_leave_returned hleave
   ·cases h
  ·cases h
 ·cases h
theorem Goes.call {k d:Nat} {l:List Value} {Q:Value→World→Prop} (h:atHead (callOf e) n s e=some ((k,l),d,s')) (hd:Does P k l.toArray w Q)
 (hg:∀ v w1,Q v w1→Goes P f R n ds s' ((d,false,v)::e) w1):Goes P f R n ds s e w:=by
 obtain ⟨o,ho,hdd,hlt,hx⟩:=atHead_ok h
 exact Goes.enter (E:=fun v=>(d,false,v)::e) ho hx hd (fun v=>by rw [hdd]; exact putE_lt hlt) hg
inductive ResOk (P:Program) (T:Tab) (w:World) (e:Env):List ResultVar→List Value→Prop
 |nil:ResOk P T w e [] []
 |tmp {t:Nat} {v:Value} {rs:List ResultVar} {vs:List Value}:look e t=some v→ResOk P T w e rs vs→ResOk P T w e (.tmp t::rs) (v::vs)
 |cell {t ty b off:Nat} {c l:List Value} {q:TypeId} {fz:Nat × Nat} {r:TyRow} {rs:List ResultVar} {vs:List Value}:look e t=some (.pointer (some ⟨b,off,none⟩))→row T ty=some r→isAggR r=true →
   w.heap[b]? = some (.cells c.toArray q fz)→cut c off r.size=some l→ResOk P T w e rs vs→ResOk P T w e (.cell t ty::rs) (.agg l.toArray::vs)
 |one {t ty b off:Nat} {v:Value} {r:TyRow} {rs:List ResultVar} {vs:List Value}:look e t=some (.pointer (some ⟨b,off,none⟩))→row T ty=some r→isAggR r=false →
   w.cell? ⟨b,off,none⟩=some v→ResOk P T w e rs vs→ResOk P T w e (.cell t ty::rs) (v::vs)
def resRun (tmps:Array Value):ResultVar→Sem Value
 |.tmp t=>pure (tmps.getD t undef)
 |.cell a t=>do loadVar t (← asAddr (tmps.getD a undef))
theorem ResOk.run (hT:TabOk P T) {a:Act} (hf:Fits n a e):∀ {rs:List ResultVar} {vs:List Value},ResOk P T w e rs vs→(rs.mapM (resRun a.tmps)).run P w = .ok vs w:=by
 intro rs vs h
 induction h with
 |nil=>rfl
 |tmp h1 _ ih =>
  rw [List.mapM_cons]
  have:=hf.slot _ _ h1
  refine (run_bind_ok (show (resRun a.tmps (.tmp _)).run P w = .ok _ w from ?_)).trans ((run_bind_ok ih).trans rfl)
  simp only [resRun,Array.getD_eq_getD_getElem?,this]; rfl
 |cell h1 hr ha hc hv _ ih =>
  rw [List.mapM_cons]
  have:=hf.slot _ _ h1
  refine (run_bind_ok (show (resRun a.tmps (.cell _ _)).run P w = .ok _ w from ?_)).trans ((run_bind_ok ih).trans rfl)
  simp only [resRun,Array.getD_eq_getD_getElem?,this,Option.getD_some,asAddr]
  exact (run_bind_ok (show (pure _:Sem Addr).run P w = .ok _ w from rfl)).trans (loadVar_agg hT hr ha hc hv)
 |one h1 hr ha hc _ ih =>
  rw [List.mapM_cons]
  have:=hf.slot _ _ h1
  refine (run_bind_ok (show (resRun a.tmps (.cell _ _)).run P w = .ok _ w from ?_)).trans ((run_bind_ok ih).trans rfl)
  simp only [resRun,Array.getD_eq_getD_getElem?,this,Option.getD_some,asAddr]
  exact (run_bind_ok (show (pure _:Sem Addr).run P w = .ok _ w from rfl)).trans (loadVar_one hT hr ha hc)
def resV:List Value→Value
 |[v]=>v
 |l => .tuple l.toArray
theorem results_run (hT:TabOk P T) {fn:Func} {a:Act} (hf:Fits n a e) {vs:List Value} (h:ResOk P T w e fn.results.toList vs):(results fn a.tmps).run P w = .ok (resV vs) w:=by
 have h1:=h.run hT hf
 unfold results
 have:(fn.results.mapM (resRun a.tmps)).run P w = .ok vs.toArray w:=by
  rw [Array.mapM_eq_mapM_toList]
  simp only [Sem.run_map,h1,Result.andThen_ok]
 refine (run_bind_ok (s:=fn.results.mapM (resRun a.tmps)) this).trans ?_
 match vs with
 |[]=>rfl
 |[v]=>rfl
 |v::u::r => 
  simp only [resV]
  rw [dif_neg (by simp)]
  rfl
def atEnd:List Item→Bool
 |[]=>true
 |.code .ret::_=>true
 |_=>false
theorem Goes.ret (hT:TabOk P T) {fn:Func} {vs:List Value} (hs:atEnd s=true) (hfn:P.funcs[f]? = some fn) (hr:ResOk P T w e fn.results.toList vs) (hp:Post (resV vs) w):Goes P f (RetA Post) n [] s e w:=by
 intro b cs a hb hk hd hf
 have hres:=results_run hT hf hr
 have hstep:∃ todo,Go.step P (lone (b.atR a s) cs w) = .next (lone {b.atR a todo with mode := .returning} cs w):=by
  unfold atEnd at hs
  split at hs
  ·exact ⟨[],stepR_end hk⟩
  ·rename_i k; exact ⟨.code .ret::k,stepR_ret hk⟩
  ·cases hs
 obtain ⟨todo,hst⟩:=hstep
 exact ⟨.returned (resV vs),w,_,fun _=>⟨_,rfl,hp⟩,.one hst,hb,fun _=>⟨rfl,hd,rfl,fn,by rw [show ({b.atR a todo with mode := .returning}:Frame).fn=b.fn from rfl,hb]; exact hfn,hres⟩,fun hne=>absurd rfl hne⟩
theorem Goes.ret0 (hT:TabOk P T) {fn:Func} (hs:atEnd s=true) (hfn:P.funcs[f]? = some fn) (hr:fn.results.toList = []) (hp:Post (.tuple #[]) w):Goes P f (RetA Post) n [] s e w :=
 Goes.ret hT (vs := []) hs hfn (by rw [hr]; exact .nil) hp
theorem Goes.ret1 (hT:TabOk P T) {fn:Func} {t:Nat} {v:Value} (hs:atEnd s=true) (hfn:P.funcs[f]? = some fn) (hr:fn.results.toList = [.tmp t]) (hv:look e t=some v) (hp:Post v w):Goes P f (RetA Post) n [] s e w :=
 Goes.ret hT (vs := [v]) hs hfn (by rw [hr]; exact .tmp hv .nil) hp
theorem Goes.ret2 (hT:TabOk P T) {fn:Func} {t t':Nat} {v v':Value} (hs:atEnd s=true) (hfn:P.funcs[f]? = some fn) (hr:fn.results.toList = [.tmp t,.tmp t']) (hv:look e t=some v) (hv':look e t'=some v') (hp:Post (.tuple #[v,v']) w):Goes P f (RetA Post) n [] s e w :=
 Goes.ret hT (vs := [v,v']) hs hfn (by rw [hr]; exact .tmp hv (.tmp hv' .nil)) hp
theorem Goes.knowB {t:Nat} {p q:Bool} (h:look e t=some (.bool p)) (hp:p=q) (hg:Goes P f R n ds s ((t,true,.bool q)::e) w):Goes P f R n ds s e w:=by
 subst hp; exact hg.know h
def Sub:Env→Env→Prop
 |[],_=>True
 |(t,_,v)::r,e=>look e t=some v∧Sub r e
theorem Sub.look:∀ {r e:Env},Sub r e → ∀ t v,look r t=some v→look e t=some v
 |[],e,_,t,v,h=>by simp [Go.Proofs.YtnaoiegcobineaaGreatDoor.look] at h
 |(u,_,x)::r,e,hs,t,v,h=>by
  rw [look_cons] at h
  by_cases he:t=u
  ·subst he; rw [if_pos rfl] at h; cases h; exact hs.1
  ·rw [if_neg he] at h; exact hs.2.look t v h
theorem Goes.sub (hs:Sub e' e) (h:Goes P f R n ds s e' w):Goes P f R n ds s e w:=h.weaken hs.look
theorem Goes.loop {body:Code} {k:List Item} {α:Type} (I:α→Env) (W:α→World→Prop) (μ:α→Nat) (x0:α) (h0:Sub (I x0) e) (hw:W x0 w)
 (round:∀ x w,W x w→(∀ x' w' e',W x' w'→μ x'<μ x→Sub (I x') e'→Goes P f R n ds (.inLoop body::k) e' w')→Goes P f R n ds (.code body :: .inLoop body::k) (I x) w) :
 Goes P f R n ds (.code (.loop body)::k) e w:=by
 have key:∀ m x w,μ x=m→W x w→Goes P f R n ds (.code body :: .inLoop body::k) (I x) w:=by
  intro m
  induction m using Nat.strongRecOn with
  |_ m ih =>
   intro x w hm hx
   refine round x w hx fun x' w' e' hx' hlt hsub => ?_
   exact Goes.step (fun b cs a _=>stepR_inLoop) (Goes.sub hsub (ih (μ x') (hm▸hlt) x' w' rfl hx'))
 exact Goes.step (fun b cs a _=>stepR_loop) (Goes.sub h0 (key _ x0 w rfl hw))
theorem Goes.unroll (hT:TabOk P T) {body:Code} {k:List Item} {s2:List Item} {e2:Env} (ha:Go.Proofs.YtnaoiegcobineaaGreatDoor.adv T n 400 (.code body :: .inLoop body::k) e=(s2,e2)) (h:Goes P f R n ds s2 e2 w):Goes P f R n ds (.code (.loop body)::k) e w :=
 Goes.step (fun _ _ _ _=>stepR_loop) (Goes.adv hT 400 ha h)
theorem Goes.of_wp (hro:R.ro=none) {c:Code} {k:List Item} (h:∀ a,a.defers=ds→Fits n a e→c.wp P (fun ex a' w'=>ex = .normal∧a'.defers=ds ∧ ∃ e',Fits n a' e'∧Goes P f R n ds k e' w') a w):Goes P f R n ds (.code c::k) e w:=by
 intro b cs a hb hk hd hf
 obtain ⟨ex,a',w',⟨hex,hd',e',hf',hg⟩,harr⟩:=h a hd hf b k cs
 subst hex
 obtain ⟨en,w2,fr,hR,hc,h1,h2⟩:=hg b cs a' hb hk hd' hf'
 rw [Frame.atR_of_none (hk.trans hro)] at hc ⊢
 exact ⟨en,w2,fr,hR,.of_steps harr hc,h1,h2⟩
theorem wpQS_quiet {ops:Array Oper} {Q:Act→Prop}:∀ (l:List Oper) (a:Act),wpQS P ops (fun w'=>Chg None' w w') Q l a→wpQuiet P ops (fun w'=>Chg None' w w') Q l a
 |[],a,h=>h
 |o::l,a,h=>by
  unfold wpQS at h
  unfold wpQuiet
  split
  ·rename_i hw; rw [if_pos hw] at h
   obtain ⟨v,h1,h2⟩:=h
   refine ⟨v,fun w' hw' => ?_,wpQS_quiet l _ h2⟩
   have h3:=h1 w' hw'
   unfold quietSt at h3
   unfold Oper.quietAt
   generalize (execOp a.eval o).run P w'=r at h3
   cases r with
   |ok nx w1 =>
    cases nx <;> simp only at h3 <;> simp only [Oper.quietUpon] <;> first | exact h3 | exact h3.elim | skip
    case enter k args=>exact ⟨h3.1,h3.2.mono fun en w2 ⟨g1,g2⟩=>⟨g1,hw'.trans g2⟩⟩
   |halt x w1=>exact h3.elim
  ·rename_i hw; rw [if_neg hw] at h; exact wpQS_quiet l _ h
def Quiet (P:Program) (n:Nat) (ops:Array Oper) (w:World) (l:List Oper) (e:Env) (K:Env→Prop):Prop :=
 ∀ (a:Act) (ds:List Deferred),a.defers=ds→Fits n a e→wpQS P ops (fun w'=>Chg None' w w') (fun a'=>a'.defers=ds ∧ ∃ e',Fits n a' e'∧K e') l a
theorem Goes.quiet (hro:R.ro=none) {id:Nat} {ops:Array Oper} {k:List Item} (hm:P.follows .mixedOrders=true) (hB:Region.lexB .any ops=true)
 (h:Quiet P n ops w ops.toList e (fun e' => ∀ w',Chg None' w w'→Goes P f R n ds k e' w')):Goes P f R n ds (.code (.region id ops true)::k) e w :=
 Goes.of_wp hro fun a hd hf=>wp_region_quiet (C:=fun w'=>Chg None' w w') hm hB ((Chg.refl _ _).drew _) (by
  refine wpQS_quiet ops.toList a (wpQS_mono ?_ _ _ (h a ds hd hf))
  exact fun a' ⟨hd',e',hf',hK⟩ w' hw'=>⟨rfl,hd',e',hf',hK w' hw'⟩)
theorem mixB_spec {ops:Array Oper} {q:Nat} (h:mixB ops q=true):Region.noSelect ops=true∧q<ops.size ∧
 (∃ o,ops[q]? = some o∧o.after = #[]∧o.guard=none ∧ ∀ j oj,j<q→ops[j]? = some oj→oj.apart ops o=true ∧ ∀ e ∈ oj.after,Region.binds .any e=true→e.on≠q) ∧
 (∀ j o,q<j→ops[j]? = some o → ∀ i,i≤q → ∃ e ∈ o.after,Region.binds .any e=true∧e.on=i) ∧
 ∃ L,lexTo ops q 0 (Array.replicate ops.size false)=some L∧Region.ready .any ops L = [q]∧forcedTo ops (ops.size - (q+1)) (q+1) (L.setIfInBounds q true)=true:=by
 unfold mixB at h
 simp only [Bool.and_eq_true] at h
 obtain ⟨⟨⟨⟨h1,h2⟩,h3⟩,h4⟩,h5⟩:=h
 have hq:q<ops.size:=by simpa [Nat.blt_eq] using h2
 refine ⟨h1,hq,?_,?_,?_⟩
 ·split at h3
  ·rename_i o ho
   simp only [Bool.and_eq_true] at h3
   obtain ⟨⟨g1,g2⟩,g3⟩:=h3
   refine ⟨o,ho,by simpa using g1,by simpa using g2,fun j oj hj hoj => ?_⟩
   have:=List.all_eq_true.1 g3 j (by simpa using hj)
   rw [hoj] at this
   simp only [Bool.and_eq_true] at this
   refine ⟨this.1,fun e he hb heq => ?_⟩
   have h6:=Array.all_eq_true_iff_forall_mem.1 this.2 e he
   simp only [md] at h6
   rw [hb,heq] at h6
   simp at h6
  ·cases h3
 ·intro j o hj ho i hi
  have hjs:j<ops.size:=(Array.getElem?_eq_some_iff.1 ho).1
  have:=List.all_eq_true.1 h4 j (by rw [List.mem_range']; exact ⟨j - (q+1),by omega,by omega⟩)
  rw [ho] at this
  have h6:=List.all_eq_true.1 this i (by simp; omega)
  obtain ⟨e,he,h7⟩:=Array.any_eq_true'.1 h6
  simp only [Bool.and_eq_true,beq_iff_eq] at h7
  exact ⟨e,he,h7.1,h7.2⟩
 ·split at h5
  ·rename_i L hL
   simp only [Bool.and_eq_true,beq_iff_eq] at h5
   exact ⟨L,hL,h5.1,h5.2⟩
  ·cases h5
theorem Goes.quietF {id:Nat} {ops:Array Oper} {k:List Item} {q t d:Nat} {z:List Value} {o:Oper} (hT:TabOk P T) (hm:P.follows .mixedOrders=true) (hB:mixB ops q=true)
 (ho:nth ops.toList q=some o) (hz:allocOf T [] o=some (z,t)) (hd:o.dst=some d) (hlt:Nat.blt d n=true)
 (h:Quiet P n ops w (ops.toList.take q) e (fun e' => ∀ b w',Chg None' w w'→w.heap.size≤b→w'.heap[b]? = some (.cells z.toArray t (0,0)) →
  Goes P f R n ds (.inRegion ops (List.range' (q+1) (ops.size - (q+1)))::k) ((d,false,.pointer (some ⟨b,0,none⟩))::e') w')):Goes P f R n ds (.code (.region id ops true)::k) e w:=by
 obtain ⟨hsel,hq,⟨o',ho',hfa,hfg,hapart⟩,htail,L,hL,hLr,hfor⟩:=mixB_spec hB
 have hoo:o'=o:=by have:=nth_at ho; rw [ho'] at this; exact Option.some.inj this
 subst hoo
 intro b cs a hb hk hds hf
 have hQ:=h a ds hds hf
 have hlen:(ops.toList.take q).length=q:=by simp; omega
 have hlex:=wpF_lex (P:=P) (C:=fun w'=>Chg None' w w') (f:=q) (Lf:=L) hsel (by rw [hLr]; simp) (ops.toList.take q) 0 (Array.replicate ops.size false) a
  (fun j hj=>by rw [hlen] at hj; rw [List.getElem?_take,if_pos hj]; simp) (by rw [hlen]; omega) (by rw [hlen]; exact hL) hQ
 rw [hlen] at hlex
 have hsz:ops.size=q+1+(ops.size - (q+1)):=by omega
 have hrun:∀ (a:Act) (w:World),(execOp a.eval o').run P w = .ok (.value (.pointer (some ⟨w.heap.size,0,none⟩))) {w with heap:=w.heap.push (.cells z.toArray t)}:=fun a w =>
  allocOf_run (n:=a.tmps.size) (e := []) hT hz a ⟨rfl,fun t v h=>by simp [look] at h⟩
 have hany:=mix_before (P:=P) (fn:=f) (R:=R) (k:=k) (w0:=w) (tf:=ops.size - (q+1)) (z:=z) (t:=t) ho' (Region.noSelect_spec hsel) hd hfa hfg hrun hapart htail
  (fun a' w' b' ⟨hd',e',hf',hK⟩ hc hbs hzz=>by
   intro t'
   rw [forced_lin _ _ _ hfor t']
   intro b2 cs2 hb2 hk2
   exact hK b' w' hc hbs hzz b2 cs2 _ hb2 hk2 (by simpa [Act.put] using hd') (hf'.put d false _ (by simpa [Nat.blt_eq] using hlt)))
  q _ a {w with drawn:=w.drawn+1} hlex (by simpa using hq) (by simp [hq]) ((Chg.refl _ _).drew _)
 rw [← hsz] at hany
 obtain ⟨en,w',fr,hR,hc,h1,h2⟩:=hany (w.tape w.drawn (.order b.fn id)) b cs hb hk
 refine ⟨en,w',fr,hR,.of_steps (.one ?_) hc,h1,h2⟩
 rw [stepR_region_draw]
 simp only [Region.schedule,hm,Bool.true_or,if_true]
 rfl
section
variable {ops:Array Oper} {l l':List Oper} {K:Env→Prop}
def advQ (T:Tab) (n:Nat) (ops:Array Oper):List Oper→Env→List Oper × Env
 |[],e=>([],e)
 |o::l,e=>match want e ops o with
  |some false=>match putE n o.dst true undef e with
   |some e'=>advQ T n ops l e'
   |none=>(o::l,e)
  |some true=>match opV T e o.op with
   |some v=>match putE n o.dst (opF e o.op) v e with
    |some e'=>advQ T n ops l e'
    |none=>(o::l,e)
   |none=>(o::l,e)
  |none=>(o::l,e)
theorem Quiet.one {o:Oper} {v:Value} (hw:want e ops o=some true) {fl:Bool} (hp:putE n o.dst fl v e=some e')
 (hrun:∀ a w',Chg None' w w'→Fits n a e→(execOp a.eval o).run P w' = .ok (.value v) w') (h:Quiet P n ops w l e' K):Quiet P n ops w (o::l) e K:=by
 intro a ds hd hf
 unfold wpQS
 rw [if_pos (want_ok hf hw)]
 refine ⟨v,fun w' hw' => ?_,h (a.put o.dst v) ds (by cases o.dst <;> exact hd) (putE_ok hp a hf)⟩
 unfold quietSt
 rw [hrun a w' hw' hf]
 exact ⟨rfl,rfl⟩
theorem Quiet.skip {o:Oper} (hw:want e ops o=some false) {fl:Bool} (hp:putE n o.dst fl undef e=some e') (h:Quiet P n ops w l e' K):Quiet P n ops w (o::l) e K:=by
 intro a ds hd hf
 unfold wpQS
 rw [if_neg (by rw [want_ok hf hw]; simp)]
 exact h (a.put o.dst undef) ds (by cases o.dst <;> exact hd) (putE_ok hp a hf)
theorem advQ_ok (hT:TabOk P T):∀ (l:List Oper) (e:Env),Quiet P n ops w (advQ T n ops l e).1 (advQ T n ops l e).2 K→Quiet P n ops w l e K
 |[],e,h=>h
 |o::l,e,h=>by
  unfold advQ at h
  split at h
  ·rename_i hw
   split at h
   ·rename_i e' he; exact Quiet.skip hw he (advQ_ok hT l e' h)
   ·exact h
  ·rename_i hw
   split at h
   ·rename_i v hv
    split at h
    ·rename_i e' he; exact Quiet.one hw he (fun a w' _ hf=>opV_run hT hf hv w') (advQ_ok hT l e' h)
    ·exact h
   ·exact h
  ·exact h
theorem Quiet.adv (hT:TabOk P T) (h:advQ T n ops l e=(l',e')) (hg:Quiet P n ops w l' e' K):Quiet P n ops w l e K:=advQ_ok hT l e (by rw [h]; exact hg)
theorem Quiet.nil (h:K e):Quiet P n ops w [] e K:=fun _ _ hd hf=>⟨hd,e,hf,h⟩
theorem Quiet.weaken (h:Quiet P n ops w l e' K) (hs:∀ t v,look e' t=some v→look e t=some v):Quiet P n ops w l e K:=fun a ds hd hf=>h a ds hd (hf.weaken hs)
theorem Quiet.know {t:Nat} {b:Bool} {v:Value} (h:look e t=some v) (hg:Quiet P n ops w l ((t,b,v)::e) K):Quiet P n ops w l e K :=
 hg.weaken fun u x hu=>by
  rw [look_cons] at hu
  by_cases he:u=t
  ·subst he; rw [if_pos rfl] at hu; rw [h,hu]
  ·rwa [if_neg he] at hu
def askQ (ops:Array Oper) (l:List Oper) (e:Env):Option (Nat × Bool) :=
 match l with
 |o::_=>match o.guard,o.op with
  |none,.pick (.tmp t) _ _=>match look e t with
   |some (.bool p)=>some (t,p)
   |_=>none
  |some (j,_),_=>match nth ops.toList j with
   |some g=>match g.dst with
    |some d=>match look e d with
     |some (.bool p)=>some (d,p)
     |_=>none
    |none=>none
   |none=>none
  |_,_=>none
 |[]=>none
theorem look_askQ {t:Nat} {p:Bool} (h:askQ ops l e=some (t,p)):look e t=some (.bool p):=by
 unfold askQ at h
 split at h
 ·split at h
  ·split at h
   ·cases h; assumption
   ·cases h
  ·split at h
   ·split at h
    ·split at h
     ·cases h; assumption
     ·cases h
    ·cases h
   ·cases h
  ·cases h
 ·cases h
theorem Quiet.fork (hT:TabOk P T) {t:Nat} {p:Bool} {l1 l2:List Oper} {e1 e2:Env} (h:askQ ops l e=some (t,p)) (ha:advQ T n ops l ((t,true,.bool true)::e)=(l1,e1)) (hb:advQ T n ops l ((t,true,.bool false)::e)=(l2,e2))
 (ht:p=true→Quiet P n ops w l1 e1 K) (hf:p=false→Quiet P n ops w l2 e2 K):Quiet P n ops w l e K:=by
 have hl:=look_askQ h
 cases p with
 |true=>exact (Quiet.adv hT ha (ht rfl)).know hl
 |false=>exact (Quiet.adv hT hb (hf rfl)).know hl
theorem Quiet.yes (hT:TabOk P T) {t:Nat} {p:Bool} (h:askQ ops l e=some (t,p)) (hp:p=true) (ha:advQ T n ops l ((t,true,.bool true)::e)=(l',e')) (hg:Quiet P n ops w l' e' K):Quiet P n ops w l e K:=by
 subst hp; exact (Quiet.adv hT ha hg).know (look_askQ h)
theorem Quiet.no (hT:TabOk P T) {t:Nat} {p:Bool} (h:askQ ops l e=some (t,p)) (hp:p=false) (ha:advQ T n ops l ((t,true,.bool false)::e)=(l',e')) (hg:Quiet P n ops w l' e' K):Quiet P n ops w l e K:=by
 subst hp; exact (Quiet.adv hT ha hg).know (look_askQ h)
def atHeadQ {δ:Type} (g:Oper→Option δ) (n:Nat) (ops:Array Oper) (l:List Oper) (e:Env):Option (δ × Nat × List Oper) :=
 match l with
 |o::r=>match want e ops o with
  |some true=>match o.dst with
   |some d=>match Nat.blt d n with
    |true=>match g o with
     |some x=>some (x,d,r)
     |none=>none
    |false=>none
   |none=>none
  |_=>none
 |[]=>none
theorem atHeadQ_ok {δ:Type} {g:Oper→Option δ} {x:δ} {d:Nat} (h:atHeadQ g n ops l e=some (x,d,l')):∃ o,l=o::l'∧want e ops o=some true∧o.dst=some d∧Nat.blt d n=true∧g o=some x:=by
 unfold atHeadQ at h
 split at h
 ·rename_i o r
  split at h
  ·rename_i hw
   split at h
   ·rename_i d1 hd
    split at h
    ·rename_i hlt
     split at h
     ·rename_i y hy; cases h; exact ⟨o,rfl,hw,hd,hlt,hy⟩
     ·cases h
    ·cases h
   ·cases h
  ·cases h
 ·cases h
theorem Quiet.val (hT:TabOk P T) {δ:Type} {g:Oper→Option δ} {x:δ} {d:Nat} {v:Value} {l2:List Oper} {e2:Env} (h:atHeadQ g n ops l e=some (x,d,l'))
 (hrun:∀ o,g o=some x → ∀ a w',Chg None' w w'→Fits n a e→(execOp a.eval o).run P w' = .ok (.value v) w') (ha:advQ T n ops l' ((d,false,v)::e)=(l2,e2)) (hg:Quiet P n ops w l2 e2 K):Quiet P n ops w l e K:=by
 obtain ⟨o,rfl,hw,hd,hlt,hx⟩:=atHeadQ_ok h
 exact Quiet.one hw (by rw [hd]; exact putE_lt hlt) (hrun o hx) (Quiet.adv hT ha hg)
theorem Quiet.arith (hT:TabOk P T) {k:IntKind} {z z':Int} {d:Nat} {l2:List Oper} {e2:Env} (h:atHeadQ (arithOf T e) n ops l e=some ((k,z),d,l')) (hz:k.wrap z=z')
 (ha:advQ T n ops l' ((d,false,.int k z')::e)=(l2,e2)) (hg:Quiet P n ops w l2 e2 K):Quiet P n ops w l e K :=
 Quiet.val hT h (fun _ ho a w' _ hf=>arithOf_run hT ho hz a hf w') ha hg
theorem Quiet.div (hT:TabOk P T) {q:Bool} {k:IntKind} {x y z:Int} {d:Nat} {l2:List Oper} {e2:Env} (h:atHeadQ (divOf e) n ops l e=some ((q,k,x,y),d,l')) (hy:y≠0) (hz:divV q k x y=z)
 (ha:advQ T n ops l' ((d,false,.int k z)::e)=(l2,e2)) (hg:Quiet P n ops w l2 e2 K):Quiet P n ops w l e K :=
 Quiet.val hT h (fun _ ho a w' _ hf=>divOf_run ho hy hz a hf w') ha hg
theorem Quiet.index (hT:TabOk P T) {b off len sz d j:Nat} {i:Int} {l2:List Oper} {e2:Env} (h:atHeadQ (indexOf T e) n ops l e=some ((b,off,len,sz,i),d,l')) (h0:0≤i) (h1:i<len) (hj:i.toNat*sz=j)
 (ha:advQ T n ops l' ((d,false,.pointer (some ⟨b,off+j,none⟩))::e)=(l2,e2)) (hg:Quiet P n ops w l2 e2 K):Quiet P n ops w l e K :=
 Quiet.val hT h (fun _ ho a w' _ hf=>indexOf_run hT ho h0 h1 hj a hf w') ha hg
theorem Quiet.load (hT:TabOk P T) {b off d:Nat} {v:Value} {l2:List Oper} {e2:Env} (h:atHeadQ (loadOf T e) n ops l e=some ((b,off,none),d,l')) (hc:w.cell? ⟨b,off,none⟩=some v)
 (ha:advQ T n ops l' ((d,false,v)::e)=(l2,e2)) (hg:Quiet P n ops w l2 e2 K):Quiet P n ops w l e K :=
 Quiet.val hT h (fun _ ho a _ hw' hf=>loadOf_run hT ho (below_cell hw'.below hc) a hf) ha hg
theorem Quiet.loadb (hT:TabOk P T) {b off d:Nat} {v:Value} {c:List Value} {t:TypeId} {fz:Nat × Nat} {l2:List Oper} {e2:Env} (h:atHeadQ (loadOf T e) n ops l e=some ((b,off,none),d,l')) (hc:w.heap[b]? = some (.cells c.toArray t fz)) (hv:nthV c off=some v)
 (ha:advQ T n ops l' ((d,false,v)::e)=(l2,e2)) (hg:Quiet P n ops w l2 e2 K):Quiet P n ops w l e K :=
 Quiet.load hT h (cell_nth hc hv) ha hg
theorem Quiet.loads (hT:TabOk P T) {b off m d:Nat} {c vs:List Value} {t:TypeId} {fz:Nat × Nat} {l2:List Oper} {e2:Env} (h:atHeadQ (loadOf T e) n ops l e=some ((b,off,some m),d,l')) (hc:w.heap[b]? = some (.cells c.toArray t fz)) (hv:cut c off m=some vs)
 (ha:advQ T n ops l' ((d,false,.agg vs.toArray)::e)=(l2,e2)) (hg:Quiet P n ops w l2 e2 K):Quiet P n ops w l e K :=
 Quiet.val hT h (fun _ ho a _ hw' hf=>loadsOf_run hT ho (hw'.heap' hc) hv a hf) ha hg
theorem Quiet.call (hT:TabOk P T) {k d:Nat} {as:List Value} {v:Value} {l2:List Oper} {e2:Env} (h:atHeadQ (callOf e) n ops l e=some ((k,as),d,l')) (hd:∀ w',Chg None' w w'→Does P k as.toArray w' (fun u w2=>u=v∧Chg None' w' w2))
 (ha:advQ T n ops l' ((d,false,v)::e)=(l2,e2)) (hg:Quiet P n ops w l2 e2 K):Quiet P n ops w l e K:=by
 obtain ⟨o,rfl,hw,hdd,hlt,hx⟩:=atHeadQ_ok h
 have hg':=Quiet.adv hT ha hg
 intro a ds hds hf
 unfold wpQS
 rw [if_pos (want_ok hf hw)]
 refine ⟨v,fun w' hw' => ?_,hg' (a.put o.dst v) ds (by cases o.dst <;> exact hds) (putE_ok (by rw [hdd]; exact putE_lt hlt) a hf)⟩
 unfold quietSt
 have hdo:=hd w' hw'
 rw [callOf_run (P:=P) (w:=w') hx hdo.fn a hf]
 refine ⟨rfl,hdo.calls.mono fun en w2 ⟨u,hen,hu,hc⟩ => ?_⟩
 subst hu
 exact ⟨hen,hc⟩
end
end
end Go.Proofs.YtnaoiegcobineaaGreatDoor
