/-
  Rule3
-/
import Derived.Test.YtgddpaiandefgaaGreatDoorQMix
import Derived.Deep.Quiet
namespace Go.Proofs.YtgddpaiandefgaaGreatDoor
open Go.RowKit
section
variable {P:Program} {T:Tab} {f:FuncId} {R:Aim} {Post:Value→World→Prop} {n:Nat} {ds:List Deferred} {s s':List Item} {e e':Env} {w w':World}
def Xed (e:Env) (o:Oper):Option (Nat × List Value) :=
 match o.op with
 |.call c=>match c.callee,evs e c.args.toList with
  |.value x,some l=>match ev e x with
   |some (.func (.func k) first captured)=>some (k,first.toList++l++captured.toList)
   |_=>none
  |_,_=>none
 |_=>none
theorem Xee {k:Nat} {l:List Value} {o:Oper} (h:Xed e o=some (k,l)) (hk:Xaw P k):∀ a,Xau n a e→(execOp a.eval o).run P w = .ok (.enter k l.toArray) w:=by
 intro a hf;obtain ⟨fn,i,b,d⟩:=hk;unfold Xed at h;split at h
 ·rename_i c j
  split at h
  ·rename_i x g m p
   split at h
   ·rename_i r first captured q
    cases h
    have f:c.args.map a.eval=g.toArray:=XkD (hf.evs p);simp only [execOp,j,resolve,m,f,hf.ev q,Deferred.ofValue];refine (XqJ (show (pure _:Sem Deferred).run P w = .ok _ w from rfl)).trans ?_;simp only [invoke,callFunc];refine (XqJ (x:=P) (w':=w) rfl).trans ?_;simp only [i,b,Bool.false_eq_true,if_false,d];rw [show first++g.toArray++captured=(first.toList++g++captured.toList).toArray from Array.ext' (by simp)];rfl
   ·cases h
  ·cases h
 ·cases h
theorem Xay.enter {o:Oper} {k:Nat} {l:List Value} {Q:Value→World→Prop} {E:Value→Env} (h:XhA s e=some (o,s')) (hcl:Xed e o=some (k,l)) (hd:Xan P k l.toArray w Q)
 (hp:∀ v,XoA n o.dst false v e=some (E v)) (hg:∀ v w1,Q v w1→Xay P f R n ds s' (E v) w1):Xay P f R n ds s e w:=by
 unfold XhA at h;split at h
 ·rename_i ops i rest k'
  split at h
  ·rename_i o' p
   split at h
   ·rename_i y
    cases h
    intro b cs a z A q hf;have r:=Xee (P:=P) (w:=w) hcl hd.fn a hf;obtain ⟨en,w1,fr,⟨v,t,B⟩,c,_,d⟩:=hd.calls (b.atR a (.inRegion ops (i::rest)::k')::cs);subst t;have g:Go.step P (lone (b.atR a (.inRegion ops (i::rest)::k')) cs w) =
     .next (lone (Frame.enter P k l.toArray .normal) (b.atR a (.inRegion ops (i::rest)::k')::cs) w) :=
     step_lone_go (by rw [Xtu (Xl5 p) (Xv4 hf y) r (by simp)]; simp [stepG.apply,r,Frame.atR])
    have j:(a.put o.dst v).defers=ds:=by cases o.dst <;> exact q
    obtain ⟨u,C,x,D,F,G,H⟩:=hg v w1 B b cs (a.put o.dst v) z A j (XoE (hp v) a hf);refine ⟨u,C,x,D,.of_steps (.head g (Steps.trans c (.one ?_))) F,G,H⟩;have m:(b.atR a (.inRegion ops (i::rest)::k')).finish v=b.atR (a.put o.dst v) (.inRegion ops rest::k'):=by
     rw [Frame.finish_atR,Xl5 p]; rfl
    rw [← m];exact step_leave_returned d
   ·cases h
  ·cases h
 ·cases h
theorem Xay.call {k d:Nat} {l:List Value} {Q:Value→World→Prop} (h:XcY (Xed e) n s e=some ((k,l),d,s')) (hd:Xan P k l.toArray w Q)
 (hg:∀ v w1,Q v w1→Xay P f R n ds s' ((d,false,v)::e) w1):Xay P f R n ds s e w:=by
 obtain ⟨o,c,a,b,g⟩:=Xc1 h;exact Xay.enter (E:=fun v=>(d,false,v)::e) c g hd (fun v=>by rw [a]; exact XoD b) hg
inductive Xbd (P:Program) (T:Tab) (w:World) (e:Env):List ResultVar→List Value→Prop
 |nil:Xbd P T w e [] []
 |tmp {t:Nat} {v:Value} {rs:List ResultVar} {vs:List Value}:look e t=some v→Xbd P T w e rs vs→Xbd P T w e (.tmp t::rs) (v::vs)
 |cell {t ty b off:Nat} {c l:List Value} {q:TypeId} {fz:Nat × Nat} {r:XbP} {rs:List ResultVar} {vs:List Value}:look e t=some (.pointer (some ⟨b,off,none⟩))→row T ty=some r→XiK r=true →
   w.heap[b]? = some (.cells c.toArray q fz)→cut c off r.size=some l→Xbd P T w e rs vs→Xbd P T w e (.cell t ty::rs) (.agg l.toArray::vs)
 |one {t ty b off:Nat} {v:Value} {r:XbP} {rs:List ResultVar} {vs:List Value}:look e t=some (.pointer (some ⟨b,off,none⟩))→row T ty=some r→XiK r=false →
   w.cell? ⟨b,off,none⟩=some v→Xbd P T w e rs vs→Xbd P T w e (.cell t ty::rs) (v::vs)
def Xpb (tmps:Array Value):ResultVar→Sem Value
 |.tmp t=>pure (tmps.getD t undef)
 |.cell a t=>do loadVar t (← asAddr (tmps.getD a undef))
theorem Xbd.run (hT:XbE P T) {a:Act} (hf:Xau n a e):∀ {rs:List ResultVar} {vs:List Value},Xbd P T w e rs vs→(rs.mapM (Xpb a.tmps)).run P w = .ok vs w:=by
 intro rs vs h
 induction h with
 |nil=>rfl
 |tmp b _ ih =>
  rw [List.mapM_cons];have:=hf.slot _ _ b;refine (XqJ (show (Xpb a.tmps (.tmp _)).run P w = .ok _ w from ?_)).trans ((XqJ ih).trans rfl);simp only [Xpb,Array.getD_eq_getD_getElem?,this]; rfl
 |cell b c d f g _ ih =>
  rw [List.mapM_cons];have:=hf.slot _ _ b;refine (XqJ (show (Xpb a.tmps (.cell _ _)).run P w = .ok _ w from ?_)).trans ((XqJ ih).trans rfl);simp only [Xpb,Array.getD_eq_getD_getElem?,this,Option.getD_some,asAddr];exact (XqJ (show (pure _:Sem Addr).run P w = .ok _ w from rfl)).trans (XjY hT c d f g)
 |one b c d f _ ih =>
  rw [List.mapM_cons];have:=hf.slot _ _ b;refine (XqJ (show (Xpb a.tmps (.cell _ _)).run P w = .ok _ w from ?_)).trans ((XqJ ih).trans rfl);simp only [Xpb,Array.getD_eq_getD_getElem?,this,Option.getD_some,asAddr];exact (XqJ (show (pure _:Sem Addr).run P w = .ok _ w from rfl)).trans (Xj0 hT c d f)
def Xpc:List Value→Value
 |[v]=>v
 |l => .tuple l.toArray
theorem Xpe (hT:XbE P T) {fn:Func} {a:Act} (hf:Xau n a e) {vs:List Value} (h:Xbd P T w e fn.results.toList vs):(results fn a.tmps).run P w = .ok (Xpc vs) w:=by
 have b:=h.run hT hf;unfold results;have:(fn.results.mapM (Xpb a.tmps)).run P w = .ok vs.toArray w:=by
  rw [Array.mapM_eq_mapM_toList];simp only [Sem.run_map,b,Result.andThen_ok]
 refine (XqJ (s:=fn.results.mapM (Xpb a.tmps)) this).trans ?_
 match vs with
 |[]=>rfl
 |[v]=>rfl
 |v::u::r => 
  simp only [Xpc];rw [dif_neg (by simp)];rfl
def XcX:List Item→Bool
 |[]=>true
 |.code .ret::_=>true
 |_=>false
theorem Xay.ret (hT:XbE P T) {fn:Func} {vs:List Value} (hs:XcX s=true) (hfn:P.funcs[f]? = some fn) (hr:Xbd P T w e fn.results.toList vs) (hp:Post (Xpc vs) w):Xay P f (Xbe Post) n [] s e w:=by
 intro b cs a g h l hf;have d:=Xpe hT hf hr;have c:∃ todo,Go.step P (lone (b.atR a s) cs w) = .next (lone {b.atR a todo with mode := .returning} cs w):=by
  unfold XcX at hs;split at hs
  ·exact ⟨[],stepR_end h⟩
  ·rename_i k; exact ⟨.code .ret::k,stepR_ret h⟩
  ·cases hs
 obtain ⟨todo,i⟩:=c;exact ⟨.returned (Xpc vs),w,_,fun _=>⟨_,rfl,hp⟩,.one i,g,fun _=>⟨rfl,l,rfl,fn,by rw [show ({b.atR a todo with mode := .returning}:Frame).fn=b.fn from rfl,g]; exact hfn,d⟩,fun j=>absurd rfl j⟩
theorem Xay.ret0 (hT:XbE P T) {fn:Func} (hs:XcX s=true) (hfn:P.funcs[f]? = some fn) (hr:fn.results.toList = []) (hp:Post (.tuple #[]) w):Xay P f (Xbe Post) n [] s e w :=
 Xay.ret hT (vs := []) hs hfn (by rw [hr]; exact .nil) hp
theorem Xay.ret1 (hT:XbE P T) {fn:Func} {t:Nat} {v:Value} (hs:XcX s=true) (hfn:P.funcs[f]? = some fn) (hr:fn.results.toList = [.tmp t]) (hv:look e t=some v) (hp:Post v w):Xay P f (Xbe Post) n [] s e w :=
 Xay.ret hT (vs := [v]) hs hfn (by rw [hr]; exact .tmp hv .nil) hp
theorem Xay.ret2 (hT:XbE P T) {fn:Func} {t t':Nat} {v v':Value} (hs:XcX s=true) (hfn:P.funcs[f]? = some fn) (hr:fn.results.toList = [.tmp t,.tmp t']) (hv:look e t=some v) (hv':look e t'=some v') (hp:Post (.tuple #[v,v']) w):Xay P f (Xbe Post) n [] s e w :=
 Xay.ret hT (vs := [v,v']) hs hfn (by rw [hr]; exact .tmp hv (.tmp hv' .nil)) hp
theorem Xay.knowB {t:Nat} {p q:Bool} (h:look e t=some (.bool p)) (hp:p=q) (hg:Xay P f R n ds s ((t,true,.bool q)::e) w):Xay P f R n ds s e w:=by
 subst hp; exact hg.know h
def Sub:Env→Env→Prop
 |[],_=>True
 |(t,_,v)::r,e=>look e t=some v∧Sub r e
theorem Sub.look:∀ {r e:Env},Sub r e → ∀ t v,look r t=some v→look e t=some v
 |[],e,_,t,v,h=>by simp [Go.Proofs.YtgddpaiandefgaaGreatDoor.look] at h
 |(u,_,x)::r,e,hs,t,v,h=>by
  rw [Xkb] at h;by_cases he:t=u
  ·subst he; rw [if_pos rfl] at h; cases h; exact hs.1
  ·rw [if_neg he] at h; exact hs.2.look t v h
theorem Xay.sub (hs:Sub e' e) (h:Xay P f R n ds s e' w):Xay P f R n ds s e w:=h.weaken hs.look
theorem Xay.loop {body:Code} {k:List Item} {α:Type} (I:α→Env) (W:α→World→Prop) (μ:α→Nat) (x0:α) (h0:Sub (I x0) e) (hw:W x0 w)
 (round:∀ x w,W x w→(∀ x' w' e',W x' w'→μ x'<μ x→Sub (I x') e'→Xay P f R n ds (.inLoop body::k) e' w')→Xay P f R n ds (.code body :: .inLoop body::k) (I x) w) :
 Xay P f R n ds (.code (.loop body)::k) e w:=by
 have key:∀ m x w,μ x=m→W x w→Xay P f R n ds (.code body :: .inLoop body::k) (I x) w:=by
  intro m
  induction m using Nat.strongRecOn with
  |_ m ih =>
   intro x w hm h;refine round x w h fun x' w' e' d g c => ?_;exact Xay.step (fun b cs a _=>stepR_inLoop) (Xay.sub c (ih (μ x') (hm▸g) x' w' rfl d))
 exact Xay.step (fun b cs a _=>stepR_loop) (Xay.sub h0 (key _ x0 w rfl hw))
theorem Xay.unroll (hT:XbE P T) {body:Code} {k:List Item} {s2:List Item} {e2:Env} (ha:Go.Proofs.YtgddpaiandefgaaGreatDoor.adv T n 400 (.code body :: .inLoop body::k) e=(s2,e2)) (h:Xay P f R n ds s2 e2 w):Xay P f R n ds (.code (.loop body)::k) e w :=
 Xay.step (fun _ _ _ _=>stepR_loop) (Xay.adv hT 400 ha h)
theorem Xay.of_wp (hro:R.ro=none) {c:Code} {k:List Item} (h:∀ a,a.defers=ds→Xau n a e→c.wp P (fun ex a' w'=>ex = .normal∧a'.defers=ds ∧ ∃ e',Xau n a' e'∧Xay P f R n ds k e' w') a w):Xay P f R n ds (.code c::k) e w:=by
 intro b cs a o g p hf;obtain ⟨ex,a',w',⟨i,j,e',l,q⟩,d⟩:=h a p hf b k cs;subst i;obtain ⟨en,r,fr,s,m,t,u⟩:=q b cs a' o g j l;rw [Frame.atR_of_none (g.trans hro)] at m ⊢;exact ⟨en,r,fr,s,.of_steps d m,t,u⟩
theorem Xwn {ops:Array Oper} {Q:Act→Prop}:∀ (l:List Oper) (a:Act),Xwl P ops (fun w'=>Chg XaX w w') Q l a→wpQuiet P ops (fun w'=>Chg XaX w w') Q l a
 |[],a,h=>h
 |o::l,a,h=>by
  unfold Xwl at h;unfold wpQuiet;split
  ·rename_i d; rw [if_pos d] at h
   obtain ⟨v,e,f⟩:=h;refine ⟨v,fun w' c => ?_,Xwn l _ f⟩;have b:=e w' c;unfold XoI at b;unfold Oper.quietAt;generalize (execOp a.eval o).run P w'=r at b
   cases r with
   |ok nx g =>
    cases nx <;> simp only at b <;> simp only [Oper.quietUpon] <;> first | exact b | exact b.elim | skip
    case enter k args=>exact ⟨b.1,b.2.mono fun en m ⟨i,j⟩=>⟨i,c.trans j⟩⟩
   |halt x g=>exact b.elim
  ·rename_i d; rw [if_neg d] at h; exact Xwn l _ h
def Xba (P:Program) (n:Nat) (ops:Array Oper) (w:World) (l:List Oper) (e:Env) (K:Env→Prop):Prop :=
 ∀ (a:Act) (ds:List Deferred),a.defers=ds→Xau n a e→Xwl P ops (fun w'=>Chg XaX w w') (fun a'=>a'.defers=ds ∧ ∃ e',Xau n a' e'∧K e') l a
theorem Xay.quiet (hro:R.ro=none) {id:Nat} {ops:Array Oper} {k:List Item} (hm:P.follows .mixedOrders=true) (hB:Region.lexB .any ops=true)
 (h:Xba P n ops w ops.toList e (fun e' => ∀ w',Chg XaX w w'→Xay P f R n ds k e' w')):Xay P f R n ds (.code (.region id ops true)::k) e w :=
 Xay.of_wp hro fun a g hf=>wp_region_quiet (C:=fun w'=>Chg XaX w w') hm hB ((Chg.refl _ _).drew _) (by
  refine Xwn ops.toList a (Xwm ?_ _ _ (h a ds g hf));exact fun a' ⟨b,e',c,i⟩ w' d=>⟨rfl,b,e',c,i w' d⟩)
theorem Xk0 {ops:Array Oper} {q:Nat} (h:XkZ ops q=true):Region.noSelect ops=true∧q<ops.size ∧
 (∃ o,ops[q]? = some o∧o.after = #[]∧o.guard=none ∧ ∀ j oj,j<q→ops[j]? = some oj→oj.apart ops o=true ∧ ∀ e ∈ oj.after,Region.binds .any e=true→e.on≠q) ∧
 (∀ j o,q<j→ops[j]? = some o → ∀ i,i≤q → ∃ e ∈ o.after,Region.binds .any e=true∧e.on=i) ∧
 ∃ L,Xjq ops q 0 (Array.replicate ops.size false)=some L∧Region.ready .any ops L = [q]∧XgP ops (ops.size - (q+1)) (q+1) (L.setIfInBounds q true)=true:=by
 unfold XkZ at h;simp only [Bool.and_eq_true] at h;obtain ⟨⟨⟨⟨n,p⟩,c⟩,r⟩,a⟩:=h;have s:q<ops.size:=by simpa [Nat.blt_eq] using p
 refine ⟨n,s,?_,?_,?_⟩
 ·split at c
  ·rename_i o d
   simp only [Bool.and_eq_true] at c;obtain ⟨⟨t,u⟩,v⟩:=c;refine ⟨o,d,by simpa using t,by simpa using u,fun j oj k l => ?_⟩;have:=List.all_eq_true.1 v j (by simpa using k);rw [l] at this;simp only [Bool.and_eq_true] at this;refine ⟨this.1,fun e f w m => ?_⟩;have b:=Array.all_eq_true_iff_forall_mem.1 this.2 e f;simp only [md] at b;rw [w,m] at b;simp at b
  ·cases c
 ·intro j o k d i z;have y:j<ops.size:=(Array.getElem?_eq_some_iff.1 d).1;have:=List.all_eq_true.1 r j (by rw [List.mem_range']; exact ⟨j - (q+1),by omega,by omega⟩);rw [d] at this;have b:=List.all_eq_true.1 this i (by simp; omega);obtain ⟨e,f,g⟩:=Array.any_eq_true'.1 b;simp only [Bool.and_eq_true,beq_iff_eq] at g;exact ⟨e,f,g.1,g.2⟩
 ·split at a
  ·rename_i L x
   simp only [Bool.and_eq_true,beq_iff_eq] at a;exact ⟨L,x,a.1,a.2⟩
  ·cases a
theorem Xay.quietF {id:Nat} {ops:Array Oper} {k:List Item} {q t d:Nat} {z:List Value} {o:Oper} (hT:XbE P T) (hm:P.follows .mixedOrders=true) (hB:XkZ ops q=true)
 (ho:nth ops.toList q=some o) (hz:Xcg T [] o=some (z,t)) (hd:o.dst=some d) (hlt:Nat.blt d n=true)
 (h:Xba P n ops w (ops.toList.take q) e (fun e' => ∀ b w',Chg XaX w w'→w.heap.size≤b→w'.heap[b]? = some (.cells z.toArray t (0,0)) →
  Xay P f R n ds (.inRegion ops (List.range' (q+1) (ops.size - (q+1)))::k) ((d,false,.pointer (some ⟨b,0,none⟩))::e') w')):Xay P f R n ds (.code (.region id ops true)::k) e w:=by
 obtain ⟨g,y,⟨o',r,B,D,i⟩,p,L,U,E,s⟩:=Xk0 hB;have F:o'=o:=by have:=Xl5 ho; rw [r] at this; exact Option.some.inj this
 subst F;intro b cs a V W G hf;have hQ:=h a ds G hf;have c:(ops.toList.take q).length=q:=by simp; omega
 have l:=Xwk (P:=P) (C:=fun w'=>Chg XaX w w') (f:=q) (Lf:=L) g (by rw [E]; simp) (ops.toList.take q) 0 (Array.replicate ops.size false) a
  (fun j H=>by rw [c] at H; rw [List.getElem?_take,if_pos H]; simp) (by rw [c]; omega) (by rw [c]; exact U) hQ
 rw [c] at l;have I:ops.size=q+1+(ops.size - (q+1)):=by omega
 have u:∀ (a:Act) (w:World),(execOp a.eval o').run P w = .ok (.value (.pointer (some ⟨w.heap.size,0,none⟩))) {w with heap:=w.heap.push (.cells z.toArray t)}:=fun a w =>
  Xch (n:=a.tmps.size) (e := []) hT hz a ⟨rfl,fun t v h=>by simp [look] at h⟩
 have m:=Xk2 (P:=P) (fn:=f) (R:=R) (k:=k) (w0:=w) (tf:=ops.size - (q+1)) (z:=z) (t:=t) r (Region.noSelect_spec g) hd B D u i p
  (fun a' w' b' ⟨J,e',K,hK⟩ x M N=>by
   intro t';rw [XgQ _ _ _ s t'];intro b2 O Q S;exact hK b' w' x M N b2 O _ Q S (by simpa [Act.put] using J) (K.put d false _ (by simpa [Nat.blt_eq] using hlt)))
  q _ a {w with drawn:=w.drawn+1} l (by simpa using y) (by simp [y]) ((Chg.refl _ _).drew _)
 rw [← I] at m;obtain ⟨en,w',fr,hR,x,h1,h2⟩:=m (w.tape w.drawn (.order b.fn id)) b cs V W;refine ⟨en,w',fr,hR,.of_steps (.one ?_) x,h1,h2⟩;rw [stepR_region_draw];simp only [Region.schedule,hm,Bool.true_or,if_true];rfl
section
variable {ops:Array Oper} {l l':List Oper} {K:Env→Prop}
def Xb4 (T:Tab) (n:Nat) (ops:Array Oper):List Oper→Env→List Oper × Env
 |[],e=>([],e)
 |o::l,e=>match Xv3 e ops o with
  |some false=>match XoA n o.dst true undef e with
   |some e'=>Xb4 T n ops l e'
   |none=>(o::l,e)
  |some true=>match opV T e o.op with
   |some v=>match XoA n o.dst (opF e o.op) v e with
    |some e'=>Xb4 T n ops l e'
    |none=>(o::l,e)
   |none=>(o::l,e)
  |none=>(o::l,e)
theorem Xba.one {o:Oper} {v:Value} (hw:Xv3 e ops o=some true) {fl:Bool} (hp:XoA n o.dst fl v e=some e')
 (hrun:∀ a w',Chg XaX w w'→Xau n a e→(execOp a.eval o).run P w' = .ok (.value v) w') (h:Xba P n ops w l e' K):Xba P n ops w (o::l) e K:=by
 intro a ds c hf;unfold Xwl;rw [if_pos (Xv4 hf hw)];refine ⟨v,fun w' b => ?_,h (a.put o.dst v) ds (by cases o.dst <;> exact c) (XoE hp a hf)⟩;unfold XoI;rw [hrun a w' b hf];exact ⟨rfl,rfl⟩
theorem Xba.skip {o:Oper} (hw:Xv3 e ops o=some false) {fl:Bool} (hp:XoA n o.dst fl undef e=some e') (h:Xba P n ops w l e' K):Xba P n ops w (o::l) e K:=by
 intro a ds b hf;unfold Xwl;rw [if_neg (by rw [Xv4 hf hw]; simp)];exact h (a.put o.dst undef) ds (by cases o.dst <;> exact b) (XoE hp a hf)
theorem Xb5 (hT:XbE P T):∀ (l:List Oper) (e:Env),Xba P n ops w (Xb4 T n ops l e).1 (Xb4 T n ops l e).2 K→Xba P n ops w l e K
 |[],e,h=>h
 |o::l,e,h=>by
  unfold Xb4 at h;split at h
  ·rename_i hw
   split at h
   ·rename_i e' he; exact Xba.skip hw he (Xb5 hT l e' h)
   ·exact h
  ·rename_i hw
   split at h
   ·rename_i v hv
    split at h
    ·rename_i e' he; exact Xba.one hw he (fun a w' _ hf=>Xmh hT hf hv w') (Xb5 hT l e' h)
    ·exact h
   ·exact h
  ·exact h
theorem Xba.adv (hT:XbE P T) (h:Xb4 T n ops l e=(l',e')) (hg:Xba P n ops w l' e' K):Xba P n ops w l e K:=Xb5 hT l e (by rw [h]; exact hg)
theorem Xba.nil (h:K e):Xba P n ops w [] e K:=fun _ _ a hf=>⟨a,e,hf,h⟩
theorem Xba.weaken (h:Xba P n ops w l e' K) (hs:∀ t v,look e' t=some v→look e t=some v):Xba P n ops w l e K:=fun a ds b hf=>h a ds b (hf.weaken hs)
theorem Xba.know {t:Nat} {b:Bool} {v:Value} (h:look e t=some v) (hg:Xba P n ops w l ((t,b,v)::e) K):Xba P n ops w l e K :=
 hg.weaken fun u x a=>by
  rw [Xkb] at a;by_cases c:u=t
  ·subst c; rw [if_pos rfl] at a; rw [h,a]
  ·rwa [if_neg c] at a
def XcW (ops:Array Oper) (l:List Oper) (e:Env):Option (Nat × Bool) :=
 match l with
 |o::_=>match o.guard,o.op with
  |none,.pick (.tmp t) _ _=>match look e t with
   |some (.bool p)=>some (t,p)
   |_=>none
  |some (j,_),_=>match nth ops.toList j with
   |some g=>match g.dst with
    |some d=>match look e d with
     |some (.bool p)=>some (d,p)
     |_=>none
    |none=>none
   |none=>none
  |_,_=>none
 |[]=>none
theorem Xka {t:Nat} {p:Bool} (h:XcW ops l e=some (t,p)):look e t=some (.bool p):=by
 unfold XcW at h;split at h
 ·split at h
  ·split at h
   ·cases h; assumption
   ·cases h
  ·split at h
   ·split at h
    ·split at h
     ·cases h; assumption
     ·cases h
    ·cases h
   ·cases h
  ·cases h
 ·cases h
theorem Xba.fork (hT:XbE P T) {t:Nat} {p:Bool} {l1 l2:List Oper} {e1 e2:Env} (h:XcW ops l e=some (t,p)) (ha:Xb4 T n ops l ((t,true,.bool true)::e)=(l1,e1)) (hb:Xb4 T n ops l ((t,true,.bool false)::e)=(l2,e2))
 (ht:p=true→Xba P n ops w l1 e1 K) (hf:p=false→Xba P n ops w l2 e2 K):Xba P n ops w l e K:=by
 have a:=Xka h;cases p with
 |true=>exact (Xba.adv hT ha (ht rfl)).know a
 |false=>exact (Xba.adv hT hb (hf rfl)).know a
theorem Xba.yes (hT:XbE P T) {t:Nat} {p:Bool} (h:XcW ops l e=some (t,p)) (hp:p=true) (ha:Xb4 T n ops l ((t,true,.bool true)::e)=(l',e')) (hg:Xba P n ops w l' e' K):Xba P n ops w l e K:=by
 subst hp; exact (Xba.adv hT ha hg).know (Xka h)
theorem Xba.no (hT:XbE P T) {t:Nat} {p:Bool} (h:XcW ops l e=some (t,p)) (hp:p=false) (ha:Xb4 T n ops l ((t,true,.bool false)::e)=(l',e')) (hg:Xba P n ops w l' e' K):Xba P n ops w l e K:=by
 subst hp; exact (Xba.adv hT ha hg).know (Xka h)
def XcZ {δ:Type} (g:Oper→Option δ) (n:Nat) (ops:Array Oper) (l:List Oper) (e:Env):Option (δ × Nat × List Oper) :=
 match l with
 |o::r=>match Xv3 e ops o with
  |some true=>match o.dst with
   |some d=>match Nat.blt d n with
    |true=>match g o with
     |some x=>some (x,d,r)
     |none=>none
    |false=>none
   |none=>none
  |_=>none
 |[]=>none
theorem Xc0 {δ:Type} {g:Oper→Option δ} {x:δ} {d:Nat} (h:XcZ g n ops l e=some (x,d,l')):∃ o,l=o::l'∧Xv3 e ops o=some true∧o.dst=some d∧Nat.blt d n=true∧g o=some x:=by
 unfold XcZ at h;split at h
 ·rename_i o r
  split at h
  ·rename_i b
   split at h
   ·rename_i i c
    split at h
    ·rename_i a
     split at h
     ·rename_i y f; cases h; exact ⟨o,rfl,b,c,a,f⟩
     ·cases h
    ·cases h
   ·cases h
  ·cases h
 ·cases h
theorem Xba.val (hT:XbE P T) {δ:Type} {g:Oper→Option δ} {x:δ} {d:Nat} {v:Value} {l2:List Oper} {e2:Env} (h:XcZ g n ops l e=some (x,d,l'))
 (hrun:∀ o,g o=some x → ∀ a w',Chg XaX w w'→Xau n a e→(execOp a.eval o).run P w' = .ok (.value v) w') (ha:Xb4 T n ops l' ((d,false,v)::e)=(l2,e2)) (hg:Xba P n ops w l2 e2 K):Xba P n ops w l e K:=by
 obtain ⟨o,rfl,c,f,b,i⟩:=Xc0 h;exact Xba.one c (by rw [f]; exact XoD b) (hrun o i) (Xba.adv hT ha hg)
theorem Xba.arith (hT:XbE P T) {k:IntKind} {z z':Int} {d:Nat} {l2:List Oper} {e2:Env} (h:XcZ (XcS T e) n ops l e=some ((k,z),d,l')) (hz:k.wrap z=z')
 (ha:Xb4 T n ops l' ((d,false,.int k z')::e)=(l2,e2)) (hg:Xba P n ops w l2 e2 K):Xba P n ops w l e K :=
 Xba.val hT h (fun _ b a w' _ hf=>XcT hT b hz a hf w') ha hg
theorem Xba.div (hT:XbE P T) {q:Bool} {k:IntKind} {x y z:Int} {d:Nat} {l2:List Oper} {e2:Env} (h:XcZ (XfG e) n ops l e=some ((q,k,x,y),d,l')) (hy:y≠0) (hz:XfI q k x y=z)
 (ha:Xb4 T n ops l' ((d,false,.int k z)::e)=(l2,e2)) (hg:Xba P n ops w l2 e2 K):Xba P n ops w l e K :=
 Xba.val hT h (fun _ b a w' _ hf=>XfH b hy hz a hf w') ha hg
theorem Xba.index (hT:XbE P T) {b off len sz d j:Nat} {i:Int} {l2:List Oper} {e2:Env} (h:XcZ (Xiy T e) n ops l e=some ((b,off,len,sz,i),d,l')) (h0:0≤i) (h1:i<len) (hj:i.toNat*sz=j)
 (ha:Xb4 T n ops l' ((d,false,.pointer (some ⟨b,off+j,none⟩))::e)=(l2,e2)) (hg:Xba P n ops w l2 e2 K):Xba P n ops w l e K :=
 Xba.val hT h (fun _ c a w' _ hf=>Xiz hT c h0 h1 hj a hf w') ha hg
theorem Xba.load (hT:XbE P T) {b off d:Nat} {v:Value} {l2:List Oper} {e2:Env} (h:XcZ (XjW T e) n ops l e=some ((b,off,none),d,l')) (hc:w.cell? ⟨b,off,none⟩=some v)
 (ha:Xb4 T n ops l' ((d,false,v)::e)=(l2,e2)) (hg:Xba P n ops w l2 e2 K):Xba P n ops w l e K :=
 Xba.val hT h (fun _ f a _ c hf=>XjX hT f (Xdk c.below hc) a hf) ha hg
theorem Xba.loadb (hT:XbE P T) {b off d:Nat} {v:Value} {c:List Value} {t:TypeId} {fz:Nat × Nat} {l2:List Oper} {e2:Env} (h:XcZ (XjW T e) n ops l e=some ((b,off,none),d,l')) (hc:w.heap[b]? = some (.cells c.toArray t fz)) (hv:Xl3 c off=some v)
 (ha:Xb4 T n ops l' ((d,false,v)::e)=(l2,e2)) (hg:Xba P n ops w l2 e2 K):Xba P n ops w l e K :=
 Xba.load hT h (Xek hc hv) ha hg
theorem Xba.loads (hT:XbE P T) {b off m d:Nat} {c vs:List Value} {t:TypeId} {fz:Nat × Nat} {l2:List Oper} {e2:Env} (h:XcZ (XjW T e) n ops l e=some ((b,off,some m),d,l')) (hc:w.heap[b]? = some (.cells c.toArray t fz)) (hv:cut c off m=some vs)
 (ha:Xb4 T n ops l' ((d,false,.agg vs.toArray)::e)=(l2,e2)) (hg:Xba P n ops w l2 e2 K):Xba P n ops w l e K :=
 Xba.val hT h (fun _ g a _ f hf=>Xj2 hT g (f.heap' hc) hv a hf) ha hg
theorem Xba.call (hT:XbE P T) {k d:Nat} {as:List Value} {v:Value} {l2:List Oper} {e2:Env} (h:XcZ (Xed e) n ops l e=some ((k,as),d,l')) (hd:∀ w',Chg XaX w w'→Xan P k as.toArray w' (fun u w2=>u=v∧Chg XaX w' w2))
 (ha:Xb4 T n ops l' ((d,false,v)::e)=(l2,e2)) (hg:Xba P n ops w l2 e2 K):Xba P n ops w l e K:=by
 obtain ⟨o,rfl,p,c,f,q⟩:=Xc0 h;have g:=Xba.adv hT ha hg;intro a ds i hf;unfold Xwl;rw [if_pos (Xv4 hf p)];refine ⟨v,fun w' j => ?_,g (a.put o.dst v) ds (by cases o.dst <;> exact i) (XoE (by rw [c]; exact XoD f) a hf)⟩;unfold XoI;have b:=hd w' j;rw [Xee (P:=P) (w:=w') q b.fn a hf];refine ⟨rfl,b.calls.mono fun en w2 ⟨u,m,r,s⟩ => ?_⟩;subst r;exact ⟨m,s⟩
end
end
end Go.Proofs.YtgddpaiandefgaaGreatDoor
