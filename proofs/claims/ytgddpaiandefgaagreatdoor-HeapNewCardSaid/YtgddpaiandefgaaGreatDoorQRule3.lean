/-
  Rule3
-/
import Derived.Test.YtgddpaiandefgaaGreatDoorQMix
import Derived.Deep.Quiet
namespace Go.Proofs.YtgddpaiandefgaaGreatDoor
open Go.RowKit
section
variable {P:Program} {T:Tab} {f:FuncId} {R:Aim} {Post:Value→World→Prop} {n:Nat} {ds:List Deferred} {s s':List Item} {e e':Env} {w w':World}
def XdZ (e:Env) (o:Oper):Option (Nat × List Value) :=
 match o.op with
 |.call c=>match c.callee,evs e c.args.toList with
  |.value x,some l=>match ev e x with
   |some (.func (.func k) first captured)=>some (k,first.toList++l++captured.toList)
   |_=>none
  |_,_=>none
 |_=>none
theorem Xd0 {k:Nat} {l:List Value} {o:Oper} (h:XdZ e o=some (k,l)) (hk:Xaw P k):∀ a,Xau n a e→(execOp a.eval o).run P w = .ok (.enter k l.toArray) w:=by
 intro a i;obtain ⟨fn,j,b,d⟩:=hk;unfold XdZ at h;split at h
 ·rename_i c m
  split at h
  ·rename_i x g p q
   split at h
   ·rename_i s first captured r
    cases h
    have f:c.args.map a.eval=g.toArray:=XjJ (i.evs q);simp only [execOp,m,resolve,p,f,i.ev r,Deferred.ofValue];refine (Xpj (show (pure _:Sem Deferred).run P w = .ok _ w from rfl)).trans ?_;simp only [invoke,callFunc];refine (Xpj (x:=P) (w':=w) rfl).trans ?_;simp only [j,b,Bool.false_eq_true,if_false,d];rw [show first++g.toArray++captured=(first.toList++g++captured.toList).toArray from Array.ext' (by simp)];rfl
   ·cases h
  ·cases h
 ·cases h
theorem Xay.enter {o:Oper} {k:Nat} {l:List Value} {Q:Value→World→Prop} {E:Value→Env} (h:Xg6 s e=some (o,s')) (hcl:XdZ e o=some (k,l)) (hd:Xan P k l.toArray w Q)
 (hp:∀ v,Xnu n o.dst false v e=some (E v)) (hg:∀ v w1,Q v w1→Xay P f R n ds s' (E v) w1):Xay P f R n ds s e w:=by
 unfold Xg6 at h;split at h
 ·rename_i ops i rest k'
  split at h
  ·rename_i o' q
   split at h
   ·rename_i z
    cases h
    intro b cs a A B r j;have t:=Xd0 (P:=P) (w:=w) hcl hd.fn a j;obtain ⟨en,w1,fr,⟨v,u,C⟩,c,_,d⟩:=hd.calls (b.atR a (.inRegion ops (i::rest)::k')::cs);subst u;have g:Go.step P (lone (b.atR a (.inRegion ops (i::rest)::k')) cs w) =
     .next (lone (Frame.enter P k l.toArray .normal) (b.atR a (.inRegion ops (i::rest)::k')::cs) w) :=
     step_lone_go (by rw [XrT (Xla q) (Xuf j z) t (by simp)]; simp [stepG.apply,t,Frame.atR])
    have m:(a.put o.dst v).defers=ds:=by cases o.dst <;> exact r
    obtain ⟨x,D,y,F,G,H,I⟩:=hg v w1 C b cs (a.put o.dst v) A B m (Xny (hp v) a j);refine ⟨x,D,y,F,.of_steps (.head g (Steps.trans c (.one ?_))) G,H,I⟩;have p:(b.atR a (.inRegion ops (i::rest)::k')).finish v=b.atR (a.put o.dst v) (.inRegion ops rest::k'):=by
     rw [Frame.finish_atR,Xla q]; rfl
    rw [← p];exact step_leave_returned d
   ·cases h
  ·cases h
 ·cases h
theorem Xay.call {k d:Nat} {l:List Value} {Q:Value→World→Prop} (h:XcR (XdZ e) n s e=some ((k,l),d,s')) (hd:Xan P k l.toArray w Q)
 (hg:∀ v w1,Q v w1→Xay P f R n ds s' ((d,false,v)::e) w1):Xay P f R n ds s e w:=by
 obtain ⟨o,c,a,b,g⟩:=XcU h;exact Xay.enter (E:=fun v=>(d,false,v)::e) c g hd (fun v=>by rw [a]; exact Xnx b) hg
inductive Xba (P:Program) (T:Tab) (w:World) (e:Env):List ResultVar→List Value→Prop
 |nil:Xba P T w e [] []
 |tmp {t:Nat} {v:Value} {rs:List ResultVar} {vs:List Value}:look e t=some v→Xba P T w e rs vs→Xba P T w e (.tmp t::rs) (v::vs)
 |cell {t ty b off:Nat} {c l:List Value} {q:TypeId} {fz:Nat × Nat} {r:XbL} {rs:List ResultVar} {vs:List Value}:look e t=some (.pointer (some ⟨b,off,none⟩))→row T ty=some r→Xh2 r=true →
   w.heap[b]? = some (.cells c.toArray q fz)→cut c off r.size=some l→Xba P T w e rs vs→Xba P T w e (.cell t ty::rs) (.agg l.toArray::vs)
 |one {t ty b off:Nat} {v:Value} {r:XbL} {rs:List ResultVar} {vs:List Value}:look e t=some (.pointer (some ⟨b,off,none⟩))→row T ty=some r→Xh2 r=false →
   w.cell? ⟨b,off,none⟩=some v→Xba P T w e rs vs→Xba P T w e (.cell t ty::rs) (v::vs)
def XnU (tmps:Array Value):ResultVar→Sem Value
 |.tmp t=>pure (tmps.getD t undef)
 |.cell a t=>do loadVar t (← asAddr (tmps.getD a undef))
theorem Xba.run (hT:XbB P T) {a:Act} (hf:Xau n a e):∀ {rs:List ResultVar} {vs:List Value},Xba P T w e rs vs→(rs.mapM (XnU a.tmps)).run P w = .ok vs w:=by
 intro rs vs h
 induction h with
 |nil=>rfl
 |tmp b _ ih =>
  rw [List.mapM_cons];have:=hf.slot _ _ b;refine (Xpj (show (XnU a.tmps (.tmp _)).run P w = .ok _ w from ?_)).trans ((Xpj ih).trans rfl);simp only [XnU,Array.getD_eq_getD_getElem?,this]; rfl
 |cell b c d f g _ ih =>
  rw [List.mapM_cons];have:=hf.slot _ _ b;refine (Xpj (show (XnU a.tmps (.cell _ _)).run P w = .ok _ w from ?_)).trans ((Xpj ih).trans rfl);simp only [XnU,Array.getD_eq_getD_getElem?,this,Option.getD_some,asAddr];exact (Xpj (show (pure _:Sem Addr).run P w = .ok _ w from rfl)).trans (Xi8 hT c d f g)
 |one b c d f _ ih =>
  rw [List.mapM_cons];have:=hf.slot _ _ b;refine (Xpj (show (XnU a.tmps (.cell _ _)).run P w = .ok _ w from ?_)).trans ((Xpj ih).trans rfl);simp only [XnU,Array.getD_eq_getD_getElem?,this,Option.getD_some,asAddr];exact (Xpj (show (pure _:Sem Addr).run P w = .ok _ w from rfl)).trans (Xja hT c d f)
def XnV:List Value→Value
 |[v]=>v
 |l => .tuple l.toArray
theorem XnW (hT:XbB P T) {fn:Func} {a:Act} (hf:Xau n a e) {vs:List Value} (h:Xba P T w e fn.results.toList vs):(results fn a.tmps).run P w = .ok (XnV vs) w:=by
 have b:=h.run hT hf;unfold results;have:(fn.results.mapM (XnU a.tmps)).run P w = .ok vs.toArray w:=by
  rw [Array.mapM_eq_mapM_toList];simp only [Sem.run_map,b,Result.andThen_ok]
 refine (Xpj (s:=fn.results.mapM (XnU a.tmps)) this).trans ?_
 match vs with
 |[]=>rfl
 |[v]=>rfl
 |v::u::r => 
  simp only [XnV];rw [dif_neg (by simp)];rfl
def XcQ:List Item→Bool
 |[]=>true
 |.code .ret::_=>true
 |_=>false
theorem Xay.ret (hT:XbB P T) {fn:Func} {vs:List Value} (hs:XcQ s=true) (hfn:P.funcs[f]? = some fn) (hr:Xba P T w e fn.results.toList vs) (hp:Post (XnV vs) w):Xay P f (Xbb Post) n [] s e w:=by
 intro b cs a g h l m;have d:=XnW hT m hr;have c:∃ todo,Go.step P (lone (b.atR a s) cs w) = .next (lone {b.atR a todo with mode := .returning} cs w):=by
  unfold XcQ at hs;split at hs
  ·exact ⟨[],stepR_end h⟩
  ·rename_i k; exact ⟨.code .ret::k,stepR_ret h⟩
  ·cases hs
 obtain ⟨todo,i⟩:=c;exact ⟨.returned (XnV vs),w,_,fun _=>⟨_,rfl,hp⟩,.one i,g,fun _=>⟨rfl,l,rfl,fn,by rw [show ({b.atR a todo with mode := .returning}:Frame).fn=b.fn from rfl,g]; exact hfn,d⟩,fun j=>absurd rfl j⟩
theorem Xay.ret0 (hT:XbB P T) {fn:Func} (hs:XcQ s=true) (hfn:P.funcs[f]? = some fn) (hr:fn.results.toList = []) (hp:Post (.tuple #[]) w):Xay P f (Xbb Post) n [] s e w :=
 Xay.ret hT (vs := []) hs hfn (by rw [hr]; exact .nil) hp
theorem Xay.ret1 (hT:XbB P T) {fn:Func} {t:Nat} {v:Value} (hs:XcQ s=true) (hfn:P.funcs[f]? = some fn) (hr:fn.results.toList = [.tmp t]) (hv:look e t=some v) (hp:Post v w):Xay P f (Xbb Post) n [] s e w :=
 Xay.ret hT (vs := [v]) hs hfn (by rw [hr]; exact .tmp hv .nil) hp
theorem Xay.ret2 (hT:XbB P T) {fn:Func} {t t':Nat} {v v':Value} (hs:XcQ s=true) (hfn:P.funcs[f]? = some fn) (hr:fn.results.toList = [.tmp t,.tmp t']) (hv:look e t=some v) (hv':look e t'=some v') (hp:Post (.tuple #[v,v']) w):Xay P f (Xbb Post) n [] s e w :=
 Xay.ret hT (vs := [v,v']) hs hfn (by rw [hr]; exact .tmp hv (.tmp hv' .nil)) hp
theorem Xay.knowB {t:Nat} {p q:Bool} (h:look e t=some (.bool p)) (hp:p=q) (hg:Xay P f R n ds s ((t,true,.bool q)::e) w):Xay P f R n ds s e w:=by
 subst hp; exact hg.know h
def Sub:Env→Env→Prop
 |[],_=>True
 |(t,_,v)::r,e=>look e t=some v∧Sub r e
theorem Sub.look:∀ {r e:Env},Sub r e → ∀ t v,look r t=some v→look e t=some v
 |[],e,_,t,v,h=>by simp [Go.Proofs.YtgddpaiandefgaaGreatDoor.look] at h
 |(u,_,x)::r,e,hs,t,v,h=>by
  rw [Xjk] at h;by_cases he:t=u
  ·subst he; rw [if_pos rfl] at h; cases h; exact hs.1
  ·rw [if_neg he] at h; exact hs.2.look t v h
theorem Xay.sub (hs:Sub e' e) (h:Xay P f R n ds s e' w):Xay P f R n ds s e w:=h.weaken hs.look
theorem Xay.loop {body:Code} {k:List Item} {α:Type} (I:α→Env) (W:α→World→Prop) (μ:α→Nat) (x0:α) (h0:Sub (I x0) e) (hw:W x0 w)
 (round:∀ x w,W x w→(∀ x' w' e',W x' w'→μ x'<μ x→Sub (I x') e'→Xay P f R n ds (.inLoop body::k) e' w')→Xay P f R n ds (.code body :: .inLoop body::k) (I x) w) :
 Xay P f R n ds (.code (.loop body)::k) e w:=by
 have key:∀ m x w,μ x=m→W x w→Xay P f R n ds (.code body :: .inLoop body::k) (I x) w:=by
  intro m
  induction m using Nat.strongRecOn with
  |_ m ih =>
   intro x w hm h;refine round x w h fun x' w' e' d g c => ?_;exact Xay.step (fun b cs a _=>stepR_inLoop) (Xay.sub c (ih (μ x') (hm▸g) x' w' rfl d))
 exact Xay.step (fun b cs a _=>stepR_loop) (Xay.sub h0 (key _ x0 w rfl hw))
theorem Xay.unroll (hT:XbB P T) {body:Code} {k:List Item} {s2:List Item} {e2:Env} (ha:Go.Proofs.YtgddpaiandefgaaGreatDoor.adv T n 400 (.code body :: .inLoop body::k) e=(s2,e2)) (h:Xay P f R n ds s2 e2 w):Xay P f R n ds (.code (.loop body)::k) e w :=
 Xay.step (fun _ _ _ _=>stepR_loop) (Xay.adv hT 400 ha h)
theorem Xay.of_wp (hro:R.ro=none) {c:Code} {k:List Item} (h:∀ a,a.defers=ds→Xau n a e→c.wp P (fun ex a' w'=>ex = .normal∧a'.defers=ds ∧ ∃ e',Xau n a' e'∧Xay P f R n ds k e' w') a w):Xay P f R n ds (.code c::k) e w:=by
 intro b cs a o g p q;obtain ⟨ex,a',w',⟨i,j,e',l,r⟩,d⟩:=h a p q b k cs;subst i;obtain ⟨en,s,fr,t,m,u,v⟩:=r b cs a' o g j l;rw [Frame.atR_of_none (g.trans hro)] at m ⊢;exact ⟨en,s,fr,t,.of_steps d m,u,v⟩
theorem Xux {ops:Array Oper} {Q:Act→Prop}:∀ (l:List Oper) (a:Act),Xuv P ops (fun w'=>Chg XaW w w') Q l a→wpQuiet P ops (fun w'=>Chg XaW w w') Q l a
 |[],a,h=>h
 |o::l,a,h=>by
  unfold Xuv at h;unfold wpQuiet;split
  ·rename_i d; rw [if_pos d] at h
   obtain ⟨v,e,f⟩:=h;refine ⟨v,fun w' c => ?_,Xux l _ f⟩;have b:=e w' c;unfold XnC at b;unfold Oper.quietAt;generalize (execOp a.eval o).run P w'=r at b
   cases r with
   |ok nx g =>
    cases nx <;> simp only at b <;> simp only [Oper.quietUpon] <;> first | exact b | exact b.elim | skip
    case enter k args=>exact ⟨b.1,b.2.mono fun en m ⟨i,j⟩=>⟨i,c.trans j⟩⟩
   |halt x g=>exact b.elim
  ·rename_i d; rw [if_neg d] at h; exact Xux l _ h
def Xa6 (P:Program) (n:Nat) (ops:Array Oper) (w:World) (l:List Oper) (e:Env) (K:Env→Prop):Prop :=
 ∀ (a:Act) (ds:List Deferred),a.defers=ds→Xau n a e→Xuv P ops (fun w'=>Chg XaW w w') (fun a'=>a'.defers=ds ∧ ∃ e',Xau n a' e'∧K e') l a
theorem Xay.quiet (hro:R.ro=none) {id:Nat} {ops:Array Oper} {k:List Item} (hm:P.follows .mixedOrders=true) (hB:Region.lexB .any ops=true)
 (h:Xa6 P n ops w ops.toList e (fun e' => ∀ w',Chg XaW w w'→Xay P f R n ds k e' w')):Xay P f R n ds (.code (.region id ops true)::k) e w :=
 Xay.of_wp hro fun a g i=>wp_region_quiet (C:=fun w'=>Chg XaW w w') hm hB ((Chg.refl _ _).drew _) (by
  refine Xux ops.toList a (Xuw ?_ _ _ (h a ds g i));exact fun a' ⟨b,e',c,j⟩ w' d=>⟨rfl,b,e',c,j w' d⟩)
theorem Xj6 {ops:Array Oper} {q:Nat} (h:Xj5 ops q=true):Region.noSelect ops=true∧q<ops.size ∧
 (∃ o,ops[q]? = some o∧o.after = #[]∧o.guard=none ∧ ∀ j oj,j<q→ops[j]? = some oj→oj.apart ops o=true ∧ ∀ e ∈ oj.after,Region.binds .any e=true→e.on≠q) ∧
 (∀ j o,q<j→ops[j]? = some o → ∀ i,i≤q → ∃ e ∈ o.after,Region.binds .any e=true∧e.on=i) ∧
 ∃ L,XiE ops q 0 (Array.replicate ops.size false)=some L∧Region.ready .any ops L = [q]∧Xgm ops (ops.size - (q+1)) (q+1) (L.setIfInBounds q true)=true:=by
 unfold Xj5 at h;simp only [Bool.and_eq_true] at h;obtain ⟨⟨⟨⟨n,p⟩,c⟩,r⟩,a⟩:=h;have s:q<ops.size:=by simpa [Nat.blt_eq] using p
 refine ⟨n,s,?_,?_,?_⟩
 ·split at c
  ·rename_i o d
   simp only [Bool.and_eq_true] at c;obtain ⟨⟨t,u⟩,v⟩:=c;refine ⟨o,d,by simpa using t,by simpa using u,fun j oj k l => ?_⟩;have:=List.all_eq_true.1 v j (by simpa using k);rw [l] at this;simp only [Bool.and_eq_true] at this;refine ⟨this.1,fun e f w m => ?_⟩;have b:=Array.all_eq_true_iff_forall_mem.1 this.2 e f;simp only [md] at b;rw [w,m] at b;simp at b
  ·cases c
 ·intro j o k d i z;have y:j<ops.size:=(Array.getElem?_eq_some_iff.1 d).1;have:=List.all_eq_true.1 r j (by rw [List.mem_range']; exact ⟨j - (q+1),by omega,by omega⟩);rw [d] at this;have b:=List.all_eq_true.1 this i (by simp; omega);obtain ⟨e,f,g⟩:=Array.any_eq_true'.1 b;simp only [Bool.and_eq_true,beq_iff_eq] at g;exact ⟨e,f,g.1,g.2⟩
 ·split at a
  ·rename_i L x
   simp only [Bool.and_eq_true,beq_iff_eq] at a;exact ⟨L,x,a.1,a.2⟩
  ·cases a
theorem Xay.quietF {id:Nat} {ops:Array Oper} {k:List Item} {q t d:Nat} {z:List Value} {o:Oper} (hT:XbB P T) (hm:P.follows .mixedOrders=true) (hB:Xj5 ops q=true)
 (ho:nth ops.toList q=some o) (hz:Xb9 T [] o=some (z,t)) (hd:o.dst=some d) (hlt:Nat.blt d n=true)
 (h:Xa6 P n ops w (ops.toList.take q) e (fun e' => ∀ b w',Chg XaW w w'→w.heap.size≤b→w'.heap[b]? = some (.cells z.toArray t (0,0)) →
  Xay P f R n ds (.inRegion ops (List.range' (q+1) (ops.size - (q+1)))::k) ((d,false,.pointer (some ⟨b,0,none⟩))::e') w')):Xay P f R n ds (.code (.region id ops true)::k) e w:=by
 obtain ⟨g,y,⟨o',r,B,D,i⟩,p,L,U,E,s⟩:=Xj6 hB;have F:o'=o:=by have:=Xla ho; rw [r] at this; exact Option.some.inj this
 subst F;intro b cs a V W G hf;have hQ:=h a ds G hf;have c:(ops.toList.take q).length=q:=by simp; omega
 have l:=Xuu (P:=P) (C:=fun w'=>Chg XaW w w') (f:=q) (Lf:=L) g (by rw [E]; simp) (ops.toList.take q) 0 (Array.replicate ops.size false) a
  (fun j H=>by rw [c] at H; rw [List.getElem?_take,if_pos H]; simp) (by rw [c]; omega) (by rw [c]; exact U) hQ
 rw [c] at l;have I:ops.size=q+1+(ops.size - (q+1)):=by omega
 have u:∀ (a:Act) (w:World),(execOp a.eval o').run P w = .ok (.value (.pointer (some ⟨w.heap.size,0,none⟩))) {w with heap:=w.heap.push (.cells z.toArray t)}:=fun a w =>
  Xca (n:=a.tmps.size) (e := []) hT hz a ⟨rfl,fun t v h=>by simp [look] at h⟩
 have m:=Xj8 (P:=P) (fn:=f) (R:=R) (k:=k) (w0:=w) (tf:=ops.size - (q+1)) (z:=z) (t:=t) r (Region.noSelect_spec g) hd B D u i p
  (fun a' w' b' ⟨J,e',K,hK⟩ x M N=>by
   intro t';rw [Xgn _ _ _ s t'];intro b2 O Q S;exact hK b' w' x M N b2 O _ Q S (by simpa [Act.put] using J) (K.put d false _ (by simpa [Nat.blt_eq] using hlt)))
  q _ a {w with drawn:=w.drawn+1} l (by simpa using y) (by simp [y]) ((Chg.refl _ _).drew _)
 rw [← I] at m;obtain ⟨en,w',fr,hR,x,h1,h2⟩:=m (w.tape w.drawn (.order b.fn id)) b cs V W;refine ⟨en,w',fr,hR,.of_steps (.one ?_) x,h1,h2⟩;rw [stepR_region_draw];simp only [Region.schedule,hm,Bool.true_or,if_true];rfl
section
variable {ops:Array Oper} {l l':List Oper} {K:Env→Prop}
def XbX (T:Tab) (n:Nat) (ops:Array Oper):List Oper→Env→List Oper × Env
 |[],e=>([],e)
 |o::l,e=>match Xue e ops o with
  |some false=>match Xnu n o.dst true undef e with
   |some e'=>XbX T n ops l e'
   |none=>(o::l,e)
  |some true=>match opV T e o.op with
   |some v=>match Xnu n o.dst (opF e o.op) v e with
    |some e'=>XbX T n ops l e'
    |none=>(o::l,e)
   |none=>(o::l,e)
  |none=>(o::l,e)
theorem Xa6.one {o:Oper} {v:Value} (hw:Xue e ops o=some true) {fl:Bool} (hp:Xnu n o.dst fl v e=some e')
 (hrun:∀ a w',Chg XaW w w'→Xau n a e→(execOp a.eval o).run P w' = .ok (.value v) w') (h:Xa6 P n ops w l e' K):Xa6 P n ops w (o::l) e K:=by
 intro a ds d b;unfold Xuv;rw [if_pos (Xuf b hw)];refine ⟨v,fun w' c => ?_,h (a.put o.dst v) ds (by cases o.dst <;> exact d) (Xny hp a b)⟩;unfold XnC;rw [hrun a w' c b];exact ⟨rfl,rfl⟩
theorem Xa6.skip {o:Oper} (hw:Xue e ops o=some false) {fl:Bool} (hp:Xnu n o.dst fl undef e=some e') (h:Xa6 P n ops w l e' K):Xa6 P n ops w (o::l) e K:=by
 intro a ds c b;unfold Xuv;rw [if_neg (by rw [Xuf b hw]; simp)];exact h (a.put o.dst undef) ds (by cases o.dst <;> exact c) (Xny hp a b)
theorem XbY (hT:XbB P T):∀ (l:List Oper) (e:Env),Xa6 P n ops w (XbX T n ops l e).1 (XbX T n ops l e).2 K→Xa6 P n ops w l e K
 |[],e,h=>h
 |o::l,e,h=>by
  unfold XbX at h;split at h
  ·rename_i hw
   split at h
   ·rename_i e' he; exact Xa6.skip hw he (XbY hT l e' h)
   ·exact h
  ·rename_i hw
   split at h
   ·rename_i v hv
    split at h
    ·rename_i e' he; exact Xa6.one hw he (fun a w' _ hf=>Xli hT hf hv w') (XbY hT l e' h)
    ·exact h
   ·exact h
  ·exact h
theorem Xa6.adv (hT:XbB P T) (h:XbX T n ops l e=(l',e')) (hg:Xa6 P n ops w l' e' K):Xa6 P n ops w l e K:=XbY hT l e (by rw [h]; exact hg)
theorem Xa6.nil (h:K e):Xa6 P n ops w [] e K:=fun _ _ a b=>⟨a,e,b,h⟩
theorem Xa6.weaken (h:Xa6 P n ops w l e' K) (hs:∀ t v,look e' t=some v→look e t=some v):Xa6 P n ops w l e K:=fun a ds b c=>h a ds b (c.weaken hs)
theorem Xa6.know {t:Nat} {b:Bool} {v:Value} (h:look e t=some v) (hg:Xa6 P n ops w l ((t,b,v)::e) K):Xa6 P n ops w l e K :=
 hg.weaken fun u x a=>by
  rw [Xjk] at a;by_cases c:u=t
  ·subst c; rw [if_pos rfl] at a; rw [h,a]
  ·rwa [if_neg c] at a
def XcP (ops:Array Oper) (l:List Oper) (e:Env):Option (Nat × Bool) :=
 match l with
 |o::_=>match o.guard,o.op with
  |none,.pick (.tmp t) _ _=>match look e t with
   |some (.bool p)=>some (t,p)
   |_=>none
  |some (j,_),_=>match nth ops.toList j with
   |some g=>match g.dst with
    |some d=>match look e d with
     |some (.bool p)=>some (d,p)
     |_=>none
    |none=>none
   |none=>none
  |_,_=>none
 |[]=>none
theorem Xjj {t:Nat} {p:Bool} (h:XcP ops l e=some (t,p)):look e t=some (.bool p):=by
 unfold XcP at h;split at h
 ·split at h
  ·split at h
   ·cases h; assumption
   ·cases h
  ·split at h
   ·split at h
    ·split at h
     ·cases h; assumption
     ·cases h
    ·cases h
   ·cases h
  ·cases h
 ·cases h
theorem Xa6.fork (hT:XbB P T) {t:Nat} {p:Bool} {l1 l2:List Oper} {e1 e2:Env} (h:XcP ops l e=some (t,p)) (ha:XbX T n ops l ((t,true,.bool true)::e)=(l1,e1)) (hb:XbX T n ops l ((t,true,.bool false)::e)=(l2,e2))
 (ht:p=true→Xa6 P n ops w l1 e1 K) (hf:p=false→Xa6 P n ops w l2 e2 K):Xa6 P n ops w l e K:=by
 have a:=Xjj h;cases p with
 |true=>exact (Xa6.adv hT ha (ht rfl)).know a
 |false=>exact (Xa6.adv hT hb (hf rfl)).know a
theorem Xa6.yes (hT:XbB P T) {t:Nat} {p:Bool} (h:XcP ops l e=some (t,p)) (hp:p=true) (ha:XbX T n ops l ((t,true,.bool true)::e)=(l',e')) (hg:Xa6 P n ops w l' e' K):Xa6 P n ops w l e K:=by
 subst hp; exact (Xa6.adv hT ha hg).know (Xjj h)
theorem Xa6.no (hT:XbB P T) {t:Nat} {p:Bool} (h:XcP ops l e=some (t,p)) (hp:p=false) (ha:XbX T n ops l ((t,true,.bool false)::e)=(l',e')) (hg:Xa6 P n ops w l' e' K):Xa6 P n ops w l e K:=by
 subst hp; exact (Xa6.adv hT ha hg).know (Xjj h)
def XcS {δ:Type} (g:Oper→Option δ) (n:Nat) (ops:Array Oper) (l:List Oper) (e:Env):Option (δ × Nat × List Oper) :=
 match l with
 |o::r=>match Xue e ops o with
  |some true=>match o.dst with
   |some d=>match Nat.blt d n with
    |true=>match g o with
     |some x=>some (x,d,r)
     |none=>none
    |false=>none
   |none=>none
  |_=>none
 |[]=>none
theorem XcT {δ:Type} {g:Oper→Option δ} {x:δ} {d:Nat} (h:XcS g n ops l e=some (x,d,l')):∃ o,l=o::l'∧Xue e ops o=some true∧o.dst=some d∧Nat.blt d n=true∧g o=some x:=by
 unfold XcS at h;split at h
 ·rename_i o r
  split at h
  ·rename_i b
   split at h
   ·rename_i i c
    split at h
    ·rename_i a
     split at h
     ·rename_i y f; cases h; exact ⟨o,rfl,b,c,a,f⟩
     ·cases h
    ·cases h
   ·cases h
  ·cases h
 ·cases h
theorem Xa6.val (hT:XbB P T) {δ:Type} {g:Oper→Option δ} {x:δ} {d:Nat} {v:Value} {l2:List Oper} {e2:Env} (h:XcS g n ops l e=some (x,d,l'))
 (hrun:∀ o,g o=some x → ∀ a w',Chg XaW w w'→Xau n a e→(execOp a.eval o).run P w' = .ok (.value v) w') (ha:XbX T n ops l' ((d,false,v)::e)=(l2,e2)) (hg:Xa6 P n ops w l2 e2 K):Xa6 P n ops w l e K:=by
 obtain ⟨o,rfl,c,f,b,i⟩:=XcT h;exact Xa6.one c (by rw [f]; exact Xnx b) (hrun o i) (Xa6.adv hT ha hg)
theorem Xa6.arith (hT:XbB P T) {k:IntKind} {z z':Int} {d:Nat} {l2:List Oper} {e2:Env} (h:XcS (XcL T e) n ops l e=some ((k,z),d,l')) (hz:k.wrap z=z')
 (ha:XbX T n ops l' ((d,false,.int k z')::e)=(l2,e2)) (hg:Xa6 P n ops w l2 e2 K):Xa6 P n ops w l e K :=
 Xa6.val hT h (fun _ b a w' _ c=>XcM hT b hz a c w') ha hg
theorem Xa6.div (hT:XbB P T) {q:Bool} {k:IntKind} {x y z:Int} {d:Nat} {l2:List Oper} {e2:Env} (h:XcS (Xfp e) n ops l e=some ((q,k,x,y),d,l')) (hy:y≠0) (hz:Xfr q k x y=z)
 (ha:XbX T n ops l' ((d,false,.int k z)::e)=(l2,e2)) (hg:Xa6 P n ops w l2 e2 K):Xa6 P n ops w l e K :=
 Xa6.val hT h (fun _ b a w' _ c=>Xfq b hy hz a c w') ha hg
theorem Xa6.index (hT:XbB P T) {b off len sz d j:Nat} {i:Int} {l2:List Oper} {e2:Env} (h:XcS (XhQ T e) n ops l e=some ((b,off,len,sz,i),d,l')) (h0:0≤i) (h1:i<len) (hj:i.toNat*sz=j)
 (ha:XbX T n ops l' ((d,false,.pointer (some ⟨b,off+j,none⟩))::e)=(l2,e2)) (hg:Xa6 P n ops w l2 e2 K):Xa6 P n ops w l e K :=
 Xa6.val hT h (fun _ c a w' _ f=>XhR hT c h0 h1 hj a f w') ha hg
theorem Xa6.load (hT:XbB P T) {b off d:Nat} {v:Value} {l2:List Oper} {e2:Env} (h:XcS (Xi6 T e) n ops l e=some ((b,off,none),d,l')) (hc:w.cell? ⟨b,off,none⟩=some v)
 (ha:XbX T n ops l' ((d,false,v)::e)=(l2,e2)) (hg:Xa6 P n ops w l2 e2 K):Xa6 P n ops w l e K :=
 Xa6.val hT h (fun _ f a _ c g=>Xi7 hT f (Xdb c.below hc) a g) ha hg
theorem Xa6.loadb (hT:XbB P T) {b off d:Nat} {v:Value} {c:List Value} {t:TypeId} {fz:Nat × Nat} {l2:List Oper} {e2:Env} (h:XcS (Xi6 T e) n ops l e=some ((b,off,none),d,l')) (hc:w.heap[b]? = some (.cells c.toArray t fz)) (hv:Xk8 c off=some v)
 (ha:XbX T n ops l' ((d,false,v)::e)=(l2,e2)) (hg:Xa6 P n ops w l2 e2 K):Xa6 P n ops w l e K :=
 Xa6.load hT h (Xd6 hc hv) ha hg
theorem Xa6.loads (hT:XbB P T) {b off m d:Nat} {c vs:List Value} {t:TypeId} {fz:Nat × Nat} {l2:List Oper} {e2:Env} (h:XcS (Xi6 T e) n ops l e=some ((b,off,some m),d,l')) (hc:w.heap[b]? = some (.cells c.toArray t fz)) (hv:cut c off m=some vs)
 (ha:XbX T n ops l' ((d,false,.agg vs.toArray)::e)=(l2,e2)) (hg:Xa6 P n ops w l2 e2 K):Xa6 P n ops w l e K :=
 Xa6.val hT h (fun _ g a _ f i=>Xjc hT g (f.heap' hc) hv a i) ha hg
theorem Xa6.call (hT:XbB P T) {k d:Nat} {as:List Value} {v:Value} {l2:List Oper} {e2:Env} (h:XcS (XdZ e) n ops l e=some ((k,as),d,l')) (hd:∀ w',Chg XaW w w'→Xan P k as.toArray w' (fun u w2=>u=v∧Chg XaW w' w2))
 (ha:XbX T n ops l' ((d,false,v)::e)=(l2,e2)) (hg:Xa6 P n ops w l2 e2 K):Xa6 P n ops w l e K:=by
 obtain ⟨o,rfl,q,f,g,r⟩:=XcT h;have i:=Xa6.adv hT ha hg;intro a ds j c;unfold Xuv;rw [if_pos (Xuf c q)];refine ⟨v,fun w' m => ?_,i (a.put o.dst v) ds (by cases o.dst <;> exact j) (Xny (by rw [f]; exact Xnx g) a c)⟩;unfold XnC;have b:=hd w' m;rw [Xd0 (P:=P) (w:=w') r b.fn a c];refine ⟨rfl,b.calls.mono fun en w2 ⟨u,p,s,t⟩ => ?_⟩;subst s;exact ⟨p,t⟩
end
end
end Go.Proofs.YtgddpaiandefgaaGreatDoor
