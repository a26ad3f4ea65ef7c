/-
  Rule
-/
import Derived.Test.YtnaoiegcobineaaGreatDoorQEng
namespace Go.Proofs.YtnaoiegcobineaaGreatDoor
open Go.RowKit
structure Chg (S:Nat→Prop) (w w':World):Prop where
 os:w'.os=w.os
 tape:w'.tape=w.tape
 output:w'.output=w.output
 size:w.heap.size≤w'.heap.size
 block:∀ k,k<w.heap.size → ¬ S k→w'.heap[k]? = w.heap[k]?
abbrev None':Nat→Prop:=fun _=>False
theorem Chg.refl (S:Nat→Prop) (w:World):Chg S w w:=⟨rfl,rfl,rfl,Nat.le_refl _,fun _ _ _=>rfl⟩
theorem Chg.trans {S:Nat→Prop} {w w1 w2:World} (h:Chg S w w1) (k:Chg S w1 w2):Chg S w w2 :=
 ⟨k.os.trans h.os,k.tape.trans h.tape,k.output.trans h.output,Nat.le_trans h.size k.size,fun i hi hs=>(k.block i (Nat.lt_of_lt_of_le hi h.size) hs).trans (h.block i hi hs)⟩
theorem Chg.mono {S S':Nat→Prop} {w w':World} (h:Chg S w w') (hs:∀ k,k<w.heap.size→S k→S' k):Chg S' w w':=⟨h.os,h.tape,h.output,h.size,fun k hk h1=>h.block k hk (fun h2=>h1 (hs k hk h2))⟩
theorem Chg.since {S S':Nat→Prop} {w0 w w':World} (h0:Chg S w0 w) (h:Chg S' w w') (hs:∀ k,k<w0.heap.size→S' k→S k):Chg S w0 w' :=
 ⟨h.os.trans h0.os,h.tape.trans h0.tape,h.output.trans h0.output,Nat.le_trans h0.size h.size,fun k hk h1=>(h.block k (Nat.lt_of_lt_of_le hk h0.size) (fun h2=>h1 (hs k hk h2))).trans (h0.block k hk h1)⟩
theorem Chg.below {w w':World} (h:Chg None' w w'):Below w.heap.size w w':=⟨h.os,h.tape,h.output,h.size,fun k hk=>h.block k hk id⟩
theorem lt_of_heap {w:World} {b:Nat} {o:Obj} (h:w.heap[b]? = some o):b<w.heap.size:=(Array.getElem?_eq_some_iff.1 h).1
theorem Chg.heap {S:Nat→Prop} {w w':World} (h:Chg S w w') {b:Nat} {o:Obj} (ho:w.heap[b]? = some o) (hs:¬ S b):w'.heap[b]? = some o:=(h.block b (lt_of_heap ho) hs).trans ho
theorem Chg.heap' {w w':World} (h:Chg None' w w') {b:Nat} {o:Obj} (ho:w.heap[b]? = some o):w'.heap[b]? = some o:=h.heap ho id
theorem Rd.chg {k:IntKind} {w w':World} {a:Option Addr} {zs:List Int} (h:Rd k w a zs) (hb:Chg None' w w'):Rd k w' a zs:=h.below hb.below
theorem Chg.drew {S:Nat→Prop} {w w':World} (h:Chg S w w') (n:Nat):Chg S w {w' with drawn:=n}:=⟨h.os,h.tape,h.output,h.size,h.block⟩
theorem cell_of {w:World} {b off:Nat} {c:Array Value} {t:TypeId} {fz:Nat × Nat} (h:w.heap[b]? = some (.cells c t fz)):w.cell? ⟨b,off,none⟩=c[off]?:=by
 simp [World.cell?,h]
theorem frozen_of {w:World} {b off:Nat} {c:Array Value} {t:TypeId} (h:w.heap[b]? = some (.cells c t (0,0))):w.frozen? ⟨b,off,none⟩=false:=by
 simp [World.frozen?,h]
def FnOk (P : Program) (k : FuncId) : Prop := ∃ fn, P.funcs[k]? = some fn ∧ (fn.name == "runtime.NumGoroutine") = false ∧ fn.body.isNone = false
abbrev RetA (Post:Value→World→Prop):Aim:=⟨none,fun e w' => ∃ v,e = .returned v∧Post v w'⟩
abbrev Ret (Post:Value→World→Prop):Ending→World→Prop:=fun e w' => ∃ v,e = .returned v∧Post v w'
structure Does (P:Program) (k:FuncId) (args:Array Value) (w:World) (Post:Value→World→Prop):Prop where
 fn:FnOk P k
 calls:Calls P k args w (Ret Post)
theorem Does.mono {P:Program} {k:FuncId} {args:Array Value} {w:World} {Post Post':Value→World→Prop} (h:Does P k args w Post) (hp:∀ v w',Post v w'→Post' v w'):Does P k args w Post' :=
 ⟨h.fn,h.calls.mono fun _ _ ⟨v,he,hv⟩=>⟨v,he,hp _ _ hv⟩⟩
def argEnv:Nat→List Value→Env
 |_,[] => []
 |i,v::r=>(i,false,v)::argEnv (i+1) r
theorem look_argEnv:∀ (l:List Value) (i t:Nat) (v:Value),look (argEnv i l) t=some v→i≤t∧l[t - i]? = some v
 |[],i,t,v,h=>by simp [argEnv,look] at h
 |u::r,i,t,v,h=>by
  simp only [argEnv,look_cons] at h
  by_cases e:t=i
  ·subst e; simp at h; simp [h]
  ·rw [if_neg e] at h
   obtain ⟨h1,h2⟩:=look_argEnv r (i+1) t v h
   refine ⟨by omega,?_⟩
   rw [show t - i=(t - (i+1))+1 from by omega]
   simpa using h2
theorem Does.enter {P:Program} {k:FuncId} {fn:Func} {c:Code} {l:List Value} {w:World} {Post:Value→World→Prop} {n:Nat}
 (hf : P.funcs[k]? = some fn) (hb : fn.body = some c) (hn : fn.ntmps = n) (hname : (fn.name == "runtime.NumGoroutine") = false) (hle' : Nat.ble l.length n = true)
 (h:Goes P k (RetA Post) n [] [.code c] (argEnv 0 l) w):Does P k l.toArray w Post:=by
 have hle:l.length≤n:=Nat.le_of_ble_eq_true hle'
 refine ⟨⟨fn,hf,hname,by rw [hb]; rfl⟩,fun cs => ?_⟩
 let b:Frame:={(default:Frame) with fn:=k,kind := .normal,roundOf:=none}
 let a:Act:={tmps:=l.toArray++Array.replicate (fn.ntmps - l.toArray.size) undef,defers := []}
 have henter:Frame.enter P k l.toArray .normal=b.atR a [.code c]:=by
  simp [Frame.enter,Frame.atR,hf,hb,b,a]
 obtain ⟨en,w',fr,hR,hc,h1,h2⟩:=h b cs a rfl rfl rfl ⟨by simp [a,hn]; omega,fun t v ht=>by
  obtain ⟨_,h1⟩:=look_argEnv l 0 t v ht
  have hlt:t<l.length:=by
   have:=(List.getElem?_eq_some_iff.1 h1).1; simpa using this
  simp only [a]
  rw [Array.getElem?_append_left (by simpa using hlt)]
  simpa using h1⟩
 rw [← henter] at hc
 exact ⟨en,w',fr,hR rfl,hc,h1,Left.leaving (h2.1 rfl)⟩
section
variable {P:Program} {T:Tab} {f:FuncId} {R:Aim} {Post:Value→World→Prop} {n:Nat} {ds:List Deferred} {s s':List Item} {e e':Env} {w w':World}
theorem Goes.adv (hT:TabOk P T) (m:Nat) (h:Go.Proofs.YtnaoiegcobineaaGreatDoor.adv T n m s e=(s',e')) (hg:Goes P f R n ds s' e' w):Goes P f R n ds s e w :=
 adv_ok hT m s e (by rw [h]; exact hg)
def ask (s:List Item) (e:Env):Option (Nat × Bool) :=
 match s with
 |.code (.cond (.tmp t) _ _)::_=>match look e t with
  |some (.bool p)=>some (t,p)
  |_=>none
 |.inRegion ops (i::_)::_=>match nth ops.toList i with
  |some o=>match o.guard,o.op with
   |none,.pick (.tmp t) _ _=>match look e t with
    |some (.bool p)=>some (t,p)
    |_=>none
   |some (j,_),_=>match nth ops.toList j with
    |some g=>match g.dst with
     |some d=>match look e d with
      |some (.bool p)=>some (d,p)
      |_=>none
     |none=>none
    |none=>none
   |_,_=>none
  |none=>none
 |_=>none
theorem look_ask {t:Nat} {p:Bool} (h:ask s e=some (t,p)):look e t=some (.bool p):=by
 unfold ask at h
 split at h
 ·split at h
  ·cases h; assumption
  ·cases h
 ·split at h
  ·split at h
   ·split at h
    ·cases h; assumption
    ·cases h
   ·split at h
    ·split at h
     ·split at h
      ·cases h; assumption
      ·cases h
     ·cases h
    ·cases h
   ·cases h
  ·cases h
 ·cases h
theorem Goes.know {t:Nat} {b:Bool} {v:Value} (h:look e t=some v) (hg:Goes P f R n ds s ((t,b,v)::e) w):Goes P f R n ds s e w :=
 hg.weaken fun u x hu=>by
  rw [look_cons] at hu
  by_cases he:u=t
  ·subst he; rw [if_pos rfl] at hu; rw [h,hu]
  ·rwa [if_neg he] at hu
theorem Goes.ask {t:Nat} {p:Bool} (h:ask s e=some (t,p)) (ht:p=true→Goes P f R n ds s ((t,true,.bool true)::e) w) (hf:p=false→Goes P f R n ds s ((t,true,.bool false)::e) w):Goes P f R n ds s e w:=by
 have hl:=look_ask h
 cases p with
 |true=>exact (ht rfl).know hl
 |false=>exact (hf rfl).know hl
theorem Goes.yes (hT:TabOk P T) {t:Nat} {p:Bool} (h:Go.Proofs.YtnaoiegcobineaaGreatDoor.ask s e=some (t,p)) (hp:p=true) (ha:Go.Proofs.YtnaoiegcobineaaGreatDoor.adv T n 400 s ((t,true,.bool true)::e)=(s',e')) (hg:Goes P f R n ds s' e' w):Goes P f R n ds s e w :=
 Goes.ask h (fun _=>Goes.adv hT 400 ha hg) (fun h'=>by rw [hp] at h'; cases h')
theorem Goes.no (hT:TabOk P T) {t:Nat} {p:Bool} (h:Go.Proofs.YtnaoiegcobineaaGreatDoor.ask s e=some (t,p)) (hp:p=false) (ha:Go.Proofs.YtnaoiegcobineaaGreatDoor.adv T n 400 s ((t,true,.bool false)::e)=(s',e')) (hg:Goes P f R n ds s' e' w):Goes P f R n ds s e w :=
 Goes.ask h (fun h'=>by rw [hp] at h'; cases h') (fun _=>Goes.adv hT 400 ha hg)
theorem Goes.fork (hT:TabOk P T) {t:Nat} {p:Bool} {s1 s2:List Item} {e1 e2:Env} (h:Go.Proofs.YtnaoiegcobineaaGreatDoor.ask s e=some (t,p)) (ha:Go.Proofs.YtnaoiegcobineaaGreatDoor.adv T n 400 s ((t,true,.bool true)::e)=(s1,e1)) (hb:Go.Proofs.YtnaoiegcobineaaGreatDoor.adv T n 400 s ((t,true,.bool false)::e)=(s2,e2))
 (ht:p=true→Goes P f R n ds s1 e1 w) (hf:p=false→Goes P f R n ds s2 e2 w):Goes P f R n ds s e w :=
 Goes.ask h (fun h'=>Goes.adv hT 400 ha (ht h')) (fun h'=>Goes.adv hT 400 hb (hf h'))
def headOp (s:List Item) (e:Env):Option (Oper × List Item) :=
 match s with
 |.inRegion ops (i::l)::k=>match nth ops.toList i with
  |some o=>match want e ops o with
   |some true=>some (o,.inRegion ops l::k)
   |_=>none
  |none=>none
 |_=>none
theorem Goes.head {o:Oper} {v:Value} (h:headOp s e=some (o,s')) {fl:Bool} (hp:putE n o.dst fl v e=some e')
 (hrun:∀ a,Fits n a e→(execOp a.eval o).run P w = .ok (.value v) w'∨(execOp a.eval o).run P w = .ok .skip w'∧v=undef) (hg:Goes P f R n ds s' e' w'):Goes P f R n ds s e w:=by
 unfold headOp at h
 split at h
 ·rename_i ops i l k
  split at h
  ·rename_i o' ho
   split at h
   ·rename_i hw
    cases h
    intro b cs a hb hk hd hf
    have hd':(a.put o.dst v).defers=ds:=by cases o.dst <;> exact hd
    obtain ⟨en,w2,fr,hR,hc,h1,h2⟩:=hg b cs (a.put o.dst v) hb hk hd' (putE_ok hp a hf)
    refine ⟨en,w2,fr,hR,.of_steps (.one (step_lone_go ?_)) hc,h1,h2⟩
    have hfin:(b.atR a (.inRegion ops (i::l)::k)).finish v=b.atR (a.put o.dst v) (.inRegion ops l::k):=by
     rw [Frame.finish_atR,nth_at ho]; rfl
    rcases hrun a hf with hr | ⟨hr,hv⟩
    ·rw [stepE (nth_at ho) (want_ok hf hw) hr (by simp),← hfin]; simp [stepG.apply,hr]
    ·subst hv; rw [stepE (nth_at ho) (want_ok hf hw) hr (by simp),← hfin]; simp [stepG.apply,hr]
   ·cases h
  ·cases h
 ·cases h
theorem putE_lt {d:Nat} {fl:Bool} {v:Value} (h:Nat.blt d n=true):putE n (some d) fl v e=some ((d,fl,v)::e):=by rw [putE_eq]; simp only [put0,h]; rfl
def atHead {δ:Type} (g:Oper→Option δ) (n:Nat) (s:List Item) (e:Env):Option (δ × Nat × List Item) :=
 match headOp s e with
 |some (o,s')=>match o.dst with
  |some d=>match Nat.blt d n with
   |true=>match g o with
    |some x=>some (x,d,s')
    |none=>none
   |false=>none
  |none=>none
 |none=>none
theorem atHead_ok {δ:Type} {g:Oper→Option δ} {x:δ} {d:Nat} (h:atHead g n s e=some (x,d,s')):∃ o,headOp s e=some (o,s')∧o.dst=some d∧Nat.blt d n=true∧g o=some x:=by
 unfold atHead at h
 split at h
 ·rename_i o s1 ho
  split at h
  ·rename_i d1 hd
   split at h
   ·rename_i hlt
    split at h
    ·rename_i y hy; cases h; exact ⟨o,ho,hd,hlt,hy⟩
    ·cases h
   ·cases h
  ·cases h
 ·cases h
theorem Goes.val {δ:Type} {g:Oper→Option δ} {x:δ} {d:Nat} {v:Value} (h:atHead g n s e=some (x,d,s'))
 (hrun:∀ o,g o=some x → ∀ a,Fits n a e→(execOp a.eval o).run P w = .ok (.value v) w') (hg:Goes P f R n ds s' ((d,false,v)::e) w'):Goes P f R n ds s e w:=by
 obtain ⟨o,ho,hd,hlt,hx⟩:=atHead_ok h
 exact Goes.head ho (by rw [hd]; exact putE_lt hlt) (fun a hf => .inl (hrun o hx a hf)) hg
def arithZ (op:BinOp) (x y:Int):Option Int :=
 match op with
 |.add=>some (x+y)
 |.sub=>some (x - y)
 |.mul=>some (x*y)
 |_=>none
def arithOf (T:Tab) (e:Env) (o:Oper):Option (IntKind × Int) :=
 match o.op with
 |.binOp op _ x y _=>match ev e x,ev e y with
  |some (.int k a),some (.int k' b)=>match sameK k k' with
   |true=>match arithZ op a b with
    |some z=>some (k,z)
    |none=>none
   |false=>none
  |_,_=>none
 |.convert src dst x=>match ev e x,row T src,row T dst with
  |some (.int _ a),some _,some {und := .int k,..}=>some (k,a)
  |_,_,_=>none
 |_=>none
theorem arithOf_run (hT:TabOk P T) {k:IntKind} {z z':Int} {o:Oper} (h:arithOf T e o=some (k,z)) (hz:k.wrap z=z') (a:Act) (hf:Fits n a e) (w:World):(execOp a.eval o).run P w = .ok (.value (.int k z')) w:=by
 subst hz
 unfold arithOf at h
 split at h
 ·rename_i op t x y t' hop
  split at h
  ·rename_i k1 a1 k2 b1 hx hy
   split at h
   ·rename_i hk
    split at h
    ·rename_i z1 hz1
     cases h
     have:=sameK_eq hk; subst this
     simp only [execOp,hop,hf.ev hx,hf.ev hy]
     refine (run_bind_ok (x:=(.int k (k.wrap z):Value)) (w':=w) ?_).trans rfl
     refine (run_bind_ok (eqGuard_int w)).trans ?_
     cases op <;> simp only [arithZ,reduceCtorEq,Option.some.injEq] at hz1 <;> (subst hz1; simp only [binOp,ne_eq,not_true_eq_false,if_false,Op.intArith]; rfl)
    ·cases h
   ·cases h
  ·cases h
 ·rename_i src dst x hop
  split at h
  ·rename_i k0 a1 r1 k1 _ _ _ hx hr1 hr2
   cases h
   simp only [execOp,hop,hf.ev hx]
   refine (run_bind_ok (x:=(.int k (k.wrap z):Value)) (w':=w) ?_).trans rfl
   unfold convert
   refine (run_bind_ok ((hT.row hr1).underlying w)).trans ?_
   refine (run_bind_ok ((hT.row hr2).underlying w)).trans ?_
   rfl
  ·cases h
 ·cases h
theorem Goes.arith (hT:TabOk P T) {k:IntKind} {z z':Int} {d:Nat} {s2:List Item} {e2:Env} (h:atHead (arithOf T e) n s e=some ((k,z),d,s')) (hz:k.wrap z=z')
 (ha:Go.Proofs.YtnaoiegcobineaaGreatDoor.adv T n 400 s' ((d,false,.int k z')::e)=(s2,e2)) (hg:Goes P f R n ds s2 e2 w):Goes P f R n ds s e w :=
 Goes.val h (fun _ ho a hf=>arithOf_run hT ho hz a hf w) (Goes.adv hT 400 ha hg)
theorem w64 {z:Int} (h : -9223372036854775808≤z∧z≤9223372036854775807):IntKind.i64.wrap z=z:=IntWalk.i64_in z h
def divOf (e:Env) (o:Oper):Option (Bool × IntKind × Int × Int) :=
 match o.op with
 |.binOp .quo _ x y _=>match ev e x,ev e y with
  |some (.int k a),some (.int k' b)=>match sameK k k' with
   |true=>some (true,k,a,b)
   |false=>none
  |_,_=>none
 |.binOp .rem _ x y _=>match ev e x,ev e y with
  |some (.int k a),some (.int k' b)=>match sameK k k' with
   |true=>some (false,k,a,b)
   |false=>none
  |_,_=>none
 |_=>none
def divV (q:Bool) (k:IntKind) (x y:Int):Int:=if q then k.wrap (x.tdiv y) else x.tmod y
theorem divOf_run {q:Bool} {k:IntKind} {x y z:Int} {o:Oper} (h:divOf e o=some (q,k,x,y)) (hy:y≠0) (hz:divV q k x y=z) (a:Act) (hf:Fits n a e) (w:World):(execOp a.eval o).run P w = .ok (.value (.int k z)) w:=by
 subst hz
 unfold divOf at h
 split at h
 all_goals first | (cases h; done) | skip
 all_goals
  rename_i t x' y' t' hop
  split at h
  ·rename_i k1 a1 k2 b hx hy'
   split at h
   ·rename_i hk
    cases h
    have:=sameK_eq hk; subst this
    simp only [execOp,hop,hf.ev hx,hf.ev hy']
    refine (run_bind_ok (w':=w) ?_).trans rfl
    refine (run_bind_ok (eqGuard_int w)).trans ?_
    simp only [binOp,ne_eq,not_true_eq_false,if_false,Op.intDiv,if_neg hy]
    rfl
   ·cases h
  ·cases h
theorem Goes.div (hT:TabOk P T) {q:Bool} {k:IntKind} {x y z:Int} {d:Nat} {s2:List Item} {e2:Env} (h:atHead (divOf e) n s e=some ((q,k,x,y),d,s')) (hy:y≠0) (hz:divV q k x y=z)
 (ha:Go.Proofs.YtnaoiegcobineaaGreatDoor.adv T n 400 s' ((d,false,.int k z)::e)=(s2,e2)) (hg:Goes P f R n ds s2 e2 w):Goes P f R n ds s e w :=
 Goes.val h (fun _ ho a hf=>divOf_run ho hy hz a hf w) (Goes.adv hT 400 ha hg)
theorem quo64 {x y:Int} (hx:0≤x) (hx':x≤9223372036854775807):divV true .i64 x y=x / y:=by
 unfold divV
 rw [if_pos rfl,Int.tdiv_eq_ediv_of_nonneg hx]
 apply w64
 rcases Int.le_total 0 y with hy | hy
 ·have h1:0≤x / y:=Int.ediv_nonneg hx hy
  have h2:x / y≤x:=Int.ediv_le_self y hx
  omega
 ·have h1:x / y≤0:=Int.ediv_nonpos_of_nonneg_of_nonpos hx hy
  have h2 : -(x / y)≤x:=by
   rw [← Int.ediv_neg]; exact Int.ediv_le_self (-y) hx
  omega
theorem rem_ {k:IntKind} {x y:Int} (hx:0≤x):divV false k x y=x % y:=by
 unfold divV
 rw [if_neg (by simp),Int.tmod_eq_emod_of_nonneg hx]
def nthV:List Value→Nat→Option Value
 |[],_=>none
 |v::_,0=>some v
 |_::r,i+1=>nthV r i
theorem nthV_eq:∀ (l:List Value) (i:Nat),nthV l i=l[i]?
 |[],_=>by simp [nthV]
 |_::_,0=>by simp [nthV]
 |_::r,i+1=>by simp [nthV,nthV_eq r i]
def cut:List Value→Nat→Nat→Option (List Value)
 |_,0,0=>some []
 |v::r,0,m+1=>match cut r 0 m with
  |some l=>some (v::l)
  |none=>none
 |_::r,i+1,m=>cut r i m
 |[],_,_=>none
theorem cut_at:∀ (l:List Value) (i m:Nat) (r:List Value),cut l i m=some r→r.length=m ∧ ∀ j,j<m→l[i+j]? = r[j]?
 |_,0,0,r,h=>by simp [cut] at h; subst h; exact ⟨rfl,fun j hj=>by omega⟩
 |v::l,0,m+1,r,h=>by
  simp only [cut] at h
  split at h
  ·rename_i q hq
   cases h
   obtain ⟨h1,h2⟩:=cut_at l 0 m q hq
   refine ⟨by simp [h1],fun j hj => ?_⟩
   cases j with
   |zero=>simp
   |succ j=>have:=h2 j (by omega); simpa using this
  ·cases h
 |_::l,i+1,m,r,h=>by
  simp only [cut] at h
  obtain ⟨h1,h2⟩:=cut_at l i m r h
  refine ⟨h1,fun j hj => ?_⟩
  have:=h2 j hj
  rw [show i+1+j=(i+j)+1 from by omega]
  simpa using this
 |[],0,m+1,r,h=>by simp [cut] at h
 |[],i+1,m,r,h=>by simp [cut] at h
def isAggR (r:TyRow):Bool:=match r.und with | .struct _=>true | .array _ _=>true | _=>false
theorem RowOk.isAgg {t:Nat} {r:TyRow} (h:RowOk P t r) (w:World):(Go.isAgg t).run P w = .ok (isAggR r) w:=by
 unfold Go.isAgg isAggR
 rw [run_bind_ok (h.underlying w)]
 cases r.und <;> rfl
theorem load_run {a:Addr} {v:Value} (hc:w.cell? a=some v):(Go.load a).run P w = .ok v w:=by
 simp [Go.load,Sem.run,hc]
theorem loadCellsFrom_run {a:Addr}:∀ (l:List Value) (i:Nat) (acc:Array Value),(∀ j,j<l.length→w.cell? (a.add (i+j))=l[j]?)→(loadCellsFrom a i l.length acc).run P w = .ok (acc++l.toArray) w
 |[],i,acc,_=>by simp [loadCellsFrom,pure]
 |v::r,i,acc,h=>by
  have h0:w.cell? (a.add i)=some v:=by have:=h 0 (by simp); simpa using this
  simp only [List.length_cons,loadCellsFrom]
  refine (run_bind_ok (load_run h0)).trans ?_
  rw [loadCellsFrom_run r (i+1) (acc.push v) (fun j hj=>by have:=h (j+1) (by simp; omega); rw [show i+1+j=i+(j+1) from by omega]; simpa using this)]
  congr 1
  apply Array.ext'
  simp
theorem loadVar_agg (hT:TabOk P T) {b off ty:Nat} {c l:List Value} {q:TypeId} {fz:Nat × Nat} {r:TyRow} (hr:row T ty=some r) (ha:isAggR r=true) (hc:w.heap[b]? = some (.cells c.toArray q fz)) (hv:cut c off r.size=some l) :
 (loadVar ty ⟨b,off,none⟩).run P w = .ok (.agg l.toArray) w:=by
 obtain ⟨hl,hcut⟩:=cut_at _ _ _ _ hv
 unfold loadVar
 refine (run_bind_ok ((hT.row hr).isAgg w)).trans ?_
 rw [ha,if_pos rfl]
 refine (run_bind_ok ((hT.row hr).sizeOf w)).trans ?_
 refine (run_bind_ok (x:=l.toArray) (w':=w) ?_).trans rfl
 rw [← hl]
 unfold loadCells
 rw [loadCellsFrom_run l 0 #[] (fun j hj=>by rw [Nat.zero_add,add_off,cell_of hc,← hcut j (by omega)]; simp)]
 simp
theorem loadVar_one (hT:TabOk P T) {b off ty:Nat} {v:Value} {r:TyRow} (hr:row T ty=some r) (ha:isAggR r=false) (hc:w.cell? ⟨b,off,none⟩=some v):(loadVar ty ⟨b,off,none⟩).run P w = .ok v w:=by
 unfold loadVar
 refine (run_bind_ok ((hT.row hr).isAgg w)).trans ?_
 rw [ha]
 exact load_run hc
def loadOf (T:Tab) (e:Env) (o:Oper):Option (Nat × Nat × Option Nat) :=
 match o.op with
 |.load t x=>match ev e x,row T t with
  |some (.pointer (some ⟨b,off,none⟩)),some r=>match isAggR r with
   |true=>some (b,off,some r.size)
   |false=>some (b,off,none)
  |_,_=>none
 |_=>none
theorem loadOf_run (hT:TabOk P T) {b off:Nat} {v:Value} {o:Oper} (h:loadOf T e o=some (b,off,none)) (hc:w.cell? ⟨b,off,none⟩=some v) (a:Act) (hf:Fits n a e):(execOp a.eval o).run P w = .ok (.value v) w:=by
 unfold loadOf at h
 split at h
 ·rename_i t x hop
  split at h
  ·rename_i b1 off1 r hx hr
   split at h
   ·cases h
   ·rename_i hagg
    cases h
    simp only [execOp,hop,hf.ev hx]
    refine (run_bind_ok (x:=v) (w':=w) ?_).trans rfl
    simp only [Instr.loadAt,Instr.sureAddr]
    exact (run_bind_ok (show (pure _:Sem Addr).run P w = .ok _ w from rfl)).trans (loadVar_one hT hr hagg hc)
  ·cases h
 ·cases h
theorem loadsOf_run (hT:TabOk P T) {b off m:Nat} {c vs:List Value} {t:TypeId} {fz:Nat × Nat} {o:Oper} (h:loadOf T e o=some (b,off,some m)) (hc:w.heap[b]? = some (.cells c.toArray t fz)) (hv:cut c off m=some vs) (a:Act) (hf:Fits n a e):(execOp a.eval o).run P w = .ok (.value (.agg vs.toArray)) w:=by
 unfold loadOf at h
 split at h
 ·rename_i t x hop
  split at h
  ·rename_i b1 off1 r hx hr
   split at h
   ·rename_i hagg
    cases h
    simp only [execOp,hop,hf.ev hx]
    refine (run_bind_ok (x:=(.agg vs.toArray:Value)) (w':=w) ?_).trans rfl
    simp only [Instr.loadAt,Instr.sureAddr]
    exact (run_bind_ok (show (pure _:Sem Addr).run P w = .ok _ w from rfl)).trans (loadVar_agg hT hr hagg hc hv)
   ·cases h
  ·cases h
 ·cases h
theorem cell_nth {b off:Nat} {c:List Value} {v:Value} {t:TypeId} {fz:Nat × Nat} (hc:w.heap[b]? = some (.cells c.toArray t fz)) (hv:nthV c off=some v):w.cell? ⟨b,off,none⟩=some v:=by
 rw [cell_of hc]; rw [nthV_eq] at hv; simpa using hv
theorem Goes.load (hT:TabOk P T) {b off d:Nat} {v:Value} {s2:List Item} {e2:Env} (h:atHead (loadOf T e) n s e=some ((b,off,none),d,s')) (hc:w.cell? ⟨b,off,none⟩=some v)
 (ha:Go.Proofs.YtnaoiegcobineaaGreatDoor.adv T n 400 s' ((d,false,v)::e)=(s2,e2)) (hg:Goes P f R n ds s2 e2 w):Goes P f R n ds s e w :=
 Goes.val h (fun _ ho a hf=>loadOf_run hT ho hc a hf) (Goes.adv hT 400 ha hg)
theorem Goes.loadb (hT:TabOk P T) {b off d:Nat} {v:Value} {c:List Value} {t:TypeId} {fz:Nat × Nat} {s2:List Item} {e2:Env} (h:atHead (loadOf T e) n s e=some ((b,off,none),d,s')) (hc:w.heap[b]? = some (.cells c.toArray t fz)) (hv:nthV c off=some v)
 (ha:Go.Proofs.YtnaoiegcobineaaGreatDoor.adv T n 400 s' ((d,false,v)::e)=(s2,e2)) (hg:Goes P f R n ds s2 e2 w):Goes P f R n ds s e w :=
 Goes.load hT h (cell_nth hc hv) ha hg
theorem Goes.loads (hT:TabOk P T) {b off m d:Nat} {c vs:List Value} {t:TypeId} {fz:Nat × Nat} {s2:List Item} {e2:Env} (h:atHead (loadOf T e) n s e=some ((b,off,some m),d,s')) (hc:w.heap[b]? = some (.cells c.toArray t fz)) (hv:cut c off m=some vs)
 (ha:Go.Proofs.YtnaoiegcobineaaGreatDoor.adv T n 400 s' ((d,false,.agg vs.toArray)::e)=(s2,e2)) (hg:Goes P f R n ds s2 e2 w):Goes P f R n ds s e w :=
 Goes.val h (fun _ ho a hf=>loadsOf_run hT ho hc hv a hf) (Goes.adv hT 400 ha hg)
def indexOf (T:Tab) (e:Env) (o:Oper):Option (Nat × Nat × Nat × Nat × Int) :=
 match o.op with
 |.indexAddr t x ix=>match ev e x,ev e ix,row T t with
  |some (.slice (some ⟨b,off,none⟩) len _),some (.int _ i),some {und := .slice q,..}=>match row T q with
   |some r=>some (b,off,len,r.size,i)
   |none=>none
  |some (.pointer (some ⟨b,off,none⟩)),some (.int _ i),some {und := .array len q,..}=>match row T q with
   |some r=>some (b,off,len,r.size,i)
   |none=>none
  |_,_,_=>none
 |_=>none
theorem index_slice (hT:TabOk P T) {t q b off len cap:Nat} {k:IntKind} {i:Int} {sz1 by1:Nat} {z1:Option Value} {r:TyRow} (hr:row T t=some {und := .slice q,size:=sz1,bytes:=by1,zero:=z1}) (hr2:row T q=some r) (h0:0≤i) (h1:i<len) (w:World) :
 (Instr.indexAt t (.slice (some ⟨b,off,none⟩) len cap) (.int k i)).run P w = .ok (.pointer (some ⟨b,off+i.toNat*r.size,none⟩)) w:=by
 unfold Instr.indexAt
 have hu:=(hT.row hr).underlying w
 have hs:=(hT.row hr2).sizeOf w
 simp only [Sem.run_bind,asIntOf,Sem.run_pure,Result.andThen_ok,hu,h0,h1,and_self,if_true,hs,add_off]
theorem index_array (hT:TabOk P T) {t q b off len:Nat} {k:IntKind} {i:Int} {sz1 by1:Nat} {z1:Option Value} {r:TyRow} (hr:row T t=some {und := .array len q,size:=sz1,bytes:=by1,zero:=z1}) (hr2:row T q=some r) (h0:0≤i) (h1:i<len) (w:World) :
 (Instr.indexAt t (.pointer (some ⟨b,off,none⟩)) (.int k i)).run P w = .ok (.pointer (some ⟨b,off+i.toNat*r.size,none⟩)) w:=by
 unfold Instr.indexAt
 have hu:=(hT.row hr).underlying w
 have hs:=(hT.row hr2).sizeOf w
 simp only [Sem.run_bind,asIntOf,Instr.sureAddr,Sem.run_pure,Result.andThen_ok,hu,h0,h1,and_self,if_true,hs,add_off]
theorem indexOf_run (hT:TabOk P T) {b off len sz j:Nat} {i:Int} {o:Oper} (h:indexOf T e o=some (b,off,len,sz,i)) (h0:0≤i) (h1:i<len) (hj:i.toNat*sz=j) (a:Act) (hf:Fits n a e) (w:World):(execOp a.eval o).run P w = .ok (.value (.pointer (some ⟨b,off+j,none⟩))) w:=by
 subst hj
 unfold indexOf at h
 split at h
 ·rename_i t x ix hop
  split at h
  ·rename_i b1 off1 len1 _ k i1 q _ _ _ hx hix hr
   split at h
   ·rename_i r hr2
    cases h
    simp only [execOp,hop,hf.ev hx,hf.ev hix]
    exact (run_bind_ok (index_slice hT hr hr2 h0 h1 w)).trans rfl
   ·cases h
  ·rename_i b1 off1 k i1 len1 q _ _ _ hx hix hr
   split at h
   ·rename_i r hr2
    cases h
    simp only [execOp,hop,hf.ev hx,hf.ev hix]
    exact (run_bind_ok (index_array hT hr hr2 h0 h1 w)).trans rfl
   ·cases h
  ·cases h
 ·cases h
theorem Goes.index (hT:TabOk P T) {b off len sz d j:Nat} {i:Int} {s2:List Item} {e2:Env} (h:atHead (indexOf T e) n s e=some ((b,off,len,sz,i),d,s')) (h0:0≤i) (h1:i<len) (hj:i.toNat*sz=j)
 (ha:Go.Proofs.YtnaoiegcobineaaGreatDoor.adv T n 400 s' ((d,false,.pointer (some ⟨b,off+j,none⟩))::e)=(s2,e2)) (hg:Goes P f R n ds s2 e2 w):Goes P f R n ds s e w :=
 Goes.val h (fun _ ho a hf=>indexOf_run hT ho h0 h1 hj a hf w) (Goes.adv hT 400 ha hg)
end
end Go.Proofs.YtnaoiegcobineaaGreatDoor
