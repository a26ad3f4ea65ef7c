/-
  Rule
-/
import Derived.Test.YtgddpaiandefgaaGreatDoorQEng
namespace Go.Proofs.YtgddpaiandefgaaGreatDoor
open Go.RowKit
structure Chg (S:Nat→Prop) (w w':World):Prop where
 os:w'.os=w.os
 tape:w'.tape=w.tape
 output:w'.output=w.output
 size:w.heap.size≤w'.heap.size
 block:∀ k,k<w.heap.size → ¬ S k→w'.heap[k]? = w.heap[k]?
abbrev XaX:Nat→Prop:=fun _=>False
theorem Chg.refl (S:Nat→Prop) (w:World):Chg S w w:=⟨rfl,rfl,rfl,Nat.le_refl _,fun _ _ _=>rfl⟩
theorem Chg.trans {S:Nat→Prop} {w w1 w2:World} (h:Chg S w w1) (k:Chg S w1 w2):Chg S w w2 :=
 ⟨k.os.trans h.os,k.tape.trans h.tape,k.output.trans h.output,Nat.le_trans h.size k.size,fun i a b=>(k.block i (Nat.lt_of_lt_of_le a h.size) b).trans (h.block i a b)⟩
theorem Chg.mono {S S':Nat→Prop} {w w':World} (h:Chg S w w') (hs:∀ k,k<w.heap.size→S k→S' k):Chg S' w w':=⟨h.os,h.tape,h.output,h.size,fun k a b=>h.block k a (fun c=>b (hs k a c))⟩
theorem Chg.since {S S':Nat→Prop} {w0 w w':World} (h0:Chg S w0 w) (h:Chg S' w w') (hs:∀ k,k<w0.heap.size→S' k→S k):Chg S w0 w' :=
 ⟨h.os.trans h0.os,h.tape.trans h0.tape,h.output.trans h0.output,Nat.le_trans h0.size h.size,fun k a b=>(h.block k (Nat.lt_of_lt_of_le a h0.size) (fun c=>b (hs k a c))).trans (h0.block k a b)⟩
theorem Chg.below {w w':World} (h:Chg XaX w w'):Below w.heap.size w w':=⟨h.os,h.tape,h.output,h.size,fun k a=>h.block k a id⟩
theorem Xkj {w:World} {b:Nat} {o:Obj} (h:w.heap[b]? = some o):b<w.heap.size:=(Array.getElem?_eq_some_iff.1 h).1
theorem Chg.heap {S:Nat→Prop} {w w':World} (h:Chg S w w') {b:Nat} {o:Obj} (ho:w.heap[b]? = some o) (hs:¬ S b):w'.heap[b]? = some o:=(h.block b (Xkj ho) hs).trans ho
theorem Chg.heap' {w w':World} (h:Chg XaX w w') {b:Nat} {o:Obj} (ho:w.heap[b]? = some o):w'.heap[b]? = some o:=h.heap ho id
theorem Rd.chg {k:IntKind} {w w':World} {a:Option Addr} {zs:List Int} (h:Rd k w a zs) (hb:Chg XaX w w'):Rd k w' a zs:=h.below hb.below
theorem Chg.drew {S:Nat→Prop} {w w':World} (h:Chg S w w') (n:Nat):Chg S w {w' with drawn:=n}:=⟨h.os,h.tape,h.output,h.size,h.block⟩
theorem Xel {w:World} {b off:Nat} {c:Array Value} {t:TypeId} {fz:Nat × Nat} (h:w.heap[b]? = some (.cells c t fz)):w.cell? ⟨b,off,none⟩=c[off]?:=by
 simp [World.cell?,h]
theorem XgY {w:World} {b off:Nat} {c:Array Value} {t:TypeId} (h:w.heap[b]? = some (.cells c t (0,0))):w.frozen? ⟨b,off,none⟩=false:=by
 simp [World.frozen?,h]
def Xaw (P : Program) (k : FuncId) : Prop := ∃ fn, P.funcs[k]? = some fn ∧ (fn.name == "runtime.NumGoroutine") = false ∧ fn.body.isNone = false
abbrev Xbe (Post:Value→World→Prop):Aim:=⟨none,fun e w' => ∃ v,e = .returned v∧Post v w'⟩
abbrev Ret (Post:Value→World→Prop):Ending→World→Prop:=fun e w' => ∃ v,e = .returned v∧Post v w'
structure Xan (P:Program) (k:FuncId) (args:Array Value) (w:World) (Post:Value→World→Prop):Prop where
 fn:Xaw P k
 calls:Calls P k args w (Ret Post)
theorem Xan.mono {P:Program} {k:FuncId} {args:Array Value} {w:World} {Post Post':Value→World→Prop} (h:Xan P k args w Post) (hp:∀ v w',Post v w'→Post' v w'):Xan P k args w Post' :=
 ⟨h.fn,h.calls.mono fun _ _ ⟨v,a,b⟩=>⟨v,a,hp _ _ b⟩⟩
def XcR:Nat→List Value→Env
 |_,[] => []
 |i,v::r=>(i,false,v)::XcR (i+1) r
theorem Xj7:∀ (l:List Value) (i t:Nat) (v:Value),look (XcR i l) t=some v→i≤t∧l[t - i]? = some v
 |[],i,t,v,h=>by simp [XcR,look] at h
 |u::r,i,t,v,h=>by
  simp only [XcR,Xkb] at h;by_cases e:t=i
  ·subst e; simp at h; simp [h]
  ·rw [if_neg e] at h;obtain ⟨b,a⟩:=Xj7 r (i+1) t v h;refine ⟨by omega,?_⟩;rw [show t - i=(t - (i+1))+1 from by omega]
   simpa using a
theorem Xan.enter {P:Program} {k:FuncId} {fn:Func} {c:Code} {l:List Value} {w:World} {Post:Value→World→Prop} {n:Nat}
 (hf : P.funcs[k]? = some fn) (hb : fn.body = some c) (hn : fn.ntmps = n) (hname : (fn.name == "runtime.NumGoroutine") = false) (hle' : Nat.ble l.length n = true)
 (h:Xay P k (Xbe Post) n [] [.code c] (XcR 0 l) w):Xan P k l.toArray w Post:=by
 have m:l.length≤n:=Nat.le_of_ble_eq_true hle';refine ⟨⟨fn,hf,hname,by rw [hb]; rfl⟩,fun cs => ?_⟩
 let b:Frame:={(default:Frame) with fn:=k,kind := .normal,roundOf:=none}
 let a:Act:={tmps:=l.toArray++Array.replicate (fn.ntmps - l.toArray.size) undef,defers := []}
 have d:Frame.enter P k l.toArray .normal=b.atR a [.code c]:=by
  simp [Frame.enter,Frame.atR,hf,hb,b,a]
 obtain ⟨en,w',fr,i,f,e,j⟩:=h b cs a rfl rfl rfl ⟨by simp [a,hn]; omega,fun t v ht=>by
  obtain ⟨_,e⟩:=Xj7 l 0 t v ht;have g:t<l.length:=by
   have:=(List.getElem?_eq_some_iff.1 e).1; simpa using this
  simp only [a];rw [Array.getElem?_append_left (by simpa using g)]
  simpa using e⟩
 rw [← d] at f;exact ⟨en,w',fr,i rfl,f,e,XaH.leaving (j.1 rfl)⟩
section
variable {P:Program} {T:Tab} {f:FuncId} {R:Aim} {Post:Value→World→Prop} {n:Nat} {ds:List Deferred} {s s':List Item} {e e':Env} {w w':World}
theorem Xay.adv (hT:XbE P T) (m:Nat) (h:Go.Proofs.YtgddpaiandefgaaGreatDoor.adv T n m s e=(s',e')) (hg:Xay P f R n ds s' e' w):Xay P f R n ds s e w :=
 Xb6 hT m s e (by rw [h]; exact hg)
def ask (s:List Item) (e:Env):Option (Nat × Bool) :=
 match s with
 |.code (.cond (.tmp t) _ _)::_=>match look e t with
  |some (.bool p)=>some (t,p)
  |_=>none
 |.inRegion ops (i::_)::_=>match nth ops.toList i with
  |some o=>match o.guard,o.op with
   |none,.pick (.tmp t) _ _=>match look e t with
    |some (.bool p)=>some (t,p)
    |_=>none
   |some (j,_),_=>match nth ops.toList j with
    |some g=>match g.dst with
     |some d=>match look e d with
      |some (.bool p)=>some (d,p)
      |_=>none
     |none=>none
    |none=>none
   |_,_=>none
  |none=>none
 |_=>none
theorem Xj8 {t:Nat} {p:Bool} (h:ask s e=some (t,p)):look e t=some (.bool p):=by
 unfold ask at h;split at h
 ·split at h
  ·cases h; assumption
  ·cases h
 ·split at h
  ·split at h
   ·split at h
    ·cases h; assumption
    ·cases h
   ·split at h
    ·split at h
     ·split at h
      ·cases h; assumption
      ·cases h
     ·cases h
    ·cases h
   ·cases h
  ·cases h
 ·cases h
theorem Xay.know {t:Nat} {b:Bool} {v:Value} (h:look e t=some v) (hg:Xay P f R n ds s ((t,b,v)::e) w):Xay P f R n ds s e w :=
 hg.weaken fun u x a=>by
  rw [Xkb] at a;by_cases c:u=t
  ·subst c; rw [if_pos rfl] at a; rw [h,a]
  ·rwa [if_neg c] at a
theorem Xay.ask {t:Nat} {p:Bool} (h:ask s e=some (t,p)) (ht:p=true→Xay P f R n ds s ((t,true,.bool true)::e) w) (hf:p=false→Xay P f R n ds s ((t,true,.bool false)::e) w):Xay P f R n ds s e w:=by
 have a:=Xj8 h;cases p with
 |true=>exact (ht rfl).know a
 |false=>exact (hf rfl).know a
theorem Xay.yes (hT:XbE P T) {t:Nat} {p:Bool} (h:Go.Proofs.YtgddpaiandefgaaGreatDoor.ask s e=some (t,p)) (hp:p=true) (ha:Go.Proofs.YtgddpaiandefgaaGreatDoor.adv T n 400 s ((t,true,.bool true)::e)=(s',e')) (hg:Xay P f R n ds s' e' w):Xay P f R n ds s e w :=
 Xay.ask h (fun _=>Xay.adv hT 400 ha hg) (fun a=>by rw [hp] at a; cases a)
theorem Xay.no (hT:XbE P T) {t:Nat} {p:Bool} (h:Go.Proofs.YtgddpaiandefgaaGreatDoor.ask s e=some (t,p)) (hp:p=false) (ha:Go.Proofs.YtgddpaiandefgaaGreatDoor.adv T n 400 s ((t,true,.bool false)::e)=(s',e')) (hg:Xay P f R n ds s' e' w):Xay P f R n ds s e w :=
 Xay.ask h (fun a=>by rw [hp] at a; cases a) (fun _=>Xay.adv hT 400 ha hg)
theorem Xay.fork (hT:XbE P T) {t:Nat} {p:Bool} {s1 s2:List Item} {e1 e2:Env} (h:Go.Proofs.YtgddpaiandefgaaGreatDoor.ask s e=some (t,p)) (ha:Go.Proofs.YtgddpaiandefgaaGreatDoor.adv T n 400 s ((t,true,.bool true)::e)=(s1,e1)) (hb:Go.Proofs.YtgddpaiandefgaaGreatDoor.adv T n 400 s ((t,true,.bool false)::e)=(s2,e2))
 (ht:p=true→Xay P f R n ds s1 e1 w) (hf:p=false→Xay P f R n ds s2 e2 w):Xay P f R n ds s e w :=
 Xay.ask h (fun a=>Xay.adv hT 400 ha (ht a)) (fun a=>Xay.adv hT 400 hb (hf a))
def XhA (s:List Item) (e:Env):Option (Oper × List Item) :=
 match s with
 |.inRegion ops (i::l)::k=>match nth ops.toList i with
  |some o=>match Xv3 e ops o with
   |some true=>some (o,.inRegion ops l::k)
   |_=>none
  |none=>none
 |_=>none
theorem Xay.head {o:Oper} {v:Value} (h:XhA s e=some (o,s')) {fl:Bool} (hp:XoA n o.dst fl v e=some e')
 (hrun:∀ a,Xau n a e→(execOp a.eval o).run P w = .ok (.value v) w'∨(execOp a.eval o).run P w = .ok .skip w'∧v=undef) (hg:Xay P f R n ds s' e' w'):Xay P f R n ds s e w:=by
 unfold XhA at h;split at h
 ·rename_i ops i l k
  split at h
  ·rename_i o' g
   split at h
   ·rename_i j
    cases h
    intro b cs a p q r hf;have m:(a.put o.dst v).defers=ds:=by cases o.dst <;> exact r
    obtain ⟨en,t,fr,u,x,y,z⟩:=hg b cs (a.put o.dst v) p q m (XoE hp a hf);refine ⟨en,t,fr,u,.of_steps (.one (step_lone_go ?_)) x,y,z⟩;have c:(b.atR a (.inRegion ops (i::l)::k)).finish v=b.atR (a.put o.dst v) (.inRegion ops l::k):=by
     rw [Frame.finish_atR,Xl5 g]; rfl
    rcases hrun a hf with d | ⟨d,A⟩
    ·rw [Xtu (Xl5 g) (Xv4 hf j) d (by simp),← c]; simp [stepG.apply,d]
    ·subst A; rw [Xtu (Xl5 g) (Xv4 hf j) d (by simp),← c]; simp [stepG.apply,d]
   ·cases h
  ·cases h
 ·cases h
theorem XoD {d:Nat} {fl:Bool} {v:Value} (h:Nat.blt d n=true):XoA n (some d) fl v e=some ((d,fl,v)::e):=by rw [XoC]; simp only [Xoz,h]; rfl
def XcY {δ:Type} (g:Oper→Option δ) (n:Nat) (s:List Item) (e:Env):Option (δ × Nat × List Item) :=
 match XhA s e with
 |some (o,s')=>match o.dst with
  |some d=>match Nat.blt d n with
   |true=>match g o with
    |some x=>some (x,d,s')
    |none=>none
   |false=>none
  |none=>none
 |none=>none
theorem Xc1 {δ:Type} {g:Oper→Option δ} {x:δ} {d:Nat} (h:XcY g n s e=some (x,d,s')):∃ o,XhA s e=some (o,s')∧o.dst=some d∧Nat.blt d n=true∧g o=some x:=by
 unfold XcY at h;split at h
 ·rename_i o i b
  split at h
  ·rename_i j c
   split at h
   ·rename_i a
    split at h
    ·rename_i y f; cases h; exact ⟨o,b,c,a,f⟩
    ·cases h
   ·cases h
  ·cases h
 ·cases h
theorem Xay.val {δ:Type} {g:Oper→Option δ} {x:δ} {d:Nat} {v:Value} (h:XcY g n s e=some (x,d,s'))
 (hrun:∀ o,g o=some x → ∀ a,Xau n a e→(execOp a.eval o).run P w = .ok (.value v) w') (hg:Xay P f R n ds s' ((d,false,v)::e) w'):Xay P f R n ds s e w:=by
 obtain ⟨o,c,i,b,j⟩:=Xc1 h;exact Xay.head c (by rw [i]; exact XoD b) (fun a hf => .inl (hrun o j a hf)) hg
def XcU (op:BinOp) (x y:Int):Option Int :=
 match op with
 |.add=>some (x+y)
 |.sub=>some (x - y)
 |.mul=>some (x*y)
 |_=>none
def XcS (T:Tab) (e:Env) (o:Oper):Option (IntKind × Int) :=
 match o.op with
 |.binOp op _ x y _=>match ev e x,ev e y with
  |some (.int k a),some (.int k' b)=>match XqN k k' with
   |true=>match XcU op a b with
    |some z=>some (k,z)
    |none=>none
   |false=>none
  |_,_=>none
 |.convert src dst x=>match ev e x,row T src,row T dst with
  |some (.int _ a),some _,some {und := .int k,..}=>some (k,a)
  |_,_,_=>none
 |_=>none
theorem XcT (hT:XbE P T) {k:IntKind} {z z':Int} {o:Oper} (h:XcS T e o=some (k,z)) (hz:k.wrap z=z') (a:Act) (hf:Xau n a e) (w:World):(execOp a.eval o).run P w = .ok (.value (.int k z')) w:=by
 subst hz;unfold XcS at h;split at h
 ·rename_i op t x y t' b
  split at h
  ·rename_i i j p q d l
   split at h
   ·rename_i m
    split at h
    ·rename_i r c
     cases h
     have:=XqO m; subst this;simp only [execOp,b,hf.ev d,hf.ev l];refine (XqJ (x:=(.int k (k.wrap z):Value)) (w':=w) ?_).trans rfl;refine (XqJ (XfY w)).trans ?_;cases op <;> simp only [XcU,reduceCtorEq,Option.some.injEq] at c <;> (subst c; simp only [binOp,ne_eq,not_true_eq_false,if_false,Op.intArith]; rfl)
    ·cases h
   ·cases h
  ·cases h
 ·rename_i src dst x b
  split at h
  ·rename_i s j u i _ _ _ d f g
   cases h
   simp only [execOp,b,hf.ev d];refine (XqJ (x:=(.int k (k.wrap z):Value)) (w':=w) ?_).trans rfl;unfold convert;refine (XqJ ((hT.row f).underlying w)).trans ?_;refine (XqJ ((hT.row g).underlying w)).trans ?_;rfl
  ·cases h
 ·cases h
theorem Xay.arith (hT:XbE P T) {k:IntKind} {z z':Int} {d:Nat} {s2:List Item} {e2:Env} (h:XcY (XcS T e) n s e=some ((k,z),d,s')) (hz:k.wrap z=z')
 (ha:Go.Proofs.YtgddpaiandefgaaGreatDoor.adv T n 400 s' ((d,false,.int k z')::e)=(s2,e2)) (hg:Xay P f R n ds s2 e2 w):Xay P f R n ds s e w :=
 Xay.val h (fun _ b a hf=>XcT hT b hz a hf w) (Xay.adv hT 400 ha hg)
theorem w64 {z:Int} (h : -9223372036854775808≤z∧z≤9223372036854775807):IntKind.i64.wrap z=z:=IntWalk.i64_in z h
def XfG (e:Env) (o:Oper):Option (Bool × IntKind × Int × Int) :=
 match o.op with
 |.binOp .quo _ x y _=>match ev e x,ev e y with
  |some (.int k a),some (.int k' b)=>match XqN k k' with
   |true=>some (true,k,a,b)
   |false=>none
  |_,_=>none
 |.binOp .rem _ x y _=>match ev e x,ev e y with
  |some (.int k a),some (.int k' b)=>match XqN k k' with
   |true=>some (false,k,a,b)
   |false=>none
  |_,_=>none
 |_=>none
def XfI (q:Bool) (k:IntKind) (x y:Int):Int:=if q then k.wrap (x.tdiv y) else x.tmod y
theorem XfH {q:Bool} {k:IntKind} {x y z:Int} {o:Oper} (h:XfG e o=some (q,k,x,y)) (hy:y≠0) (hz:XfI q k x y=z) (a:Act) (hf:Xau n a e) (w:World):(execOp a.eval o).run P w = .ok (.value (.int k z)) w:=by
 subst hz;unfold XfG at h;split at h
 all_goals first | (cases h; done) | skip
 all_goals
  rename_i t x' y' t' c
  split at h
  ·rename_i i j l b f d
   split at h
   ·rename_i g
    cases h
    have:=XqO g; subst this;simp only [execOp,c,hf.ev f,hf.ev d];refine (XqJ (w':=w) ?_).trans rfl;refine (XqJ (XfY w)).trans ?_;simp only [binOp,ne_eq,not_true_eq_false,if_false,Op.intDiv,if_neg hy];rfl
   ·cases h
  ·cases h
theorem Xay.div (hT:XbE P T) {q:Bool} {k:IntKind} {x y z:Int} {d:Nat} {s2:List Item} {e2:Env} (h:XcY (XfG e) n s e=some ((q,k,x,y),d,s')) (hy:y≠0) (hz:XfI q k x y=z)
 (ha:Go.Proofs.YtgddpaiandefgaaGreatDoor.adv T n 400 s' ((d,false,.int k z)::e)=(s2,e2)) (hg:Xay P f R n ds s2 e2 w):Xay P f R n ds s e w :=
 Xay.val h (fun _ b a hf=>XfH b hy hz a hf w) (Xay.adv hT 400 ha hg)
theorem XoJ {x y:Int} (hx:0≤x) (hx':x≤9223372036854775807):XfI true .i64 x y=x / y:=by
 unfold XfI;rw [if_pos rfl,Int.tdiv_eq_ediv_of_nonneg hx];apply w64
 rcases Int.le_total 0 y with hy | hy
 ·have a:0≤x / y:=Int.ediv_nonneg hx hy;have b:x / y≤x:=Int.ediv_le_self y hx;omega
 ·have a:x / y≤0:=Int.ediv_nonpos_of_nonneg_of_nonpos hx hy;have b : -(x / y)≤x:=by
   rw [← Int.ediv_neg]; exact Int.ediv_le_self (-y) hx
  omega
theorem Xo9 {k:IntKind} {x y:Int} (hx:0≤x):XfI false k x y=x % y:=by
 unfold XfI;rw [if_neg (by simp),Int.tmod_eq_emod_of_nonneg hx]
def Xl3:List Value→Nat→Option Value
 |[],_=>none
 |v::_,0=>some v
 |_::r,i+1=>Xl3 r i
theorem Xl4:∀ (l:List Value) (i:Nat),Xl3 l i=l[i]?
 |[],_=>by simp [Xl3]
 |_::_,0=>by simp [Xl3]
 |_::r,i+1=>by simp [Xl3,Xl4 r i]
def cut:List Value→Nat→Nat→Option (List Value)
 |_,0,0=>some []
 |v::r,0,m+1=>match cut r 0 m with
  |some l=>some (v::l)
  |none=>none
 |_::r,i+1,m=>cut r i m
 |[],_,_=>none
theorem Xfz:∀ (l:List Value) (i m:Nat) (r:List Value),cut l i m=some r→r.length=m ∧ ∀ j,j<m→l[i+j]? = r[j]?
 |_,0,0,r,h=>by simp [cut] at h; subst h; exact ⟨rfl,fun j a=>by omega⟩
 |v::l,0,m+1,r,h=>by
  simp only [cut] at h;split at h
  ·rename_i q d
   cases h
   obtain ⟨b,c⟩:=Xfz l 0 m q d;refine ⟨by simp [b],fun j a => ?_⟩;cases j with
   |zero=>simp
   |succ j=>have:=c j (by omega); simpa using this
  ·cases h
 |_::l,i+1,m,r,h=>by
  simp only [cut] at h;obtain ⟨b,c⟩:=Xfz l i m r h;refine ⟨b,fun j a => ?_⟩;have:=c j a;rw [show i+1+j=(i+j)+1 from by omega]
  simpa using this
 |[],0,m+1,r,h=>by simp [cut] at h
 |[],i+1,m,r,h=>by simp [cut] at h
def XiK (r:XbP):Bool:=match r.und with | .struct _=>true | .array _ _=>true | _=>false
theorem Xbk.isAgg {t:Nat} {r:XbP} (h:Xbk P t r) (w:World):(Go.isAgg t).run P w = .ok (XiK r) w:=by
 unfold Go.isAgg XiK;rw [XqJ (h.underlying w)];cases r.und <;> rfl
theorem Xj1 {a:Addr} {v:Value} (hc:w.cell? a=some v):(Go.load a).run P w = .ok v w:=by
 simp [Go.load,Sem.run,hc]
theorem XjV {a:Addr}:∀ (l:List Value) (i:Nat) (acc:Array Value),(∀ j,j<l.length→w.cell? (a.add (i+j))=l[j]?)→(loadCellsFrom a i l.length acc).run P w = .ok (acc++l.toArray) w
 |[],i,acc,_=>by simp [loadCellsFrom,pure]
 |v::r,i,acc,h=>by
  have b:w.cell? (a.add i)=some v:=by have:=h 0 (by simp); simpa using this
  simp only [List.length_cons,loadCellsFrom];refine (XqJ (Xj1 b)).trans ?_;rw [XjV r (i+1) (acc.push v) (fun j c=>by have:=h (j+1) (by simp; omega); rw [show i+1+j=i+(j+1) from by omega]; simpa using this)]
  congr 1
  apply Array.ext'
  simp
theorem XjY (hT:XbE P T) {b off ty:Nat} {c l:List Value} {q:TypeId} {fz:Nat × Nat} {r:XbP} (hr:row T ty=some r) (ha:XiK r=true) (hc:w.heap[b]? = some (.cells c.toArray q fz)) (hv:cut c off r.size=some l) :
 (loadVar ty ⟨b,off,none⟩).run P w = .ok (.agg l.toArray) w:=by
 obtain ⟨d,a⟩:=Xfz _ _ _ _ hv;unfold loadVar;refine (XqJ ((hT.row hr).isAgg w)).trans ?_;rw [ha,if_pos rfl];refine (XqJ ((hT.row hr).sizeOf w)).trans ?_;refine (XqJ (x:=l.toArray) (w':=w) ?_).trans rfl;rw [← d];unfold loadCells;rw [XjV l 0 #[] (fun j e=>by rw [Nat.zero_add,XbV,Xel hc,← a j (by omega)]; simp)]
 simp
theorem Xj0 (hT:XbE P T) {b off ty:Nat} {v:Value} {r:XbP} (hr:row T ty=some r) (ha:XiK r=false) (hc:w.cell? ⟨b,off,none⟩=some v):(loadVar ty ⟨b,off,none⟩).run P w = .ok v w:=by
 unfold loadVar;refine (XqJ ((hT.row hr).isAgg w)).trans ?_;rw [ha];exact Xj1 hc
def XjW (T:Tab) (e:Env) (o:Oper):Option (Nat × Nat × Option Nat) :=
 match o.op with
 |.load t x=>match ev e x,row T t with
  |some (.pointer (some ⟨b,off,none⟩)),some r=>match XiK r with
   |true=>some (b,off,some r.size)
   |false=>some (b,off,none)
  |_,_=>none
 |_=>none
theorem XjX (hT:XbE P T) {b off:Nat} {v:Value} {o:Oper} (h:XjW T e o=some (b,off,none)) (hc:w.cell? ⟨b,off,none⟩=some v) (a:Act) (hf:Xau n a e):(execOp a.eval o).run P w = .ok (.value v) w:=by
 unfold XjW at h;split at h
 ·rename_i t x d
  split at h
  ·rename_i j f r g i
   split at h
   ·cases h
   ·rename_i c
    cases h
    simp only [execOp,d,hf.ev g];refine (XqJ (x:=v) (w':=w) ?_).trans rfl;simp only [Instr.loadAt,Instr.sureAddr];exact (XqJ (show (pure _:Sem Addr).run P w = .ok _ w from rfl)).trans (Xj0 hT i c hc)
  ·cases h
 ·cases h
theorem Xj2 (hT:XbE P T) {b off m:Nat} {c vs:List Value} {t:TypeId} {fz:Nat × Nat} {o:Oper} (h:XjW T e o=some (b,off,some m)) (hc:w.heap[b]? = some (.cells c.toArray t fz)) (hv:cut c off m=some vs) (a:Act) (hf:Xau n a e):(execOp a.eval o).run P w = .ok (.value (.agg vs.toArray)) w:=by
 unfold XjW at h;split at h
 ·rename_i t x f
  split at h
  ·rename_i k g r i j
   split at h
   ·rename_i d
    cases h
    simp only [execOp,f,hf.ev i];refine (XqJ (x:=(.agg vs.toArray:Value)) (w':=w) ?_).trans rfl;simp only [Instr.loadAt,Instr.sureAddr];exact (XqJ (show (pure _:Sem Addr).run P w = .ok _ w from rfl)).trans (XjY hT j d hc hv)
   ·cases h
  ·cases h
 ·cases h
theorem Xek {b off:Nat} {c:List Value} {v:Value} {t:TypeId} {fz:Nat × Nat} (hc:w.heap[b]? = some (.cells c.toArray t fz)) (hv:Xl3 c off=some v):w.cell? ⟨b,off,none⟩=some v:=by
 rw [Xel hc]; rw [Xl4] at hv; simpa using hv
theorem Xay.load (hT:XbE P T) {b off d:Nat} {v:Value} {s2:List Item} {e2:Env} (h:XcY (XjW T e) n s e=some ((b,off,none),d,s')) (hc:w.cell? ⟨b,off,none⟩=some v)
 (ha:Go.Proofs.YtgddpaiandefgaaGreatDoor.adv T n 400 s' ((d,false,v)::e)=(s2,e2)) (hg:Xay P f R n ds s2 e2 w):Xay P f R n ds s e w :=
 Xay.val h (fun _ c a hf=>XjX hT c hc a hf) (Xay.adv hT 400 ha hg)
theorem Xay.loadb (hT:XbE P T) {b off d:Nat} {v:Value} {c:List Value} {t:TypeId} {fz:Nat × Nat} {s2:List Item} {e2:Env} (h:XcY (XjW T e) n s e=some ((b,off,none),d,s')) (hc:w.heap[b]? = some (.cells c.toArray t fz)) (hv:Xl3 c off=some v)
 (ha:Go.Proofs.YtgddpaiandefgaaGreatDoor.adv T n 400 s' ((d,false,v)::e)=(s2,e2)) (hg:Xay P f R n ds s2 e2 w):Xay P f R n ds s e w :=
 Xay.load hT h (Xek hc hv) ha hg
theorem Xay.loads (hT:XbE P T) {b off m d:Nat} {c vs:List Value} {t:TypeId} {fz:Nat × Nat} {s2:List Item} {e2:Env} (h:XcY (XjW T e) n s e=some ((b,off,some m),d,s')) (hc:w.heap[b]? = some (.cells c.toArray t fz)) (hv:cut c off m=some vs)
 (ha:Go.Proofs.YtgddpaiandefgaaGreatDoor.adv T n 400 s' ((d,false,.agg vs.toArray)::e)=(s2,e2)) (hg:Xay P f R n ds s2 e2 w):Xay P f R n ds s e w :=
 Xay.val h (fun _ g a hf=>Xj2 hT g hc hv a hf) (Xay.adv hT 400 ha hg)
def Xiy (T:Tab) (e:Env) (o:Oper):Option (Nat × Nat × Nat × Nat × Int) :=
 match o.op with
 |.indexAddr t x ix=>match ev e x,ev e ix,row T t with
  |some (.slice (some ⟨b,off,none⟩) len _),some (.int _ i),some {und := .slice q,..}=>match row T q with
   |some r=>some (b,off,len,r.size,i)
   |none=>none
  |some (.pointer (some ⟨b,off,none⟩)),some (.int _ i),some {und := .array len q,..}=>match row T q with
   |some r=>some (b,off,len,r.size,i)
   |none=>none
  |_,_,_=>none
 |_=>none
theorem XiB (hT:XbE P T) {t q b off len cap:Nat} {k:IntKind} {i:Int} {sz1 by1:Nat} {z1:Option Value} {r:XbP} (hr:row T t=some {und := .slice q,size:=sz1,bytes:=by1,zero:=z1}) (hr2:row T q=some r) (h0:0≤i) (h1:i<len) (w:World) :
 (Instr.indexAt t (.slice (some ⟨b,off,none⟩) len cap) (.int k i)).run P w = .ok (.pointer (some ⟨b,off+i.toNat*r.size,none⟩)) w:=by
 unfold Instr.indexAt;have a:=(hT.row hr).underlying w;have c:=(hT.row hr2).sizeOf w;simp only [Sem.run_bind,asIntOf,Sem.run_pure,Result.andThen_ok,a,h0,h1,and_self,if_true,c,XbV]
theorem XiA (hT:XbE P T) {t q b off len:Nat} {k:IntKind} {i:Int} {sz1 by1:Nat} {z1:Option Value} {r:XbP} (hr:row T t=some {und := .array len q,size:=sz1,bytes:=by1,zero:=z1}) (hr2:row T q=some r) (h0:0≤i) (h1:i<len) (w:World) :
 (Instr.indexAt t (.pointer (some ⟨b,off,none⟩)) (.int k i)).run P w = .ok (.pointer (some ⟨b,off+i.toNat*r.size,none⟩)) w:=by
 unfold Instr.indexAt;have a:=(hT.row hr).underlying w;have c:=(hT.row hr2).sizeOf w;simp only [Sem.run_bind,asIntOf,Instr.sureAddr,Sem.run_pure,Result.andThen_ok,a,h0,h1,and_self,if_true,c,XbV]
theorem Xiz (hT:XbE P T) {b off len sz j:Nat} {i:Int} {o:Oper} (h:Xiy T e o=some (b,off,len,sz,i)) (h0:0≤i) (h1:i<len) (hj:i.toNat*sz=j) (a:Act) (hf:Xau n a e) (w:World):(execOp a.eval o).run P w = .ok (.value (.pointer (some ⟨b,off+j,none⟩))) w:=by
 subst hj;unfold Xiy at h;split at h
 ·rename_i t x ix f
  split at h
  ·rename_i s g l _ k u q _ _ _ m c p
   split at h
   ·rename_i r d
    cases h
    simp only [execOp,f,hf.ev m,hf.ev c];exact (XqJ (XiB hT p d h0 h1 w)).trans rfl
   ·cases h
  ·rename_i s g k u l q _ _ _ m c p
   split at h
   ·rename_i r d
    cases h
    simp only [execOp,f,hf.ev m,hf.ev c];exact (XqJ (XiA hT p d h0 h1 w)).trans rfl
   ·cases h
  ·cases h
 ·cases h
theorem Xay.index (hT:XbE P T) {b off len sz d j:Nat} {i:Int} {s2:List Item} {e2:Env} (h:XcY (Xiy T e) n s e=some ((b,off,len,sz,i),d,s')) (h0:0≤i) (h1:i<len) (hj:i.toNat*sz=j)
 (ha:Go.Proofs.YtgddpaiandefgaaGreatDoor.adv T n 400 s' ((d,false,.pointer (some ⟨b,off+j,none⟩))::e)=(s2,e2)) (hg:Xay P f R n ds s2 e2 w):Xay P f R n ds s e w :=
 Xay.val h (fun _ c a hf=>Xiz hT c h0 h1 hj a hf w) (Xay.adv hT 400 ha hg)
end
end Go.Proofs.YtgddpaiandefgaaGreatDoor
