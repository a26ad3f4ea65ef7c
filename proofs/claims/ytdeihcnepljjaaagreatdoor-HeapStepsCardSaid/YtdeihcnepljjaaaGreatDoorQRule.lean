/-
  Rule
-/
import Derived.Test.YtdeihcnepljjaaaGreatDoorQEng
namespace Go.Proofs.YtdeihcnepljjaaaGreatDoor
open Go.RowKit
structure Xc(S:Nat->Prop)(w w':World):Prop where
 os:w'.os=w.os
 tape:w'.tape=w.tape
 output:w'.output=w.output
 size:w.heap.size<=w'.heap.size
 block:∀k,k<w.heap.size -> ¬S k->w'.heap[k]?=w.heap[k]?
abbrev Xf:Nat->Prop:=λ_=>False
theorem Xc.refl(S:Nat->Prop)(w:World):Xc S w w:=⟨rfl,rfl,rfl,Nat.le_refl _,λ_ _ _=>rfl⟩
theorem Xc.trans{S:Nat->Prop}{w w1 w2:World}(h:Xc S w w1)(k:Xc S w1 w2):Xc S w w2:=
 ⟨k.os.trans h.os,k.tape.trans h.tape,k.output.trans h.output,Nat.le_trans h.size k.size,λi hi a=>(k.block i (Nat.lt_of_lt_of_le hi h.size) a).trans (h.block i hi a)⟩
theorem Xc.mono{S S':Nat->Prop}{w w':World}(h:Xc S w w')(hs:∀k,k<w.heap.size->S k->S' k):Xc S' w w':=⟨h.os,h.tape,h.output,h.size,λk a b=>h.block k a (λc=>b (hs k a c))⟩
theorem Xc.bU{S S':Nat->Prop}{w0 w w':World}(h0:Xc S w0 w)(h:Xc S' w w')(hs:∀k,k<w0.heap.size->S' k->S k):Xc S w0 w':=
 ⟨h.os.trans h0.os,h.tape.trans h0.tape,h.output.trans h0.output,Nat.le_trans h0.size h.size,λk a b=>(h.block k (Nat.lt_of_lt_of_le a h0.size) (λc=>b (hs k a c))).trans (h0.block k a b)⟩
theorem Xc.below{w w':World}(h:Xc Xf w w'):Below w.heap.size w w':=⟨h.os,h.tape,h.output,h.size,λk a=>h.block k a id⟩
theorem Xg{w:World}{b:Nat}{o:Obj}(h:w.heap[b]?=some o):b<w.heap.size:=(Array.getElem?_eq_some_iff.1 h).1
theorem Xc.heap{S:Nat->Prop}{w w':World}(h:Xc S w w'){b:Nat}{o:Obj}(ho:w.heap[b]?=some o)(hs:¬S b):w'.heap[b]?=some o:=(h.block b (Xg ho) hs).trans ho
theorem Xc.bP{w w':World}(h:Xc Xf w w'){b:Nat}{o:Obj}(ho:w.heap[b]?=some o):w'.heap[b]?=some o:=h.heap ho id
theorem Rd.bR{k:IntKind}{w w':World}{a:Option Addr}{zs:List Int}(h:Rd k w a zs)(hb:Xc Xf w w'):Rd k w' a zs:=h.below hb.below
theorem Xc.drew{S:Nat->Prop}{w w':World}(h:Xc S w w')(n:Nat):Xc S w {w' with drawn:=n}:=⟨h.os,h.tape,h.output,h.size,h.block⟩
theorem Yx{w:World}{b off:Nat}{c:Array Value}{t:TypeId}{fz:Nat×Nat}(h:w.heap[b]?=some (.cells c t fz)):w.cell? ⟨b,off,none⟩=c[off]?:=by
 simp[World.cell?,h]
theorem Xj0{w:World}{b off:Nat}{c:Array Value}{t:TypeId}(h:w.heap[b]?=some (.cells c t (0,0))):w.frozen? ⟨b,off,none⟩=false:=by
 simp[World.frozen?,h]
def Ob(P : Program)(k : FuncId):Prop := ∃ fn, P.funcs[k]? = some fn ∧ (fn.name == "runtime.NumGoroutine") = false ∧ fn.body.isNone = false
abbrev Gh(Post:Value->World->Prop):Aim:=⟨none,λe w'=>∃v,e=.returned v/\Post v w'⟩
abbrev Ret(Post:Value->World->Prop):Ending->World->Prop:=λe w'=>∃v,e=.returned v/\Post v w'
structure Xe(P:Program)(k:FuncId)(args:Array Value)(w:World)(Post:Value->World->Prop):Prop where
 fn:Ob P k
 calls:Calls P k args w (Ret Post)
theorem Xe.mono{P:Program}{k:FuncId}{args:Array Value}{w:World}{Post Post':Value->World->Prop}(h:Xe P k args w Post)(hp:∀v w',Post v w'->Post' v w'):Xe P k args w Post':=
 ⟨h.fn,h.calls.mono λ_ _ ⟨v,a,b⟩=>⟨v,a,hp _ _ b⟩⟩
def Mm:Nat->List Value->Env
 |_,[]=>[]
 |i,v::r=>(i,false,v)::Mm (i+1) r
theorem XbA:∀(l:List Value) (i t:Nat) (v:Value),look (Mm i l) t=some v->i<=t/\l[t-i]?=some v
 |[],i,t,v,h=>by simp[Mm,look] at h
 |u::r,i,t,v,h=>by
  simp only[Mm,Kx] at h;by_cases e:t=i
  .subst e;simp at h;simp[h]
  .rw[if_neg e] at h;obtain⟨b,a⟩:=XbA r (i+1) t v h;refine⟨X,?_⟩;rw[show t-i=(t-(i+1))+1 from by omega]
   simpa using a
theorem Xe.enter{P:Program}{k:FuncId}{fn:Func}{c:Code}{l:List Value}{w:World}{Post:Value->World->Prop}{n:Nat}(hf : P.funcs[k]? = some fn)(hb : fn.body = some c)(hn : fn.ntmps = n) (hname : (fn.name == "runtime.NumGoroutine") = false) (hle' : Nat.ble l.length n = true)
 (h:Xa P k (Gh Post) n [] [.code c] (Mm 0 l) w):Xe P k l.toArray w Post:=by
 have o:=Nat.le_of_ble_eq_true hle';refine⟨⟨fn,hf,hname,by rw[hb];rfl⟩,λcs=>?_⟩
 let b:Frame:={(default:Frame) with fn:=k,kind:=.normal,roundOf:=none}
 let a:Act:={tmps:=l.toArray++Array.replicate (fn.ntmps-l.toArray.size) undef,defers:=[]}
 have d:Frame.enter P k l.toArray .normal=b.atR a [.code c]:=by
  simp[Frame.enter,Frame.atR,hf,hb,b,a]
 obtain⟨en,w',fr,j,g,f,m⟩:=h b cs a rfl rfl rfl ⟨by simp[a,hn];omega,λt v ht=>by
  obtain⟨_,f⟩:=XbA l 0 t v ht;have i:t<l.length:=by
   have:=(List.getElem?_eq_some_iff.1 f).1;simpa using this
  simp only[a];rw[Array.getElem?_append_left (xU i)]
  simpa using f⟩
 rw[<-d] at g;exact⟨en,w',fr,j rfl,g,f,Tu.leaving (m.1 rfl)⟩
section
variable {P:Program}{T:Tab}{f:FuncId}{R:Aim}{Post:Value->World->Prop}{n:Nat}{ds:List Deferred}{s s':List Item}{e e':Env}{w w':World}
theorem Xa.adv(hT:Xp P T)(m:Nat)(h:Go.Proofs.YtdeihcnepljjaaaGreatDoor.adv T n m s e=(s',e'))(hg:Xa P f R n ds s' e' w):Xa P f R n ds s e w:=
 Gi hT m s e (by rw[h];exact hg)
def ask(s:List Item)(e:Env):Option (Nat×Bool):=
 match s with
 |.code (.cond (.tmp t) _ _)::_=>match look e t with
  |some (.bool p)=>some (t,p)
  |_=>none
 |.inRegion ops (i::_)::_=>match Av ops.toList i with
  |some o=>match o.guard,o.op with
   |none,.pick (.tmp t) _ _=>match look e t with
    |some (.bool p)=>some (t,p)
    |_=>none
   |some (j,_),_=>match Av ops.toList j with
    |some g=>match g.dst with
     |some d=>match look e d with
      |some (.bool p)=>some (d,p)
      |_=>none
     |none=>none
    |none=>none
   |_,_=>none
  |none=>none
 |_=>none
theorem XkQ{t:Nat}{p:Bool}(h:ask s e=some (t,p)):look e t=some (.bool p):=by
 unfold ask at h;split at h
 .split at h
  .cases h;assumption
  .cases h
 .split at h
  .split at h
   .split at h
    .cases h;assumption
    .cases h
   .split at h
    .split at h
     .split at h
      .cases h;assumption
      .cases h
     .cases h
    .cases h
   .cases h
  .cases h
 .cases h
theorem Xa.know{t:Nat}{b:Bool}{v:Value}(h:look e t=some v)(hg:Xa P f R n ds s ((t,b,v)::e) w):Xa P f R n ds s e w:=
 hg.weaken λu x a=>by
  rw[Kx] at a;by_cases c:u=t
  .subst c;rw[if_pos rfl] at a;rw[h,a]
  .rwa [if_neg c] at a
theorem Xa.ask{t:Nat}{p:Bool}(h:ask s e=some (t,p))(ht:p=true->Xa P f R n ds s ((t,true,.bool true)::e) w)(hf:p=false->Xa P f R n ds s ((t,true,.bool false)::e) w):Xa P f R n ds s e w:=by
 have a:=XkQ h;cases p with
 |true=>exact(ht rfl).know a
 |false=>exact(hf rfl).know a
theorem Xa.yes(hT:Xp P T){t:Nat}{p:Bool}(h:Go.Proofs.YtdeihcnepljjaaaGreatDoor.ask s e=some (t,p))(hp:p=true)(ha:Go.Proofs.YtdeihcnepljjaaaGreatDoor.adv T n 400 s ((t,true,.bool true)::e)=(s',e'))(hg:Xa P f R n ds s' e' w):Xa P f R n ds s e w:=
 Xa.ask h (λ_=>Xa.adv hT 400 ha hg) (λa=>by rw[hp] at a;cases a)
theorem Xa.no(hT:Xp P T){t:Nat}{p:Bool}(h:Go.Proofs.YtdeihcnepljjaaaGreatDoor.ask s e=some (t,p))(hp:p=false)(ha:Go.Proofs.YtdeihcnepljjaaaGreatDoor.adv T n 400 s ((t,true,.bool false)::e)=(s',e'))(hg:Xa P f R n ds s' e' w):Xa P f R n ds s e w:=
 Xa.ask h (λa=>by rw[hp] at a;cases a) (λ_=>Xa.adv hT 400 ha hg)
theorem Xa.fork(hT:Xp P T){t:Nat}{p:Bool}{s1 s2:List Item}{e1 e2:Env}(h:Go.Proofs.YtdeihcnepljjaaaGreatDoor.ask s e=some (t,p))(ha:Go.Proofs.YtdeihcnepljjaaaGreatDoor.adv T n 400 s ((t,true,.bool true)::e)=(s1,e1))(hb:Go.Proofs.YtdeihcnepljjaaaGreatDoor.adv T n 400 s ((t,true,.bool false)::e)=(s2,e2))(ht:p=true->Xa P f R n ds s1 e1 w)(hf:p=false->Xa P f R n ds s2 e2 w):Xa P f R n ds s e w:=
 Xa.ask h (λa=>Xa.adv hT 400 ha (ht a)) (λa=>Xa.adv hT 400 hb (hf a))
def E7(s:List Item)(e:Env):Option (Oper×List Item):=
 match s with
 |.inRegion ops (i::l)::k=>match Av ops.toList i with
  |some o=>match Dl e ops o with
   |some true=>some (o,.inRegion ops l::k)
   |_=>none
  |none=>none
 |_=>none
theorem Xa.head{o:Oper}{v:Value}(h:E7 s e=some (o,s')){fl:Bool}(hp:Fy n o.dst fl v e=some e')(hrun:∀a,Za n a e->(execOp a.eval o).run P w=.ok (.value v) w'\/(execOp a.eval o).run P w=.ok .skip w'/\v=undef)(hg:Xa P f R n ds s' e' w'):Xa P f R n ds s e w:=by
 unfold E7 at h;split at h
 .rename_i ops i l k
  split at h
  .rename_i o' d
   split at h
   .rename_i g
    cases h
    intro b cs a m p q hf;have j:(a.put o.dst v).defers=ds:=by cases o.dst <;> exact q
    obtain⟨en,r,fr,t,u,x,y⟩:=hg b cs (a.put o.dst v) m p j (Gq hp a hf);refine⟨en,r,fr,t,.of_steps (.one (step_lone_go ?_)) u,x,y⟩;have c:(b.atR a (.inRegion ops (i::l)::k)).finish v=b.atR (a.put o.dst v) (.inRegion ops l::k):=by
     rw[Frame.finish_atR,Bx d];rfl
    rcases hrun a hf with hr|⟨hr,z⟩
    .rw[K9 (Bx d) (D6 hf g) hr xS,<-c];simp[stepG.apply,hr]
    .subst z;rw[K9 (Bx d) (D6 hf g) hr xS,<-c];simp[stepG.apply,hr]
   .cases h
  .cases h
 .cases h
theorem K2{d:Nat}{fl:Bool}{v:Value}(h:Nat.blt d n=true):Fy n (some d) fl v e=some ((d,fl,v)::e):=by rw[Xca];simp only[Ns,h];rfl
def Qb{δ:Type}(g:Oper->Option δ)(n:Nat)(s:List Item)(e:Env):Option (δ×Nat×List Item):=
 match E7 s e with
 |some (o,s')=>match o.dst with
  |some d=>match Nat.blt d n with
   |true=>match g o with
    |some x=>some (x,d,s')
    |none=>none
   |false=>none
  |none=>none
 |none=>none
theorem Mp{δ:Type}{g:Oper->Option δ}{x:δ}{d:Nat}(h:Qb g n s e=some (x,d,s')):∃o,E7 s e=some (o,s')/\o.dst=some d/\Nat.blt d n=true/\g o=some x:=by
 unfold Qb at h;split at h
 .rename_i o i b
  split at h
  .rename_i j c
   split at h
   .rename_i a
    split at h
    .rename_i y f;cases h;exact⟨o,b,c,a,f⟩
    .cases h
   .cases h
  .cases h
 .cases h
theorem Xa.val{δ:Type}{g:Oper->Option δ}{x:δ}{d:Nat}{v:Value}(h:Qb g n s e=some (x,d,s'))(hrun:∀o,g o=some x -> ∀a,Za n a e->(execOp a.eval o).run P w=.ok (.value v) w')(hg:Xa P f R n ds s' ((d,false,v)::e) w'):Xa P f R n ds s e w:=by
 obtain⟨o,c,i,b,j⟩:=Mp h;exact Xa.head c (by rw[i];exact K2 b) (λa hf=>.inl (hrun o j a hf)) hg
def XdR(op:BinOp)(x y:Int):Option Int:=
 match op with
 |.add=>some (x+y)
 |.sub=>some (x-y)
 |.mul=>some (x*y)
 |_=>none
def Mn(T:Tab)(e:Env)(o:Oper):Option (IntKind×Int):=
 match o.op with
 |.binOp op _ x y _=>match ev e x,ev e y with
  |some (.int k a),some (.int k' b)=>match Nv k k' with
   |true=>match XdR op a b with
    |some z=>some (k,z)
    |none=>none
   |false=>none
  |_,_=>none
 |.convert src dst x=>match ev e x,row T src,row T dst with
  |some (.int _ a),some _,some {und:=.int k,..}=>some (k,a)
  |_,_,_=>none
 |_=>none
theorem XaJ(hT:Xp P T){k:IntKind}{z z':Int}{o:Oper}(h:Mn T e o=some (k,z))(hz:k.wrap z=z')(a:Act)(hf:Za n a e)(w:World):(execOp a.eval o).run P w=.ok (.value (.int k z')) w:=by
 subst hz;unfold Mn at h;split at h
 .rename_i op t x y t' b
  split at h
  .rename_i i j p q d l
   split at h
   .rename_i m
    split at h
    .rename_i r c
     cases h
     have:=Wu m;subst this;simp only[execOp,b,hf.ev d,hf.ev l];refine(Xh (x:=(.int k (k.wrap z):Value)) (w':=w) ?_).trans rfl;refine(Xh (R0 w)).trans ?_;cases op <;> simp only[XdR,reduceCtorEq,Option.some.injEq] at c <;> (subst c;simp only[binOp,ne_eq,not_true_eq_false,if_false,Op.intArith];rfl)
    .cases h
   .cases h
  .cases h
 .rename_i src dst x b
  split at h
  .rename_i s j u i _ _ _ d f g
   cases h
   simp only[execOp,b,hf.ev d];refine(Xh (x:=(.int k (k.wrap z):Value)) (w':=w) ?_).trans rfl;unfold convert;refine(Xh ((hT.row f).underlying w)).trans ((Xh ((hT.row g).underlying w)).trans ?_);rfl
  .cases h
 .cases h
theorem Xa.arith(hT:Xp P T){k:IntKind}{z z':Int}{d:Nat}{s2:List Item}{e2:Env}(h:Qb (Mn T e) n s e=some ((k,z),d,s'))(hz:k.wrap z=z')(ha:Go.Proofs.YtdeihcnepljjaaaGreatDoor.adv T n 400 s' ((d,false,.int k z')::e)=(s2,e2))(hg:Xa P f R n ds s2 e2 w):Xa P f R n ds s e w:=
 Xa.val h (λ_ b a hf=>XaJ hT b hz a hf w) (Xa.adv hT 400 ha hg)
theorem w64{z:Int}(h : -9223372036854775808<=z/\z<=9223372036854775807):IntKind.i64.wrap z=z:=IntWalk.i64_in z h
def Ry(e:Env)(o:Oper):Option (Bool×IntKind×Int×Int):=
 match o.op with
 |.binOp .quo _ x y _=>match ev e x,ev e y with
  |some (.int k a),some (.int k' b)=>match Nv k k' with
   |true=>some (true,k,a,b)
   |false=>none
  |_,_=>none
 |.binOp .rem _ x y _=>match ev e x,ev e y with
  |some (.int k a),some (.int k' b)=>match Nv k k' with
   |true=>some (false,k,a,b)
   |false=>none
  |_,_=>none
 |_=>none
def If(q:Bool)(k:IntKind)(x y:Int):Int:=if q then k.wrap (x.tdiv y) else x.tmod y
theorem Xbd{q:Bool}{k:IntKind}{x y z:Int}{o:Oper}(h:Ry e o=some (q,k,x,y))(hy:y≠0)(hz:If q k x y=z)(a:Act)(hf:Za n a e)(w:World):(execOp a.eval o).run P w=.ok (.value (.int k z)) w:=by
 subst hz;unfold Ry at h;split at h
 all_goals first|(cases h;done)|skip
 all_goals
  rename_i t x' y' t' c
  split at h
  .rename_i i j l b f d
   split at h
   .rename_i g
    cases h
    have:=Wu g;subst this;simp only[execOp,c,hf.ev f,hf.ev d];refine(Xh (w':=w) ?_).trans rfl;refine(Xh (R0 w)).trans ?_;simp only[binOp,ne_eq,not_true_eq_false,if_false,Op.intDiv,if_neg hy];rfl
   .cases h
  .cases h
theorem Xa.div(hT:Xp P T){q:Bool}{k:IntKind}{x y z:Int}{d:Nat}{s2:List Item}{e2:Env}(h:Qb (Ry e) n s e=some ((q,k,x,y),d,s'))(hy:y≠0)(hz:If q k x y=z)(ha:Go.Proofs.YtdeihcnepljjaaaGreatDoor.adv T n 400 s' ((d,false,.int k z)::e)=(s2,e2))(hg:Xa P f R n ds s2 e2 w):Xa P f R n ds s e w:=
 Xa.val h (λ_ b a hf=>Xbd b hy hz a hf w) (Xa.adv hT 400 ha hg)
theorem Gr{x y:Int}(hx:0<=x)(hx':x<=9223372036854775807):If true .i64 x y=x/y:=by
 unfold If;rw[if_pos rfl,Int.tdiv_eq_ediv_of_nonneg hx];apply w64
 rcases Int.le_total 0 y with hy|hy
 .have a:=Int.ediv_nonneg hx hy;have b:=Int.ediv_le_self y hx;omega
 .have a:=Int.ediv_nonpos_of_nonneg_of_nonpos hx hy;have b : -(x/y)<=x:=by
   rw[<-Int.ediv_neg];exact Int.ediv_le_self (-y) hx
  omega
theorem Hg{k:IntKind}{x y:Int}(hx:0<=x):If false k x y=x%y:=by
 unfold If;rw[if_neg xS,Int.tmod_eq_emod_of_nonneg hx]
def Hz:List Value->Nat->Option Value
 |[],_=>none
 |v::_,0=>some v
 |_::r,i+1=>Hz r i
theorem XfQ:∀(l:List Value) (i:Nat),Hz l i=l[i]?
 |[],_=>by simp[Hz]
 |_::_,0=>by simp[Hz]
 |_::r,i+1=>by simp[Hz,XfQ r i]
def cut:List Value->Nat->Nat->Option (List Value)
 |_,0,0=>some []
 |v::r,0,m+1=>match cut r 0 m with
  |some l=>some (v::l)
  |none=>none
 |_::r,i+1,m=>cut r i m
 |[],_,_=>none
theorem Xbc:∀(l:List Value) (i m:Nat) (r:List Value),cut l i m=some r->r.length=m/\∀j,j<m->l[i+j]?=r[j]?
 |_,0,0,r,h=>by simp[cut] at h;subst h;exact⟨rfl,λj a=>X⟩
 |v::l,0,m+1,r,h=>by
  simp only[cut] at h;split at h
  .rename_i q d
   cases h
   obtain⟨b,c⟩:=Xbc l 0 m q d;refine⟨by simp[b],λj a=>?_⟩;cases j with
   |zero=>simp
   |succ j=>have:=c j X;simpa using this
  .cases h
 |_::l,i+1,m,r,h=>by
  simp only[cut] at h;obtain⟨b,c⟩:=Xbc l i m r h;refine⟨b,λj a=>?_⟩;have:=c j a;rw[show i+1+j=(i+j)+1 from by omega]
  simpa using this
 |[],0,m+1,r,h=>by simp[cut] at h
 |[],i+1,m,r,h=>by simp[cut] at h
def I9(r:Db):Bool:=match r.und with|.struct _=>true|.array _ _=>true|_=>false
theorem Ia.isAgg{t:Nat}{r:Db}(h:Ia P t r)(w:World):(Go.isAgg t).run P w=.ok (I9 r) w:=by
 unfold Go.isAgg I9;rw[Xh (h.underlying w)];cases r.und <;> rfl
theorem Xfv{a:Addr}{v:Value}(hc:w.cell? a=some v):(Go.load a).run P w=.ok v w:=by
 simp[Go.load,Sem.run,hc]
theorem Xfs{a:Addr}:∀(l:List Value) (i:Nat) (acc:Array Value),(∀j,j<l.length->w.cell? (a.add (i+j))=l[j]?)->(loadCellsFrom a i l.length acc).run P w=.ok (acc++l.toArray) w
 |[],i,acc,_=>by simp[loadCellsFrom,pure]
 |v::r,i,acc,h=>by
  have b:w.cell? (a.add i)=some v:=by have:=h 0 xS;simpa using this
  simp only[List.length_cons,loadCellsFrom];refine(Xh (Xfv b)).trans ?_;rw[Xfs r (i+1) (acc.push v) (λj c=>by have:=h (j+1) xQ;rw[show i+1+j=i+(j+1) from by omega];simpa using this)]
  congr 1
  apply Array.ext'
  simp
theorem Xft(hT:Xp P T){b off ty:Nat}{c l:List Value}{q:TypeId}{fz:Nat×Nat}{r:Db}(hr:row T ty=some r)(ha:I9 r=true)(hc:w.heap[b]?=some (.cells c.toArray q fz))(hv:cut c off r.size=some l):(loadVar ty ⟨b,off,none⟩).run P w=.ok (.agg l.toArray) w:=by
 obtain⟨d,a⟩:=Xbc _ _ _ _ hv;unfold loadVar;refine(Xh ((hT.row hr).isAgg w)).trans ?_;rw[ha,if_pos rfl];refine(Xh ((hT.row hr).sizeOf w)).trans ?_;refine(Xh (x:=l.toArray) (w':=w) ?_).trans rfl;rw[<-d];unfold loadCells;rw[Xfs l 0 #[] (λj f=>by rw[Nat.zero_add,C0,Yx hc,<-a j X];simp)]
 simp
theorem Xfu(hT:Xp P T){b off ty:Nat}{v:Value}{r:Db}(hr:row T ty=some r)(ha:I9 r=false)(hc:w.cell? ⟨b,off,none⟩=some v):(loadVar ty ⟨b,off,none⟩).run P w=.ok v w:=by
 unfold loadVar;refine(Xh ((hT.row hr).isAgg w)).trans ?_;rw[ha];exact Xfv hc
def Cj(T:Tab)(e:Env)(o:Oper):Option (Nat×Nat×Option Nat):=
 match o.op with
 |.load t x=>match ev e x,row T t with
  |some (.pointer (some ⟨b,off,none⟩)),some r=>match I9 r with
   |true=>some (b,off,some r.size)
   |false=>some (b,off,none)
  |_,_=>none
 |_=>none
theorem Sd(hT:Xp P T){b off:Nat}{v:Value}{o:Oper}(h:Cj T e o=some (b,off,none))(hc:w.cell? ⟨b,off,none⟩=some v)(a:Act)(hf:Za n a e):(execOp a.eval o).run P w=.ok (.value v) w:=by
 unfold Cj at h;split at h
 .rename_i t x d
  split at h
  .rename_i i f r g hr
   split at h
   .cases h
   .rename_i c
    cases h
    simp only[execOp,d,hf.ev g];refine(Xh (x:=v) (w':=w) ?_).trans rfl;simp only[Instr.loadAt,Instr.sureAddr];exact(Xh (show(pure _:Sem Addr).run P w=.ok _ w from rfl)).trans (Xfu hT hr c hc)
  .cases h
 .cases h
theorem U8(hT:Xp P T){b off m:Nat}{c vs:List Value}{t:TypeId}{fz:Nat×Nat}{o:Oper}(h:Cj T e o=some (b,off,some m))(hc:w.heap[b]?=some (.cells c.toArray t fz))(hv:cut c off m=some vs)(a:Act)(hf:Za n a e):(execOp a.eval o).run P w=.ok (.value (.agg vs.toArray)) w:=by
 unfold Cj at h;split at h
 .rename_i t x f
  split at h
  .rename_i j g r i hr
   split at h
   .rename_i d
    cases h
    simp only[execOp,f,hf.ev i];refine(Xh (x:=(.agg vs.toArray:Value)) (w':=w) ?_).trans rfl;simp only[Instr.loadAt,Instr.sureAddr];exact(Xh (show(pure _:Sem Addr).run P w=.ok _ w from rfl)).trans (Xft hT hr d hc hv)
   .cases h
  .cases h
 .cases h
theorem Cr{b off:Nat}{c:List Value}{v:Value}{t:TypeId}{fz:Nat×Nat}(hc:w.heap[b]?=some (.cells c.toArray t fz))(hv:Hz c off=some v):w.cell? ⟨b,off,none⟩=some v:=by
 rw[Yx hc];rw[XfQ] at hv;simpa using hv
theorem Xa.load(hT:Xp P T){b off d:Nat}{v:Value}{s2:List Item}{e2:Env}(h:Qb (Cj T e) n s e=some ((b,off,none),d,s'))(hc:w.cell? ⟨b,off,none⟩=some v)(ha:Go.Proofs.YtdeihcnepljjaaaGreatDoor.adv T n 400 s' ((d,false,v)::e)=(s2,e2))(hg:Xa P f R n ds s2 e2 w):Xa P f R n ds s e w:=
 Xa.val h (λ_ c a hf=>Sd hT c hc a hf) (Xa.adv hT 400 ha hg)
theorem Xa.cJ(hT:Xp P T){b off d:Nat}{v:Value}{c:List Value}{t:TypeId}{fz:Nat×Nat}{s2:List Item}{e2:Env}(h:Qb (Cj T e) n s e=some ((b,off,none),d,s'))(hc:w.heap[b]?=some (.cells c.toArray t fz))(hv:Hz c off=some v)(ha:Go.Proofs.YtdeihcnepljjaaaGreatDoor.adv T n 400 s' ((d,false,v)::e)=(s2,e2))(hg:Xa P f R n ds s2 e2 w):Xa P f R n ds s e w:=
 Xa.load hT h (Cr hc hv) ha hg
theorem Xa.loads(hT:Xp P T){b off m d:Nat}{c vs:List Value}{t:TypeId}{fz:Nat×Nat}{s2:List Item}{e2:Env}(h:Qb (Cj T e) n s e=some ((b,off,some m),d,s'))(hc:w.heap[b]?=some (.cells c.toArray t fz))(hv:cut c off m=some vs)(ha:Go.Proofs.YtdeihcnepljjaaaGreatDoor.adv T n 400 s' ((d,false,.agg vs.toArray)::e)=(s2,e2))(hg:Xa P f R n ds s2 e2 w):Xa P f R n ds s e w:=
 Xa.val h (λ_ g a hf=>U8 hT g hc hv a hf) (Xa.adv hT 400 ha hg)
def Nc(T:Tab)(e:Env)(o:Oper):Option (Nat×Nat×Nat×Nat×Int):=
 match o.op with
 |.indexAddr t x ix=>match ev e x,ev e ix,row T t with
  |some (.slice (some ⟨b,off,none⟩) len _),some (.int _ i),some {und:=.slice q,..}=>match row T q with
   |some r=>some (b,off,len,r.size,i)
   |none=>none
  |some (.pointer (some ⟨b,off,none⟩)),some (.int _ i),some {und:=.array len q,..}=>match row T q with
   |some r=>some (b,off,len,r.size,i)
   |none=>none
  |_,_,_=>none
 |_=>none
theorem Xkv(hT:Xp P T){t q b off len cap:Nat}{k:IntKind}{i:Int}{sz1 by1:Nat}{z1:Option Value}{r:Db}(hr:row T t=some {und:=.slice q,size:=sz1,bytes:=by1,zero:=z1})(hr2:row T q=some r)(h0:0<=i)(h1:i<len)(w:World):(Instr.indexAt t (.slice (some ⟨b,off,none⟩) len cap) (.int k i)).run P w=.ok (.pointer (some ⟨b,off+i.toNat*r.size,none⟩)) w:=by
 unfold Instr.indexAt;have a:=(hT.row hr).underlying w;have c:=(hT.row hr2).sizeOf w;simp only[Sem.run_bind,asIntOf,Sem.run_pure,Result.andThen_ok,a,h0,h1,and_self,if_true,c,C0]
theorem Xku(hT:Xp P T){t q b off len:Nat}{k:IntKind}{i:Int}{sz1 by1:Nat}{z1:Option Value}{r:Db}(hr:row T t=some {und:=.array len q,size:=sz1,bytes:=by1,zero:=z1})(hr2:row T q=some r)(h0:0<=i)(h1:i<len)(w:World):(Instr.indexAt t (.pointer (some ⟨b,off,none⟩)) (.int k i)).run P w=.ok (.pointer (some ⟨b,off+i.toNat*r.size,none⟩)) w:=by
 unfold Instr.indexAt;have a:=(hT.row hr).underlying w;have c:=(hT.row hr2).sizeOf w;simp only[Sem.run_bind,asIntOf,Instr.sureAddr,Sem.run_pure,Result.andThen_ok,a,h0,h1,and_self,if_true,c,C0]
theorem Xbq(hT:Xp P T){b off len sz j:Nat}{i:Int}{o:Oper}(h:Nc T e o=some (b,off,len,sz,i))(h0:0<=i)(h1:i<len)(hj:i.toNat*sz=j)(a:Act)(hf:Za n a e)(w:World):(execOp a.eval o).run P w=.ok (.value (.pointer (some ⟨b,off+j,none⟩))) w:=by
 subst hj;unfold Nc at h;split at h
 .rename_i t x ix f
  split at h
  .rename_i p g l _ k s q _ _ _ m c hr
   split at h
   .rename_i r d
    cases h
    simp only[execOp,f,hf.ev m,hf.ev c];exact(Xh (Xkv hT hr d h0 h1 w)).trans rfl
   .cases h
  .rename_i p g k s l q _ _ _ m c hr
   split at h
   .rename_i r d
    cases h
    simp only[execOp,f,hf.ev m,hf.ev c];exact(Xh (Xku hT hr d h0 h1 w)).trans rfl
   .cases h
  .cases h
 .cases h
theorem Xa.index(hT:Xp P T){b off len sz d j:Nat}{i:Int}{s2:List Item}{e2:Env}(h:Qb (Nc T e) n s e=some ((b,off,len,sz,i),d,s'))(h0:0<=i)(h1:i<len)(hj:i.toNat*sz=j)(ha:Go.Proofs.YtdeihcnepljjaaaGreatDoor.adv T n 400 s' ((d,false,.pointer (some ⟨b,off+j,none⟩))::e)=(s2,e2))(hg:Xa P f R n ds s2 e2 w):Xa P f R n ds s e w:=
 Xa.val h (λ_ c a hf=>Xbq hT c h0 h1 hj a hf w) (Xa.adv hT 400 ha hg)
end
end Go.Proofs.YtdeihcnepljjaaaGreatDoor
