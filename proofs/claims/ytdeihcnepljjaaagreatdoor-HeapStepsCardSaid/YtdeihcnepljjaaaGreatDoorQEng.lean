/-
  Eng
-/
import Derived.Test.YtdeihcnepljjaaaGreatDoorQBase
import Derived.Calls
import Derived.Orders
import Derived.Still
import Derived.AtR
import Derived.RangeFuncIn
import Derived.RangeFuncRecord
import Derived.RangeFuncLeaves
namespace Go.Proofs.YtdeihcnepljjaaaGreatDoor
open Go.RowKit
abbrev Env:=List (Nat×Bool×Value)
def look:Env->Nat->Option Value
 |[],_=>none
 |(s,_,v)::r,t=>bif Nat.beq t s then some v else look r t
def lit:Env->Nat->Bool
 |[],_=>false
 |(s,b,_)::r,t=>bif Nat.beq t s then b else lit r t
structure Za(n:Nat)(a:Act)(e:Env):Prop where
 size:a.tmps.size=n
 slot:∀t v,look e t=some v->a.tmps[t]?=some v
theorem Xi5{t s:Nat}(h:¬t=s):Nat.beq t s=false:=by
 cases a:Nat.beq t s
 .rfl
 .exact absurd (Nat.eq_of_beq_eq_true a) h
theorem Kx(s:Nat)(b:Bool)(v:Value)(r:Env)(t:Nat):look ((s,b,v)::r) t=if t=s then some v else look r t:=by
 simp only[look];by_cases h:t=s
 .subst h;simp
 .have:Nat.beq t s=false:=Xi5 h;rw[this,if_neg h];rfl
theorem Za.put{n:Nat}{a:Act}{e:Env}(h:Za n a e)(d:Nat)(b:Bool)(v:Value)(hd:d<n):Za n (a.put (some d) v) ((d,b,v)::e):=by
 refine⟨by simp[Act.put,h.size],λt u ht=>?_⟩;rw[Kx] at ht;by_cases e1:t=d
 .subst e1;simp only[if_true] at ht;simp[Act.put,h.size,hd,ht]
 .rw[if_neg e1] at ht;simp only[Act.put,Array.getElem?_setIfInBounds];rw[if_neg X];exact h.slot t u ht
theorem Za.weaken{n:Nat}{a:Act}{e e':Env}(h:Za n a e)(hs:∀t v,look e' t=some v->look e t=some v):Za n a e':=⟨h.size,λt v ht=>h.slot t v (hs t v ht)⟩
def ev(e:Env):Operand->Option Value
 |.tmp t=>look e t
 |.const v=>some v
 |.global g=>some (.pointer (some ⟨g,0,none⟩))
 |.func f=>some (.func (.func f) #[] #[])
theorem Za.ev{n:Nat}{a:Act}{e:Env}(h:Za n a e){x:Operand}{v:Value}(hx:ev e x=some v):a.eval x=v:=by
 cases x with
 |tmp t=>
  have:=h.slot t v hx;simp[Act.eval,this]
 |const u=>simp[Go.Proofs.YtdeihcnepljjaaaGreatDoor.ev] at hx;simp[Act.eval,hx]
 |global g=>simp[Go.Proofs.YtdeihcnepljjaaaGreatDoor.ev] at hx;simp[Act.eval,hx]
 |func f=>simp[Go.Proofs.YtdeihcnepljjaaaGreatDoor.ev] at hx;simp[Act.eval,hx]
def Ll(e:Env):Operand->Bool
 |.tmp t=>lit e t
 |.const _=>true
 |_=>false
def evs(e:Env):List Operand->Option (List Value)
 |[]=>some []
 |x::r=>match ev e x with
  |some v=>match evs e r with
   |some l=>some (v::l)
   |none=>none
  |none=>none
theorem Za.evs{n:Nat}{a:Act}{e:Env}(h:Za n a e):∀{xs:List Operand} {vs:List Value},evs e xs=some vs->xs.map a.eval=vs
 |[],vs,hx=>by simp[Go.Proofs.YtdeihcnepljjaaaGreatDoor.evs] at hx;simp[hx]
 |x::r,vs,hx=>by
  simp only[Go.Proofs.YtdeihcnepljjaaaGreatDoor.evs] at hx;split at hx
  .rename_i v hv
   split at hx
   .rename_i l hl
    simp only[Option.some.injEq] at hx;rw[<-hx,List.map_cons,h.ev hv,h.evs hl]
   .cases hx
  .cases hx
structure Db where
 und:TypeDesc
 size:Nat
 bytes:Nat
 zero:Option Value
abbrev Tab:=List (Nat×Db)
def row:Tab->Nat->Option Db
 |[],_=>none
 |(s,v)::r,t=>bif Nat.beq t s then some v else row r t
def Ia(P:Program)(t:Nat)(r:Db):Prop:=
 P.underlying t=some r.und/\(P.info? t).map (λi=>(i.size,i.bytes,i.zero))=some (r.size,r.bytes,r.zero)
def Xp(P:Program):Tab->Prop
 |[]=>True
 |(t,r)::l=>Ia P t r/\Xp P l
theorem Xp.row{P:Program}:∀{T:Tab},Xp P T -> ∀{t:Nat} {r:Db},row T t=some r->Ia P t r
 |[],_,t,r,h=>by simp[Go.Proofs.YtdeihcnepljjaaaGreatDoor.row] at h
 |(s,v)::l,b,t,r,h=>by
  simp only[Go.Proofs.YtdeihcnepljjaaaGreatDoor.row] at h;by_cases a:Nat.beq t s=true
  .rw[a] at h;simp at h;have:t=s:=Nat.eq_of_beq_eq_true a;subst this;subst h;exact b.1
  .have c:Nat.beq t s=false:=by rw[<-Bool.not_eq_true];exact a
   rw[c] at h;exact b.2.row h
theorem Ia.underlying{P:Program}{t:Nat}{r:Db}(h:Ia P t r)(w:World):(underlying t).run P w=.ok r.und w:=by
 simp[Go.underlying,Go.program,Sem.run,bind,Sem.bind,h.1,pure]
theorem Ia.sizeOf{P:Program}{t:Nat}{r:Db}(h:Ia P t r)(w:World):(sizeOf t).run P w=.ok r.size w:=by
 have a:=h.2;cases hi:P.info? t with
 |none=>rw[hi] at a;cases a
 |some i=>
  rw[hi] at a;simp at a;simp[Go.sizeOf,Go.typeInfo,Go.program,Sem.run,bind,Sem.bind,hi,pure,a.1]
theorem Ia.zero{P:Program}{t:Nat}{r:Db}(h:Ia P t r){z:Value}(hz:r.zero=some z)(w:World):(zeroValue t).run P w=.ok z w:=by
 have a:=h.2;cases hi:P.info? t with
 |none=>rw[hi] at a;cases a
 |some i=>
  rw[hi] at a;simp at a;simp[Go.zeroValue,Go.typeInfo,Go.program,Sem.run,bind,Sem.bind,hi,pure,a.2.2,hz]
def Nv:IntKind->IntKind->Bool
 |.i8,.i8|.i16,.i16|.i32,.i32|.i64,.i64|.u8,.u8|.u16,.u16|.u32,.u32|.u64,.u64=>true
 |_,_=>false
theorem Wu{a b:IntKind}(h:Nv a b=true):a=b:=by cases a <;> cases b <;> first|rfl|cases h
def Xa5(op:BinOp)(x y:Int):Option Value:=
 match op with
 |.eql=>some (.bool (x == y))
 |.neq=>some (.bool (x != y))
 |.lss=>some (.bool (decide (x<y)))
 |.leq=>some (.bool (decide (x<=y)))
 |.gtr=>some (.bool (decide (x>y)))
 |.geq=>some (.bool (decide (x≥y)))
 |_=>none
def XaQ(T:Tab)(op:BinOp)(t:Nat)(x y:Value):Option Value:=
 match x,y with
 |.int k a,.int k' b=>bif Nv k k' then Xa5 op a b else none
 |.bool a,.bool b=>match op,row T t with
  |.eql,some {und:=.bool,..}=>some (.bool (a == b))
  |.neq,some {und:=.bool,..}=>some (.bool (!(a == b)))
  |_,_=>none
 |.pointer (some _),.pointer none|.pointer none,.pointer (some _)=>match op,row T t with
  |.eql,some {und:=.pointer _,..}=>some (.bool false)
  |.neq,some {und:=.pointer _,..}=>some (.bool true)
  |_,_=>none
 |.pointer none,.pointer none=>match op,row T t with
  |.eql,some {und:=.pointer _,..}=>some (.bool true)
  |.neq,some {und:=.pointer _,..}=>some (.bool false)
  |_,_=>none
 |.slice a _ _,.slice none 0 0=>match op,row T t with
  |.eql,some {und:=.slice _,..}=>some (.bool a.isNone)
  |.neq,some {und:=.slice _,..}=>some (.bool (!a.isNone))
  |_,_=>none
 |_,_=>none
def Xbf(T:Tab)(t k:Nat):Option Nat:=
 match row T t with
 |some {und:=.struct fs,..}=>match fs[k]? with
  |some f=>match row T f.type with
   |some r=>bif Nat.beq r.size 0 then none else some f.offset
   |none=>none
  |none=>none
 |_=>none
def unV(op:UnOp)(v:Value):Option Value:=
 match op,v with
 |.not,.bool b=>some (.bool (!b))
 |_,_=>none
def Xd5(T:Tab)(b:Builtin)(ts:List Nat)(l:List Value):Option Value:=
 match b,ts,l with
 |.len,t::_,[.slice _ m _]=>match row T t with
  |some {und:=.slice _,..}=>some (.int .i64 m)
  |_=>none
 |.min,_,[.int k x,.int _ y]=>some (.int k (if y<x then y else x))
 |.max,_,[.int k x,.int _ y]=>some (.int k (if y>x then y else x))
 |_,_,_=>none
def Sn(T:Tab)(e:Env)(o:Op):Option Value:=
 match o with
 |.move x=>ev e x
 |.assign x=>ev e x
 |.pick c a b=>match Ll e c with
  |true=>match ev e c with
   |some (.bool true)=>ev e a
   |some (.bool false)=>ev e b
   |_=>none
  |false=>none
 |.binOp op t x y _=>match ev e x,ev e y with
  |some v,some u=>XaQ T op t v u
  |_,_=>none
 |.unOp op _ x=>match ev e x with
  |some v=>unV op v
  |none=>none
 |.makeFunc fn first captured=>match evs e first.toList,evs e captured.toList with
  |some l,some m=>some (.func fn l.toArray m.toArray)
  |_,_=>none
 |.extract x i=>match ev e x with
  |some (.tuple vs)=>vs[i]?
  |_=>none
 |.nilCheck x=>match ev e x with
  |some (.pointer (some a))=>some (.pointer (some a))
  |_=>none
 |.fieldAddr t x k=>match ev e x with
  |some (.pointer (some ⟨b,off,none⟩))=>match Xbf T t k with
   |some q=>some (.pointer (some ⟨b,off+q,none⟩))
   |none=>none
  |_=>none
 |.call c=>match c.callee,evs e c.args.toList with
  |.builtin b,some l=>Xd5 T b c.argTypes.toList l
  |_,_=>none
 |_=>none
def opF(e:Env)(o:Op):Bool:=
 match o with
 |.move x=>Ll e x
 |.assign x=>Ll e x
 |.pick c a b=>match Ll e c with
  |true=>match ev e c with
   |some (.bool true)=>Ll e a
   |some (.bool false)=>Ll e b
   |_=>false
  |false=>false
 |.unOp _ _ x=>Ll e x
 |.binOp _ _ x _ _=>match ev e x with
  |some (.pointer _)=>true
  |_=>false
 |_=>false
theorem C0(b off q:Nat):(⟨b,off,none⟩:Addr).add q=⟨b,off+q,none⟩:=by
 unfold Addr.add;split <;> simp_all
theorem Xh{P:Program}{α β:Type}{s:Sem α}{f:α->Sem β}{w w':World}{x:α}(h:s.run P w=.ok x w'):(s >>= f).run P w=(f x).run P w':=by
 rw[Sem.run_bind,h];rfl
theorem G8{α β:Type}{f:α->β}{xs:Array α}{l:List β}(h:xs.toList.map f=l):xs.map f=l.toArray:=by
 apply Array.ext';rw[Array.toList_map,h]
theorem Xjx{P:Program}{op:BinOp}{a b:Int}{v:Value}(h:Xa5 op a b=some v)(k:IntKind)(t:TypeId)(w:World):(binOp op t (.int k a) (.int k b)).run P w=.ok v w:=by
 cases op <;> simp only[Xa5,Option.some.injEq,reduceCtorEq] at h <;> (subst h;simp[binOp,Op.intCmp,go_sem])
theorem R0{P:Program}{op:BinOp}{t:TypeId}{x y:Operand}{k k':IntKind}{a b:Int}(w:World):(eqGuard op t x y (.int k a) (.int k' b)).run P w=.ok () w:=by
 cases op <;> rfl
theorem XjI{P:Program}{op:BinOp}{t:TypeId}{x y:Operand}{a b:Bool}(w:World):(eqGuard op t x y (.bool a) (.bool b)).run P w=.ok () w:=by
 cases op <;> rfl
theorem Xbe{P:Program}{op:BinOp}{t:TypeId}{x y:Operand}{a b:Option Addr}(w:World):(eqGuard op t x y (.pointer a) (.pointer b)).run P w=.ok () w:=by
 cases op <;> rfl
theorem XjJ{P:Program}{op:BinOp}{t:TypeId}{x y:Operand}{a b:Option Addr}{n c m d:Nat}(w:World):(eqGuard op t x y (.slice a n c) (.slice b m d)).run P w=.ok () w:=by
 cases op <;> rfl
theorem XeD{P:Program}{t:TypeId}(a b:Bool)(w:World)(h:(underlying t).run P w=.ok .bool w):(Op.equal t (.bool a) (.bool b)).run P w=.ok (a == b) w:=by
 unfold Op.equal Op.maxDepth Op.equalIn;rw[Xh h];rfl
theorem XeE{P:Program}{t q:TypeId}(a:Addr)(w:World)(h:(underlying t).run P w=.ok (.pointer q) w):(Op.equal t (.pointer (some a)) (.pointer none)).run P w=.ok false w:=by
 unfold Op.equal Op.maxDepth Op.equalIn;rw[Xh h];rfl
theorem Ul{P:Program}{t q:TypeId}(a:Option Addr)(w:World)(h:(underlying t).run P w=.ok (.pointer q) w):(Op.equal t (.pointer none) (.pointer a)).run P w=.ok a.isNone w:=by
 unfold Op.equal Op.maxDepth Op.equalIn;rw[Xh h];rfl
theorem XeF{P:Program}{t q:TypeId}(a:Option Addr)(n c m d:Nat)(w:World)(h:(underlying t).run P w=.ok (.slice q) w):(Op.equal t (.slice a n c) (.slice none m d)).run P w=.ok a.isNone w:=by
 unfold Op.equal Op.maxDepth Op.equalIn;rw[Xh h];cases a <;> rfl
theorem Xi6{P:Program}{T:Tab}(hT:Xp P T){op:BinOp}{t:Nat}{u v z:Value}(h:XaQ T op t u v=some z)(x y:Operand)(w:World):(do eqGuard op t x y u v;binOp op t u v:Sem Value).run P w=.ok z w:=by
 unfold XaQ at h;split at h
 .rename_i k a k' b
  cases c:Nv k k' <;> rw[c] at h
  .cases h
  .have:=Wu c;subst this;rw[Xh (R0 w)];exact Xjx h _ _ _
 .rw[Xh (XjI w)];split at h
  .rename_i hr;cases h
   simp only[binOp];rw[Xh (XeD _ _ w ((hT.row hr).underlying w))];rfl
  .rename_i hr;cases h
   simp only[binOp];rw[Xh (XeD _ _ w ((hT.row hr).underlying w))];rfl
  .cases h
 .rw[Xh (Xbe w)];split at h
  .rename_i hr;cases h
   simp only[binOp];rw[Xh (XeE _ w ((hT.row hr).underlying w))];rfl
  .rename_i hr;cases h
   simp only[binOp];rw[Xh (XeE _ w ((hT.row hr).underlying w))];rfl
  .cases h
 .rw[Xh (Xbe w)];split at h
  .rename_i hr;cases h
   simp only[binOp];rw[Xh (Ul _ w ((hT.row hr).underlying w))];rfl
  .rename_i hr;cases h
   simp only[binOp];rw[Xh (Ul _ w ((hT.row hr).underlying w))];rfl
  .cases h
 .rw[Xh (Xbe w)];split at h
  .rename_i hr;cases h
   simp only[binOp];rw[Xh (Ul _ w ((hT.row hr).underlying w))];rfl
  .rename_i hr;cases h
   simp only[binOp];rw[Xh (Ul _ w ((hT.row hr).underlying w))];rfl
  .cases h
 .rw[Xh (XjJ w)];split at h
  .rename_i hr;cases h
   simp only[binOp];rw[Xh (XeF _ _ _ _ _ w ((hT.row hr).underlying w))];rfl
  .rename_i hr;cases h
   simp only[binOp];rw[Xh (XeF _ _ _ _ _ w ((hT.row hr).underlying w))];rfl
  .cases h
 .cases h
theorem XjN{P:Program}{T:Tab}(hT:Xp P T){t k q b off:Nat}(h:Xbf T t k=some q)(w:World):(Instr.fieldAt t (.pointer (some ⟨b,off,none⟩)) k).run P w=.ok (.pointer (some ⟨b,off+q,none⟩)) w:=by
 unfold Xbf at h;split at h
 .rename_i fs _ _ _ hr
  split at h
  .rename_i f hf
   split at h
   .rename_i r c
    cases a:Nat.beq r.size 0 <;> rw[a] at h
    .simp at h;subst h;have d:¬r.size=0:=by intro g;rw[g] at a;cases a
     unfold Instr.fieldAt;rw[Xh ((hT.row hr).underlying w)];simp only[hf,Instr.sureAddr,fieldPlace];rw[Xh (show(pure _:Sem Addr).run P w=.ok _ w from rfl)];rw[Xh (show _=Result.ok (⟨b,off+f.offset,none⟩:Addr) w from by
      rw[Xh ((hT.row c).sizeOf w),if_neg d,<-C0];rfl)]
     rfl
    .cases h
   .cases h
  .cases h
 .cases h
theorem XbP{P:Program}{T:Tab}(hT:Xp P T){n:Nat}{a:Act}{e:Env}(hf:Za n a e){o:Oper}{v:Value}(h:Sn T e o.op=some v)(w:World):(execOp a.eval o).run P w=.ok (.value v) w:=by
 obtain⟨dst,op,type,pos,after,guard⟩:=o;cases op <;> simp only[Sn] at h
 case move x=>simp only[execOp,hf.ev h];rfl
 case assign x=>simp only[execOp,hf.ev h];rfl
 case pick c x y=>
  split at h
  .split at h
   .rename_i r;simp only[execOp,hf.ev r,hf.ev h];rfl
   .rename_i r;simp only[execOp,hf.ev r,hf.ev h];rfl
   .cases h
  .cases h
 case binOp op t x y yt=>
  split at h
  .rename_i u v' g d
   simp only[execOp,hf.ev g,hf.ev d];rw[Xh (Xi6 hT h x y w)];rfl
  .cases h
 case unOp op t x=>
  split at h
  .rename_i u g
   unfold unV at h;split at h
   .cases h;simp only[execOp,hf.ev g];rfl
   .cases h
  .cases h
 case makeFunc fn first captured=>
  split at h
  .rename_i l m p hm
   cases h
   simp only[execOp];have z:=G8 (hf.evs p);have A:=G8 (hf.evs hm);rw[z,A];rfl
  .cases h
 case extract x i=>
  split at h
  .rename_i vs d;simp only[execOp,hf.ev d,Instr.extract,h];rfl
  .cases h
 case nilCheck x=>
  split at h
  .rename_i ad d;cases h;simp only[execOp,hf.ev d];rfl
  .cases h
 case fieldAddr t x k=>
  split at h
  .rename_i b off d
   split at h
   .rename_i q B;cases h
    simp only[execOp,hf.ev d];rw[Xh (XjN hT B w)];rfl
   .cases h
  .cases h
 case call c=>
  split at h
  .rename_i b l s p
   have f:=G8 (hf.evs p);obtain⟨callee,args,argTypes⟩:=c;simp only at s p f
   subst s;simp only[execOp,resolve,f];unfold Xd5 at h;split at h
   .rename_i t ts D m E j
    simp only at j
    split at h
    .rename_i hr;cases h
     have g:=(hT.row hr).underlying w;have C:argTypes[0]?=some t:=by
      obtain⟨ats⟩:=argTypes;simp only at j;subst j;rfl
     refine(Xh (show _=Result.ok _ w from rfl)).trans ?_;refine(Xh (x:=(.int .i64 m:Value)) (w':=w) ?_).trans rfl;simp only[Builtin.len_,C];exact(Xh g).trans rfl
    .cases h
   .cases h;rfl
   .cases h;rfl
   .cases h
  .cases h
 all_goals cases h
def Tu(P:Program)(K:CallKind)(fr:Frame)(w:World):Ending->Prop
 |.returned v=>fr.mode=.returning/\fr.defers=[]/\fr.kind=K/\∃fn,P.funcs[fr.fn]?=some fn/\(results fn fr.tmps).run P w=.ok v w
 |.panicked chain=>fr.mode=.panicking chain/\fr.defers=[]/\∃fn,P.funcs[fr.fn]?=some fn
 |.outgrown=>True
theorem Tu.leaving{P:Program}{fr:Frame}{w:World}{en:Ending}(h:Tu P .normal fr w en):fr.leaving P w en:=by cases en <;> exact h
structure Aim where
 ro:Option Nat
 post:Ending->World->Prop
def Aim.now(R:Aim)(en:Ending)(w:World):Prop:=R.ro=none->R.post en w
def XiJ(P:Program)(post:Ending->World->Prop)(K:CallKind)(fr:Frame)(cs:List Frame)(w:World)(en:Ending):Prop:=
 ∃v w2,en=.returned v/\post en w2/\(K=.normal -> ∀c cs',cs=c::cs'->step P (lone fr cs w)=.next (lone (c.finish v) cs' w2))
def Aim.last(R:Aim)(P:Program)(K:CallKind)(fr:Frame)(cs:List Frame)(w:World)(en:Ending):Prop:=
 (R.ro=none->Tu P K fr w en)/\(R.ro≠none->XiJ P R.post K fr cs w en)
theorem Xln{P:Program}{o:Oper}{ρ:Operand->Value}{w w':World}{nx:Next}(h:(execOp ρ o).run P w=.ok nx w')(hn:∀d,nx≠.defer d):∀c,o.op≠.defer c:=by
 intro c a;simp only[execOp,a,Sem.run_bind] at h;cases hr:(resolve ρ c o.type).run P w with
 |ok d b=>rw[hr] at h;simp only[Result.andThen,Sem.run_pure] at h;cases h;exact hn _ rfl
 |halt e b=>rw[hr] at h;cases h
theorem K9{P:Program}{b:Frame}{a:Act}{ops:Array Oper}{k:List Item}{cs:List Frame}{i:Nat}{rest:List Nat}{o:Oper}{w w':World}{nx:Next}(ho:ops[i]?=some o)(hw:Region.wanted o (yielded ops a.tmps)=true)(hr:(execOp a.eval o).run P w=.ok nx w')(hn:∀d,nx≠.defer d):stepG P true {frame:=b.atR a (.inRegion ops (i::rest)::k),callers:=cs,status:=.running,dying:=none} w =
  stepG.apply P true (b.atR a (.inRegion ops (i::rest)::k)) cs none (execOp a.eval o) w:=by
 rw[stepGR_op ho hw,Oper.semAt_eq _ _ _ (Xln hr hn)]
def Xa(P:Program)(f:FuncId)(R:Aim)(n:Nat)(ds:List Deferred)(s:List Item)(e:Env)(w:World):Prop:=
 ∀(b:Frame) (cs:List Frame) (a:Act),b.fn=f->b.roundOf=R.ro->a.defers=ds->Za n a e ->
  ∃en w' fr,R.now en w'/\Comes P (lone (b.atR a s) cs w) (lone fr cs w') en/\fr.fn=f/\R.last P b.kind fr cs w' en
section
variable {P:Program}{f:FuncId}{R:Aim}{n:Nat}{ds:List Deferred}{s s':List Item}{e e':Env}{w w':World}
theorem Xa.weaken(h:Xa P f R n ds s e' w)(hs:∀t v,look e' t=some v->look e t=some v):Xa P f R n ds s e w:=
 λb cs a c d g hf=>h b cs a c d g (hf.weaken hs)
theorem Xa.step(hstep:∀(b:Frame) (cs:List Frame) (a:Act),Za n a e->step P (lone (b.atR a s) cs w)=.next (lone (b.atR a s') cs w'))(h:Xa P f R n ds s' e w'):Xa P f R n ds s e w:=
 λb cs a c d g hf=>by
  obtain⟨en,i,fr,j,k,l,m⟩:=h b cs a c d g hf;exact⟨en,i,fr,j,.of_steps (.one (hstep b cs a hf)) k,l,m⟩
theorem Xa.value{ops:Array Oper}{i:Nat}{l:List Nat}{k:List Item}{o:Oper}{v:Value}(ho:ops[i]?=some o)(hrun:∀a,Za n a e->Region.wanted o (yielded ops a.tmps)=true/\(execOp a.eval o).run P w=.ok (.value v) w')(h:∀a,Za n a e->Za n (a.put o.dst v) e')(hg:Xa P f R n ds (.inRegion ops l::k) e' w'):Xa P f R n ds (.inRegion ops (i::l)::k) e w:=λb cs a g j m hf=>by
 obtain⟨p,hr⟩:=hrun a hf;have d:(a.put o.dst v).defers=ds:=by cases o.dst <;> exact m
 obtain⟨en,q,fr,r,s,t,u⟩:=hg b cs (a.put o.dst v) g j d (h a hf);refine⟨en,q,fr,r,.of_steps (.one (step_lone_go ?_)) s,t,u⟩;have c:(b.atR a (.inRegion ops (i::l)::k)).finish v=b.atR (a.put o.dst v) (.inRegion ops l::k):=by
  rw[Frame.finish_atR,ho];rfl
 rw[K9 ho p hr xS,<-c];simp[stepG.apply,hr]
theorem Xa.skipped{ops:Array Oper}{i:Nat}{l:List Nat}{k:List Item}{o:Oper}(ho:ops[i]?=some o)(hrun:∀a,Za n a e->Region.wanted o (yielded ops a.tmps)=false)(h:∀a,Za n a e->Za n (a.put o.dst undef) e')(hg:Xa P f R n ds (.inRegion ops l::k) e' w):Xa P f R n ds (.inRegion ops (i::l)::k) e w:=λb cs a d g j hf=>by
 have m:=hrun a hf;have c:(a.put o.dst undef).defers=ds:=by cases o.dst <;> exact j
 obtain⟨en,p,fr,q,r,s,t⟩:=hg b cs (a.put o.dst undef) d g c (h a hf);refine⟨en,p,fr,q,.of_steps (.one ?_) r,s,t⟩;have u:=stepR_op_skip (P:=P) (b:=b) (a:=a) (k:=k) (cs:=cs) (w:=w) (ops:=ops) (i:=i) (rest:=l) (by simp[ho];simpa using m)
 simpa [ho] using u
end
def Av:List Oper->Nat->Option Oper
 |[],_=>none
 |o::_,0=>some o
 |_::r,i+1=>Av r i
theorem XbM:∀(l:List Oper) (i:Nat),Av l i=l[i]?
 |[],_=>by simp[Av]
 |_::_,0=>by simp[Av]
 |_::r,i+1=>by simp[Av,XbM r i]
theorem Bx{ops:Array Oper}{i:Nat}{o:Oper}(h:Av ops.toList i=some o):ops[i]?=some o:=by
 rw[XbM] at h;simpa using h
def Dl(e:Env)(ops:Array Oper)(o:Oper):Option Bool:=
 match o.guard with
 |none=>some true
 |some (j,b)=>match Av ops.toList j with
  |some g=>match g.dst with
   |some d=>match lit e d with
    |true=>match look e d with
     |some (.bool c)=>match c,b with
      |true,true=>some true
      |false,false=>some true
      |true,false=>some false
      |false,true=>some false
     |some (.tuple _)=>some false
     |_=>none
    |false=>none
   |none=>none
  |none=>none
theorem D6{n:Nat}{a:Act}{e:Env}(hf:Za n a e){ops:Array Oper}{o:Oper}{r:Bool}(h:Dl e ops o=some r):Region.wanted o (yielded ops a.tmps)=r:=by
 unfold Dl at h;unfold Region.wanted;split at h
 .rename_i f;rw[f];cases h;rfl
 .rename_i j b f
  rw[f];split at h
  .rename_i g l
   split at h
   .rename_i d m
    split at h
    .split at h
     .rename_i c i
      have k:yielded ops a.tmps j=some c:=by
       unfold yielded;rw[Bx l];simp only[Option.bind_some,m,hf.slot d _ i]
      simp only[k];split at h <;> cases h <;> rfl
     .rename_i c i
      have k:yielded ops a.tmps j=none:=by
       unfold yielded;rw[Bx l];simp only[Option.bind_some,m,hf.slot d _ i]
      simp only[k];cases h;rfl
     .cases h
    .cases h
   .cases h
  .cases h
def Ns(n:Nat)(dst:Option Nat)(b:Bool)(v:Value)(e:Env):Option Env:=
 match dst with
 |none=>some e
 |some d=>bif Nat.blt d n then some ((d,b,v)::e) else none
def Fy(n:Nat)(dst:Option Nat)(b:Bool)(v:Value)(e:Env):Option Env:=
 match b with
 |true=>Ns n dst true v e
 |false=>Ns n dst false v e
theorem Xca{n:Nat}{dst:Option Nat}{b:Bool}{v:Value}{e:Env}:Fy n dst b v e=Ns n dst b v e:=by cases b <;> rfl
theorem Gq{n:Nat}{dst:Option Nat}{b:Bool}{v:Value}{e e':Env}(h:Fy n dst b v e=some e'):∀a,Za n a e->Za n (a.put dst v) e':=by
 intro a hf;rw[Xca] at h;cases dst with
 |none=>simp[Ns] at h;subst h;exact hf
 |some d=>
  simp only[Ns] at h;cases c:Nat.blt d n <;> rw[c] at h
  .cases h
  .simp at h;subst h;exact hf.put d b v (by simpa [Nat.blt_eq] using c)
def adv(T:Tab)(n:Nat):Nat->List Item->Env->List Item×Env
 |0,s,e=>(s,e)
 |m+1,s,e=>match s with
  |.code .skip::k=>adv T n m k e
  |.code (.label _)::k=>adv T n m k e
  |.inBlock _::k=>adv T n m k e
  |.inScope _::k=>adv T n m k e
  |.code (.seq a b)::k=>adv T n m (.code a::.code b::k) e
  |.code (.block id c)::k=>adv T n m (.code c::.inBlock id::k) e
  |.code (.scope c)::k=>adv T n m (.code c::.inScope c::k) e
  |.code (.exit id)::k=>match exitTo id k with
   |some k'=>adv T n m k' e
   |none=>(s,e)
  |.code (.cond c x y)::k=>match Ll e c with
   |true=>match ev e c with
    |some (.bool true)=>adv T n m (.code x::k) e
    |some (.bool false)=>adv T n m (.code y::k) e
    |_=>(s,e)
   |false=>(s,e)
  |.code (.region _ ops false)::k=>adv T n m (.inRegion ops (List.range ops.toList.length)::k) e
  |.inRegion _ []::k=>adv T n m k e
  |.inRegion ops (i::l)::k=>match Av ops.toList i with
   |some o=>match Dl e ops o with
    |some false=>match Fy n o.dst true undef e with
     |some e'=>adv T n m (.inRegion ops l::k) e'
     |none=>(s,e)
    |some true=>match Sn T e o.op with
     |some v=>match Fy n o.dst (opF e o.op) v e with
      |some e'=>adv T n m (.inRegion ops l::k) e'
      |none=>(s,e)
     |none=>(s,e)
    |none=>(s,e)
   |none=>(s,e)
  |_=>(s,e)
theorem Gi{P:Program}{T:Tab}(hT:Xp P T){f:FuncId}{R:Aim}{n:Nat}{ds:List Deferred}{w:World}:∀(m:Nat) (s:List Item) (e:Env),
 Xa P f R n ds (adv T n m s e).1 (adv T n m s e).2 w->Xa P f R n ds s e w
 |0,s,e,h=>h
 |m+1,s,e,h=>by
  unfold adv at h;split at h
  .exact Xa.step (λb cs a _=>stepR_skip) (Gi hT m _ _ h)
  .exact Xa.step (λb cs a _=>stepR_label) (Gi hT m _ _ h)
  .exact Xa.step (λb cs a _=>stepR_inBlock) (Gi hT m _ _ h)
  .exact Xa.step (λb cs a _=>step_lone_go (by simp[stepG,stepG.exec,Frame.atR])) (Gi hT m _ _ h)
  .exact Xa.step (λb cs a _=>stepR_seq) (Gi hT m _ _ h)
  .exact Xa.step (λb cs a _=>stepR_block) (Gi hT m _ _ h)
  .exact Xa.step (λb cs a _=>step_lone_go (by simp[stepG,stepG.exec,Frame.atR])) (Gi hT m _ _ h)
  .split at h
   .rename_i k' j;exact Xa.step (λb cs a _=>stepR_exit j) (Gi hT m _ _ h)
   .exact h
  .split at h
   .split at h
    .rename_i c;exact Xa.step (λb cs a hf=>stepR_cond (t:=true) (hf.ev c)) (Gi hT m _ _ h)
    .rename_i c;exact Xa.step (λb cs a hf=>stepR_cond (t:=false) (hf.ev c)) (Gi hT m _ _ h)
    .exact h
   .exact h
  .exact Xa.step (λb cs a _=>stepR_region) (Gi hT m _ _ (xU h))
  .exact Xa.step (λb cs a _=>stepR_region_end) (Gi hT m _ _ h)
  .split at h
   .rename_i o i
    split at h
    .rename_i d
     split at h
     .rename_i e' g;exact Xa.skipped (Bx i) (λa hf=>D6 hf d) (Gq g) (Gi hT m _ _ h)
     .exact h
    .rename_i d
     split at h
     .rename_i v k
      split at h
      .rename_i e' g
       exact Xa.value (Bx i) (λa hf=>⟨D6 hf d,XbP hT hf k w⟩) (Gq g) (Gi hT m _ _ h)
      .exact h
     .exact h
    .exact h
   .exact h
  .exact h
end Go.Proofs.YtdeihcnepljjaaaGreatDoor
