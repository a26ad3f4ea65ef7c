/-
  Abb
-/
import Derived.Test.YtdeihcnepljjaaaGreatDoorQTab
import Derived.Test.YtdeihcnepljjaaaGreatDoorQRule5
import Derived.Test.YtdeihcnepljjaaaGreatDoorQPost
namespace Go.Proofs.YtdeihcnepljjaaaGreatDoor
noncomputable section
variable {f:FuncId}{R:Aim}{Post:Value->World->Prop}{n:Nat}{ds:List Deferred}{s s':List Item}{e e':Env}{w w':World}
theorem Xc.gr{S:Nat->Prop}{w w':World}(h:Xc Xf w w'):Xc S w w':=h.mono λ_ _ h=>h.elim
theorem Xc.sn{S S':Nat->Prop}{w0 w w1:World}(h:Xc S' w0 w)(hc:Xc S w w1)(hS:∀z,z<w0.heap.size->S z->S' z:=by intro _ _ _;omega):Xc S' w0 w1:=h.bU hc hS
theorem aN(h:adv TT n 400 s e=(s',e'))(hg:Xa Tryz.prog f R n ds s' e' w):Xa Tryz.prog f R n ds s e w:=Xa.adv Xb 400 h hg
def ldA(n:Nat)(s:List Item)(e:Env)(c:List Value):Option (Nat×List Item×Env):=match Qb (Cj TT e) n s e with
 |some ((b,off,none),d,s')=>match Hz c off with
  |some v=>some (b,adv TT n 400 s' ((d,false,v)::e))
  |none=>none
 |some ((b,off,some m),d,s')=>match cut c off m with
  |some vs=>some (b,adv TT n 400 s' ((d,false,.agg vs.toArray)::e))
  |none=>none
 |none=>none
theorem bB{b:Nat}{c:List Value}{t:TypeId}{fz:Nat×Nat}(hc:w.heap[b]?=some (.cells c.toArray t fz))(h:ldA n s e c=some (b,s',e'))(hg:Xa Tryz.prog f R n ds s' e' w):Xa Tryz.prog f R n ds s e w:=by
 unfold ldA at h;split at h
 .rename_i a
  split at h
  .rename_i d
   simp only[Option.some.injEq,Prod.mk.injEq] at h;obtain⟨rfl,h⟩:=h;exact Xa.cJ Xb a hc d h hg
  .cases h
 .rename_i a
  split at h
  .rename_i d
   simp only[Option.some.injEq,Prod.mk.injEq] at h;obtain⟨rfl,h⟩:=h;exact Xa.loads Xb a hc d h hg
  .cases h
 .cases h
def stA(n:Nat)(s:List Item)(e:Env)(c:List Value):Option (Nat×List Value×List Item×Env):=match storeAt TT s e with
 |some (b,off,vs,s')=>match Ya c off vs,vs.all Nr with
  |some r,true=>some (b,r,adv TT n 400 s' e)
  |_,_=>none
 |none=>none
theorem bF{b:Nat}{c r:List Value}{t:TypeId}(hc:w.heap[b]?=some (.cells c.toArray t (0,0)))(h:stA n s e c=some (b,r,s',e'))(hg:∀w1,w1.heap[b]?=some (.cells r.toArray t (0,0))->Xc (λk=>k=b) w w1->w1.heap.size=w.heap.size->Xa Tryz.prog f R n ds s' e' w1):Xa Tryz.prog f R n ds s e w:=by
 unfold stA at h;split at h
 .rename_i d
  split at h
  .rename_i g i
   simp only[Option.some.injEq,Prod.mk.injEq] at h;obtain⟨rfl,rfl,h⟩:=h;exact Xa.store Xb d hc g i λw1 a b c=>Xa.adv Xb 400 h (hg w1 a b c)
  .cases h
 .cases h
def alA(n:Nat)(s:List Item)(e:Env)(b:Nat):Option (List Value×Nat×List Item×Env):=match Qb (I4 TT e) n s e with
 |some ((l,t),d,s')=>some (l,t,adv TT n 400 s' ((d,false,.pointer (some ⟨b,0,none⟩))::e))
 |none=>none
theorem bC{l:List Value}{t:Nat}{e2:Nat->Env}(h:alA n s e=λb=>some (l,t,s',e2 b))(hg:∀b w1,b=w.heap.size->w1.heap[b]?=some (.cells l.toArray t (0,0))->Xc Xf w w1->w1.heap.size=w.heap.size+1->Xa Tryz.prog f R n ds s' (e2 b) w1):Xa Tryz.prog f R n ds s e w:=by
 have a:=congrFun h 0;unfold alA at a;split at a
 .rename_i m o p q d
  have c:=λb=>congrFun h b;simp only[alA,d,Option.some.injEq,Prod.mk.injEq] at c;obtain⟨rfl,rfl,_⟩:=c 0;exact Xa.alloc Xb d λb w1 g i j k=>Xa.adv Xb 400 (c b).2.2 (hg b w1 g i j k)
 .cases a
def yA(n:Nat)(s:List Item)(e:Env)(a:Bool):Option (Bool×List Item×Env):=match ask s e with
 |some (t,p)=>some (p,adv TT n 400 s ((t,true,.bool a)::e))
 |none=>none
theorem aM{p:Bool}(h:yA n s e true=some (p,s',e'))(hp:p=true)(hg:Xa Tryz.prog f R n ds s' e' w):Xa Tryz.prog f R n ds s e w:=by
 unfold yA at h;split at h
 .rename_i a
  simp only[Option.some.injEq,Prod.mk.injEq] at h;obtain⟨rfl,h⟩:=h;exact Xa.yes Xb a hp h hg
 .cases h
theorem aI{p:Bool}(h:yA n s e false=some (p,s',e'))(hp:p=false)(hg:Xa Tryz.prog f R n ds s' e' w):Xa Tryz.prog f R n ds s e w:=by
 unfold yA at h;split at h
 .rename_i a
  simp only[Option.some.injEq,Prod.mk.injEq] at h;obtain⟨rfl,h⟩:=h;exact Xa.no Xb a hp h hg
 .cases h
theorem bI{p:Bool}(h:yA n s e true=some (p,s',e'))(hg:Xa Tryz.prog f R n ds s' e' w)(hp:p=true:=by first|rfl|assumption|exact decide_eq_true (by omega)|exact beq_iff_eq.2 (by omega)|exact bne_iff_ne.2 (by omega)):Xa Tryz.prog f R n ds s e w:=aM h hp hg
theorem aS{p:Bool}(h:yA n s e false=some (p,s',e'))(hg:Xa Tryz.prog f R n ds s' e' w)(hp:p=false:=by first|rfl|assumption|exact decide_eq_false (by omega)|exact beq_eq_false_iff_ne.2 (by omega)|exact bne_eq_false_iff_eq.2 (by omega)):Xa Tryz.prog f R n ds s e w:=aI h hp hg
def gA(n:Nat)(s:List Item)(e:Env):Option (Bool×(List Item×Env)×List Item×Env):=match ask s e with
 |some (t,p)=>some (p,adv TT n 400 s ((t,true,.bool true)::e),adv TT n 400 s ((t,true,.bool false)::e))
 |none=>none
theorem aT{p:Bool}{s1 s2:List Item}{e1 e2:Env}(h:gA n s e=some (p,(s1,e1),s2,e2))(ht:p=true->Xa Tryz.prog f R n ds s1 e1 w)(hf:p=false->Xa Tryz.prog f R n ds s2 e2 w):Xa Tryz.prog f R n ds s e w:=by
 unfold gA at h;split at h
 .rename_i a
  simp only[Option.some.injEq,Prod.mk.injEq] at h;obtain⟨rfl,b,c⟩:=h;exact Xa.fork Xb a b c ht hf
 .cases h
def rV(e:Env):List ResultVar->Option Value
 |[]=>some (.tuple #[])
 |[.tmp t]=>look e t
 |[.tmp t,.tmp t']=>match look e t,look e t' with
  |some v,some v'=>some (.tuple #[v,v'])
  |_,_=>none
 |_=>none
def rA(fn:Func)(s:List Item)(e:Env):Option Value:=bif Fm s then rV e fn.results.toList else none
theorem bE{fn:Func}{v:Value}(h2:Tryz.prog.funcs[f]?=some fn)(h:rA fn s e=some v)(hp:Post v w):Xa Tryz.prog f (Gh Post) n [] s e w:=by
 unfold rA at h;cases a:Fm s with
 |false=>rw[a] at h;cases h
 |true=>
 rw[a,cond_true] at h;unfold rV at h;split at h
 .rename_i b
  cases h
  exact Xa.ret0 Xb a h2 b hp
 .rename_i b
  exact Xa.ret1 Xb a h2 b h hp
 .rename_i b
  split at h
  .rename_i c d
   cases h
   exact Xa.ret2 Xb a h2 b c d hp
  .cases h
 .cases h
def rT(e:Env):List ResultVar->Option (List Value)
 |[]=>some []
 |.tmp t::r=>match look e t,rT e r with
  |some v,some vs=>some (v::vs)
  |_,_=>none
 |_=>none
def rC(fn:Func)(s:List Item)(e:Env)(c:List Value):Option (Nat×List Value):=bif Fm s then match fn.results.toList with
 |.cell t ty::rs=>match look e t,row TT ty,rT e rs with
  |some (.pointer (some ⟨b,off,none⟩)),some r,some vs=>bif I9 r then match cut c off r.size with
   |some l=>some (b,.agg l.toArray::vs)
   |none=>none else none
  |_,_,_=>none
 |_=>none else none
theorem Xgf:∀{rs:List ResultVar} {vs:List Value},rT e rs=some vs->Xi Tryz.prog TT w e rs vs
 |[],_,h=>by cases h;exact .nil
 |.tmp t::r,vs,h=>by
  unfold rT at h;split at h
  .rename_i h1 h2
   cases h
   exact .tmp h1 (Xgf h2)
  .cases h
 |.cell .. :: _,_,h=>by cases h
theorem aK{fn:Func}{b:Nat}{c vs:List Value}{t:TypeId}{fz:Nat×Nat}(h2:Tryz.prog.funcs[f]?=some fn)(hc:w.heap[b]?=some (.cells c.toArray t fz))(h:rC fn s e c=some (b,vs))(hp:Post (J8 vs) w):Xa Tryz.prog f (Gh Post) n [] s e w:=by
 unfold rC at h;cases a:Fm s with
 |false=>rw[a] at h;cases h
 |true=>
 rw[a,cond_true] at h;split at h
 .rename_i g
  split at h
  .rename_i r m i j k
   cases d:I9 r with
   |false=>rw[d] at h;cases h
   |true=>
    rw[d,cond_true] at h;split at h
    .rename_i l
     simp only[Option.some.injEq,Prod.mk.injEq] at h;obtain⟨rfl,rfl⟩:=h;exact Xa.ret Xb a h2 (by rw[g];exact .cell i j d hc l (Xgf k)) hp
    .cases h
  .cases h
 .cases h
theorem aW{b off d:Nat}{v:Value}{s2:List Item}(h:Qb (Cj TT e) n s e=some ((b,off,none),d,s2))(hc:w.cell? ⟨b,off,none⟩=some v)(ha:adv TT n 400 s2 ((d,false,v)::e)=(s',e'))(hg:Xa Tryz.prog f R n ds s' e' w):Xa Tryz.prog f R n ds s e w:=Xa.load Xb h hc ha hg
def bA(n:Nat)(s:List Item)(e:Env):Option (List Item×Env):=match Qb (On TT e) n s e with
 |some (vs,d,s')=>some (adv TT n 400 s' ((d,false,.agg vs.toArray)::e))
 |none=>none
theorem aO(h:bA n s e=some (s',e'))(hg:Xa Tryz.prog f R n ds s' e' w):Xa Tryz.prog f R n ds s e w:=by
 unfold bA at h;split at h
 .rename_i a
  exact Xa.build Xb a (Option.some.inj h) hg
 .cases h
def iA(n:Nat)(s:List Item)(e:Env)(j:Nat):Option (Nat×Nat×Int×List Item×Env):=match Qb (Nc TT e) n s e with
 |some ((b,off,len,sz,i),d,s')=>some (len,sz,i,adv TT n 400 s' ((d,false,.pointer (some ⟨b,off+j,none⟩))::e))
 |none=>none
theorem aU(j:Nat){len sz:Nat}{i:Int}(h:iA n s e j=some (len,sz,i,s',e'))(hg:Xa Tryz.prog f R n ds s' e' w)(h0:0<=i:=by omega)(h1:i<len:=by omega)(hj:i.toNat*sz=j:=by first|rfl|omega|(simp;done)|(simp;omega)):Xa Tryz.prog f R n ds s e w:=by
 unfold iA at h;split at h
 .rename_i a
  simp only[Option.some.injEq,Prod.mk.injEq] at h;obtain⟨rfl,rfl,rfl,h⟩:=h;exact Xa.index Xb a h0 h1 hj h hg
 .cases h
def jA(n:Nat)(s:List Item)(e:Env):Option (Int×List Item×Env):=match Qb (Mn TT e) n s e with
 |some ((.i64,z),d,s')=>some (z,adv TT n 400 s' ((d,false,.int .i64 z)::e))
 |_=>none
theorem aV{z:Int}(h:jA n s e=some (z,s',e'))(hg:Xa Tryz.prog f R n ds s' e' w)(hz : -9223372036854775808<=z/\z<=9223372036854775807:=by omega):Xa Tryz.prog f R n ds s e w:=by
 unfold jA at h;split at h
 .rename_i a
  simp only[Option.some.injEq,Prod.mk.injEq] at h;obtain⟨rfl,h⟩:=h;exact Xa.arith Xb a (w64 hz) h hg
 .cases h
theorem aJ{z:Int}(h:jA n s e=some (z,s',e'))(hz : -9223372036854775808<=z/\z<=9223372036854775807)(hg:Xa Tryz.prog f R n ds s' e' w):Xa Tryz.prog f R n ds s e w:=aV h hg hz
theorem aL{b off:Nat}{vs c r:List Value}{t:TypeId}{s2:List Item}(h:storeAt TT s e=some (b,off,vs,s2))(hc:w.heap[b]?=some (.cells c.toArray t (0,0)))(hr:Ya c off vs=some r)(h2:(vs.all Nr,adv TT n 400 s2 e)=(true,s',e'))(hg:∀w1,w1.heap[b]?=some (.cells r.toArray t (0,0))->Xc (λk=>k=b) w w1->w1.heap.size=w.heap.size->Xa Tryz.prog f R n ds s' e' w1):Xa Tryz.prog f R n ds s e w:=
 Xa.store Xb h hc hr (congrArg Prod.fst h2) λw1 a b c=>Xa.adv Xb 400 (congrArg Prod.snd h2) (hg w1 a b c)
theorem bD{fn:Func}{vs:List Value}(hs:Fm s=true)(hfn:Tryz.prog.funcs[f]?=some fn)(hr:Xi Tryz.prog TT w e fn.results.toList vs)(hp:Post (J8 vs) w):Xa Tryz.prog f (Gh Post) n [] s e w:=Xa.ret Xb hs hfn hr hp
def eA(fn : Func)(n : Nat)(l : List Value):Option (List Item × Env) := match fn.body, fn.name == "runtime.NumGoroutine", Nat.ble l.length n with
 |some c,false,true=>some (adv TT n 400 [.code c] (Mm 0 l))
 |_,_,_=>none
theorem aR{k:FuncId}{fn:Func}{l:List Value}(hf:Tryz.prog.funcs[k]?=some fn)(hn:fn.ntmps=n)(h:eA fn n l=some (s',e'))(hg:Xa Tryz.prog k (Gh Post) n [] s' e' w):Xe Tryz.prog k l.toArray w Post:=by
 unfold eA at h;split at h
 .rename_i a b c
  exact Xe.enter hf a hn b c (Xa.adv Xb 400 (Option.some.inj h) hg)
 .cases h
def cA(n:Nat)(s:List Item)(e:Env)(v:Value):Option (Nat×List Value×List Item×Env):=match Qb (Gj e) n s e with
 |some ((k,l),d,s')=>some (k,l,adv TT n 400 s' ((d,false,v)::e))
 |none=>none
theorem bH{k:Nat}{l:List Value}{v:Value}(hd:Xe Tryz.prog k l.toArray w (X9 v w))(h:cA n s e v=some (k,l,s',e'))(hg:Xa Tryz.prog f R n ds s' e' w):Xa Tryz.prog f R n ds s e w:=by
 unfold cA at h;split at h
 .rename_i a
  simp only[Option.some.injEq,Prod.mk.injEq] at h;obtain⟨rfl,rfl,h⟩:=h;refine Xa.call a hd ?_;rintro _ _ ⟨rfl,rfl⟩;exact Xa.adv Xb 400 h hg
 .cases h
theorem bG{k:Nat}{l:List Value}{v:Value}(hd:Xe Tryz.prog k l.toArray w (Grow v w))(h:cA n s e v=some (k,l,s',e'))(hg:∀w1,Xc Xf w w1->Xa Tryz.prog f R n ds s' e' w1):Xa Tryz.prog f R n ds s e w:=by
 unfold cA at h;split at h
 .rename_i a
  simp only[Option.some.injEq,Prod.mk.injEq] at h;obtain⟨rfl,rfl,h⟩:=h;refine Xa.call a hd ?_;rintro _ w1 ⟨rfl,b⟩;exact Xa.adv Xb 400 h (hg w1 b)
 .cases h
theorem aP{k d:Nat}{l:List Value}{Q:Value->World->Prop}(h:Qb (Gj e) n s e=some ((k,l),d,s'))(hd:Xe Tryz.prog k l.toArray w Q)(hg:∀v w1,Q v w1->Xa Tryz.prog f R n ds s' ((d,false,v)::e) w1):Xa Tryz.prog f R n ds s e w:=Xa.call h hd hg
end
noncomputable section
variable {ops:Array Oper}{f:FuncId}{R:Aim}{k:List Item}{q n:Nat}{ds:List Deferred}{w w0:World}{e e2:Env}{U U2:List Nat}{S:Nat->Prop}
def ldD(ops:Array Oper)(q n:Nat)(U:List Nat)(e:Env)(c:List Value):Option (Nat×List Nat×Env):=match Au (Cj TT e) n ops q U e U with
 |some ((b,off,none),d,i)=>match Hz c off with
  |some v=>some (b,Z7 TT n ops q (Xv i U) (Xv i U) ((d,false,v)::e))
  |none=>none
 |some ((b,off,some m),d,i)=>match cut c off m with
  |some vs=>some (b,Z7 TT n ops q (Xv i U) (Xv i U) ((d,false,.agg vs.toArray)::e))
  |none=>none
 |none=>none
theorem aE(hB:Z0 ops q=true){b:Nat}{c:List Value}{t:TypeId}{fz:Nat×Nat}(hc:w0.heap[b]?=some (.cells c.toArray t fz))(h:ldD ops q n U e c=some (b,U2,e2))(hg:Xd Tryz.prog f R n ds k ops q S U2 e2 w0 w)(hS:¬S b:=by first|exact λh=>h|(intro h;omega)|assumption):Xd Tryz.prog f R n ds k ops q S U e w0 w:=by
 unfold ldD at h;split at h
 .rename_i a
  split at h
  .rename_i d
   simp only[Option.some.injEq,Prod.mk.injEq] at h;obtain⟨rfl,h⟩:=h;exact Xd.cJ Xb hB a hc hS d h hg
  .cases h
 .rename_i a
  split at h
  .rename_i d
   simp only[Option.some.injEq,Prod.mk.injEq] at h;obtain⟨rfl,h⟩:=h;exact Xd.loads Xb hB a hc hS d h hg
  .cases h
 .cases h
def kD(ops:Array Oper)(q n:Nat)(U:List Nat)(e:Env)(v:Value):Option (Nat×Nat×List Nat×Env):=match Au (Cj TT e) n ops q U e U with
 |some ((b,off,none),d,i)=>some (b,off,Z7 TT n ops q (Xv i U) (Xv i U) ((d,false,v)::e))
 |_=>none
theorem aD(hB:Z0 ops q=true){b off:Nat}{v:Value}(hc:w0.cell? ⟨b,off,none⟩=some v)(h:kD ops q n U e v=some (b,off,U2,e2))(hg:Xd Tryz.prog f R n ds k ops q S U2 e2 w0 w)(hS:¬S b:=by first|exact λh=>h|(intro h;omega)|assumption):Xd Tryz.prog f R n ds k ops q S U e w0 w:=by
 unfold kD at h;split at h
 .rename_i a
  simp only[Option.some.injEq,Prod.mk.injEq] at h;obtain⟨rfl,rfl,h⟩:=h;exact Xd.load Xb hB a hc hS h hg
 .cases h
def iD(ops:Array Oper)(q n:Nat)(U:List Nat)(e:Env)(j:Nat):Option (Nat×Nat×Int×List Nat×Env):=match Au (Nc TT e) n ops q U e U with
 |some ((b,off,len,sz,x),d,i)=>some (len,sz,x,Z7 TT n ops q (Xv i U) (Xv i U) ((d,false,.pointer (some ⟨b,off+j,none⟩))::e))
 |none=>none
theorem aB(j:Nat)(hB:Z0 ops q=true){len sz:Nat}{i:Int}(h:iD ops q n U e j=some (len,sz,i,U2,e2))(hg:Xd Tryz.prog f R n ds k ops q S U2 e2 w0 w)(h0:0<=i:=by omega)(h1:i<len:=by omega)(hj:i.toNat*sz=j:=by first|rfl|omega|(simp;done)|(simp;omega)):Xd Tryz.prog f R n ds k ops q S U e w0 w:=by
 unfold iD at h;split at h
 .rename_i a
  simp only[Option.some.injEq,Prod.mk.injEq] at h;obtain⟨rfl,rfl,rfl,h⟩:=h;exact Xd.index Xb hB a h0 h1 hj h hg
 .cases h
def jD(ops:Array Oper)(q n:Nat)(U:List Nat)(e:Env):Option (Int×List Nat×Env):=match Au (Mn TT e) n ops q U e U with
 |some ((.i64,z),d,i)=>some (z,Z7 TT n ops q (Xv i U) (Xv i U) ((d,false,.int .i64 z)::e))
 |_=>none
theorem aC(hB:Z0 ops q=true){z:Int}(h:jD ops q n U e=some (z,U2,e2))(hg:Xd Tryz.prog f R n ds k ops q S U2 e2 w0 w)(hz : -9223372036854775808<=z/\z<=9223372036854775807:=by omega):Xd Tryz.prog f R n ds k ops q S U e w0 w:=by
 unfold jD at h;split at h
 .rename_i a
  simp only[Option.some.injEq,Prod.mk.injEq] at h;obtain⟨rfl,h⟩:=h;exact Xd.arith Xb hB a (w64 hz) h hg
 .cases h
def cD(ops:Array Oper)(q n:Nat)(U:List Nat)(e:Env)(v:Value):Option (Nat×List Value×List Nat×Env):=match Au (Gj e) n ops q U e U with
 |some ((fk,l),d,i)=>some (fk,l,Z7 TT n ops q (Xv i U) (Xv i U) ((d,false,v)::e))
 |none=>none
theorem aG(hB:Z0 ops q=true){fk:Nat}{l:List Value}{v:Value}(hd:∀w',Xc S w0 w'->Xe Tryz.prog fk l.toArray w' (Grow v w'))(h:cD ops q n U e v=some (fk,l,U2,e2))(hg:Xd Tryz.prog f R n ds k ops q S U2 e2 w0 w):Xd Tryz.prog f R n ds k ops q S U e w0 w:=by
 unfold cD at h;split at h
 .rename_i a
  simp only[Option.some.injEq,Prod.mk.injEq] at h;obtain⟨rfl,rfl,h⟩:=h;exact Xd.call Xb hB a hd h hg
 .cases h
theorem aH(hB:Z0 ops q=true){fk:Nat}{l:List Value}{v:Value}(hd:∀w',Xc S w0 w'->Xe Tryz.prog fk l.toArray w' (X9 v w'))(h:cD ops q n U e v=some (fk,l,U2,e2))(hg:Xd Tryz.prog f R n ds k ops q S U2 e2 w0 w):Xd Tryz.prog f R n ds k ops q S U e w0 w:=aG hB (λw' a=>(hd w' a).bQ) h hg
theorem aF(hB:Z0 ops q=true){s':List Item}(h:adv TT n 400 (.inRegion ops (List.range' q (ops.size-q))::k) e=(s',e2))(hg:∀w',Xc Xf w w'->Xa Tryz.prog f R n ds s' e2 w'):Xd Tryz.prog f R n ds k ops q S [] e w0 w:=Xd.nil hB λw' a=>Xa.adv Xb 400 h (hg w' a)
theorem aQ(q:Nat)(S:Nat->Prop){id:Nat}(hB:Z0 ops q=true)(h:Z7 TT n ops q (List.range q) (List.range q) e=(U2,e2))(hg:Z0 ops q=true->Xd Tryz.prog f R n ds k ops q S U2 e2 w w):Xa Tryz.prog f R n ds (.code (.region id ops true)::k) e w:=Xa.drawn S Xb Xn hB h hg
end
theorem bJ{c:Prop}{h:Decidable c}(hn:¬c){α:Sort _}{t e:α}:ite c t e=e:=if_neg hn
theorem bK{c:Prop}{h:Decidable c}(hn:c){α:Sort _}{t e:α}:ite c t e=t:=if_pos hn
theorem bL{p:Prop}[i:Decidable p]:decide p=true->p:=of_decide_eq_true
theorem bM{p:Prop}[i:Decidable p]:decide p=false->¬p:=of_decide_eq_false
theorem bN{p:Prop}[i:Decidable p]:p->decide p=true:=decide_eq_true
theorem bO{p:Prop}[i:Decidable p]:¬p->decide p=false:=decide_eq_false
end Go.Proofs.YtdeihcnepljjaaaGreatDoor
