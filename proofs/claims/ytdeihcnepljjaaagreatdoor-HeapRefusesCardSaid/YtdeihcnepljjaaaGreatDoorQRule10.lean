/-
  Rule10
-/
import Derived.Test.YtdeihcnepljjaaaGreatDoorQRule9
import Derived.MapKept
namespace Go.Proofs.YtdeihcnepljjaaaGreatDoor
open Go.RowKit
abbrev AL:=List (Int×Value)
def Qz:AL->Int->Option (Nat×Value)
 |[],_=>none
 |(j,v)::r,k=>if k=j then some (0,v) else (Qz r k).map λp=>(p.1+1,p.2)
def Bq(m:AL)(k:Int):Option Value:=(Qz m k).map (·.2)
def C2:AL->Int->Value->AL
 |[],k,v=>[(k,v)]
 |(j,u)::r,k,v=>if k=j then (k,v)::r else (j,u)::C2 r k v
def Dp:AL->Int->AL
 |[],_=>[]
 |(j,u)::r,k=>if k=j then r else (j,u)::Dp r k
def Bj(m:AL):List Int:=m.map (·.1)
theorem Tc(k:Int):Bq [] k=none:=rfl
theorem Iy(j:Int)(v:Value)(r:AL)(k:Int):Bq ((j,v)::r) k=if k=j then some v else Bq r k:=by
 unfold Bq;simp only[Qz];split
 .rfl
 .cases Qz r k <;> rfl
theorem Td{m:AL}{k:Int}:Bq m k=none↔k∉Bj m:=by
 induction m with
 |nil=>simp[Tc,Bj]
 |cons p r ih=>
  obtain⟨j,v⟩:=p;rw[Iy];simp only[Bj,List.map_cons,List.mem_cons,not_or] at ih⊢;by_cases h:k=j
  .simp[h]
  .rw[if_neg h];simp[h,ih]
theorem Js(m:AL)(k:Int)(v:Value)(j:Int):Bq (C2 m k v) j=if j=k then some v else Bq m j:=by
 induction m with
 |nil=>rw[C2,Iy,Tc]
 |cons p r ih=>
  obtain⟨i,u⟩:=p;rw[C2];by_cases h:k=i
  .subst h;rw[if_pos rfl,Iy,Iy];by_cases a:j=k
   .rw[if_pos a,if_pos a]
   .rw[if_neg a,if_neg a,if_neg a]
  .rw[if_neg h,Iy,Iy,ih];by_cases a:j=i
   .subst a;rw[if_pos rfl,if_pos rfl,if_neg (λe=>h e.symm)]
   .rw[if_neg a,if_neg a]
theorem Ta(i:Int)(u:Value)(r:AL):Bj ((i,u)::r)=i::Bj r:=rfl
theorem W0(m:AL)(k:Int)(v:Value):Bj (C2 m k v)=if k∈Bj m then Bj m else Bj m++[k]:=by
 induction m with
 |nil=>simp[C2,Bj]
 |cons p r ih=>
  obtain⟨i,u⟩:=p;rw[C2];by_cases h:k=i
  .subst h;rw[if_pos rfl,Ta,Ta,if_pos (by simp)]
  .rw[if_neg h,Ta,Ta,ih];by_cases a:k∈Bj r
   .rw[if_pos a,if_pos (by simp[a])]
   .rw[if_neg a,if_neg (by simp[a,h])];rfl
theorem Wy(m:AL)(k:Int):Bj (Dp m k)=(Bj m).erase k:=by
 induction m with
 |nil=>rfl
 |cons p r ih=>
  obtain⟨i,u⟩:=p;rw[Dp];by_cases h:k=i
  .subst h;simp[Bj]
  .rw[if_neg h];simp only[Bj,List.map_cons] at ih⊢;rw[List.erase_cons_tail (by simpa using λe=>h e.symm),ih]
theorem L6{m:AL}(hn:(Bj m).Nodup)(k j:Int):Bq (Dp m k) j=if j=k then none else Bq m j:=by
 induction m with
 |nil=>rw[Dp,Tc];split <;> rfl
 |cons p r ih=>
  obtain⟨i,u⟩:=p;have b:i∉Bj r/\(Bj r).Nodup:=by simpa [Bj] using hn
  rw[Dp];by_cases h:k=i
  .subst h;rw[if_pos rfl,Iy];by_cases a:j=k
   .rw[if_pos a,a];exact Td.2 b.1
   .rw[if_neg a,if_neg a]
  .rw[if_neg h,Iy,Iy,ih b.2];by_cases a:j=i
   .subst a;rw[if_pos rfl,if_pos rfl,if_neg (λe=>h e.symm)]
   .rw[if_neg a,if_neg a]
theorem Xh9(m:AL)(k:Int)(v:Value):(C2 m k v).length=if (Bq m k).isSome then m.length else m.length+1:=by
 induction m with
 |nil=>rfl
 |cons p r ih=>
  obtain⟨i,u⟩:=p;rw[C2,Iy];by_cases h:k=i
  .subst h;simp
  .rw[if_neg h,if_neg h,List.length_cons,ih,List.length_cons];split <;> omega
theorem Xh2(m:AL)(k:Int):(Dp m k).length=if (Bq m k).isSome then m.length-1 else m.length:=by
 induction m with
 |nil=>rfl
 |cons p r ih=>
  obtain⟨i,u⟩:=p;rw[Dp,Iy];by_cases h:k=i
  .subst h;simp
  .rw[if_neg h,if_neg h,List.length_cons,ih,List.length_cons];split
   .rename_i a
    have:r≠[]:=λe=>by subst e;simp[Tc] at a
    have:=List.length_pos_iff.2 this;omega
   .rfl
theorem Xbh{m:AL}(h:(Bj m).Nodup)(k:Int)(v:Value):(Bj (C2 m k v)).Nodup:=by
 rw[W0];split
 .exact h
 .rename_i d
  rw[List.nodup_append];exact⟨h,by simp,λa f b c e=>by simp at c;subst c;subst e;exact d f⟩
theorem Xfe{m:AL}(h:(Bj m).Nodup)(k:Int):(Bj (Dp m k)).Nodup:=by
 rw[Wy];exact h.erase k
def Ak(m:AL)(es:List MapEntry):Prop:=es.map (λe=>(e.key,e.val))=m.map (λp=>(Value.int .i64 p.1,p.2))
def Yx(w:World)(r:Nat)(m:AL):Prop:=∃es clock,w.heap[r]?=some (.map es clock)/\Ak m es.toList
theorem Yx.bR{S:Nat->Prop}{w w':World}{r:Nat}{m:AL}(h:Yx w r m)(hc:Xc S w w')(hs:¬S r):Yx w' r m:=by
 obtain⟨es,clock,a,b⟩:=h;exact⟨es,clock,hc.heap a hs,b⟩
theorem Yx.lt{w:World}{r:Nat}{m:AL}(h:Yx w r m):r<w.heap.size:=by
 obtain⟨es,clock,a,_⟩:=h;exact Xg a
theorem Xel{q:IntKind}{k:Int}:∀{m:AL} {es:List MapEntry} {i:Nat},Ak m es->Instr.findNow (.int q) (.int .i64 k) es i=some ((Qz m k).map λp=>(i+p.1,p.2))
 |[],es,i,h=>by
  simp[Ak] at h;subst h;rfl
 |(j,v)::r,[],i,h=>by simp[Ak] at h
 |(j,v)::r,e::es,i,h=>by
  simp only[Ak,List.map_cons,List.cons.injEq,Prod.mk.injEq] at h;obtain⟨⟨b,c⟩,d⟩:=h;simp only[Instr.findNow,b,Instr.sameNow,if_true,Qz];by_cases a:k=j
  .subst a;simp[c]
  .have:(k == j)=false:=by simpa using a
   rw[this,if_neg a];simp only
   rw[Xel (m:=r) d];cases Qz r k <;> simp;omega
theorem Xd6{m:AL}{es:List MapEntry}{k:Int}{i:Nat}{v:Value}(h:Ak m es)(hf:Qz m k=some (i,v)):(es[i]?).map (·.key)=some (.int .i64 k):=by
 induction m generalizing es i with
 |nil=>cases hf
 |cons p r ih=>
  obtain⟨j,u⟩:=p;cases es with
  |nil=>simp[Ak] at h
  |cons e es=>
   simp only[Ak,List.map_cons,List.cons.injEq,Prod.mk.injEq] at h;simp only[Qz] at hf;by_cases a:k=j
   .rw[if_pos a] at hf;cases hf;subst a;simp[h.1.1]
   .rw[if_neg a] at hf;cases b:Qz r k with
    |none=>rw[b] at hf;cases hf
    |some q=>rw[b] at hf;cases hf;simpa using ih h.2 b
theorem Xd9{m:AL}{es:List MapEntry}{k:Int}{i:Nat}{v v':Value}(h:Ak m es)(hf:Qz m k=some (i,v)):Ak (C2 m k v') (es.modify i λe=>{e with key:=.int .i64 k,val:=v'}):=by
 induction m generalizing es i with
 |nil=>cases hf
 |cons p r ih=>
  obtain⟨j,u⟩:=p;cases es with
  |nil=>simp[Ak] at h
  |cons e es=>
   simp only[Ak,List.map_cons,List.cons.injEq,Prod.mk.injEq] at h;simp only[Qz] at hf;rw[C2];by_cases b:k=j
   .rw[if_pos b] at hf⊢;cases hf;simp[Ak,h.2]
   .rw[if_neg b] at hf⊢;cases a:Qz r k with
    |none=>rw[a] at hf;cases hf
    |some q=>
     rw[a] at hf;cases hf;have:=ih h.2 a;simp only[Ak] at this;simp[Ak,h.1,this]
theorem Xd8{m:AL}{es:List MapEntry}{k:Int}{v:Value}{c:Nat}(h:Ak m es)(hf:Qz m k=none):Ak (C2 m k v) (es++[{key:=.int .i64 k,val:=v,born:=c}]):=by
 induction m generalizing es with
 |nil=>simp[Ak] at h;subst h;simp[Ak,C2]
 |cons p r ih=>
  obtain⟨j,u⟩:=p;cases es with
  |nil=>simp[Ak] at h
  |cons e es=>
   simp only[Ak,List.map_cons,List.cons.injEq,Prod.mk.injEq] at h;simp only[Qz] at hf;by_cases a:k=j
   .rw[if_pos a] at hf;cases hf
   .rw[if_neg a] at hf;have b:Qz r k=none:=by cases d:Qz r k with|none=>rfl|some q=>rw[d] at hf;cases hf
    have:=ih h.2 b;rw[C2,if_neg a];simp only[Ak] at this⊢;simp[h.1,this]
theorem Xd5{m:AL}{es:List MapEntry}{k:Int}{i:Nat}{v:Value}(h:Ak m es)(hf:Qz m k=some (i,v)):Ak (Dp m k) (es.eraseIdx i):=by
 induction m generalizing es i with
 |nil=>cases hf
 |cons p r ih=>
  obtain⟨j,u⟩:=p;cases es with
  |nil=>simp[Ak] at h
  |cons e es=>
   simp only[Ak,List.map_cons,List.cons.injEq,Prod.mk.injEq] at h;simp only[Qz] at hf;rw[Dp];by_cases b:k=j
   .rw[if_pos b] at hf⊢;cases hf;simpa [Ak] using h.2
   .rw[if_neg b] at hf⊢;cases a:Qz r k with
    |none=>rw[a] at hf;cases hf
    |some q=>
     rw[a] at hf;cases hf;have:=ih h.2 a;simp only[Ak] at this;simp[Ak,h.1,this]
theorem Xdh{m:AL}{k:Int}(hf:Qz m k=none):Dp m k=m:=by
 induction m with
 |nil=>rfl
 |cons p r ih=>
  obtain⟨j,u⟩:=p;simp only[Qz] at hf;by_cases a:k=j
  .rw[if_pos a] at hf;cases hf
  .rw[if_neg a] at hf;have b:Qz r k=none:=by cases c:Qz r k with|none=>rfl|some q=>rw[c] at hf;cases hf
   rw[Dp,if_neg a,ih b]
section
variable {P:Program}{T:Tab}{ops:Array Oper}{f:FuncId}{R:Aim}{k:List Item}{q n:Nat}{ds:List Deferred}{s s':List Item}{w w0 w':World}{e e':Env}{U:List Nat}{S:Nat->Prop}
theorem Md{kt:Nat}{r:Df}{b:Bool}{x:Int}(hT:Xp P T)(hr:row T kt=some r)(hu:r.und=.int .i64):(Instr.checkKey b 10000 kt (.int .i64 x)).run P w=.ok () w:=by
 unfold Instr.checkKey;refine(Xh (by rw[(hT.row hr).underlying w,hu])).trans rfl
theorem Mj{kt:Nat}{r:Df}{x:Int}{m:AL}{es:List MapEntry}(hT:Xp P T)(hr:row T kt=some r)(hu:r.und=.int .i64)(h:Ak m es):(Instr.findKey kt (.int .i64 x) es).run P w=.ok (Qz m x) w:=by
 unfold Instr.findKey;refine(Xh (by rw[(hT.row hr).underlying w,hu])).trans ?_;rw[Xel h];simp only[Nat.zero_add];cases Qz m x <;> rfl
theorem Lp{r:Nat}{es:Array MapEntry}{clock:Nat}(o:Obj)(hb:w.heap[r]?=some (.map es clock)):(setObj r o).run P w=.ok () {w with heap:=w.heap.setIfInBounds r o}:=MapKept.run_setObj_map o hb
theorem Ki{r:Nat}{o:Obj}:Xc (λb=>b=r) w {w with heap:=w.heap.setIfInBounds r o}:=
 ⟨rfl,rfl,rfl,by simp,λb c a=>by simp[Ne.symm a]⟩
theorem Kl{r:Nat}{o:Obj}(h:r<w.heap.size):({w with heap:=w.heap.setIfInBounds r o}:World).heap[r]?=some o:=by simp[h]
def Ud(T:Tab)(e:Env)(o:Oper):Option (Option Nat×Value×Int×Bool):=
 match o.op with
 |.lookup t x ix ok=>match ev e x,ev e ix,row T t with
  |some (.map r),some (.int .i64 i),some {und:=.map kt et,..}=>match row T kt,row T et with
   |some {und:=.int .i64,..},some re=>match re.zero with
    |some z=>some (r,z,i,ok)
    |none=>none
   |_,_=>none
  |_,_,_=>none
 |_=>none
def Bv(m:AL)(z:Value)(i:Int)(ok:Bool):Value:=
 match Bq m i with
 |some v=>if ok then .tuple #[v,.bool true] else v
 |none=>if ok then .tuple #[z,.bool false] else z
def Ny(w:World)(r:Option Nat)(m:AL):Prop:=match r with
 |none=>m=[]
 |some r=>Yx w r m
theorem XeX(hT:Xp P T){r:Option Nat}{z:Value}{i:Int}{ok:Bool}{m:AL}{o:Oper}(h:Ud T e o=some (r,z,i,ok))(hm:Ny w r m)(a:Act)(hf:X7 n a e):(execOp a.eval o).run P w=.ok (.value (Bv m z i ok)) w:=by
 unfold Ud at h;split at h
 .rename_i t x ix ok1 b
  split at h
  .rename_i y A kt et _ _ _ j c hr
   split at h
   .rename_i _ _ _ re d k
    split at h
    .rename_i B l
     cases h
     simp only[execOp,b,hf.ev j,hf.ev c];refine(Xh (x:=Bv m z i ok) (w':=w) ?_).trans rfl;unfold Instr.lookup;refine(Xh ((hT.row hr).underlying w)).trans ?_;simp only
     have key:∀es:Array MapEntry,Ak m es.toList->((do
      Instr.checkKey es.isEmpty 10000 kt (.int .i64 i)
      let (v,ok') <- match <- Instr.findKey kt (.int .i64 i) es.toList with
       |some (_,v)=>pure (v,true)
       |none=>pure (<- zeroValue et,false)
      pure (if ok then .tuple #[v,.bool ok'] else v)):Sem Value).run P w=.ok (Bv m z i ok) w:=λes f=>by
      refine(Xh (Md hT d rfl)).trans ((Xh (Mj hT d rfl f)).trans ?_);unfold Bv Bq;cases u:Qz m i with
      |some p=>
       obtain⟨pi,pv⟩:=p;simp only[Option.map_some];refine(Xh (x:=(pv,true)) (w':=w) rfl).trans ?_;cases ok <;> rfl
      |none=>
       simp only[Option.map_none];refine(Xh ((hT.row k).zero l w)).trans ?_;cases ok <;> rfl
     cases r with
     |none=>
      have g:=hm;exact key #[] (by rw[g];rfl)
     |some r=>
      obtain⟨es,clock,q,s⟩:=hm;exact(Xh (MapKept.run_getObj_map q)).trans (key es s)
    .cases h
   .cases h
  .cases h
 .cases h
theorem Xa.lookup(hT:Xp P T){r:Option Nat}{z v:Value}{i:Int}{ok:Bool}{m:AL}{d:Nat}{s2:List Item}{e2:Env}(h:Yy (Ud T e) n s e=some ((r,z,i,ok),d,s'))(hm:Ny w r m)(hv:Bv m z i ok=v)(ha:Go.Proofs.YtdeihcnepljjaaaGreatDoor.adv T n 400 s' ((d,false,v)::e)=(s2,e2))(hg:Xa P f R n ds s2 e2 w):Xa P f R n ds s e w:=by
 subst hv;exact Xa.val h (λ_ b a hf=>XeX hT b hm a hf) (Xa.adv hT 400 ha hg)
theorem Ny.bR{S:Nat->Prop}{w w':World}{r:Option Nat}{m:AL}(h:Ny w r m)(hc:Xc S w w')(hs:∀b,r=some b -> ¬S b):Ny w' r m:=by
 cases r with
 |none=>exact h
 |some r=>exact Yx.bR h hc (hs r rfl)
theorem Xd.lookup(hT:Xp P T)(hB:Zu ops q=true){r:Option Nat}{z v:Value}{x:Int}{ok:Bool}{m:AL}{d i:Nat}{U2:List Nat}{e2:Env}(h:Aq (Ud T e) n ops q U e U=some ((r,z,x,ok),d,i))(hm:Ny w0 r m)(hS:∀b,r=some b -> ¬S b)(hv:Bv m z x ok=v)(ha:Z3 T n ops q (Xt i U) (Xt i U) ((d,false,v)::e)=(U2,e2))(hg:Xd P f R n ds k ops q S U2 e2 w0 w):Xd P f R n ds k ops q S U e w0 w:=by
 subst hv;exact Xd.val hT hB h (λ_ g a _ c hf=>XeX hT g (hm.bR c hS) a hf) ha hg
def Xhq(T:Tab)(s:List Item)(e:Env):Option (Nat×Int×Value×List Item):=
 match E6 s e with
 |some (o,s')=>match o.dst,o.op with
  |none,.mapUpdate t m k x=>match ev e m,ev e k,ev e x,row T t with
   |some (.map (some r)),some (.int .i64 i),some v,some {und:=.map kt _,..}=>match row T kt with
    |some {und:=.int .i64,..}=>some (r,i,v,s')
    |_=>none
   |_,_,_,_=>none
  |_,_=>none
 |none=>none
theorem Xgo(x:Int):Instr.sameBits 10000 (.int .i64 x) (.int .i64 x)=true:=by simp[Instr.sameBits]
theorem Xa.mapset(hT:Xp P T){r:Nat}{i:Int}{v:Value}{m:AL}(h:Xhq T s e=some (r,i,v,s'))(hm:Yx w r m)(hg:∀w1,Yx w1 r (C2 m i v)->Xc (λb=>b=r) w w1->w1.heap.size=w.heap.size->Xa P f R n ds s' e w1):Xa P f R n ds s e w:=by
 unfold Xhq at h;split at h
 .rename_i o G A
  split at h
  .rename_i t x y z B l
   split at h
   .rename_i H I J kt et _ _ _ C D E hr
    split at h
    .rename_i _ _ _ k
     cases h
     obtain⟨es,clock,g,j⟩:=hm;have q:=Xg g;cases d:Qz m i with
     |none=>
      refine Xa.head' A B (w':={w with heap:=w.heap.setIfInBounds r (.map (es.push {key:=.int .i64 i,val:=v,born:=clock}) (clock+1))}) (λa hf=>?_)
       (hg _ ⟨_,_,Kl q,by simpa using Xd8 (c:=clock) j d⟩ Ki (by simp))
      simp only[execOp,l,hf.ev C,hf.ev D,hf.ev E];refine(Xh (x:=()) (w':={w with heap:=w.heap.setIfInBounds r (.map (es.push {key:=.int .i64 i,val:=v,born:=clock}) (clock+1))}) ?_).trans rfl;unfold Instr.mapUpdate;refine(Xh ((hT.row hr).underlying w)).trans ?_;simp only
      refine(Xh (MapKept.run_getObj_map g)).trans ?_;simp only
      refine(Xh (Md hT k rfl)).trans ((Xh (Mj hT k rfl j)).trans ?_);rw[d];exact Lp _ g
     |some p=>
      obtain⟨pi,pv⟩:=p;have u:=Xd6 j d;have F:(((es[pi]?).map (·.key)).getD (.int .i64 i))=.int .i64 i:=by rw[<-Array.getElem?_toList,u];rfl
      refine Xa.head' A B (w':={w with heap:=w.heap.setIfInBounds r (.map (es.modify pi λe=>{e with key:=.int .i64 i,val:=v}) clock)}) (λa hf=>?_)
       (hg _ ⟨_,_,Kl q,by simpa using Xd9 (v':=v) j d⟩ Ki (by simp))
      simp only[execOp,l,hf.ev C,hf.ev D,hf.ev E];refine(Xh (x:=()) (w':={w with heap:=w.heap.setIfInBounds r (.map (es.modify pi λe=>{e with key:=.int .i64 i,val:=v}) clock)}) ?_).trans rfl;unfold Instr.mapUpdate;refine(Xh ((hT.row hr).underlying w)).trans ?_;simp only
      refine(Xh (MapKept.run_getObj_map g)).trans ?_;simp only
      refine(Xh (Md hT k rfl)).trans ((Xh (Mj hT k rfl j)).trans ?_);rw[d];simp only
      refine(Xh (x:=(.int .i64 i:Value)) (w':=w) ?_).trans ?_
      .rw[F];unfold Instr.keyThatStays;rw[Xgo,if_pos rfl];rfl
      .exact Lp _ g
    .cases h
   .cases h
  .cases h
 .cases h
def Xd1(T:Tab)(s:List Item)(e:Env):Option (Nat×Int×List Item):=
 match E6 s e with
 |some (o,s')=>match o.dst,o.op with
  |none,.call c=>match c.callee,evs e c.args.toList,c.argTypes.toList with
   |.builtin .delete,some [.map (some r),.int .i64 i],t::_=>match row T t with
    |some {und:=.map kt _,..}=>match row T kt with
     |some {und:=.int .i64,..}=>some (r,i,s')
     |_=>none
    |_=>none
   |_,_,_=>none
  |_,_=>none
 |none=>none
theorem Xa.mapdel(hT:Xp P T){r:Nat}{i:Int}{m:AL}(h:Xd1 T s e=some (r,i,s'))(hm:Yx w r m)(hg:∀w1,Yx w1 r (Dp m i)->Xc (λb=>b=r) w w1->w1.heap.size=w.heap.size->Xa P f R n ds s' e w1):Xa P f R n ds s e w:=by
 unfold Xd1 at h;split at h
 .rename_i o N G
  split at h
  .rename_i c H y
   split at h
   .rename_i O Q t ts g z A
    split at h
    .rename_i kt et _ _ _ hr
     split at h
     .rename_i _ _ _ I
      cases h
      obtain⟨es,clock,q,E⟩:=hm;have B:=Xg q;have C:∀(w1:World),(Builtin.delete_ c.argTypes o.type #[.map (some r),.int .i64 i]).run P w=.ok (.tuple #[]) w1 -> ∀act,X7 n act e->(execOp act.eval o).run P w=.ok (.value (.tuple #[])) w1:=λw1 j act hf=>by
       obtain⟨dst,op,type,pos,after,guard⟩:=o;simp only at y
       subst y;obtain⟨callee,args,argTypes⟩:=c;simp only at g z j
       subst g;have u:=G4 (hf.evs z);simp only[execOp,resolve,u];exact(Xh (show _=Result.ok _ w from rfl)).trans ((Xh (x:=(.tuple #[]:Value)) (w':=w1) j).trans rfl)
      have L:c.argTypes[0]?=some t:=by
       obtain⟨callee,args,argTypes⟩:=c;obtain⟨ats⟩:=argTypes;simp only at A;subst A;rfl
      have k:∀(o':Obj),(Qz m i=none->o'=.map es clock)->(∀p,Qz m i=some p->o'=.map (es.eraseIdxIfInBounds p.1) clock)->(Builtin.delete_ c.argTypes o.type #[.map (some r),.int .i64 i]).run P w=.ok (.tuple #[]) {w with heap:=w.heap.setIfInBounds r o'}:=λo' J K=>by
       unfold Builtin.delete_;simp only[L,show(#[Value.map (some r),Value.int .i64 i]:Array Value)[0]?=some (.map (some r)) from rfl,show(#[Value.map (some r),Value.int .i64 i]:Array Value)[1]?=some (.int .i64 i) from rfl];refine(Xh ((hT.row hr).underlying w)).trans ?_;simp only
       refine(Xh (MapKept.run_getObj_map q)).trans ?_;simp only
       refine(Xh (Md hT I rfl)).trans ((Xh (Mj hT I rfl E)).trans ?_);cases D:Qz m i with
       |none=>rw[J D];exact(Xh (Lp _ q)).trans rfl
       |some p=>obtain⟨pi,pv⟩:=p;rw[K _ D];exact(Xh (Lp _ q)).trans rfl
      cases d:Qz m i with
      |none=>
       refine Xa.head (fl:=false) (v:=.tuple #[]) (e':=e) G (by rw[H];rfl) (λa hf=>.inl (C _ (k (.map es clock) (λ_=>rfl) (λp l=>by rw[d] at l;cases l)) a hf)) (hg _ ⟨_,_,Kl B,by rw[Xdh d];exact E⟩ Ki (by simp))
      |some p=>
       refine Xa.head (fl:=false) (v:=.tuple #[]) (e':=e) G (by rw[H];rfl) (λa hf=>.inl (C _ (k (.map (es.eraseIdxIfInBounds p.1) clock) (λh=>by rw[d] at h;cases h) (λp' l=>by rw[d] at l;cases l;rfl)) a hf)) (hg _ ⟨_,_,Kl B,?_⟩ Ki (by simp));have:=Xd5 (v:=p.2) (i:=p.1) E d;have M:(es.eraseIdxIfInBounds p.1).toList=es.toList.eraseIdx p.1:=by
        unfold Array.eraseIdxIfInBounds;split
        .simp
        .rename_i F
         rw[List.eraseIdx_of_length_le (by simpa using F)]
       rw[M];exact this
     .cases h
    .cases h
   .cases h
  .cases h
 .cases h
def Uh(o:Oper):Option Unit:=
 match o.op with
 |.makeMap _ none=>some ()
 |_=>none
theorem Xa.mkmap{d:Nat}(h:Yy Uh n s e=some ((),d,s'))(hg:∀r w1,r=w.heap.size->Yx w1 r []->Xc Xe w w1->w1.heap.size=w.heap.size+1->Xa P f R n ds s' ((d,false,.map (some r))::e) w1):Xa P f R n ds s e w:=by
 refine Xa.val (v:=.map (some w.heap.size)) (w':={w with heap:=w.heap.push (.map #[] 0)}) h (λo b a hf=>?_) (hg _ _ rfl ⟨#[],0,by simp,rfl⟩ (E4 _ _) (by simp));unfold Uh at b;split at b
 .rename_i t c
  simp only[execOp,c,Option.map_none];refine(Xh (x:=(.map (some w.heap.size):Value)) (w':={w with heap:=w.heap.push (.map #[] 0)}) ?_).trans rfl;rfl
 .cases b
def Lz(op:UnOp)(k:IntKind)(x:Int):Option Int:=
 match op with
 |.neg=>some (k.wrap (0-x))
 |.xor=>some (K8 .xor k (if k.signed then -1 else k.max) x)
 |_=>none
def XcJ(e:Env)(o:Oper):Option (UnOp×IntKind×Int):=
 match o.op with
 |.unOp op _ x=>match op,ev e x with
  |.neg,some (.int k a)=>some (.neg,k,a)
  |.xor,some (.int k a)=>some (.xor,k,a)
  |_,_=>none
 |_=>none
theorem XnS{op:UnOp}{k:IntKind}{x z:Int}{o:Oper}(h:XcJ e o=some (op,k,x))(hz:Lz op k x=some z)(a:Act)(hf:X7 n a e)(w:World):(execOp a.eval o).run P w=.ok (.value (.int k z)) w:=by
 unfold XcJ at h;split at h
 .rename_i g t i b
  split at h
  .rename_i d f c
   cases h
   simp only[Lz,Option.some.injEq] at hz;subst hz;simp only[execOp,b,hf.ev c];refine(Xh (w':=w) ?_).trans rfl;simp only[Op.unary,Op.intArith];rfl
  .rename_i d f c
   cases h
   simp only[Lz,Option.some.injEq] at hz;subst hz;simp only[execOp,b,hf.ev c];refine(Xh (w':=w) ?_).trans rfl;simp only[Op.unary,Op.intBits];rfl
  .cases h
 .cases h
theorem Xa.un(hT:Xp P T){op:UnOp}{k:IntKind}{x z:Int}{d:Nat}{s2:List Item}{e2:Env}(h:Yy (XcJ e) n s e=some ((op,k,x),d,s'))(hz:Lz op k x=some z)(ha:Go.Proofs.YtdeihcnepljjaaaGreatDoor.adv T n 400 s' ((d,false,.int k z)::e)=(s2,e2))(hg:Xa P f R n ds s2 e2 w):Xa P f R n ds s e w:=
 Xa.val h (λ_ b a hf=>XnS b hz a hf w) (Xa.adv hT 400 ha hg)
def XgB(T:Tab)(e:Env)(o:Oper):Option (ByteArray×Int):=
 match o.op with
 |.index t x ix=>match ev e x,ev e ix,row T t with
  |some (.string b),some (.int _ i),some {und:=.string,..}=>some (b,i)
  |_,_,_=>none
 |_=>none
theorem Xa.sidx(hT:Xp P T){b:ByteArray}{i v:Int}{d:Nat}{s2:List Item}{e2:Env}(h:Yy (XgB T e) n s e=some ((b,i),d,s'))(h0:0<=i)(hv:(b[i.toNat]?).map (λx=>(x.toNat:Int))=some v)(ha:Go.Proofs.YtdeihcnepljjaaaGreatDoor.adv T n 400 s' ((d,false,.int .u8 v)::e)=(s2,e2))(hg:Xa P f R n ds s2 e2 w):Xa P f R n ds s e w:=by
 refine Xa.val (v:=.int .u8 v) (w':=w) h (λo c a hf=>?_) (Xa.adv hT 400 ha hg);unfold XgB at c;split at c
 .rename_i t x ix g
  split at c
  .rename_i p l q _ _ _ m j hr
   cases c
   simp only[execOp,g,hf.ev m,hf.ev j];refine(Xh (x:=(.int .u8 v:Value)) (w':=w) ?_).trans rfl;unfold Instr.index;refine(Xh (x:=(l,i)) (w':=w) rfl).trans ?_;simp only
   refine(Xh ((hT.row hr).underlying w)).trans ?_;simp only[h0,if_true];cases k:b[i.toNat]? with
   |none=>rw[k] at hv;cases hv
   |some y=>rw[k] at hv;simp only[Option.map_some,Option.some.injEq] at hv;subst hv;rfl
  .cases c
 .cases c
def Xdi(T:Tab)(e:Env)(o:Oper):Option (List Value×Int×Nat):=
 match o.op with
 |.index t x ix=>match ev e x,ev e ix,row T t with
  |some (.agg cs),some (.int _ i),some {und:=.array len q,..}=>match row T q with
   |some r2=>match Ie r2,Nat.beq r2.size 1 with
    |false,true=>some (cs.toList,i,len)
    |_,_=>none
   |none=>none
  |_,_,_=>none
 |_=>none
theorem Xa.aidx(hT:Xp P T){vs:List Value}{i:Int}{v:Value}{d len:Nat}{s2:List Item}{e2:Env}(h:Yy (Xdi T e) n s e=some ((vs,i,len),d,s'))(hlen':vs.length=len)(h0:0<=i)(hv:vs[i.toNat]?=some v)(ha:Go.Proofs.YtdeihcnepljjaaaGreatDoor.adv T n 400 s' ((d,false,v)::e)=(s2,e2))(hg:Xa P f R n ds s2 e2 w):Xa P f R n ds s e w:=by
 refine Xa.val (v:=v) (w':=w) h (λo b a hf=>?_) (Xa.adv hT 400 ha hg);unfold Xdi at b;split at b
 .rename_i t x ix j
  split at b
  .rename_i cs m u len q _ _ _ p k hr
   split at b
   .rename_i y c
    split at b
    .rename_i g l
     cases b
     have r:=(List.getElem?_eq_some_iff.1 hv).1;simp only[execOp,j,hf.ev p,hf.ev k];refine(Xh (x:=v) (w':=w) ?_).trans rfl;unfold Instr.index;refine(Xh (x:=(m,i)) (w':=w) rfl).trans ?_;simp only
     refine(Xh ((hT.row hr).underlying w)).trans ?_;simp only
     rw[if_pos ⟨h0,by omega⟩];refine(Xh ((hT.row c).sizeOf w)).trans ?_;rw[Nat.eq_of_beq_eq_true l,Nat.mul_one];unfold part;refine(Xh ((hT.row c).isAgg w)).trans ?_;rw[g];simp only[Bool.false_eq_true,if_false];rw[<-Array.getElem?_toList,hv];rfl
    .cases b
   .cases b
  .cases b
 .cases b
theorem Xd.bits(hT:Xp P T)(hB:Zu ops q=true){op:BinOp}{kk:IntKind}{x y z:Int}{d i:Nat}{U2:List Nat}{e2:Env}(h:Aq (Th e) n ops q U e U=some ((op,kk,x,y),d,i))(hz:K8 op kk x y=z)(ha:Z3 T n ops q (Xt i U) (Xt i U) ((d,false,.int kk z)::e)=(U2,e2))(hg:Xd P f R n ds k ops q S U2 e2 w0 w):Xd P f R n ds k ops q S U e w0 w:=
 Xd.val hT hB h (λ_ b a w' _ hf=>Xdu b hz a hf w') ha hg
theorem Xd.shift(hT:Xp P T)(hB:Zu ops q=true){l:Bool}{kk:IntKind}{x y z:Int}{d i:Nat}{U2:List Nat}{e2:Env}(h:Aq (Vi e) n ops q U e U=some ((l,kk,x,y),d,i))(hy:0<=y)(hz:Kx l kk x y=z)(ha:Z3 T n ops q (Xt i U) (Xt i U) ((d,false,.int kk z)::e)=(U2,e2))(hg:Xd P f R n ds k ops q S U2 e2 w0 w):Xd P f R n ds k ops q S U e w0 w:=
 Xd.val hT hB h (λ_ b a w' _ hf=>XgA b hy hz a hf w') ha hg
theorem Xd.callQ{fk d i:Nat}{as:List Value}{Q:Value->World->Prop}(hB:Zu ops q=true)(hU:C4 ops q U U=[i])(h:Cs (Ge e) n ops e i=some ((fk,as),d))(hd:∀w',Xc Xe w w'->Xf P fk as.toArray w' (λv w2=>Xc S w' w2/\Q v w2))(hg:∀v w1,Xc S w w1->Q v w1->Xd P f R n ds k ops q S (Xt i U) ((d,false,v)::e) w0 w1):Xd P f R n ds k ops q S U e w0 w:=by
 refine Xd.cK hB hU λw1 b=>?_;refine Xn.call (Post:=λv w2=>Xc S w w2/\Q v w2) h (hd w (Xc.refl _ _)).fn (λg=>(hd w1 b).mono λv w2 ⟨a,c⟩=>⟨g.trans a,(b.mono λ_ _ h=>h.elim).trans a,c⟩) λv w2 _ ⟨a,c⟩=>hg v w2 a c
end
end Go.Proofs.YtdeihcnepljjaaaGreatDoor
