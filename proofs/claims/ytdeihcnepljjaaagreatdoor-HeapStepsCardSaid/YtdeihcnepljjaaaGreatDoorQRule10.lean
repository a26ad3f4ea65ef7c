/-
  Rule10
-/
import Derived.Test.YtdeihcnepljjaaaGreatDoorQRule9
import Derived.MapKept
namespace Go.Proofs.YtdeihcnepljjaaaGreatDoor
open Go.RowKit
abbrev AL:=List (Int×Value)
def Q4:AL->Int->Option (Nat×Value)
 |[],_=>none
 |(j,v)::r,k=>if k=j then some (0,v) else (Q4 r k).map λp=>(p.1+1,p.2)
def Br(m:AL)(k:Int):Option Value:=(Q4 m k).map (·.2)
def C1:AL->Int->Value->AL
 |[],k,v=>[(k,v)]
 |(j,u)::r,k,v=>if k=j then (k,v)::r else (j,u)::C1 r k v
def Do:AL->Int->AL
 |[],_=>[]
 |(j,u)::r,k=>if k=j then r else (j,u)::Do r k
def Bl(m:AL):List Int:=m.map (·.1)
theorem Tz(k:Int):Br [] k=none:=rfl
theorem I5(j:Int)(v:Value)(r:AL)(k:Int):Br ((j,v)::r) k=if k=j then some v else Br r k:=by
 unfold Br;simp only[Q4];split
 .rfl
 .cases Q4 r k <;> rfl
theorem T0{m:AL}{k:Int}:Br m k=none↔k∉Bl m:=by
 induction m with
 |nil=>simp[Tz,Bl]
 |cons p r ih=>
  obtain⟨j,v⟩:=p;rw[I5];simp only[Bl,List.map_cons,List.mem_cons,not_or] at ih⊢;by_cases h:k=j
  .simp[h]
  .rw[if_neg h];simp[h,ih]
theorem Jv(m:AL)(k:Int)(v:Value)(j:Int):Br (C1 m k v) j=if j=k then some v else Br m j:=by
 induction m with
 |nil=>rw[C1,I5,Tz]
 |cons p r ih=>
  obtain⟨i,u⟩:=p;rw[C1];by_cases h:k=i
  .subst h;rw[if_pos rfl,I5,I5];by_cases a:j=k
   .rw[if_pos a,if_pos a]
   .rw[if_neg a,if_neg a,if_neg a]
  .rw[if_neg h,I5,I5,ih];by_cases a:j=i
   .subst a;rw[if_pos rfl,if_pos rfl,if_neg (λe=>h e.symm)]
   .rw[if_neg a,if_neg a]
theorem Tx(i:Int)(u:Value)(r:AL):Bl ((i,u)::r)=i::Bl r:=rfl
theorem Xay(m:AL)(k:Int)(v:Value):Bl (C1 m k v)=if k∈Bl m then Bl m else Bl m++[k]:=by
 induction m with
 |nil=>simp[C1,Bl]
 |cons p r ih=>
  obtain⟨i,u⟩:=p;rw[C1];by_cases h:k=i
  .subst h;rw[if_pos rfl,Tx,Tx,if_pos xS]
  .rw[if_neg h,Tx,Tx,ih];by_cases a:k∈Bl r
   .rw[if_pos a,if_pos (by simp[a])]
   .rw[if_neg a,if_neg (by simp[a,h])];rfl
theorem Xax(m:AL)(k:Int):Bl (Do m k)=(Bl m).erase k:=by
 induction m with
 |nil=>rfl
 |cons p r ih=>
  obtain⟨i,u⟩:=p;rw[Do];by_cases h:k=i
  .subst h;simp[Bl]
  .rw[if_neg h];simp only[Bl,List.map_cons] at ih⊢;rw[List.erase_cons_tail (by simpa using λe=>h e.symm),ih]
theorem Mk{m:AL}(hn:(Bl m).Nodup)(k j:Int):Br (Do m k) j=if j=k then none else Br m j:=by
 induction m with
 |nil=>rw[Do,Tz];split <;> rfl
 |cons p r ih=>
  obtain⟨i,u⟩:=p;have b:i∉Bl r/\(Bl r).Nodup:=by simpa [Bl] using hn
  rw[Do];by_cases h:k=i
  .subst h;rw[if_pos rfl,I5];by_cases a:j=k
   .rw[if_pos a,a];exact T0.2 b.1
   .rw[if_neg a,if_neg a]
  .rw[if_neg h,I5,I5,ih b.2];by_cases a:j=i
   .subst a;rw[if_pos rfl,if_pos rfl,if_neg (λe=>h e.symm)]
   .rw[if_neg a,if_neg a]
theorem XiU(m:AL)(k:Int)(v:Value):(C1 m k v).length=if (Br m k).isSome then m.length else m.length+1:=by
 induction m with
 |nil=>rfl
 |cons p r ih=>
  obtain⟨i,u⟩:=p;rw[C1,I5];by_cases h:k=i
  .subst h;simp
  .rw[if_neg h,if_neg h,List.length_cons,ih,List.length_cons];split <;> omega
theorem XiO(m:AL)(k:Int):(Do m k).length=if (Br m k).isSome then m.length-1 else m.length:=by
 induction m with
 |nil=>rfl
 |cons p r ih=>
  obtain⟨i,u⟩:=p;rw[Do,I5];by_cases h:k=i
  .subst h;simp
  .rw[if_neg h,if_neg h,List.length_cons,ih,List.length_cons];split
   .rename_i a
    have:r≠[]:=λe=>by subst e;simp[Tz] at a
    have:=List.length_pos_iff.2 this;omega
   .rfl
theorem XbL{m:AL}(h:(Bl m).Nodup)(k:Int)(v:Value):(Bl (C1 m k v)).Nodup:=by
 rw[Xay];split
 .exact h
 .rename_i d
  rw[List.nodup_append];exact⟨h,xS,λa f b c e=>by simp at c;subst c;subst e;exact d f⟩
theorem XfN{m:AL}(h:(Bl m).Nodup)(k:Int):(Bl (Do m k)).Nodup:=by
 rw[Xax];exact h.erase k
def Al(m:AL)(es:List MapEntry):Prop:=es.map (λe=>(e.key,e.val))=m.map (λp=>(Value.int .i64 p.1,p.2))
def Y7(w:World)(r:Nat)(m:AL):Prop:=∃es clock,w.heap[r]?=some (.map es clock)/\Al m es.toList
theorem Y7.bR{S:Nat->Prop}{w w':World}{r:Nat}{m:AL}(h:Y7 w r m)(hc:Xc S w w')(hs:¬S r):Y7 w' r m:=by
 obtain⟨es,clock,a,b⟩:=h;exact⟨es,clock,hc.heap a hs,b⟩
theorem Y7.lt{w:World}{r:Nat}{m:AL}(h:Y7 w r m):r<w.heap.size:=by
 obtain⟨es,clock,a,_⟩:=h;exact Xg a
theorem XeO{q:IntKind}{k:Int}:∀{m:AL} {es:List MapEntry} {i:Nat},Al m es->Instr.findNow (.int q) (.int .i64 k) es i=some ((Q4 m k).map λp=>(i+p.1,p.2))
 |[],es,i,h=>by
  simp[Al] at h;subst h;rfl
 |(j,v)::r,[],i,h=>by simp[Al] at h
 |(j,v)::r,e::es,i,h=>by
  simp only[Al,List.map_cons,List.cons.injEq,Prod.mk.injEq] at h;obtain⟨⟨b,c⟩,d⟩:=h;simp only[Instr.findNow,b,Instr.sameNow,if_true,Q4];by_cases a:k=j
  .subst a;simp[c]
  .have:(k == j)=false:=xU a
   rw[this,if_neg a];simp only
   rw[XeO (m:=r) d];cases Q4 r k <;> simp;omega
theorem Xez{m:AL}{es:List MapEntry}{k:Int}{i:Nat}{v:Value}(h:Al m es)(hf:Q4 m k=some (i,v)):(es[i]?).map (·.key)=some (.int .i64 k):=by
 induction m generalizing es i with
 |nil=>cases hf
 |cons p r ih=>
  obtain⟨j,u⟩:=p;cases es with
  |nil=>simp[Al] at h
  |cons e es=>
   simp only[Al,List.map_cons,List.cons.injEq,Prod.mk.injEq] at h;simp only[Q4] at hf;by_cases a:k=j
   .rw[if_pos a] at hf;cases hf;subst a;simp[h.1.1]
   .rw[if_neg a] at hf;cases b:Q4 r k with
    |none=>rw[b] at hf;cases hf
    |some q=>rw[b] at hf;cases hf;simpa using ih h.2 b
theorem XeC{m:AL}{es:List MapEntry}{k:Int}{i:Nat}{v v':Value}(h:Al m es)(hf:Q4 m k=some (i,v)):Al (C1 m k v') (es.modify i λe=>{e with key:=.int .i64 k,val:=v'}):=by
 induction m generalizing es i with
 |nil=>cases hf
 |cons p r ih=>
  obtain⟨j,u⟩:=p;cases es with
  |nil=>simp[Al] at h
  |cons e es=>
   simp only[Al,List.map_cons,List.cons.injEq,Prod.mk.injEq] at h;simp only[Q4] at hf;rw[C1];by_cases b:k=j
   .rw[if_pos b] at hf⊢;cases hf;simp[Al,h.2]
   .rw[if_neg b] at hf⊢;cases a:Q4 r k with
    |none=>rw[a] at hf;cases hf
    |some q=>
     rw[a] at hf;cases hf;have:=ih h.2 a;simp only[Al] at this;simp[Al,h.1,this]
theorem XeB{m:AL}{es:List MapEntry}{k:Int}{v:Value}{c:Nat}(h:Al m es)(hf:Q4 m k=none):Al (C1 m k v) (es++[{key:=.int .i64 k,val:=v,born:=c}]):=by
 induction m generalizing es with
 |nil=>simp[Al] at h;subst h;simp[Al,C1]
 |cons p r ih=>
  obtain⟨j,u⟩:=p;cases es with
  |nil=>simp[Al] at h
  |cons e es=>
   simp only[Al,List.map_cons,List.cons.injEq,Prod.mk.injEq] at h;simp only[Q4] at hf;by_cases a:k=j
   .rw[if_pos a] at hf;cases hf
   .rw[if_neg a] at hf;have b:Q4 r k=none:=by cases d:Q4 r k with|none=>rfl|some q=>rw[d] at hf;cases hf
    have:=ih h.2 b;rw[C1,if_neg a];simp only[Al] at this⊢;simp[h.1,this]
theorem Xey{m:AL}{es:List MapEntry}{k:Int}{i:Nat}{v:Value}(h:Al m es)(hf:Q4 m k=some (i,v)):Al (Do m k) (es.eraseIdx i):=by
 induction m generalizing es i with
 |nil=>cases hf
 |cons p r ih=>
  obtain⟨j,u⟩:=p;cases es with
  |nil=>simp[Al] at h
  |cons e es=>
   simp only[Al,List.map_cons,List.cons.injEq,Prod.mk.injEq] at h;simp only[Q4] at hf;rw[Do];by_cases b:k=j
   .rw[if_pos b] at hf⊢;cases hf;simpa [Al] using h.2
   .rw[if_neg b] at hf⊢;cases a:Q4 r k with
    |none=>rw[a] at hf;cases hf
    |some q=>
     rw[a] at hf;cases hf;have:=ih h.2 a;simp only[Al] at this;simp[Al,h.1,this]
theorem XdJ{m:AL}{k:Int}(hf:Q4 m k=none):Do m k=m:=by
 induction m with
 |nil=>rfl
 |cons p r ih=>
  obtain⟨j,u⟩:=p;simp only[Q4] at hf;by_cases a:k=j
  .rw[if_pos a] at hf;cases hf
  .rw[if_neg a] at hf;have b:Q4 r k=none:=by cases c:Q4 r k with|none=>rfl|some q=>rw[c] at hf;cases hf
   rw[Do,if_neg a,ih b]
section
variable {P:Program}{T:Tab}{ops:Array Oper}{f:FuncId}{R:Aim}{k:List Item}{q n:Nat}{ds:List Deferred}{s s':List Item}{w w0 w':World}{e e':Env}{U:List Nat}{S:Nat->Prop}
theorem Ms{kt:Nat}{r:Db}{b:Bool}{x:Int}(hT:Xp P T)(hr:row T kt=some r)(hu:r.und=.int .i64):(Instr.checkKey b 10000 kt (.int .i64 x)).run P w=.ok () w:=by
 unfold Instr.checkKey;refine(Xh (by rw[(hT.row hr).underlying w,hu])).trans rfl
theorem Mz{kt:Nat}{r:Db}{x:Int}{m:AL}{es:List MapEntry}(hT:Xp P T)(hr:row T kt=some r)(hu:r.und=.int .i64)(h:Al m es):(Instr.findKey kt (.int .i64 x) es).run P w=.ok (Q4 m x) w:=by
 unfold Instr.findKey;refine(Xh (by rw[(hT.row hr).underlying w,hu])).trans ?_;rw[XeO h];simp only[Nat.zero_add];cases Q4 m x <;> rfl
theorem L3{r:Nat}{es:Array MapEntry}{clock:Nat}(o:Obj)(hb:w.heap[r]?=some (.map es clock)):(setObj r o).run P w=.ok () {w with heap:=w.heap.setIfInBounds r o}:=MapKept.run_setObj_map o hb
theorem Kl{r:Nat}{o:Obj}:Xc (λb=>b=r) w {w with heap:=w.heap.setIfInBounds r o}:=
 ⟨rfl,rfl,rfl,xS,λb c a=>by simp[Ne.symm a]⟩
theorem Kp{r:Nat}{o:Obj}(h:r<w.heap.size):({w with heap:=w.heap.setIfInBounds r o}:World).heap[r]?=some o:=by simp[h]
def U9(T:Tab)(e:Env)(o:Oper):Option (Option Nat×Value×Int×Bool):=
 match o.op with
 |.lookup t x ix ok=>match ev e x,ev e ix,row T t with
  |some (.map r),some (.int .i64 i),some {und:=.map kt et,..}=>match row T kt,row T et with
   |some {und:=.int .i64,..},some re=>match re.zero with
    |some z=>some (r,z,i,ok)
    |none=>none
   |_,_=>none
  |_,_,_=>none
 |_=>none
def Bv(m:AL)(z:Value)(i:Int)(ok:Bool):Value:=
 match Br m i with
 |some v=>if ok then .tuple #[v,.bool true] else v
 |none=>if ok then .tuple #[z,.bool false] else z
def Od(w:World)(r:Option Nat)(m:AL):Prop:=match r with
 |none=>m=[]
 |some r=>Y7 w r m
theorem Xfw(hT:Xp P T){r:Option Nat}{z:Value}{i:Int}{ok:Bool}{m:AL}{o:Oper}(h:U9 T e o=some (r,z,i,ok))(hm:Od w r m)(a:Act)(hf:Za n a e):(execOp a.eval o).run P w=.ok (.value (Bv m z i ok)) w:=by
 unfold U9 at h;split at h
 .rename_i t x ix ok1 b
  split at h
  .rename_i y A kt et _ _ _ j c hr
   split at h
   .rename_i _ _ _ re d k
    split at h
    .rename_i B l
     cases h
     simp only[execOp,b,hf.ev j,hf.ev c];refine(Xh (x:=Bv m z i ok) (w':=w) ?_).trans rfl;unfold Instr.lookup;refine(Xh ((hT.row hr).underlying w)).trans ?_;simp only
     have key:∀es:Array MapEntry,Al m es.toList->((do
      Instr.checkKey es.isEmpty 10000 kt (.int .i64 i)
      let (v,ok') <- match <- Instr.findKey kt (.int .i64 i) es.toList with
       |some (_,v)=>pure (v,true)
       |none=>pure (<- zeroValue et,false)
      pure (if ok then .tuple #[v,.bool ok'] else v)):Sem Value).run P w=.ok (Bv m z i ok) w:=λes f=>by
      refine(Xh (Ms hT d rfl)).trans ((Xh (Mz hT d rfl f)).trans ?_);unfold Bv Br;cases u:Q4 m i with
      |some p=>
       obtain⟨pi,pv⟩:=p;simp only[Option.map_some];refine(Xh (x:=(pv,true)) (w':=w) rfl).trans ?_;cases ok <;> rfl
      |none=>
       simp only[Option.map_none];refine(Xh ((hT.row k).zero l w)).trans ?_;cases ok <;> rfl
     cases r with
     |none=>
      have g:=hm;exact key #[] (by rw[g];rfl)
     |some r=>
      obtain⟨es,clock,q,s⟩:=hm;exact(Xh (MapKept.run_getObj_map q)).trans (key es s)
    .cases h
   .cases h
  .cases h
 .cases h
theorem Xa.lookup(hT:Xp P T){r:Option Nat}{z v:Value}{i:Int}{ok:Bool}{m:AL}{d:Nat}{s2:List Item}{e2:Env}(h:Qb (U9 T e) n s e=some ((r,z,i,ok),d,s'))(hm:Od w r m)(hv:Bv m z i ok=v)(ha:Go.Proofs.YtdeihcnepljjaaaGreatDoor.adv T n 400 s' ((d,false,v)::e)=(s2,e2))(hg:Xa P f R n ds s2 e2 w):Xa P f R n ds s e w:=by
 subst hv;exact Xa.val h (λ_ b a hf=>Xfw hT b hm a hf) (Xa.adv hT 400 ha hg)
theorem Od.bR{S:Nat->Prop}{w w':World}{r:Option Nat}{m:AL}(h:Od w r m)(hc:Xc S w w')(hs:∀b,r=some b -> ¬S b):Od w' r m:=by
 cases r with
 |none=>exact h
 |some r=>exact Y7.bR h hc (hs r rfl)
theorem Xd.lookup(hT:Xp P T)(hB:Z0 ops q=true){r:Option Nat}{z v:Value}{x:Int}{ok:Bool}{m:AL}{d i:Nat}{U2:List Nat}{e2:Env}(h:Au (U9 T e) n ops q U e U=some ((r,z,x,ok),d,i))(hm:Od w0 r m)(hS:∀b,r=some b -> ¬S b)(hv:Bv m z x ok=v)(ha:Z7 T n ops q (Xv i U) (Xv i U) ((d,false,v)::e)=(U2,e2))(hg:Xd P f R n ds k ops q S U2 e2 w0 w):Xd P f R n ds k ops q S U e w0 w:=by
 subst hv;exact Xd.val hT hB h (λ_ g a _ c hf=>Xfw hT g (hm.bR c hS) a hf) ha hg
def Xib(T:Tab)(s:List Item)(e:Env):Option (Nat×Int×Value×List Item):=
 match E7 s e with
 |some (o,s')=>match o.dst,o.op with
  |none,.mapUpdate t m k x=>match ev e m,ev e k,ev e x,row T t with
   |some (.map (some r)),some (.int .i64 i),some v,some {und:=.map kt _,..}=>match row T kt with
    |some {und:=.int .i64,..}=>some (r,i,v,s')
    |_=>none
   |_,_,_,_=>none
  |_,_=>none
 |none=>none
theorem Xg5(x:Int):Instr.sameBits 10000 (.int .i64 x) (.int .i64 x)=true:=by simp[Instr.sameBits]
theorem Xa.mapset(hT:Xp P T){r:Nat}{i:Int}{v:Value}{m:AL}(h:Xib T s e=some (r,i,v,s'))(hm:Y7 w r m)(hg:∀w1,Y7 w1 r (C1 m i v)->Xc (λb=>b=r) w w1->w1.heap.size=w.heap.size->Xa P f R n ds s' e w1):Xa P f R n ds s e w:=by
 unfold Xib at h;split at h
 .rename_i o G A
  split at h
  .rename_i t x y z B l
   split at h
   .rename_i H I J kt et _ _ _ C D E hr
    split at h
    .rename_i _ _ _ k
     cases h
     obtain⟨es,clock,g,j⟩:=hm;have q:=Xg g;cases d:Q4 m i with
     |none=>
      refine Xa.head' A B (w':={w with heap:=w.heap.setIfInBounds r (.map (es.push {key:=.int .i64 i,val:=v,born:=clock}) (clock+1))}) (λa hf=>?_)
       (hg _ ⟨_,_,Kp q,xU (XeB (c:=clock) j d)⟩ Kl xS)
      simp only[execOp,l,hf.ev C,hf.ev D,hf.ev E];refine(Xh (x:=()) (w':={w with heap:=w.heap.setIfInBounds r (.map (es.push {key:=.int .i64 i,val:=v,born:=clock}) (clock+1))}) ?_).trans rfl;unfold Instr.mapUpdate;refine(Xh ((hT.row hr).underlying w)).trans ?_;simp only
      refine(Xh (MapKept.run_getObj_map g)).trans ?_;simp only
      refine(Xh (Ms hT k rfl)).trans ((Xh (Mz hT k rfl j)).trans ?_);rw[d];exact L3 _ g
     |some p=>
      obtain⟨pi,pv⟩:=p;have u:=Xez j d;have F:(((es[pi]?).map (·.key)).getD (.int .i64 i))=.int .i64 i:=by rw[<-Array.getElem?_toList,u];rfl
      refine Xa.head' A B (w':={w with heap:=w.heap.setIfInBounds r (.map (es.modify pi λe=>{e with key:=.int .i64 i,val:=v}) clock)}) (λa hf=>?_)
       (hg _ ⟨_,_,Kp q,xU (XeC (v':=v) j d)⟩ Kl xS)
      simp only[execOp,l,hf.ev C,hf.ev D,hf.ev E];refine(Xh (x:=()) (w':={w with heap:=w.heap.setIfInBounds r (.map (es.modify pi λe=>{e with key:=.int .i64 i,val:=v}) clock)}) ?_).trans rfl;unfold Instr.mapUpdate;refine(Xh ((hT.row hr).underlying w)).trans ?_;simp only
      refine(Xh (MapKept.run_getObj_map g)).trans ?_;simp only
      refine(Xh (Ms hT k rfl)).trans ((Xh (Mz hT k rfl j)).trans ?_);rw[d];simp only
      refine(Xh (x:=(.int .i64 i:Value)) (w':=w) ?_).trans ?_
      .rw[F];unfold Instr.keyThatStays;rw[Xg5,if_pos rfl];rfl
      .exact L3 _ g
    .cases h
   .cases h
  .cases h
 .cases h
def Xeu(T:Tab)(s:List Item)(e:Env):Option (Nat×Int×List Item):=
 match E7 s e with
 |some (o,s')=>match o.dst,o.op with
  |none,.call c=>match c.callee,evs e c.args.toList,c.argTypes.toList with
   |.builtin .delete,some [.map (some r),.int .i64 i],t::_=>match row T t with
    |some {und:=.map kt _,..}=>match row T kt with
     |some {und:=.int .i64,..}=>some (r,i,s')
     |_=>none
    |_=>none
   |_,_,_=>none
  |_,_=>none
 |none=>none
theorem Xa.mapdel(hT:Xp P T){r:Nat}{i:Int}{m:AL}(h:Xeu T s e=some (r,i,s'))(hm:Y7 w r m)(hg:∀w1,Y7 w1 r (Do m i)->Xc (λb=>b=r) w w1->w1.heap.size=w.heap.size->Xa P f R n ds s' e w1):Xa P f R n ds s e w:=by
 unfold Xeu at h;split at h
 .rename_i o N G
  split at h
  .rename_i c H y
   split at h
   .rename_i O Q t ts g z A
    split at h
    .rename_i kt et _ _ _ hr
     split at h
     .rename_i _ _ _ I
      cases h
      obtain⟨es,clock,q,E⟩:=hm;have B:=Xg q;have C:∀(w1:World),(Builtin.delete_ c.argTypes o.type #[.map (some r),.int .i64 i]).run P w=.ok (.tuple #[]) w1 -> ∀act,Za n act e->(execOp act.eval o).run P w=.ok (.value (.tuple #[])) w1:=λw1 j act hf=>by
       obtain⟨dst,op,type,pos,after,guard⟩:=o;simp only at y
       subst y;obtain⟨callee,args,argTypes⟩:=c;simp only at g z j
       subst g;have u:=G8 (hf.evs z);simp only[execOp,resolve,u];exact(Xh (show _=Result.ok _ w from rfl)).trans ((Xh (x:=(.tuple #[]:Value)) (w':=w1) j).trans rfl)
      have L:c.argTypes[0]?=some t:=by
       obtain⟨callee,args,argTypes⟩:=c;obtain⟨ats⟩:=argTypes;simp only at A;subst A;rfl
      have k:∀(o':Obj),(Q4 m i=none->o'=.map es clock)->(∀p,Q4 m i=some p->o'=.map (es.eraseIdxIfInBounds p.1) clock)->(Builtin.delete_ c.argTypes o.type #[.map (some r),.int .i64 i]).run P w=.ok (.tuple #[]) {w with heap:=w.heap.setIfInBounds r o'}:=λo' J K=>by
       unfold Builtin.delete_;simp only[L,show(#[Value.map (some r),Value.int .i64 i]:Array Value)[0]?=some (.map (some r)) from rfl,show(#[Value.map (some r),Value.int .i64 i]:Array Value)[1]?=some (.int .i64 i) from rfl];refine(Xh ((hT.row hr).underlying w)).trans ?_;simp only
       refine(Xh (MapKept.run_getObj_map q)).trans ?_;simp only
       refine(Xh (Ms hT I rfl)).trans ((Xh (Mz hT I rfl E)).trans ?_);cases D:Q4 m i with
       |none=>rw[J D];exact(Xh (L3 _ q)).trans rfl
       |some p=>obtain⟨pi,pv⟩:=p;rw[K _ D];exact(Xh (L3 _ q)).trans rfl
      cases d:Q4 m i with
      |none=>
       refine Xa.head (fl:=false) (v:=.tuple #[]) (e':=e) G (by rw[H];rfl) (λa hf=>.inl (C _ (k (.map es clock) (λ_=>rfl) (λp l=>by rw[d] at l;cases l)) a hf)) (hg _ ⟨_,_,Kp B,by rw[XdJ d];exact E⟩ Kl xS)
      |some p=>
       refine Xa.head (fl:=false) (v:=.tuple #[]) (e':=e) G (by rw[H];rfl) (λa hf=>.inl (C _ (k (.map (es.eraseIdxIfInBounds p.1) clock) (λh=>by rw[d] at h;cases h) (λp' l=>by rw[d] at l;cases l;rfl)) a hf)) (hg _ ⟨_,_,Kp B,?_⟩ Kl xS);have:=Xey (v:=p.2) (i:=p.1) E d;have M:(es.eraseIdxIfInBounds p.1).toList=es.toList.eraseIdx p.1:=by
        unfold Array.eraseIdxIfInBounds;split
        .simp
        .rename_i F
         rw[List.eraseIdx_of_length_le (xU F)]
       rw[M];exact this
     .cases h
    .cases h
   .cases h
  .cases h
 .cases h
def Ve(o:Oper):Option Unit:=
 match o.op with
 |.makeMap _ none=>some ()
 |_=>none
theorem Xa.mkmap{d:Nat}(h:Qb Ve n s e=some ((),d,s'))(hg:∀r w1,r=w.heap.size->Y7 w1 r []->Xc Xf w w1->w1.heap.size=w.heap.size+1->Xa P f R n ds s' ((d,false,.map (some r))::e) w1):Xa P f R n ds s e w:=by
 refine Xa.val (v:=.map (some w.heap.size)) (w':={w with heap:=w.heap.push (.map #[] 0)}) h (λo b a hf=>?_) (hg _ _ rfl ⟨#[],0,xS,rfl⟩ (E5 _ _) xS);unfold Ve at b;split at b
 .rename_i t c
  simp only[execOp,c,Option.map_none];refine(Xh (x:=(.map (some w.heap.size):Value)) (w':={w with heap:=w.heap.push (.map #[] 0)}) ?_).trans rfl;rfl
 .cases b
def Md(op:UnOp)(k:IntKind)(x:Int):Option Int:=
 match op with
 |.neg=>some (k.wrap (0-x))
 |.xor=>some (Li .xor k (if k.signed then -1 else k.max) x)
 |_=>none
def Xdb(e:Env)(o:Oper):Option (UnOp×IntKind×Int):=
 match o.op with
 |.unOp op _ x=>match op,ev e x with
  |.neg,some (.int k a)=>some (.neg,k,a)
  |.xor,some (.int k a)=>some (.xor,k,a)
  |_,_=>none
 |_=>none
theorem XoM{op:UnOp}{k:IntKind}{x z:Int}{o:Oper}(h:Xdb e o=some (op,k,x))(hz:Md op k x=some z)(a:Act)(hf:Za n a e)(w:World):(execOp a.eval o).run P w=.ok (.value (.int k z)) w:=by
 unfold Xdb at h;split at h
 .rename_i g t i b
  split at h
  .rename_i d f c
   cases h
   simp only[Md,Option.some.injEq] at hz;subst hz;simp only[execOp,b,hf.ev c];refine(Xh (w':=w) ?_).trans rfl;simp only[Op.unary,Op.intArith];rfl
  .rename_i d f c
   cases h
   simp only[Md,Option.some.injEq] at hz;subst hz;simp only[execOp,b,hf.ev c];refine(Xh (w':=w) ?_).trans rfl;simp only[Op.unary,Op.intBits];rfl
  .cases h
 .cases h
theorem Xa.un(hT:Xp P T){op:UnOp}{k:IntKind}{x z:Int}{d:Nat}{s2:List Item}{e2:Env}(h:Qb (Xdb e) n s e=some ((op,k,x),d,s'))(hz:Md op k x=some z)(ha:Go.Proofs.YtdeihcnepljjaaaGreatDoor.adv T n 400 s' ((d,false,.int k z)::e)=(s2,e2))(hg:Xa P f R n ds s2 e2 w):Xa P f R n ds s e w:=
 Xa.val h (λ_ b a hf=>XoM b hz a hf w) (Xa.adv hT 400 ha hg)
def Xhi(T:Tab)(e:Env)(o:Oper):Option (ByteArray×Int):=
 match o.op with
 |.index t x ix=>match ev e x,ev e ix,row T t with
  |some (.string b),some (.int _ i),some {und:=.string,..}=>some (b,i)
  |_,_,_=>none
 |_=>none
theorem Xa.sidx(hT:Xp P T){b:ByteArray}{i v:Int}{d:Nat}{s2:List Item}{e2:Env}(h:Qb (Xhi T e) n s e=some ((b,i),d,s'))(h0:0<=i)(hv:(b[i.toNat]?).map (λx=>(x.toNat:Int))=some v)(ha:Go.Proofs.YtdeihcnepljjaaaGreatDoor.adv T n 400 s' ((d,false,.int .u8 v)::e)=(s2,e2))(hg:Xa P f R n ds s2 e2 w):Xa P f R n ds s e w:=by
 refine Xa.val (v:=.int .u8 v) (w':=w) h (λo c a hf=>?_) (Xa.adv hT 400 ha hg);unfold Xhi at c;split at c
 .rename_i t x ix g
  split at c
  .rename_i p l q _ _ _ m j hr
   cases c
   simp only[execOp,g,hf.ev m,hf.ev j];refine(Xh (x:=(.int .u8 v:Value)) (w':=w) ?_).trans rfl;unfold Instr.index;refine(Xh (x:=(l,i)) (w':=w) rfl).trans ?_;simp only
   refine(Xh ((hT.row hr).underlying w)).trans ?_;simp only[h0,if_true];cases k:b[i.toNat]? with
   |none=>rw[k] at hv;cases hv
   |some y=>rw[k] at hv;simp only[Option.map_some,Option.some.injEq] at hv;subst hv;rfl
  .cases c
 .cases c
def XdK(T:Tab)(e:Env)(o:Oper):Option (List Value×Int×Nat):=
 match o.op with
 |.index t x ix=>match ev e x,ev e ix,row T t with
  |some (.agg cs),some (.int _ i),some {und:=.array len q,..}=>match row T q with
   |some r2=>match I9 r2,Nat.beq r2.size 1 with
    |false,true=>some (cs.toList,i,len)
    |_,_=>none
   |none=>none
  |_,_,_=>none
 |_=>none
theorem Xa.aidx(hT:Xp P T){vs:List Value}{i:Int}{v:Value}{d len:Nat}{s2:List Item}{e2:Env}(h:Qb (XdK T e) n s e=some ((vs,i,len),d,s'))(hlen':vs.length=len)(h0:0<=i)(hv:vs[i.toNat]?=some v)(ha:Go.Proofs.YtdeihcnepljjaaaGreatDoor.adv T n 400 s' ((d,false,v)::e)=(s2,e2))(hg:Xa P f R n ds s2 e2 w):Xa P f R n ds s e w:=by
 refine Xa.val (v:=v) (w':=w) h (λo b a hf=>?_) (Xa.adv hT 400 ha hg);unfold XdK at b;split at b
 .rename_i t x ix j
  split at b
  .rename_i cs m u len q _ _ _ p k hr
   split at b
   .rename_i y c
    split at b
    .rename_i g l
     cases b
     have r:=(List.getElem?_eq_some_iff.1 hv).1;simp only[execOp,j,hf.ev p,hf.ev k];refine(Xh (x:=v) (w':=w) ?_).trans rfl;unfold Instr.index;refine(Xh (x:=(m,i)) (w':=w) rfl).trans ?_;simp only
     refine(Xh ((hT.row hr).underlying w)).trans ?_;simp only
     rw[if_pos ⟨h0,X⟩];refine(Xh ((hT.row c).sizeOf w)).trans ?_;rw[Nat.eq_of_beq_eq_true l,Nat.mul_one];unfold part;refine(Xh ((hT.row c).isAgg w)).trans ?_;rw[g];simp only[Bool.false_eq_true,if_false];rw[<-Array.getElem?_toList,hv];rfl
    .cases b
   .cases b
  .cases b
 .cases b
theorem Xd.bits(hT:Xp P T)(hB:Z0 ops q=true){op:BinOp}{kk:IntKind}{x y z:Int}{d i:Nat}{U2:List Nat}{e2:Env}(h:Au (T6 e) n ops q U e U=some ((op,kk,x,y),d,i))(hz:Li op kk x y=z)(ha:Z7 T n ops q (Xv i U) (Xv i U) ((d,false,.int kk z)::e)=(U2,e2))(hg:Xd P f R n ds k ops q S U2 e2 w0 w):Xd P f R n ds k ops q S U e w0 w:=
 Xd.val hT hB h (λ_ b a w' _ hf=>XdY b hz a hf w') ha hg
theorem Xd.shift(hT:Xp P T)(hB:Z0 ops q=true){l:Bool}{kk:IntKind}{x y z:Int}{d i:Nat}{U2:List Nat}{e2:Env}(h:Au (Wy e) n ops q U e U=some ((l,kk,x,y),d,i))(hy:0<=y)(hz:K6 l kk x y=z)(ha:Z7 T n ops q (Xv i U) (Xv i U) ((d,false,.int kk z)::e)=(U2,e2))(hg:Xd P f R n ds k ops q S U2 e2 w0 w):Xd P f R n ds k ops q S U e w0 w:=
 Xd.val hT hB h (λ_ b a w' _ hf=>Xhh b hy hz a hf w') ha hg
theorem Xd.callQ{fk d i:Nat}{as:List Value}{Q:Value->World->Prop}(hB:Z0 ops q=true)(hU:C3 ops q U U=[i])(h:Cp (Gj e) n ops e i=some ((fk,as),d))(hd:∀w',Xc Xf w w'->Xe P fk as.toArray w' (λv w2=>Xc S w' w2/\Q v w2))(hg:∀v w1,Xc S w w1->Q v w1->Xd P f R n ds k ops q S (Xv i U) ((d,false,v)::e) w0 w1):Xd P f R n ds k ops q S U e w0 w:=by
 refine Xd.cK hB hU λw1 b=>?_;refine Xo.call (Post:=λv w2=>Xc S w w2/\Q v w2) h (hd w (Xc.refl _ _)).fn (λg=>(hd w1 b).mono λv w2 ⟨a,c⟩=>⟨g.trans a,(b.mono λ_ _ h=>h.elim).trans a,c⟩) λv w2 _ ⟨a,c⟩=>hg v w2 a c
end
end Go.Proofs.YtdeihcnepljjaaaGreatDoor
