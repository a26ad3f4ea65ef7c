/-
  Rule10
-/
import Derived.Test.YtohjeeapehmkcaaGreatDoorQRule9
import Derived.MapKept
namespace Go.Proofs.YtohjeeapehmkcaaGreatDoor
open Go.RowKit
abbrev AL:=List (Int×Value)
def Qz:AL->Int->Option (Nat×Value)
 |[],_=>none
 |(j,v)::r,k=>if k=j then some (0,v) else (Qz r k).map λp=>(p.1+1,p.2)
def Bk(m:AL)(k:Int):Option Value:=(Qz m k).map (·.2)
def Cm:AL->Int->Value->AL
 |[],k,v=>[(k,v)]
 |(j,u)::r,k,v=>if k=j then (k,v)::r else (j,u)::Cm r k v
def Da:AL->Int->AL
 |[],_=>[]
 |(j,u)::r,k=>if k=j then r else (j,u)::Da r k
def Bc(m:AL):List Int:=m.map (·.1)
theorem Si(k:Int):Bk [] k=none:=rfl
theorem H7(j:Int)(v:Value)(r:AL)(k:Int):Bk ((j,v)::r) k=if k=j then some v else Bk r k:=by
 unfold Bk;simp only[Qz];split
 ·rfl
 ·cases Qz r k <;> rfl
theorem Sj{m:AL}{k:Int}:Bk m k=none↔k∉Bc m:=by
 induction m with
 |nil=>simp[Si,Bc]
 |cons p r ih=>
  obtain⟨j,v⟩:=p;rw[H7];simp only[Bc,List.map_cons,List.mem_cons,not_or] at ih⊢;by_cases h:k=j
  ·simp[h]
  ·rw[if_neg h];simp[h,ih]
theorem I0(m:AL)(k:Int)(v:Value)(j:Int):Bk (Cm m k v) j=if j=k then some v else Bk m j:=by
 induction m with
 |nil=>rw[Cm,H7,Si]
 |cons p r ih=>
  obtain⟨i,u⟩:=p;rw[Cm];by_cases h:k=i
  ·subst h;rw[if_pos rfl,H7,H7];by_cases a:j=k
   ·rw[if_pos a,if_pos a]
   ·rw[if_neg a,if_neg a,if_neg a]
  ·rw[if_neg h,H7,H7,ih];by_cases a:j=i
   ·subst a;rw[if_pos rfl,if_pos rfl,if_neg (λe=>h e.symm)]
   ·rw[if_neg a,if_neg a]
theorem Sf(i:Int)(u:Value)(r:AL):Bc ((i,u)::r)=i::Bc r:=rfl
theorem Vr(m:AL)(k:Int)(v:Value):Bc (Cm m k v)=if k∈Bc m then Bc m else Bc m++[k]:=by
 induction m with
 |nil=>simp[Cm,Bc]
 |cons p r ih=>
  obtain⟨i,u⟩:=p;rw[Cm];by_cases h:k=i
  ·subst h;rw[if_pos rfl,Sf,Sf,if_pos (by simp)]
  ·rw[if_neg h,Sf,Sf,ih];by_cases a:k∈Bc r
   ·rw[if_pos a,if_pos (by simp[a])]
   ·rw[if_neg a,if_neg (by simp[a,h])];rfl
theorem Vq(m:AL)(k:Int):Bc (Da m k)=(Bc m).erase k:=by
 induction m with
 |nil=>rfl
 |cons p r ih=>
  obtain⟨i,u⟩:=p;rw[Da];by_cases h:k=i
  ·subst h;simp[Bc]
  ·rw[if_neg h];simp only[Bc,List.map_cons] at ih⊢;rw[List.erase_cons_tail (by simpa using λe=>h e.symm),ih]
theorem Lh{m:AL}(hn:(Bc m).Nodup)(k j:Int):Bk (Da m k) j=if j=k then none else Bk m j:=by
 induction m with
 |nil=>rw[Da,Si];split <;> rfl
 |cons p r ih=>
  obtain⟨i,u⟩:=p;have b:i∉Bc r/\(Bc r).Nodup:=by simpa [Bc] using hn
  rw[Da];by_cases h:k=i
  ·subst h;rw[if_pos rfl,H7];by_cases a:j=k
   ·rw[if_pos a,a];exact Sj.2 b.1
   ·rw[if_neg a,if_neg a]
  ·rw[if_neg h,H7,H7,ih b.2];by_cases a:j=i
   ·subst a;rw[if_pos rfl,if_pos rfl,if_neg (λe=>h e.symm)]
   ·rw[if_neg a,if_neg a]
theorem Xhx(m:AL)(k:Int)(v:Value):(Cm m k v).length=if (Bk m k).isSome then m.length else m.length+1:=by
 induction m with
 |nil=>rfl
 |cons p r ih=>
  obtain⟨i,u⟩:=p;rw[Cm,H7];by_cases h:k=i
  ·subst h;simp
  ·rw[if_neg h,if_neg h,List.length_cons,ih,List.length_cons];split <;> omega
theorem Xhq(m:AL)(k:Int):(Da m k).length=if (Bk m k).isSome then m.length-1 else m.length:=by
 induction m with
 |nil=>rfl
 |cons p r ih=>
  obtain⟨i,u⟩:=p;rw[Da,H7];by_cases h:k=i
  ·subst h;simp
  ·rw[if_neg h,if_neg h,List.length_cons,ih,List.length_cons];split
   ·rename_i a
    have:r≠[]:=λe=>by subst e;simp[Si] at a
    have:=List.length_pos_iff.2 this;omega
   ·rfl
theorem XaR{m:AL}(h:(Bc m).Nodup)(k:Int)(v:Value):(Bc (Cm m k v)).Nodup:=by
 rw[Vr];split
 ·exact h
 ·rename_i d
  rw[List.nodup_append];exact⟨h,by simp,λa f b c e=>by simp at c;subst c;subst e;exact d f⟩
theorem XeT{m:AL}(h:(Bc m).Nodup)(k:Int):(Bc (Da m k)).Nodup:=by
 rw[Vq];exact h.erase k
def Ah(m:AL)(es:List MapEntry):Prop:=es.map (λe=>(e.key,e.val))=m.map (λp=>(Value.int .i64 p.1,p.2))
def Y6(w:World)(r:Nat)(m:AL):Prop:=∃es clock,w.heap[r]?=some (.map es clock)/\Ah m es.toList
theorem Y6.chg{S:Nat->Prop}{w w':World}{r:Nat}{m:AL}(h:Y6 w r m)(hc:Xc S w w')(hs:¬S r):Y6 w' r m:=by
 obtain⟨es,clock,a,b⟩:=h;exact⟨es,clock,hc.heap a hs,b⟩
theorem Y6.lt{w:World}{r:Nat}{m:AL}(h:Y6 w r m):r<w.heap.size:=by
 obtain⟨es,clock,a,_⟩:=h;exact Xg a
theorem XdQ{q:IntKind}{k:Int}:∀{m:AL} {es:List MapEntry} {i:Nat},Ah m es->Instr.findNow (.int q) (.int .i64 k) es i=some ((Qz m k).map λp=>(i+p.1,p.2))
 |[],es,i,h=>by
  simp[Ah] at h;subst h;rfl
 |(j,v)::r,[],i,h=>by simp[Ah] at h
 |(j,v)::r,e::es,i,h=>by
  simp only[Ah,List.map_cons,List.cons.injEq,Prod.mk.injEq] at h;obtain⟨⟨b,c⟩,d⟩:=h;simp only[Instr.findNow,b,Instr.sameNow,if_true,Qz];by_cases a:k=j
  ·subst a;simp[c]
  ·have:(k == j)=false:=by simpa using a
   rw[this,if_neg a];simp only
   rw[XdQ (m:=r) d];cases Qz r k <;> simp;omega
theorem XdD{m:AL}{es:List MapEntry}{k:Int}{i:Nat}{v:Value}(h:Ah m es)(hf:Qz m k=some (i,v)):(es[i]?).map (·.key)=some (.int .i64 k):=by
 induction m generalizing es i with
 |nil=>cases hf
 |cons p r ih=>
  obtain⟨j,u⟩:=p;cases es with
  |nil=>simp[Ah] at h
  |cons e es=>
   simp only[Ah,List.map_cons,List.cons.injEq,Prod.mk.injEq] at h;simp only[Qz] at hf;by_cases a:k=j
   ·rw[if_pos a] at hf;cases hf;subst a;simp[h.1.1]
   ·rw[if_neg a] at hf;cases b:Qz r k with
    |none=>rw[b] at hf;cases hf
    |some q=>rw[b] at hf;cases hf;simpa using ih h.2 b
theorem XdG{m:AL}{es:List MapEntry}{k:Int}{i:Nat}{v v':Value}(h:Ah m es)(hf:Qz m k=some (i,v)):Ah (Cm m k v') (es.modify i λe=>{e with key:=.int .i64 k,val:=v'}):=by
 induction m generalizing es i with
 |nil=>cases hf
 |cons p r ih=>
  obtain⟨j,u⟩:=p;cases es with
  |nil=>simp[Ah] at h
  |cons e es=>
   simp only[Ah,List.map_cons,List.cons.injEq,Prod.mk.injEq] at h;simp only[Qz] at hf;rw[Cm];by_cases b:k=j
   ·rw[if_pos b] at hf⊢;cases hf;simp[Ah,h.2]
   ·rw[if_neg b] at hf⊢;cases a:Qz r k with
    |none=>rw[a] at hf;cases hf
    |some q=>
     rw[a] at hf;cases hf;have:=ih h.2 a;simp only[Ah] at this;simp[Ah,h.1,this]
theorem XdF{m:AL}{es:List MapEntry}{k:Int}{v:Value}{c:Nat}(h:Ah m es)(hf:Qz m k=none):Ah (Cm m k v) (es++[{key:=.int .i64 k,val:=v,born:=c}]):=by
 induction m generalizing es with
 |nil=>simp[Ah] at h;subst h;simp[Ah,Cm]
 |cons p r ih=>
  obtain⟨j,u⟩:=p;cases es with
  |nil=>simp[Ah] at h
  |cons e es=>
   simp only[Ah,List.map_cons,List.cons.injEq,Prod.mk.injEq] at h;simp only[Qz] at hf;by_cases a:k=j
   ·rw[if_pos a] at hf;cases hf
   ·rw[if_neg a] at hf;have b:Qz r k=none:=by cases d:Qz r k with|none=>rfl|some q=>rw[d] at hf;cases hf
    have:=ih h.2 b;rw[Cm,if_neg a];simp only[Ah] at this⊢;simp[h.1,this]
theorem XdC{m:AL}{es:List MapEntry}{k:Int}{i:Nat}{v:Value}(h:Ah m es)(hf:Qz m k=some (i,v)):Ah (Da m k) (es.eraseIdx i):=by
 induction m generalizing es i with
 |nil=>cases hf
 |cons p r ih=>
  obtain⟨j,u⟩:=p;cases es with
  |nil=>simp[Ah] at h
  |cons e es=>
   simp only[Ah,List.map_cons,List.cons.injEq,Prod.mk.injEq] at h;simp only[Qz] at hf;rw[Da];by_cases b:k=j
   ·rw[if_pos b] at hf⊢;cases hf;simpa [Ah] using h.2
   ·rw[if_neg b] at hf⊢;cases a:Qz r k with
    |none=>rw[a] at hf;cases hf
    |some q=>
     rw[a] at hf;cases hf;have:=ih h.2 a;simp only[Ah] at this;simp[Ah,h.1,this]
theorem XcH{m:AL}{k:Int}(hf:Qz m k=none):Da m k=m:=by
 induction m with
 |nil=>rfl
 |cons p r ih=>
  obtain⟨j,u⟩:=p;simp only[Qz] at hf;by_cases a:k=j
  ·rw[if_pos a] at hf;cases hf
  ·rw[if_neg a] at hf;have b:Qz r k=none:=by cases c:Qz r k with|none=>rfl|some q=>rw[c] at hf;cases hf
   rw[Da,if_neg a,ih b]
section
variable {P:Program}{T:Tab}{ops:Array Oper}{f:FuncId}{R:Aim}{k:List Item}{q n:Nat}{ds:List Deferred}{s s':List Item}{w w0 w':World}{e e':Env}{U:List Nat}{S:Nat->Prop}
theorem Ln{kt:Nat}{r:Cx}{b:Bool}{x:Int}(hT:Xq P T)(hr:row T kt=some r)(hu:r.und=.int .i64):(Instr.checkKey b 10000 kt (.int .i64 x)).run P w=.ok () w:=by
 unfold Instr.checkKey;refine(Xh (by rw[(hT.row hr).underlying w,hu])).trans rfl
theorem Ls{kt:Nat}{r:Cx}{x:Int}{m:AL}{es:List MapEntry}(hT:Xq P T)(hr:row T kt=some r)(hu:r.und=.int .i64)(h:Ah m es):(Instr.findKey kt (.int .i64 x) es).run P w=.ok (Qz m x) w:=by
 unfold Instr.findKey;refine(Xh (by rw[(hT.row hr).underlying w,hu])).trans ?_;rw[XdQ h];simp only[Nat.zero_add];cases Qz m x <;> rfl
theorem K3{r:Nat}{es:Array MapEntry}{clock:Nat}(o:Obj)(hb:w.heap[r]?=some (.map es clock)):(setObj r o).run P w=.ok () {w with heap:=w.heap.setIfInBounds r o}:=MapKept.run_setObj_map o hb
theorem Jq{r:Nat}{o:Obj}:Xc (λb=>b=r) w {w with heap:=w.heap.setIfInBounds r o}:=
 ⟨rfl,rfl,rfl,by simp,λb c a=>by simp[Ne.symm a]⟩
theorem Jv{r:Nat}{o:Obj}(h:r<w.heap.size):({w with heap:=w.heap.setIfInBounds r o}:World).heap[r]?=some o:=by simp[h]
def Pv(T:Tab)(e:Env)(o:Oper):Option (Option Nat×Value×Int×Bool):=
 match o.op with
 |.lookup t x ix ok=>match ev e x,ev e ix,row T t with
  |some (.map r),some (.int .i64 i),some {und:=.map kt et,..}=>match row T kt,row T et with
   |some {und:=.int .i64,..},some re=>match re.zero with
    |some z=>some (r,z,i,ok)
    |none=>none
   |_,_=>none
  |_,_,_=>none
 |_=>none
def Bf(m:AL)(z:Value)(i:Int)(ok:Bool):Value:=
 match Bk m i with
 |some v=>if ok then .tuple #[v,.bool true] else v
 |none=>if ok then .tuple #[z,.bool false] else z
def Le(w:World)(r:Option Nat)(m:AL):Prop:=match r with
 |none=>m=[]
 |some r=>Y6 w r m
theorem XaG(hT:Xq P T){r:Option Nat}{z:Value}{i:Int}{ok:Bool}{m:AL}{o:Oper}(h:Pv T e o=some (r,z,i,ok))(hm:Le w r m)(a:Act)(hf:X8 n a e):(execOp a.eval o).run P w=.ok (.value (Bf m z i ok)) w:=by
 unfold Pv at h;split at h
 ·rename_i t x ix ok1 b
  split at h
  ·rename_i A B kt et _ _ _ j c k
   split at h
   ·rename_i _ _ _ re d l
    split at h
    ·rename_i C q
     cases h
     simp only[execOp,b,hf.ev j,hf.ev c];refine(Xh (x:=Bf m z i ok) (w':=w) ?_).trans rfl;unfold Instr.lookup;refine(Xh ((hT.row k).underlying w)).trans ?_;simp only
     have key:∀es:Array MapEntry,Ah m es.toList->((do
      Instr.checkKey es.isEmpty 10000 kt (.int .i64 i)
      let (v,ok') <- match <- Instr.findKey kt (.int .i64 i) es.toList with
       |some (_,v)=>pure (v,true)
       |none=>pure (<- zeroValue et,false)
      pure (if ok then .tuple #[v,.bool ok'] else v)):Sem Value).run P w=.ok (Bf m z i ok) w:=λes f=>by
      refine(Xh (Ln hT d rfl)).trans ((Xh (Ls hT d rfl f)).trans ?_);unfold Bf Bk;cases y:Qz m i with
      |some p=>
       obtain⟨pi,pv⟩:=p;simp only[Option.map_some];refine(Xh (x:=(pv,true)) (w':=w) rfl).trans ?_;cases ok <;> rfl
      |none=>
       simp only[Option.map_none];refine(Xh ((hT.row l).zero q w)).trans ?_;cases ok <;> rfl
     cases r with
     |none=>
      have g:=hm;exact key #[] (by rw[g];rfl)
     |some r=>
      obtain⟨es,clock,s,u⟩:=hm;exact(Xh (MapKept.run_getObj_map s)).trans (key es u)
    ·cases h
   ·cases h
  ·cases h
 ·cases h
theorem Xa.lookup(hT:Xq P T){r:Option Nat}{z v:Value}{i:Int}{ok:Bool}{m:AL}{d:Nat}{s2:List Item}{e2:Env}(h:Ql (Pv T e) n s e=some ((r,z,i,ok),d,s'))(hm:Le w r m)(hv:Bf m z i ok=v)(ha:Go.Proofs.YtohjeeapehmkcaaGreatDoor.adv T n 400 s' ((d,false,v)::e)=(s2,e2))(hg:Xa P f R n ds s2 e2 w):Xa P f R n ds s e w:=by
 subst hv;exact Xa.val h (λ_ b a c=>XaG hT b hm a c) (Xa.adv hT 400 ha hg)
theorem Le.chg{S:Nat->Prop}{w w':World}{r:Option Nat}{m:AL}(h:Le w r m)(hc:Xc S w w')(hs:∀b,r=some b -> ¬S b):Le w' r m:=by
 cases r with
 |none=>exact h
 |some r=>exact Y6.chg h hc (hs r rfl)
theorem Xi.lookup(hT:Xq P T){l l':List Oper}{K:Env->Prop}{r:Option Nat}{z v:Value}{i:Int}{ok:Bool}{m:AL}{d:Nat}{l2:List Oper}{e2:Env}(h:Gi (Pv T e) n ops l e=some ((r,z,i,ok),d,l'))(hm:Le w r m)(hv:Bf m z i ok=v)(ha:Cy T n ops l' ((d,false,v)::e)=(l2,e2))(hg:Xi P n ops w l2 e2 K):Xi P n ops w l e K:=by
 subst hv;exact Xi.val hT h (λ_ c a w' b f=>XaG hT c (hm.chg b (λ_ _ h=>h)) a f) ha hg
theorem Xd.lookup(hT:Xq P T)(hB:Zp ops q=true){r:Option Nat}{z v:Value}{x:Int}{ok:Bool}{m:AL}{d i:Nat}{U2:List Nat}{e2:Env}(h:Ae (Pv T e) n ops q U e U=some ((r,z,x,ok),d,i))(hm:Le w0 r m)(hS:∀b,r=some b -> ¬S b)(hv:Bf m z x ok=v)(ha:Zu T n ops q (Xw i U) (Xw i U) ((d,false,v)::e)=(U2,e2))(hg:Xd P f R n ds k ops q S U2 e2 w0 w):Xd P f R n ds k ops q S U e w0 w:=by
 subst hv;exact Xd.val hT hB h (λ_ g a _ c j=>XaG hT g (hm.chg c hS) a j) ha hg
def XgY(T:Tab)(s:List Item)(e:Env):Option (Nat×Int×Value×List Item):=
 match Ec s e with
 |some (o,s')=>match o.dst,o.op with
  |none,.mapUpdate t m k x=>match ev e m,ev e k,ev e x,row T t with
   |some (.map (some r)),some (.int .i64 i),some v,some {und:=.map kt _,..}=>match row T kt with
    |some {und:=.int .i64,..}=>some (r,i,v,s')
    |_=>none
   |_,_,_,_=>none
  |_,_=>none
 |none=>none
theorem Xf0(x:Int):Instr.sameBits 10000 (.int .i64 x) (.int .i64 x)=true:=by simp[Instr.sameBits]
theorem Xa.mapset(hT:Xq P T){r:Nat}{i:Int}{v:Value}{m:AL}(h:XgY T s e=some (r,i,v,s'))(hm:Y6 w r m)(hg:∀w1,Y6 w1 r (Cm m i v)->Xc (λb=>b=r) w w1->w1.heap.size=w.heap.size->Xa P f R n ds s' e w1):Xa P f R n ds s e w:=by
 unfold XgY at h;split at h
 ·rename_i o I B
  split at h
  ·rename_i t x y z C q
   split at h
   ·rename_i J K L kt et _ _ _ D E F G
    split at h
    ·rename_i _ _ _ l
     cases h
     obtain⟨es,clock,j,k⟩:=hm;have u:=Xg j;cases d:Qz m i with
     |none=>
      refine Xa.head' B C (w':={w with heap:=w.heap.setIfInBounds r (.map (es.push {key:=.int .i64 i,val:=v,born:=clock}) (clock+1))}) (λa g=>?_)
       (hg _ ⟨_,_,Jv u,by simpa using XdF (c:=clock) k d⟩ Jq (by simp))
      simp only[execOp,q,g.ev D,g.ev E,g.ev F];refine(Xh (x:=()) (w':={w with heap:=w.heap.setIfInBounds r (.map (es.push {key:=.int .i64 i,val:=v,born:=clock}) (clock+1))}) ?_).trans rfl;unfold Instr.mapUpdate;refine(Xh ((hT.row G).underlying w)).trans ?_;simp only
      refine(Xh (MapKept.run_getObj_map j)).trans ?_;simp only
      refine(Xh (Ln hT l rfl)).trans ((Xh (Ls hT l rfl k)).trans ?_);rw[d];exact K3 _ j
     |some p=>
      obtain⟨pi,pv⟩:=p;have A:=XdD k d;have H:(((es[pi]?).map (·.key)).getD (.int .i64 i))=.int .i64 i:=by rw[<-Array.getElem?_toList,A];rfl
      refine Xa.head' B C (w':={w with heap:=w.heap.setIfInBounds r (.map (es.modify pi λe=>{e with key:=.int .i64 i,val:=v}) clock)}) (λa g=>?_)
       (hg _ ⟨_,_,Jv u,by simpa using XdG (v':=v) k d⟩ Jq (by simp))
      simp only[execOp,q,g.ev D,g.ev E,g.ev F];refine(Xh (x:=()) (w':={w with heap:=w.heap.setIfInBounds r (.map (es.modify pi λe=>{e with key:=.int .i64 i,val:=v}) clock)}) ?_).trans rfl;unfold Instr.mapUpdate;refine(Xh ((hT.row G).underlying w)).trans ?_;simp only
      refine(Xh (MapKept.run_getObj_map j)).trans ?_;simp only
      refine(Xh (Ln hT l rfl)).trans ((Xh (Ls hT l rfl k)).trans ?_);rw[d];simp only
      refine(Xh (x:=(.int .i64 i:Value)) (w':=w) ?_).trans ?_
      ·rw[H];unfold Instr.keyThatStays;rw[Xf0,if_pos rfl];rfl
      ·exact K3 _ j
    ·cases h
   ·cases h
  ·cases h
 ·cases h
def Xdx(T:Tab)(s:List Item)(e:Env):Option (Nat×Int×List Item):=
 match Ec s e with
 |some (o,s')=>match o.dst,o.op with
  |none,.call c=>match c.callee,evs e c.args.toList,c.argTypes.toList with
   |.builtin .delete,some [.map (some r),.int .i64 i],t::_=>match row T t with
    |some {und:=.map kt _,..}=>match row T kt with
     |some {und:=.int .i64,..}=>some (r,i,s')
     |_=>none
    |_=>none
   |_,_,_=>none
  |_,_=>none
 |none=>none
theorem Xa.mapdel(hT:Xq P T){r:Nat}{i:Int}{m:AL}(h:Xdx T s e=some (r,i,s'))(hm:Y6 w r m)(hg:∀w1,Y6 w1 r (Da m i)->Xc (λb=>b=r) w w1->w1.heap.size=w.heap.size->Xa P f R n ds s' e w1):Xa P f R n ds s e w:=by
 unfold Xdx at h;split at h
 ·rename_i o Q H
  split at h
  ·rename_i c I z
   split at h
   ·rename_i S U t ts g A B
    split at h
    ·rename_i kt et _ _ _ M
     split at h
     ·rename_i _ _ _ J
      cases h
      obtain⟨es,clock,u,F⟩:=hm;have C:=Xg u;have D:∀(w1:World),(Builtin.delete_ c.argTypes o.type #[.map (some r),.int .i64 i]).run P w=.ok (.tuple #[]) w1 -> ∀act,X8 n act e->(execOp act.eval o).run P w=.ok (.value (.tuple #[])) w1:=λw1 j act k=>by
       obtain⟨dst,op,type,pos,after,guard⟩:=o;simp only at z
       subst z;obtain⟨callee,args,argTypes⟩:=c;simp only at g A j
       subst g;have y:=Fs (k.evs A);simp only[execOp,resolve,y];exact(Xh (show _=Result.ok _ w from rfl)).trans ((Xh (x:=(.tuple #[]:Value)) (w':=w1) j).trans rfl)
      have N:c.argTypes[0]?=some t:=by
       obtain⟨callee,args,argTypes⟩:=c;obtain⟨ats⟩:=argTypes;simp only at B;subst B;rfl
      have l:∀(o':Obj),(Qz m i=none->o'=.map es clock)->(∀p,Qz m i=some p->o'=.map (es.eraseIdxIfInBounds p.1) clock)->(Builtin.delete_ c.argTypes o.type #[.map (some r),.int .i64 i]).run P w=.ok (.tuple #[]) {w with heap:=w.heap.setIfInBounds r o'}:=λo' K L=>by
       unfold Builtin.delete_;simp only[N,show(#[Value.map (some r),Value.int .i64 i]:Array Value)[0]?=some (.map (some r)) from rfl,show(#[Value.map (some r),Value.int .i64 i]:Array Value)[1]?=some (.int .i64 i) from rfl];refine(Xh ((hT.row M).underlying w)).trans ?_;simp only
       refine(Xh (MapKept.run_getObj_map u)).trans ?_;simp only
       refine(Xh (Ln hT J rfl)).trans ((Xh (Ls hT J rfl F)).trans ?_);cases E:Qz m i with
       |none=>rw[K E];exact(Xh (K3 _ u)).trans rfl
       |some p=>obtain⟨pi,pv⟩:=p;rw[L _ E];exact(Xh (K3 _ u)).trans rfl
      cases d:Qz m i with
      |none=>
       refine Xa.head (fl:=false) (v:=.tuple #[]) (e':=e) H (by rw[I];rfl) (λa k=>.inl (D _ (l (.map es clock) (λ_=>rfl) (λp q=>by rw[d] at q;cases q)) a k)) (hg _ ⟨_,_,Jv C,by rw[XcH d];exact F⟩ Jq (by simp))
      |some p=>
       refine Xa.head (fl:=false) (v:=.tuple #[]) (e':=e) H (by rw[I];rfl) (λa k=>.inl (D _ (l (.map (es.eraseIdxIfInBounds p.1) clock) (λh=>by rw[d] at h;cases h) (λp' q=>by rw[d] at q;cases q;rfl)) a k)) (hg _ ⟨_,_,Jv C,?_⟩ Jq (by simp));have:=XdC (v:=p.2) (i:=p.1) F d;have O:(es.eraseIdxIfInBounds p.1).toList=es.toList.eraseIdx p.1:=by
        unfold Array.eraseIdxIfInBounds;split
        ·simp
        ·rename_i G
         rw[List.eraseIdx_of_length_le (by simpa using G)]
       rw[O];exact this
     ·cases h
    ·cases h
   ·cases h
  ·cases h
 ·cases h
def Tr(o:Oper):Option Unit:=
 match o.op with
 |.makeMap _ none=>some ()
 |_=>none
theorem Xa.mkmap{d:Nat}(h:Ql Tr n s e=some ((),d,s'))(hg:∀r w1,r=w.heap.size->Y6 w1 r []->Xc Xe w w1->w1.heap.size=w.heap.size+1->Xa P f R n ds s' ((d,false,.map (some r))::e) w1):Xa P f R n ds s e w:=by
 refine Xa.val (v:=.map (some w.heap.size)) (w':={w with heap:=w.heap.push (.map #[] 0)}) h (λo b a g=>?_) (hg _ _ rfl ⟨#[],0,by simp,rfl⟩ (Ea _ _) (by simp));unfold Tr at b;split at b
 ·rename_i t c
  simp only[execOp,c,Option.map_none];refine(Xh (x:=(.map (some w.heap.size):Value)) (w':={w with heap:=w.heap.push (.map #[] 0)}) ?_).trans rfl;rfl
 ·cases b
def La(op:UnOp)(k:IntKind)(x:Int):Option Int:=
 match op with
 |.neg=>some (k.wrap (0-x))
 |.xor=>some (Kl .xor k (if k.signed then -1 else k.max) x)
 |_=>none
def Xch(e:Env)(o:Oper):Option (UnOp×IntKind×Int):=
 match o.op with
 |.unOp op _ x=>match op,ev e x with
  |.neg,some (.int k a)=>some (.neg,k,a)
  |.xor,some (.int k a)=>some (.xor,k,a)
  |_,_=>none
 |_=>none
theorem Xm1{op:UnOp}{k:IntKind}{x z:Int}{o:Oper}(h:Xch e o=some (op,k,x))(hz:La op k x=some z)(a:Act)(hf:X8 n a e)(w:World):(execOp a.eval o).run P w=.ok (.value (.int k z)) w:=by
 unfold Xch at h;split at h
 ·rename_i g t i b
  split at h
  ·rename_i d f c
   cases h
   simp only[La,Option.some.injEq] at hz;subst hz;simp only[execOp,b,hf.ev c];refine(Xh (w':=w) ?_).trans rfl;simp only[Op.unary,Op.intArith];rfl
  ·rename_i d f c
   cases h
   simp only[La,Option.some.injEq] at hz;subst hz;simp only[execOp,b,hf.ev c];refine(Xh (w':=w) ?_).trans rfl;simp only[Op.unary,Op.intBits];rfl
  ·cases h
 ·cases h
theorem Xa.un(hT:Xq P T){op:UnOp}{k:IntKind}{x z:Int}{d:Nat}{s2:List Item}{e2:Env}(h:Ql (Xch e) n s e=some ((op,k,x),d,s'))(hz:La op k x=some z)(ha:Go.Proofs.YtohjeeapehmkcaaGreatDoor.adv T n 400 s' ((d,false,.int k z)::e)=(s2,e2))(hg:Xa P f R n ds s2 e2 w):Xa P f R n ds s e w:=
 Xa.val h (λ_ b a c=>Xm1 b hz a c w) (Xa.adv hT 400 ha hg)
def Xgc(T:Tab)(e:Env)(o:Oper):Option (ByteArray×Int):=
 match o.op with
 |.index t x ix=>match ev e x,ev e ix,row T t with
  |some (.string b),some (.int _ i),some {und:=.string,..}=>some (b,i)
  |_,_,_=>none
 |_=>none
theorem Xa.sidx(hT:Xq P T){b:ByteArray}{i v:Int}{d:Nat}{s2:List Item}{e2:Env}(h:Ql (Xgc T e) n s e=some ((b,i),d,s'))(h0:0<=i)(hv:(b[i.toNat]?).map (λx=>(x.toNat:Int))=some v)(ha:Go.Proofs.YtohjeeapehmkcaaGreatDoor.adv T n 400 s' ((d,false,.int .u8 v)::e)=(s2,e2))(hg:Xa P f R n ds s2 e2 w):Xa P f R n ds s e w:=by
 refine Xa.val (v:=.int .u8 v) (w':=w) h (λo c a g=>?_) (Xa.adv hT 400 ha hg);unfold Xgc at c;split at c
 ·rename_i t x ix j
  split at c
  ·rename_i r m u _ _ _ p k q
   cases c
   simp only[execOp,j,g.ev p,g.ev k];refine(Xh (x:=(.int .u8 v:Value)) (w':=w) ?_).trans rfl;unfold Instr.index;refine(Xh (x:=(m,i)) (w':=w) rfl).trans ?_;simp only
   refine(Xh ((hT.row q).underlying w)).trans ?_;simp only[h0,if_true];cases l:b[i.toNat]? with
   |none=>rw[l] at hv;cases hv
   |some y=>rw[l] at hv;simp only[Option.map_some,Option.some.injEq] at hv;subst hv;rfl
  ·cases c
 ·cases c
def XcI(T:Tab)(e:Env)(o:Oper):Option (List Value×Int×Nat):=
 match o.op with
 |.index t x ix=>match ev e x,ev e ix,row T t with
  |some (.agg cs),some (.int _ i),some {und:=.array len q,..}=>match row T q with
   |some r2=>match Ia r2,Nat.beq r2.size 1 with
    |false,true=>some (cs.toList,i,len)
    |_,_=>none
   |none=>none
  |_,_,_=>none
 |_=>none
theorem Xa.aidx(hT:Xq P T){vs:List Value}{i:Int}{v:Value}{d len:Nat}{s2:List Item}{e2:Env}(h:Ql (XcI T e) n s e=some ((vs,i,len),d,s'))(hlen':vs.length=len)(h0:0<=i)(hv:vs[i.toNat]?=some v)(ha:Go.Proofs.YtohjeeapehmkcaaGreatDoor.adv T n 400 s' ((d,false,v)::e)=(s2,e2))(hg:Xa P f R n ds s2 e2 w):Xa P f R n ds s e w:=by
 refine Xa.val (v:=v) (w':=w) h (λo b a j=>?_) (Xa.adv hT 400 ha hg);unfold XcI at b;split at b
 ·rename_i t x ix k
  split at b
  ·rename_i cs p z len q _ _ _ r l u
   split at b
   ·rename_i A c
    split at b
    ·rename_i g m
     cases b
     have y:=(List.getElem?_eq_some_iff.1 hv).1;simp only[execOp,k,j.ev r,j.ev l];refine(Xh (x:=v) (w':=w) ?_).trans rfl;unfold Instr.index;refine(Xh (x:=(p,i)) (w':=w) rfl).trans ?_;simp only
     refine(Xh ((hT.row u).underlying w)).trans ?_;simp only
     rw[if_pos ⟨h0,by omega⟩];refine(Xh ((hT.row c).sizeOf w)).trans ?_;rw[Nat.eq_of_beq_eq_true m,Nat.mul_one];unfold part;refine(Xh ((hT.row c).isAgg w)).trans ?_;rw[g];simp only[Bool.false_eq_true,if_false];rw[<-Array.getElem?_toList,hv];rfl
    ·cases b
   ·cases b
  ·cases b
 ·cases b
theorem Xd.bits(hT:Xq P T)(hB:Zp ops q=true){op:BinOp}{kk:IntKind}{x y z:Int}{d i:Nat}{U2:List Nat}{e2:Env}(h:Ae (Sr e) n ops q U e U=some ((op,kk,x,y),d,i))(hz:Kl op kk x y=z)(ha:Zu T n ops q (Xw i U) (Xw i U) ((d,false,.int kk z)::e)=(U2,e2))(hg:Xd P f R n ds k ops q S U2 e2 w0 w):Xd P f R n ds k ops q S U e w0 w:=
 Xd.val hT hB h (λ_ b a w' _ c=>XcU b hz a c w') ha hg
theorem Xd.shift(hT:Xq P T)(hB:Zp ops q=true){l:Bool}{kk:IntKind}{x y z:Int}{d i:Nat}{U2:List Nat}{e2:Env}(h:Ae (Uq e) n ops q U e U=some ((l,kk,x,y),d,i))(hy:0<=y)(hz:Ka l kk x y=z)(ha:Zu T n ops q (Xw i U) (Xw i U) ((d,false,.int kk z)::e)=(U2,e2))(hg:Xd P f R n ds k ops q S U2 e2 w0 w):Xd P f R n ds k ops q S U e w0 w:=
 Xd.val hT hB h (λ_ b a w' _ c=>Xgb b hy hz a c w') ha hg
theorem Xd.callQ{fk d i:Nat}{as:List Value}{Q:Value->World->Prop}(hB:Zp ops q=true)(hU:Co ops q U U=[i])(h:Bx (E4 e) n ops e i=some ((fk,as),d))(hd:∀w',Xc Xe w w'->Xf P fk as.toArray w' (λv w2=>Xc S w' w2/\Q v w2))(hg:∀v w1,Xc S w w1->Q v w1->Xd P f R n ds k ops q S (Xw i U) ((d,false,v)::e) w0 w1):Xd P f R n ds k ops q S U e w0 w:=by
 refine Xd.turn1 hB hU λw1 b=>?_;refine Xp.call (Post:=λv w2=>Xc S w w2/\Q v w2) h (hd w (Xc.refl _ _)).fn (λg=>(hd w1 b).mono λv w2 ⟨a,c⟩=>⟨g.trans a,(b.mono λ_ _ h=>h.elim).trans a,c⟩) λv w2 _ ⟨a,c⟩=>hg v w2 a c
end
end Go.Proofs.YtohjeeapehmkcaaGreatDoor
