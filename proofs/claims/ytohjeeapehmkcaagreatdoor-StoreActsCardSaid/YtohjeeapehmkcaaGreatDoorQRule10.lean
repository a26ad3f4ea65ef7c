/-
  Rule10
-/
import Derived.Test.YtohjeeapehmkcaaGreatDoorQRule9
import Derived.MapKept
namespace Go.Proofs.YtohjeeapehmkcaaGreatDoor
open Go.RowKit
abbrev AL:=List (Int × Value)
def Qo:AL->Int->Option (Nat × Value)
 |[],_=>none
 |(j,v)::r,k=>if k=j then some (0,v) else (Qo r k).map fun p=>(p.1+1,p.2)
def A8 (m:AL) (k:Int):Option Value:=(Qo m k).map (·.2)
def Ca:AL->Int->Value->AL
 |[],k,v => [(k,v)]
 |(j,u)::r,k,v=>if k=j then (k,v)::r else (j,u)::Ca r k v
def Cu:AL->Int->AL
 |[],_ => []
 |(j,u)::r,k=>if k=j then r else (j,u)::Cu r k
def A0 (m:AL):List Int:=m.map (·.1)
theorem Rf (k:Int):A8 [] k=none:=rfl
theorem Hn (j:Int) (v:Value) (r:AL) (k:Int):A8 ((j,v)::r) k=if k=j then some v else A8 r k:=by
 unfold A8;simp only [Qo];split
 ·rfl
 ·cases Qo r k <;> rfl
theorem Rh {m:AL} {k:Int}:A8 m k=none↔k ∉ A0 m:=by
 induction m with
 |nil=>simp [Rf,A0]
 |cons p r ih =>
  obtain ⟨j,v⟩:=p;rw [Hn];simp only [A0,List.map_cons,List.mem_cons,not_or] at ih ⊢;by_cases h:k=j
  ·simp [h]
  ·rw [if_neg h]; simp [h,ih]
theorem Ih (m:AL) (k:Int) (v:Value) (j:Int):A8 (Ca m k v) j=if j=k then some v else A8 m j:=by
 induction m with
 |nil=>rw [Ca,Hn,Rf]
 |cons p r ih =>
  obtain ⟨i,u⟩:=p;rw [Ca];by_cases h:k=i
  ·subst h;rw [if_pos rfl,Hn,Hn];by_cases a:j=k
   ·rw [if_pos a,if_pos a]
   ·rw [if_neg a,if_neg a,if_neg a]
  ·rw [if_neg h,Hn,Hn,ih];by_cases a:j=i
   ·subst a; rw [if_pos rfl,if_pos rfl,if_neg (fun e=>h e.symm)]
   ·rw [if_neg a,if_neg a]
theorem Rc (i:Int) (u:Value) (r:AL):A0 ((i,u)::r)=i::A0 r:=rfl
theorem Ui (m:AL) (k:Int) (v:Value):A0 (Ca m k v)=if k ∈ A0 m then A0 m else A0 m ++ [k]:=by
 induction m with
 |nil=>simp [Ca,A0]
 |cons p r ih =>
  obtain ⟨i,u⟩:=p;rw [Ca];by_cases h:k=i
  ·subst h; rw [if_pos rfl,Rc,Rc,if_pos (by simp)]
  ·rw [if_neg h,Rc,Rc,ih];by_cases a:k ∈ A0 r
   ·rw [if_pos a,if_pos (by simp [a])]
   ·rw [if_neg a,if_neg (by simp [a,h])]; rfl
theorem Uh (m:AL) (k:Int):A0 (Cu m k)=(A0 m).erase k:=by
 induction m with
 |nil=>rfl
 |cons p r ih =>
  obtain ⟨i,u⟩:=p;rw [Cu];by_cases h:k=i
  ·subst h; simp [A0]
  ·rw [if_neg h];simp only [A0,List.map_cons] at ih ⊢;rw [List.erase_cons_tail (by simpa using fun e=>h e.symm),ih]
theorem Kq {m:AL} (hn:(A0 m).Nodup) (k j:Int):A8 (Cu m k) j=if j=k then none else A8 m j:=by
 induction m with
 |nil=>rw [Cu,Rf]; split <;> rfl
 |cons p r ih =>
  obtain ⟨i,u⟩:=p;have b:i ∉ A0 r/\(A0 r).Nodup:=by simpa [A0] using hn
  rw [Cu];by_cases h:k=i
  ·subst h;rw [if_pos rfl,Hn];by_cases a:j=k
   ·rw [if_pos a,a]; exact Rh.2 b.1
   ·rw [if_neg a,if_neg a]
  ·rw [if_neg h,Hn,Hn,ih b.2];by_cases a:j=i
   ·subst a; rw [if_pos rfl,if_pos rfl,if_neg (fun e=>h e.symm)]
   ·rw [if_neg a,if_neg a]
theorem Xgj (m:AL) (k:Int) (v:Value):(Ca m k v).length=if (A8 m k).isSome then m.length else m.length+1:=by
 induction m with
 |nil=>rfl
 |cons p r ih =>
  obtain ⟨i,u⟩:=p;rw [Ca,Hn];by_cases h:k=i
  ·subst h; simp
  ·rw [if_neg h,if_neg h,List.length_cons,ih,List.length_cons]; split <;> omega
theorem Xgc (m:AL) (k:Int):(Cu m k).length=if (A8 m k).isSome then m.length - 1 else m.length:=by
 induction m with
 |nil=>rfl
 |cons p r ih =>
  obtain ⟨i,u⟩:=p;rw [Cu,Hn];by_cases h:k=i
  ·subst h; simp
  ·rw [if_neg h,if_neg h,List.length_cons,ih,List.length_cons];split
   ·rename_i a
    have:r ≠ []:=fun e=>by subst e; simp [Rf] at a
    have:=List.length_pos_iff.2 this;omega
   ·rfl
theorem W6 {m:AL} (h:(A0 m).Nodup) (k:Int) (v:Value):(A0 (Ca m k v)).Nodup:=by
 rw [Ui];split
 ·exact h
 ·rename_i d
  rw [List.nodup_append];exact ⟨h,by simp,fun a f b c e=>by simp at c; subst c; subst e; exact d f⟩
theorem XdJ {m:AL} (h:(A0 m).Nodup) (k:Int):(A0 (Cu m k)).Nodup:=by
 rw [Uh]; exact h.erase k
def Q6 (m:AL) (es:List MapEntry):Prop:=es.map (fun e=>(e.key,e.val))=m.map (fun p=>(Value.int .i64 p.1,p.2))
def Yq (w:World) (r:Nat) (m:AL):Prop := ∃ es clock,w.heap[r]? = some (.map es clock)/\Q6 m es.toList
theorem Yq.chg {S:Nat->Prop} {w w':World} {r:Nat} {m:AL} (h:Yq w r m) (hc:Xc S w w') (hs:¬ S r):Yq w' r m:=by
 obtain ⟨es,clock,a,b⟩:=h;exact ⟨es,clock,hc.heap a hs,b⟩
theorem Yq.lt {w:World} {r:Nat} {m:AL} (h:Yq w r m):r<w.heap.size:=by
 obtain ⟨es,clock,a,_⟩:=h;exact Xg a
theorem XcP {q:IntKind} {k:Int}:∀ {m:AL} {es:List MapEntry} {i:Nat},Q6 m es->Instr.findNow (.int q) (.int .i64 k) es i=some ((Qo m k).map fun p=>(i+p.1,p.2))
 |[],es,i,h=>by
  simp [Q6] at h; subst h; rfl
 |(j,v)::r,[],i,h=>by simp [Q6] at h
 |(j,v)::r,e::es,i,h=>by
  simp only [Q6,List.map_cons,List.cons.injEq,Prod.mk.injEq] at h;obtain ⟨⟨b,c⟩,d⟩:=h;simp only [Instr.findNow,b,Instr.sameNow,if_true,Qo];by_cases a:k=j
  ·subst a; simp [c]
  ·have:(k == j)=false:=by simpa using a
   rw [this,if_neg a];simp only
   rw [XcP (m:=r) d];cases Qo r k <;> simp; omega
theorem XcD {m:AL} {es:List MapEntry} {k:Int} {i:Nat} {v:Value} (h:Q6 m es) (hf:Qo m k=some (i,v)):(es[i]?).map (·.key)=some (.int .i64 k):=by
 induction m generalizing es i with
 |nil=>cases hf
 |cons p r ih =>
  obtain ⟨j,u⟩:=p;cases es with
  |nil=>simp [Q6] at h
  |cons e es =>
   simp only [Q6,List.map_cons,List.cons.injEq,Prod.mk.injEq] at h;simp only [Qo] at hf;by_cases a:k=j
   ·rw [if_pos a] at hf; cases hf; subst a; simp [h.1.1]
   ·rw [if_neg a] at hf;cases b:Qo r k with
    |none=>rw [b] at hf; cases hf
    |some q=>rw [b] at hf; cases hf; simpa using ih h.2 b
theorem XcG {m:AL} {es:List MapEntry} {k:Int} {i:Nat} {v v':Value} (h:Q6 m es) (hf:Qo m k=some (i,v)):Q6 (Ca m k v') (es.modify i fun e=>{e with key := .int .i64 k,val:=v'}):=by
 induction m generalizing es i with
 |nil=>cases hf
 |cons p r ih =>
  obtain ⟨j,u⟩:=p;cases es with
  |nil=>simp [Q6] at h
  |cons e es =>
   simp only [Q6,List.map_cons,List.cons.injEq,Prod.mk.injEq] at h;simp only [Qo] at hf;rw [Ca];by_cases b:k=j
   ·rw [if_pos b] at hf ⊢; cases hf; simp [Q6,h.2]
   ·rw [if_neg b] at hf ⊢;cases a:Qo r k with
    |none=>rw [a] at hf; cases hf
    |some q =>
     rw [a] at hf; cases hf;have:=ih h.2 a;simp only [Q6] at this;simp [Q6,h.1,this]
theorem XcF {m:AL} {es:List MapEntry} {k:Int} {v:Value} {c:Nat} (h:Q6 m es) (hf:Qo m k=none):Q6 (Ca m k v) (es ++ [{key := .int .i64 k,val:=v,born:=c}]):=by
 induction m generalizing es with
 |nil=>simp [Q6] at h; subst h; simp [Q6,Ca]
 |cons p r ih =>
  obtain ⟨j,u⟩:=p;cases es with
  |nil=>simp [Q6] at h
  |cons e es =>
   simp only [Q6,List.map_cons,List.cons.injEq,Prod.mk.injEq] at h;simp only [Qo] at hf;by_cases a:k=j
   ·rw [if_pos a] at hf; cases hf
   ·rw [if_neg a] at hf;have b:Qo r k=none:=by cases d:Qo r k with | none=>rfl | some q=>rw [d] at hf; cases hf
    have:=ih h.2 b;rw [Ca,if_neg a];simp only [Q6] at this ⊢;simp [h.1,this]
theorem XcC {m:AL} {es:List MapEntry} {k:Int} {i:Nat} {v:Value} (h:Q6 m es) (hf:Qo m k=some (i,v)):Q6 (Cu m k) (es.eraseIdx i):=by
 induction m generalizing es i with
 |nil=>cases hf
 |cons p r ih =>
  obtain ⟨j,u⟩:=p;cases es with
  |nil=>simp [Q6] at h
  |cons e es =>
   simp only [Q6,List.map_cons,List.cons.injEq,Prod.mk.injEq] at h;simp only [Qo] at hf;rw [Cu];by_cases b:k=j
   ·rw [if_pos b] at hf ⊢; cases hf; simpa [Q6] using h.2
   ·rw [if_neg b] at hf ⊢;cases a:Qo r k with
    |none=>rw [a] at hf; cases hf
    |some q =>
     rw [a] at hf; cases hf;have:=ih h.2 a;simp only [Q6] at this;simp [Q6,h.1,this]
theorem XbM {m:AL} {k:Int} (hf:Qo m k=none):Cu m k=m:=by
 induction m with
 |nil=>rfl
 |cons p r ih =>
  obtain ⟨j,u⟩:=p;simp only [Qo] at hf;by_cases a:k=j
  ·rw [if_pos a] at hf; cases hf
  ·rw [if_neg a] at hf;have b:Qo r k=none:=by cases c:Qo r k with | none=>rfl | some q=>rw [c] at hf; cases hf
   rw [Cu,if_neg a,ih b]
section
variable {P:Program} {T:Tab} {ops:Array Oper} {f:FuncId} {R:Aim} {k:List Item} {q n:Nat} {ds:List Deferred} {s s':List Item} {w w0 w':World} {e e':Env} {U:List Nat} {S:Nat->Prop}
theorem Kw {kt:Nat} {r:Ck} {b:Bool} {x:Int} (hT:Xp P T) (hr:row T kt=some r) (hu:r.und = .int .i64):(Instr.checkKey b 10000 kt (.int .i64 x)).run P w = .ok () w:=by
 unfold Instr.checkKey;refine (Xh (by rw [(hT.row hr).underlying w,hu])).trans rfl
theorem K1 {kt:Nat} {r:Ck} {x:Int} {m:AL} {es:List MapEntry} (hT:Xp P T) (hr:row T kt=some r) (hu:r.und = .int .i64) (h:Q6 m es):(Instr.findKey kt (.int .i64 x) es).run P w = .ok (Qo m x) w:=by
 unfold Instr.findKey;refine (Xh (by rw [(hT.row hr).underlying w,hu])).trans ?_;rw [XcP h];simp only [Nat.zero_add];cases Qo m x <;> rfl
theorem Kc {r:Nat} {es:Array MapEntry} {clock:Nat} (o:Obj) (hb:w.heap[r]? = some (.map es clock)):(setObj r o).run P w = .ok () {w with heap:=w.heap.setIfInBounds r o}:=MapKept.run_setObj_map o hb
theorem I3 {r:Nat} {o:Obj}:Xc (fun b=>b=r) w {w with heap:=w.heap.setIfInBounds r o} :=
 ⟨rfl,rfl,rfl,by simp,fun b c a=>by simp [Ne.symm a]⟩
theorem I6 {r:Nat} {o:Obj} (h:r<w.heap.size):({w with heap:=w.heap.setIfInBounds r o}:World).heap[r]? = some o:=by simp [h]
def Oy (T:Tab) (e:Env) (o:Oper):Option (Option Nat × Value × Int × Bool) :=
 match o.op with
 |.lookup t x ix ok=>match ev e x,ev e ix,row T t with
  |some (.map r),some (.int .i64 i),some {und := .map kt et,..}=>match row T kt,row T et with
   |some {und := .int .i64,..},some re=>match re.zero with
    |some z=>some (r,z,i,ok)
    |none=>none
   |_,_=>none
  |_,_,_=>none
 |_=>none
def A1 (m:AL) (z:Value) (i:Int) (ok:Bool):Value :=
 match A8 m i with
 |some v=>if ok then .tuple #[v,.bool true] else v
 |none=>if ok then .tuple #[z,.bool false] else z
def Ko (w:World) (r:Option Nat) (m:AL):Prop:=match r with
 |none=>m = []
 |some r=>Yq w r m
theorem V8 (hT:Xp P T) {r:Option Nat} {z:Value} {i:Int} {ok:Bool} {m:AL} {o:Oper} (h:Oy T e o=some (r,z,i,ok)) (hm:Ko w r m) (a:Act) (hf:X5 n a e):(execOp a.eval o).run P w = .ok (.value (A1 m z i ok)) w:=by
 unfold Oy at h;split at h
 ·rename_i t x ix ok1 b
  split at h
  ·rename_i A B kt et _ _ _ j c k
   split at h
   ·rename_i _ _ _ re d l
    split at h
    ·rename_i C q
     cases h
     simp only [execOp,b,hf.ev j,hf.ev c];refine (Xh (x:=A1 m z i ok) (w':=w) ?_).trans rfl;unfold Instr.lookup;refine (Xh ((hT.row k).underlying w)).trans ?_;simp only
     have key:∀ es:Array MapEntry,Q6 m es.toList->((do
      Instr.checkKey es.isEmpty 10000 kt (.int .i64 i)
      let (v,ok') <- match <- Instr.findKey kt (.int .i64 i) es.toList with
       |some (_,v)=>pure (v,true)
       |none=>pure (<- zeroValue et,false)
      pure (if ok then .tuple #[v,.bool ok'] else v)):Sem Value).run P w = .ok (A1 m z i ok) w:=fun es f=>by
      refine (Xh (Kw hT d rfl)).trans ?_;refine (Xh (K1 hT d rfl f)).trans ?_;unfold A1 A8;cases y:Qo m i with
      |some p =>
       obtain ⟨pi,pv⟩:=p;simp only [Option.map_some];refine (Xh (x:=(pv,true)) (w':=w) rfl).trans ?_;cases ok <;> rfl
      |none =>
       simp only [Option.map_none];refine (Xh ((hT.row l).zero q w)).trans ?_;cases ok <;> rfl
     cases r with
     |none =>
      have g:m = []:=hm;exact key #[] (by rw [g]; rfl)
     |some r =>
      obtain ⟨es,clock,s,u⟩:=hm;refine (Xh (MapKept.run_getObj_map s)).trans ?_;exact key es u
    ·cases h
   ·cases h
  ·cases h
 ·cases h
theorem Xa.lookup (hT:Xp P T) {r:Option Nat} {z v:Value} {i:Int} {ok:Bool} {m:AL} {d:Nat} {s2:List Item} {e2:Env} (h:Qa (Oy T e) n s e=some ((r,z,i,ok),d,s')) (hm:Ko w r m) (hv:A1 m z i ok=v)
 (ha:Go.Proofs.YtohjeeapehmkcaaGreatDoor.adv T n 400 s' ((d,false,v)::e)=(s2,e2)) (hg:Xa P f R n ds s2 e2 w):Xa P f R n ds s e w:=by
 subst hv;exact Xa.val h (fun _ b a c=>V8 hT b hm a c) (Xa.adv hT 400 ha hg)
theorem Ko.chg {S:Nat->Prop} {w w':World} {r:Option Nat} {m:AL} (h:Ko w r m) (hc:Xc S w w') (hs:∀ b,r=some b -> ¬ S b):Ko w' r m:=by
 cases r with
 |none=>exact h
 |some r=>exact Yq.chg h hc (hs r rfl)
theorem Xi.lookup (hT:Xp P T) {l l':List Oper} {K:Env->Prop} {r:Option Nat} {z v:Value} {i:Int} {ok:Bool} {m:AL} {d:Nat} {l2:List Oper} {e2:Env} (h:Fu (Oy T e) n ops l e=some ((r,z,i,ok),d,l')) (hm:Ko w r m) (hv:A1 m z i ok=v)
 (ha:Cl T n ops l' ((d,false,v)::e)=(l2,e2)) (hg:Xi P n ops w l2 e2 K):Xi P n ops w l e K:=by
 subst hv;exact Xi.val hT h (fun _ c a w' b f=>V8 hT c (hm.chg b (fun _ _ h=>h)) a f) ha hg
theorem Xd.lookup (hT:Xp P T) (hB:Zm ops q=true) {r:Option Nat} {z v:Value} {x:Int} {ok:Bool} {m:AL} {d i:Nat} {U2:List Nat} {e2:Env} (h:Q3 (Oy T e) n ops q U e U=some ((r,z,x,ok),d,i)) (hm:Ko w0 r m) (hS:∀ b,r=some b -> ¬ S b) (hv:A1 m z x ok=v)
 (ha:Zr T n ops q (Xu i U) (Xu i U) ((d,false,v)::e)=(U2,e2)) (hg:Xd P f R n ds k ops q S U2 e2 w0 w):Xd P f R n ds k ops q S U e w0 w:=by
 subst hv;exact Xd.val hT hB h (fun _ g a _ c j=>V8 hT g (hm.chg c hS) a j) ha hg
def XfN (T:Tab) (s:List Item) (e:Env):Option (Nat × Int × Value × List Item) :=
 match Dy s e with
 |some (o,s')=>match o.dst,o.op with
  |none,.mapUpdate t m k x=>match ev e m,ev e k,ev e x,row T t with
   |some (.map (some r)),some (.int .i64 i),some v,some {und := .map kt _,..}=>match row T kt with
    |some {und := .int .i64,..}=>some (r,i,v,s')
    |_=>none
   |_,_,_,_=>none
  |_,_=>none
 |none=>none
theorem XeQ (x:Int):Instr.sameBits 10000 (.int .i64 x) (.int .i64 x)=true:=by simp [Instr.sameBits]
theorem Xa.mapset (hT:Xp P T) {r:Nat} {i:Int} {v:Value} {m:AL} (h:XfN T s e=some (r,i,v,s')) (hm:Yq w r m)
 (hg:∀ w1,Yq w1 r (Ca m i v)->Xc (fun b=>b=r) w w1->w1.heap.size=w.heap.size->Xa P f R n ds s' e w1):Xa P f R n ds s e w:=by
 unfold XfN at h;split at h
 ·rename_i o I B
  split at h
  ·rename_i t x y z C q
   split at h
   ·rename_i J K L kt et _ _ _ D E F G
    split at h
    ·rename_i _ _ _ l
     cases h
     obtain ⟨es,clock,j,k⟩:=hm;have u:=Xg j;cases d:Qo m i with
     |none =>
      refine Xa.head' B C (w':={w with heap:=w.heap.setIfInBounds r (.map (es.push {key := .int .i64 i,val:=v,born:=clock}) (clock+1))}) (fun a g => ?_)
       (hg _ ⟨_,_,I6 u,by simpa using XcF (c:=clock) k d⟩ I3 (by simp))
      simp only [execOp,q,g.ev D,g.ev E,g.ev F];refine (Xh (x:=()) (w':={w with heap:=w.heap.setIfInBounds r (.map (es.push {key := .int .i64 i,val:=v,born:=clock}) (clock+1))}) ?_).trans rfl;unfold Instr.mapUpdate;refine (Xh ((hT.row G).underlying w)).trans ?_;simp only
      refine (Xh (MapKept.run_getObj_map j)).trans ?_;simp only
      refine (Xh (Kw hT l rfl)).trans ?_;refine (Xh (K1 hT l rfl k)).trans ?_;rw [d];exact Kc _ j
     |some p =>
      obtain ⟨pi,pv⟩:=p;have A:=XcD k d;have H:(((es[pi]?).map (·.key)).getD (.int .i64 i)) = .int .i64 i:=by rw [<- Array.getElem?_toList,A]; rfl
      refine Xa.head' B C (w':={w with heap:=w.heap.setIfInBounds r (.map (es.modify pi fun e=>{e with key := .int .i64 i,val:=v}) clock)}) (fun a g => ?_)
       (hg _ ⟨_,_,I6 u,by simpa using XcG (v':=v) k d⟩ I3 (by simp))
      simp only [execOp,q,g.ev D,g.ev E,g.ev F];refine (Xh (x:=()) (w':={w with heap:=w.heap.setIfInBounds r (.map (es.modify pi fun e=>{e with key := .int .i64 i,val:=v}) clock)}) ?_).trans rfl;unfold Instr.mapUpdate;refine (Xh ((hT.row G).underlying w)).trans ?_;simp only
      refine (Xh (MapKept.run_getObj_map j)).trans ?_;simp only
      refine (Xh (Kw hT l rfl)).trans ?_;refine (Xh (K1 hT l rfl k)).trans ?_;rw [d];simp only
      refine (Xh (x:=(.int .i64 i:Value)) (w':=w) ?_).trans ?_
      ·rw [H];unfold Instr.keyThatStays;rw [XeQ,if_pos rfl]; rfl
      ·exact Kc _ j
    ·cases h
   ·cases h
  ·cases h
 ·cases h
def Xcx (T:Tab) (s:List Item) (e:Env):Option (Nat × Int × List Item) :=
 match Dy s e with
 |some (o,s')=>match o.dst,o.op with
  |none,.call c=>match c.callee,evs e c.args.toList,c.argTypes.toList with
   |.builtin .delete,some [.map (some r),.int .i64 i],t::_=>match row T t with
    |some {und := .map kt _,..}=>match row T kt with
     |some {und := .int .i64,..}=>some (r,i,s')
     |_=>none
    |_=>none
   |_,_,_=>none
  |_,_=>none
 |none=>none
theorem Xa.mapdel (hT:Xp P T) {r:Nat} {i:Int} {m:AL} (h:Xcx T s e=some (r,i,s')) (hm:Yq w r m)
 (hg:∀ w1,Yq w1 r (Cu m i)->Xc (fun b=>b=r) w w1->w1.heap.size=w.heap.size->Xa P f R n ds s' e w1):Xa P f R n ds s e w:=by
 unfold Xcx at h;split at h
 ·rename_i o Q H
  split at h
  ·rename_i c I z
   split at h
   ·rename_i S U t ts g A B
    split at h
    ·rename_i kt et _ _ _ M
     split at h
     ·rename_i _ _ _ J
      cases h
      obtain ⟨es,clock,u,F⟩:=hm;have C:=Xg u;have D:∀ (w1:World),(Builtin.delete_ c.argTypes o.type #[.map (some r),.int .i64 i]).run P w = .ok (.tuple #[]) w1 -> ∀ act,X5 n act e->(execOp act.eval o).run P w = .ok (.value (.tuple #[])) w1:=fun w1 j act k=>by
       obtain ⟨dst,op,type,pos,after,guard⟩:=o;simp only at z
       subst z;obtain ⟨callee,args,argTypes⟩:=c;simp only at g A j
       subst g;have y:args.map act.eval = #[.map (some r),.int .i64 i]:=Fc (k.evs A);simp only [execOp,resolve,y];refine (Xh (show _=Result.ok _ w from rfl)).trans ?_;exact (Xh (x:=(.tuple #[]:Value)) (w':=w1) j).trans rfl
      have N:c.argTypes[0]? = some t:=by
       obtain ⟨callee,args,argTypes⟩:=c;obtain ⟨ats⟩:=argTypes;simp only at B; subst B; rfl
      have l:∀ (o':Obj),(Qo m i=none->o' = .map es clock)->(∀ p,Qo m i=some p->o' = .map (es.eraseIdxIfInBounds p.1) clock)->(Builtin.delete_ c.argTypes o.type #[.map (some r),.int .i64 i]).run P w = .ok (.tuple #[]) {w with heap:=w.heap.setIfInBounds r o'}:=fun o' K L=>by
       unfold Builtin.delete_;simp only [N,show (#[Value.map (some r),Value.int .i64 i]:Array Value)[0]? = some (.map (some r)) from rfl,show (#[Value.map (some r),Value.int .i64 i]:Array Value)[1]? = some (.int .i64 i) from rfl];refine (Xh ((hT.row M).underlying w)).trans ?_;simp only
       refine (Xh (MapKept.run_getObj_map u)).trans ?_;simp only
       refine (Xh (Kw hT J rfl)).trans ?_;refine (Xh (K1 hT J rfl F)).trans ?_;cases E:Qo m i with
       |none=>rw [K E]; exact (Xh (Kc _ u)).trans rfl
       |some p=>obtain ⟨pi,pv⟩:=p; rw [L _ E]; exact (Xh (Kc _ u)).trans rfl
      cases d:Qo m i with
      |none =>
       refine Xa.head (fl:=false) (v := .tuple #[]) (e':=e) H (by rw [I]; rfl) (fun a k => .inl (D _ (l (.map es clock) (fun _=>rfl) (fun p q=>by rw [d] at q; cases q)) a k)) (hg _ ⟨_,_,I6 C,by rw [XbM d]; exact F⟩ I3 (by simp))
      |some p =>
       refine Xa.head (fl:=false) (v := .tuple #[]) (e':=e) H (by rw [I]; rfl) (fun a k => .inl (D _ (l (.map (es.eraseIdxIfInBounds p.1) clock) (fun h=>by rw [d] at h; cases h) (fun p' q=>by rw [d] at q; cases q; rfl)) a k)) (hg _ ⟨_,_,I6 C,?_⟩ I3 (by simp));have:=XcC (v:=p.2) (i:=p.1) F d;have O:(es.eraseIdxIfInBounds p.1).toList=es.toList.eraseIdx p.1:=by
        unfold Array.eraseIdxIfInBounds;split
        ·simp
        ·rename_i G
         rw [List.eraseIdx_of_length_le (by simpa using G)]
       rw [O];exact this
     ·cases h
    ·cases h
   ·cases h
  ·cases h
 ·cases h
def Si (o:Oper):Option Unit :=
 match o.op with
 |.makeMap _ none=>some ()
 |_=>none
theorem Xa.mkmap {d:Nat} (h:Qa Si n s e=some ((),d,s')) (hg:∀ r w1,r=w.heap.size->Yq w1 r []->Xc Xe w w1->w1.heap.size=w.heap.size+1->Xa P f R n ds s' ((d,false,.map (some r))::e) w1):Xa P f R n ds s e w:=by
 refine Xa.val (v := .map (some w.heap.size)) (w':={w with heap:=w.heap.push (.map #[] 0)}) h (fun o b a g => ?_) (hg _ _ rfl ⟨#[],0,by simp,rfl⟩ (Dx _ _) (by simp));unfold Si at b;split at b
 ·rename_i t c
  simp only [execOp,c,Option.map_none];refine (Xh (x:=(.map (some w.heap.size):Value)) (w':={w with heap:=w.heap.push (.map #[] 0)}) ?_).trans rfl;rfl
 ·cases b
def Kk (op:UnOp) (k:IntKind) (x:Int):Option Int :=
 match op with
 |.neg=>some (k.wrap (0 - x))
 |.xor=>some (Jx .xor k (if k.signed then -1 else k.max) x)
 |_=>none
def Xbm (e:Env) (o:Oper):Option (UnOp × IntKind × Int) :=
 match o.op with
 |.unOp op _ x=>match op,ev e x with
  |.neg,some (.int k a)=>some (.neg,k,a)
  |.xor,some (.int k a)=>some (.xor,k,a)
  |_,_=>none
 |_=>none
theorem XlF {op:UnOp} {k:IntKind} {x z:Int} {o:Oper} (h:Xbm e o=some (op,k,x)) (hz:Kk op k x=some z) (a:Act) (hf:X5 n a e) (w:World):(execOp a.eval o).run P w = .ok (.value (.int k z)) w:=by
 unfold Xbm at h;split at h
 ·rename_i g t i b
  split at h
  ·rename_i d f c
   cases h
   simp only [Kk,Option.some.injEq] at hz;subst hz;simp only [execOp,b,hf.ev c];refine (Xh (w':=w) ?_).trans rfl;simp only [Op.unary,Op.intArith];rfl
  ·rename_i d f c
   cases h
   simp only [Kk,Option.some.injEq] at hz;subst hz;simp only [execOp,b,hf.ev c];refine (Xh (w':=w) ?_).trans rfl;simp only [Op.unary,Op.intBits];rfl
  ·cases h
 ·cases h
theorem Xa.un (hT:Xp P T) {op:UnOp} {k:IntKind} {x z:Int} {d:Nat} {s2:List Item} {e2:Env} (h:Qa (Xbm e) n s e=some ((op,k,x),d,s')) (hz:Kk op k x=some z)
 (ha:Go.Proofs.YtohjeeapehmkcaaGreatDoor.adv T n 400 s' ((d,false,.int k z)::e)=(s2,e2)) (hg:Xa P f R n ds s2 e2 w):Xa P f R n ds s e w :=
 Xa.val h (fun _ b a c=>XlF b hz a c w) (Xa.adv hT 400 ha hg)
def Xe2 (T:Tab) (e:Env) (o:Oper):Option (ByteArray × Int) :=
 match o.op with
 |.index t x ix=>match ev e x,ev e ix,row T t with
  |some (.string b),some (.int _ i),some {und := .string,..}=>some (b,i)
  |_,_,_=>none
 |_=>none
theorem Xa.sidx (hT:Xp P T) {b:ByteArray} {i v:Int} {d:Nat} {s2:List Item} {e2:Env} (h:Qa (Xe2 T e) n s e=some ((b,i),d,s')) (h0:0<=i) (hv:(b[i.toNat]?).map (fun x=>(x.toNat:Int))=some v)
 (ha:Go.Proofs.YtohjeeapehmkcaaGreatDoor.adv T n 400 s' ((d,false,.int .u8 v)::e)=(s2,e2)) (hg:Xa P f R n ds s2 e2 w):Xa P f R n ds s e w:=by
 refine Xa.val (v := .int .u8 v) (w':=w) h (fun o c a g => ?_) (Xa.adv hT 400 ha hg);unfold Xe2 at c;split at c
 ·rename_i t x ix j
  split at c
  ·rename_i r m u _ _ _ p k q
   cases c
   simp only [execOp,j,g.ev p,g.ev k];refine (Xh (x:=(.int .u8 v:Value)) (w':=w) ?_).trans rfl;unfold Instr.index;refine (Xh (x:=(m,i)) (w':=w) rfl).trans ?_;simp only
   refine (Xh ((hT.row q).underlying w)).trans ?_;simp only [h0,if_true];cases l:b[i.toNat]? with
   |none=>rw [l] at hv; cases hv
   |some y=>rw [l] at hv; simp only [Option.map_some,Option.some.injEq] at hv; subst hv; rfl
  ·cases c
 ·cases c
def XbN (T:Tab) (e:Env) (o:Oper):Option (List Value × Int × Nat) :=
 match o.op with
 |.index t x ix=>match ev e x,ev e ix,row T t with
  |some (.agg cs),some (.int _ i),some {und := .array len q,..}=>match row T q with
   |some r2=>match Ht r2,Nat.beq r2.size 1 with
    |false,true=>some (cs.toList,i,len)
    |_,_=>none
   |none=>none
  |_,_,_=>none
 |_=>none
theorem Xa.aidx (hT:Xp P T) {vs:List Value} {i:Int} {v:Value} {d len:Nat} {s2:List Item} {e2:Env} (h:Qa (XbN T e) n s e=some ((vs,i,len),d,s')) (hlen':vs.length=len) (h0:0<=i) (hv:vs[i.toNat]? = some v)
 (ha:Go.Proofs.YtohjeeapehmkcaaGreatDoor.adv T n 400 s' ((d,false,v)::e)=(s2,e2)) (hg:Xa P f R n ds s2 e2 w):Xa P f R n ds s e w:=by
 refine Xa.val (v:=v) (w':=w) h (fun o b a j => ?_) (Xa.adv hT 400 ha hg);unfold XbN at b;split at b
 ·rename_i t x ix k
  split at b
  ·rename_i cs p z len q _ _ _ r l u
   split at b
   ·rename_i A c
    split at b
    ·rename_i g m
     cases b
     have y:i.toNat<cs.toList.length:=(List.getElem?_eq_some_iff.1 hv).1;simp only [execOp,k,j.ev r,j.ev l];refine (Xh (x:=v) (w':=w) ?_).trans rfl;unfold Instr.index;refine (Xh (x:=(p,i)) (w':=w) rfl).trans ?_;simp only
     refine (Xh ((hT.row u).underlying w)).trans ?_;simp only
     rw [if_pos ⟨h0,by omega⟩];refine (Xh ((hT.row c).sizeOf w)).trans ?_;rw [Nat.eq_of_beq_eq_true m,Nat.mul_one];unfold part;refine (Xh ((hT.row c).isAgg w)).trans ?_;rw [g];simp only [Bool.false_eq_true,if_false];rw [<- Array.getElem?_toList,hv];rfl
    ·cases b
   ·cases b
  ·cases b
 ·cases b
theorem Xd.bits (hT:Xp P T) (hB:Zm ops q=true) {op:BinOp} {kk:IntKind} {x y z:Int} {d i:Nat} {U2:List Nat} {e2:Env} (h:Q3 (Rn e) n ops q U e U=some ((op,kk,x,y),d,i)) (hz:Jx op kk x y=z)
 (ha:Zr T n ops q (Xu i U) (Xu i U) ((d,false,.int kk z)::e)=(U2,e2)) (hg:Xd P f R n ds k ops q S U2 e2 w0 w):Xd P f R n ds k ops q S U e w0 w :=
 Xd.val hT hB h (fun _ b a w' _ c=>XbZ b hz a c w') ha hg
theorem Xd.shift (hT:Xp P T) (hB:Zm ops q=true) {l:Bool} {kk:IntKind} {x y z:Int} {d i:Nat} {U2:List Nat} {e2:Env} (h:Q3 (Tj e) n ops q U e U=some ((l,kk,x,y),d,i)) (hy:0<=y) (hz:Jn l kk x y=z)
 (ha:Zr T n ops q (Xu i U) (Xu i U) ((d,false,.int kk z)::e)=(U2,e2)) (hg:Xd P f R n ds k ops q S U2 e2 w0 w):Xd P f R n ds k ops q S U e w0 w :=
 Xd.val hT hB h (fun _ b a w' _ c=>Xe1 b hy hz a c w') ha hg
theorem Xd.callQ {fk d i:Nat} {as:List Value} {Q:Value->World->Prop} (hB:Zm ops q=true) (hU:Cc ops q U U = [i]) (h:Bl (Er e) n ops e i=some ((fk,as),d))
 (hd:∀ w',Xc Xe w w'->Xf P fk as.toArray w' (fun v w2=>Xc S w' w2/\Q v w2)) (hg:∀ v w1,Xc S w w1->Q v w1->Xd P f R n ds k ops q S (Xu i U) ((d,false,v)::e) w0 w1):Xd P f R n ds k ops q S U e w0 w:=by
 refine Xd.turn1 hB hU fun w1 b => ?_;refine Xq.call (Post:=fun v w2=>Xc S w w2/\Q v w2) h (hd w (Xc.refl _ _)).fn (fun g=>(hd w1 b).mono fun v w2 ⟨a,c⟩=>⟨g.trans a,(b.mono fun _ _ h=>h.elim).trans a,c⟩) fun v w2 _ ⟨a,c⟩=>hg v w2 a c
end
end Go.Proofs.YtohjeeapehmkcaaGreatDoor
