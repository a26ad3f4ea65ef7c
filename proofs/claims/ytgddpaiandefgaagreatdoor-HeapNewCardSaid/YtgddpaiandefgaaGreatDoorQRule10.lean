/-
  Rule10
-/
import Derived.Test.YtgddpaiandefgaaGreatDoorQRule9
import Derived.MapKept
namespace Go.Proofs.YtgddpaiandefgaaGreatDoor
open Go.RowKit
abbrev AL:=List (Int × Value)
def Xb0:AL→Int→Option (Nat × Value)
 |[],_=>none
 |(j,v)::r,k=>if k=j then some (0,v) else (Xb0 r k).map fun p=>(p.1+1,p.2)
def Xcc (m:AL) (k:Int):Option Value:=(Xb0 m k).map (·.2)
def Xcv:AL→Int→Value→AL
 |[],k,v => [(k,v)]
 |(j,u)::r,k,v=>if k=j then (k,v)::r else (j,u)::Xcv r k v
def XbS:AL→Int→AL
 |[],_ => []
 |(j,u)::r,k=>if k=j then r else (j,u)::XbS r k
def Xb2 (m:AL):List Int:=m.map (·.1)
theorem Xcf (k:Int):Xcc [] k=none:=rfl
theorem Xcd (j:Int) (v:Value) (r:AL) (k:Int):Xcc ((j,v)::r) k=if k=j then some v else Xcc r k:=by
 unfold Xcc;simp only [Xb0];split
 ·rfl
 ·cases Xb0 r k <;> rfl
theorem Xcg {m:AL} {k:Int}:Xcc m k=none↔k ∉ Xb2 m:=by
 induction m with
 |nil=>simp [Xcf,Xb2]
 |cons p r ih =>
  obtain ⟨j,v⟩:=p;rw [Xcd];simp only [Xb2,List.map_cons,List.mem_cons,not_or] at ih ⊢;by_cases h:k=j
  ·simp [h]
  ·rw [if_neg h]; simp [h,ih]
theorem Xch (m:AL) (k:Int) (v:Value) (j:Int):Xcc (Xcv m k v) j=if j=k then some v else Xcc m j:=by
 induction m with
 |nil=>rw [Xcv,Xcd,Xcf]
 |cons p r ih =>
  obtain ⟨i,u⟩:=p;rw [Xcv];by_cases h:k=i
  ·subst h;rw [if_pos rfl,Xcd,Xcd];by_cases a:j=k
   ·rw [if_pos a,if_pos a]
   ·rw [if_neg a,if_neg a,if_neg a]
  ·rw [if_neg h,Xcd,Xcd,ih];by_cases a:j=i
   ·subst a; rw [if_pos rfl,if_pos rfl,if_neg (fun e=>h e.symm)]
   ·rw [if_neg a,if_neg a]
theorem Xb3 (i:Int) (u:Value) (r:AL):Xb2 ((i,u)::r)=i::Xb2 r:=rfl
theorem Xb5 (m:AL) (k:Int) (v:Value):Xb2 (Xcv m k v)=if k ∈ Xb2 m then Xb2 m else Xb2 m ++ [k]:=by
 induction m with
 |nil=>simp [Xcv,Xb2]
 |cons p r ih =>
  obtain ⟨i,u⟩:=p;rw [Xcv];by_cases h:k=i
  ·subst h; rw [if_pos rfl,Xb3,Xb3,if_pos (by simp)]
  ·rw [if_neg h,Xb3,Xb3,ih];by_cases a:k ∈ Xb2 r
   ·rw [if_pos a,if_pos (by simp [a])]
   ·rw [if_neg a,if_neg (by simp [a,h])]; rfl
theorem Xb4 (m:AL) (k:Int):Xb2 (XbS m k)=(Xb2 m).erase k:=by
 induction m with
 |nil=>rfl
 |cons p r ih =>
  obtain ⟨i,u⟩:=p;rw [XbS];by_cases h:k=i
  ·subst h; simp [Xb2]
  ·rw [if_neg h];simp only [Xb2,List.map_cons] at ih ⊢;rw [List.erase_cons_tail (by simpa using fun e=>h e.symm),ih]
theorem Xce {m:AL} (hn:(Xb2 m).Nodup) (k j:Int):Xcc (XbS m k) j=if j=k then none else Xcc m j:=by
 induction m with
 |nil=>rw [XbS,Xcf]; split <;> rfl
 |cons p r ih =>
  obtain ⟨i,u⟩:=p;have b:i ∉ Xb2 r∧(Xb2 r).Nodup:=by simpa [Xb2] using hn
  rw [XbS];by_cases h:k=i
  ·subst h;rw [if_pos rfl,Xcd];by_cases a:j=k
   ·rw [if_pos a,a]; exact Xcg.2 b.1
   ·rw [if_neg a,if_neg a]
  ·rw [if_neg h,Xcd,Xcd,ih b.2];by_cases a:j=i
   ·subst a; rw [if_pos rfl,if_pos rfl,if_neg (fun e=>h e.symm)]
   ·rw [if_neg a,if_neg a]
theorem Xcw (m:AL) (k:Int) (v:Value):(Xcv m k v).length=if (Xcc m k).isSome then m.length else m.length+1:=by
 induction m with
 |nil=>rfl
 |cons p r ih =>
  obtain ⟨i,u⟩:=p;rw [Xcv,Xcd];by_cases h:k=i
  ·subst h; simp
  ·rw [if_neg h,if_neg h,List.length_cons,ih,List.length_cons]; split <;> omega
theorem XbT (m:AL) (k:Int):(XbS m k).length=if (Xcc m k).isSome then m.length - 1 else m.length:=by
 induction m with
 |nil=>rfl
 |cons p r ih =>
  obtain ⟨i,u⟩:=p;rw [XbS,Xcd];by_cases h:k=i
  ·subst h; simp
  ·rw [if_neg h,if_neg h,List.length_cons,ih,List.length_cons];split
   ·rename_i a
    have:r ≠ []:=fun e=>by subst e; simp [Xcf] at a
    have:=List.length_pos_iff.2 this;omega
   ·rfl
theorem Xk3 {m:AL} (h:(Xb2 m).Nodup) (k:Int) (v:Value):(Xb2 (Xcv m k v)).Nodup:=by
 rw [Xb5];split
 ·exact h
 ·rename_i d
  rw [List.nodup_append];exact ⟨h,by simp,fun a f b c e=>by simp at c; subst c; subst e; exact d f⟩
theorem Xk1 {m:AL} (h:(Xb2 m).Nodup) (k:Int):(Xb2 (XbS m k)).Nodup:=by
 rw [Xb4]; exact h.erase k
def Xar (m:AL) (es:List MapEntry):Prop:=es.map (fun e=>(e.key,e.val))=m.map (fun p=>(Value.int .i64 p.1,p.2))
def XaL (w:World) (r:Nat) (m:AL):Prop := ∃ es clock,w.heap[r]? = some (.map es clock)∧Xar m es.toList
theorem XaL.chg {S:Nat→Prop} {w w':World} {r:Nat} {m:AL} (h:XaL w r m) (hc:Chg S w w') (hs:¬ S r):XaL w' r m:=by
 obtain ⟨es,clock,a,b⟩:=h;exact ⟨es,clock,hc.heap a hs,b⟩
theorem XaL.lt {w:World} {r:Nat} {m:AL} (h:XaL w r m):r<w.heap.size:=by
 obtain ⟨es,clock,a,_⟩:=h;exact Xjs a
theorem Xf6 {q:IntKind} {k:Int}:∀ {m:AL} {es:List MapEntry} {i:Nat},Xar m es→Instr.findNow (.int q) (.int .i64 k) es i=some ((Xb0 m k).map fun p=>(i+p.1,p.2))
 |[],es,i,h=>by
  simp [Xar] at h; subst h; rfl
 |(j,v)::r,[],i,h=>by simp [Xar] at h
 |(j,v)::r,e::es,i,h=>by
  simp only [Xar,List.map_cons,List.cons.injEq,Prod.mk.injEq] at h;obtain ⟨⟨b,c⟩,d⟩:=h;simp only [Instr.findNow,b,Instr.sameNow,if_true,Xb0];by_cases a:k=j
  ·subst a; simp [c]
  ·have:(k == j)=false:=by simpa using a
   rw [this,if_neg a];simp only
   rw [Xf6 (m:=r) d];cases Xb0 r k <;> simp; omega
theorem XfC {m:AL} {es:List MapEntry} {k:Int} {i:Nat} {v:Value} (h:Xar m es) (hf:Xb0 m k=some (i,v)):(es[i]?).map (·.key)=some (.int .i64 k):=by
 induction m generalizing es i with
 |nil=>cases hf
 |cons p r ih =>
  obtain ⟨j,u⟩:=p;cases es with
  |nil=>simp [Xar] at h
  |cons e es =>
   simp only [Xar,List.map_cons,List.cons.injEq,Prod.mk.injEq] at h;simp only [Xb0] at hf;by_cases a:k=j
   ·rw [if_pos a] at hf; cases hf; subst a; simp [h.1.1]
   ·rw [if_neg a] at hf;cases b:Xb0 r k with
    |none=>rw [b] at hf; cases hf
    |some q=>rw [b] at hf; cases hf; simpa using ih h.2 b
theorem XfF {m:AL} {es:List MapEntry} {k:Int} {i:Nat} {v v':Value} (h:Xar m es) (hf:Xb0 m k=some (i,v)):Xar (Xcv m k v') (es.modify i fun e=>{e with key := .int .i64 k,val:=v'}):=by
 induction m generalizing es i with
 |nil=>cases hf
 |cons p r ih =>
  obtain ⟨j,u⟩:=p;cases es with
  |nil=>simp [Xar] at h
  |cons e es =>
   simp only [Xar,List.map_cons,List.cons.injEq,Prod.mk.injEq] at h;simp only [Xb0] at hf;rw [Xcv];by_cases b:k=j
   ·rw [if_pos b] at hf ⊢; cases hf; simp [Xar,h.2]
   ·rw [if_neg b] at hf ⊢;cases a:Xb0 r k with
    |none=>rw [a] at hf; cases hf
    |some q =>
     rw [a] at hf; cases hf;have:=ih h.2 a;simp only [Xar] at this;simp [Xar,h.1,this]
theorem XfE {m:AL} {es:List MapEntry} {k:Int} {v:Value} {c:Nat} (h:Xar m es) (hf:Xb0 m k=none):Xar (Xcv m k v) (es ++ [{key := .int .i64 k,val:=v,born:=c}]):=by
 induction m generalizing es with
 |nil=>simp [Xar] at h; subst h; simp [Xar,Xcv]
 |cons p r ih =>
  obtain ⟨j,u⟩:=p;cases es with
  |nil=>simp [Xar] at h
  |cons e es =>
   simp only [Xar,List.map_cons,List.cons.injEq,Prod.mk.injEq] at h;simp only [Xb0] at hf;by_cases a:k=j
   ·rw [if_pos a] at hf; cases hf
   ·rw [if_neg a] at hf;have b:Xb0 r k=none:=by cases d:Xb0 r k with | none=>rfl | some q=>rw [d] at hf; cases hf
    have:=ih h.2 b;rw [Xcv,if_neg a];simp only [Xar] at this ⊢;simp [h.1,this]
theorem XfB {m:AL} {es:List MapEntry} {k:Int} {i:Nat} {v:Value} (h:Xar m es) (hf:Xb0 m k=some (i,v)):Xar (XbS m k) (es.eraseIdx i):=by
 induction m generalizing es i with
 |nil=>cases hf
 |cons p r ih =>
  obtain ⟨j,u⟩:=p;cases es with
  |nil=>simp [Xar] at h
  |cons e es =>
   simp only [Xar,List.map_cons,List.cons.injEq,Prod.mk.injEq] at h;simp only [Xb0] at hf;rw [XbS];by_cases b:k=j
   ·rw [if_pos b] at hf ⊢; cases hf; simpa [Xar] using h.2
   ·rw [if_neg b] at hf ⊢;cases a:Xb0 r k with
    |none=>rw [a] at hf; cases hf
    |some q =>
     rw [a] at hf; cases hf;have:=ih h.2 a;simp only [Xar] at this;simp [Xar,h.1,this]
theorem XbU {m:AL} {k:Int} (hf:Xb0 m k=none):XbS m k=m:=by
 induction m with
 |nil=>rfl
 |cons p r ih =>
  obtain ⟨j,u⟩:=p;simp only [Xb0] at hf;by_cases a:k=j
  ·rw [if_pos a] at hf; cases hf
  ·rw [if_neg a] at hf;have b:Xb0 r k=none:=by cases c:Xb0 r k with | none=>rfl | some q=>rw [c] at hf; cases hf
   rw [XbS,if_neg a,ih b]
section
variable {P:Program} {T:Tab} {ops:Array Oper} {f:FuncId} {R:Aim} {k:List Item} {q n:Nat} {ds:List Deferred} {s s':List Item} {w w0 w':World} {e e':Env} {U:List Nat} {S:Nat→Prop}
theorem Xeq {kt:Nat} {r:XbL} {b:Bool} {x:Int} (hT:XbB P T) (hr:row T kt=some r) (hu:r.und = .int .i64):(Instr.checkKey b 10000 kt (.int .i64 x)).run P w = .ok () w:=by
 unfold Instr.checkKey;refine (Xpj (by rw [(hT.row hr).underlying w,hu])).trans rfl
theorem Xf5 {kt:Nat} {r:XbL} {x:Int} {m:AL} {es:List MapEntry} (hT:XbB P T) (hr:row T kt=some r) (hu:r.und = .int .i64) (h:Xar m es):(Instr.findKey kt (.int .i64 x) es).run P w = .ok (Xb0 m x) w:=by
 unfold Instr.findKey;refine (Xpj (by rw [(hT.row hr).underlying w,hu])).trans ?_;rw [Xf6 h];simp only [Nat.zero_add];cases Xb0 m x <;> rfl
theorem Xpl {r:Nat} {es:Array MapEntry} {clock:Nat} (o:Obj) (hb:w.heap[r]? = some (.map es clock)):(setObj r o).run P w = .ok () {w with heap:=w.heap.setIfInBounds r o}:=MapKept.run_setObj_map o hb
theorem XeI {r:Nat} {o:Obj}:Chg (fun b=>b=r) w {w with heap:=w.heap.setIfInBounds r o} :=
 ⟨rfl,rfl,rfl,by simp,fun b c a=>by simp [Ne.symm a]⟩
theorem Xhm {r:Nat} {o:Obj} (h:r<w.heap.size):({w with heap:=w.heap.setIfInBounds r o}:World).heap[r]? = some o:=by simp [h]
def Xjd (T:Tab) (e:Env) (o:Oper):Option (Option Nat × Value × Int × Bool) :=
 match o.op with
 |.lookup t x ix ok=>match ev e x,ev e ix,row T t with
  |some (.map r),some (.int .i64 i),some {und := .map kt et,..}=>match row T kt,row T et with
   |some {und := .int .i64,..},some re=>match re.zero with
    |some z=>some (r,z,i,ok)
    |none=>none
   |_,_=>none
  |_,_,_=>none
 |_=>none
def Xjf (m:AL) (z:Value) (i:Int) (ok:Bool):Value :=
 match Xcc m i with
 |some v=>if ok then .tuple #[v,.bool true] else v
 |none=>if ok then .tuple #[z,.bool false] else z
def XaM (w:World) (r:Option Nat) (m:AL):Prop:=match r with
 |none=>m = []
 |some r=>XaL w r m
theorem Xje (hT:XbB P T) {r:Option Nat} {z:Value} {i:Int} {ok:Bool} {m:AL} {o:Oper} (h:Xjd T e o=some (r,z,i,ok)) (hm:XaM w r m) (a:Act) (hf:Xau n a e):(execOp a.eval o).run P w = .ok (.value (Xjf m z i ok)) w:=by
 unfold Xjd at h;split at h
 ·rename_i t x ix ok1 b
  split at h
  ·rename_i A B kt et _ _ _ j c k
   split at h
   ·rename_i _ _ _ re d l
    split at h
    ·rename_i C q
     cases h
     simp only [execOp,b,hf.ev j,hf.ev c];refine (Xpj (x:=Xjf m z i ok) (w':=w) ?_).trans rfl;unfold Instr.lookup;refine (Xpj ((hT.row k).underlying w)).trans ?_;simp only
     have key:∀ es:Array MapEntry,Xar m es.toList→((do
      Instr.checkKey es.isEmpty 10000 kt (.int .i64 i)
      let (v,ok') ← match ← Instr.findKey kt (.int .i64 i) es.toList with
       |some (_,v)=>pure (v,true)
       |none=>pure (← zeroValue et,false)
      pure (if ok then .tuple #[v,.bool ok'] else v)):Sem Value).run P w = .ok (Xjf m z i ok) w:=fun es f=>by
      refine (Xpj (Xeq hT d rfl)).trans ?_;refine (Xpj (Xf5 hT d rfl f)).trans ?_;unfold Xjf Xcc;cases y:Xb0 m i with
      |some p =>
       obtain ⟨pi,pv⟩:=p;simp only [Option.map_some];refine (Xpj (x:=(pv,true)) (w':=w) rfl).trans ?_;cases ok <;> rfl
      |none =>
       simp only [Option.map_none];refine (Xpj ((hT.row l).zero q w)).trans ?_;cases ok <;> rfl
     cases r with
     |none =>
      have g:m = []:=hm;exact key #[] (by rw [g]; rfl)
     |some r =>
      obtain ⟨es,clock,s,u⟩:=hm;refine (Xpj (MapKept.run_getObj_map s)).trans ?_;exact key es u
    ·cases h
   ·cases h
  ·cases h
 ·cases h
theorem Xay.lookup (hT:XbB P T) {r:Option Nat} {z v:Value} {i:Int} {ok:Bool} {m:AL} {d:Nat} {s2:List Item} {e2:Env} (h:XcR (Xjd T e) n s e=some ((r,z,i,ok),d,s')) (hm:XaM w r m) (hv:Xjf m z i ok=v)
 (ha:Go.Proofs.YtgddpaiandefgaaGreatDoor.adv T n 400 s' ((d,false,v)::e)=(s2,e2)) (hg:Xay P f R n ds s2 e2 w):Xay P f R n ds s e w:=by
 subst hv;exact Xay.val h (fun _ b a c=>Xje hT b hm a c) (Xay.adv hT 400 ha hg)
theorem XaM.chg {S:Nat→Prop} {w w':World} {r:Option Nat} {m:AL} (h:XaM w r m) (hc:Chg S w w') (hs:∀ b,r=some b → ¬ S b):XaM w' r m:=by
 cases r with
 |none=>exact h
 |some r=>exact XaL.chg h hc (hs r rfl)
theorem Xa6.lookup (hT:XbB P T) {l l':List Oper} {K:Env→Prop} {r:Option Nat} {z v:Value} {i:Int} {ok:Bool} {m:AL} {d:Nat} {l2:List Oper} {e2:Env} (h:XcS (Xjd T e) n ops l e=some ((r,z,i,ok),d,l')) (hm:XaM w r m) (hv:Xjf m z i ok=v)
 (ha:XbX T n ops l' ((d,false,v)::e)=(l2,e2)) (hg:Xa6 P n ops w l2 e2 K):Xa6 P n ops w l e K:=by
 subst hv;exact Xa6.val hT h (fun _ c a w' b f=>Xje hT c (hm.chg b (fun _ _ h=>h)) a f) ha hg
theorem Xaq.lookup (hT:XbB P T) (hB:Xfs ops q=true) {r:Option Nat} {z v:Value} {x:Int} {ok:Bool} {m:AL} {d i:Nat} {U2:List Nat} {e2:Env} (h:Xf3 (Xjd T e) n ops q U e U=some ((r,z,x,ok),d,i)) (hm:XaM w0 r m) (hS:∀ b,r=some b → ¬ S b) (hv:Xjf m z x ok=v)
 (ha:XbV T n ops q (rmN i U) (rmN i U) ((d,false,v)::e)=(U2,e2)) (hg:Xaq P f R n ds k ops q S U2 e2 w0 w):Xaq P f R n ds k ops q S U e w0 w:=by
 subst hv;exact Xaq.val hT hB h (fun _ g a _ c j=>Xje hT g (hm.chg c hS) a j) ha hg
def XtG (T:Tab) (s:List Item) (e:Env):Option (Nat × Int × Value × List Item) :=
 match Xg6 s e with
 |some (o,s')=>match o.dst,o.op with
  |none,.mapUpdate t m k x=>match ev e m,ev e k,ev e x,row T t with
   |some (.map (some r)),some (.int .i64 i),some v,some {und := .map kt _,..}=>match row T kt with
    |some {und := .int .i64,..}=>some (r,i,v,s')
    |_=>none
   |_,_,_,_=>none
  |_,_=>none
 |none=>none
theorem Xpm (x:Int):Instr.sameBits 10000 (.int .i64 x) (.int .i64 x)=true:=by simp [Instr.sameBits]
theorem Xay.mapset (hT:XbB P T) {r:Nat} {i:Int} {v:Value} {m:AL} (h:XtG T s e=some (r,i,v,s')) (hm:XaL w r m)
 (hg:∀ w1,XaL w1 r (Xcv m i v)→Chg (fun b=>b=r) w w1→w1.heap.size=w.heap.size→Xay P f R n ds s' e w1):Xay P f R n ds s e w:=by
 unfold XtG at h;split at h
 ·rename_i o I B
  split at h
  ·rename_i t x y z C q
   split at h
   ·rename_i J K L kt et _ _ _ D E F G
    split at h
    ·rename_i _ _ _ l
     cases h
     obtain ⟨es,clock,j,k⟩:=hm;have u:=Xjs j;cases d:Xb0 m i with
     |none =>
      refine Xay.head' B C (w':={w with heap:=w.heap.setIfInBounds r (.map (es.push {key := .int .i64 i,val:=v,born:=clock}) (clock+1))}) (fun a g => ?_)
       (hg _ ⟨_,_,Xhm u,by simpa using XfE (c:=clock) k d⟩ XeI (by simp))
      simp only [execOp,q,g.ev D,g.ev E,g.ev F];refine (Xpj (x:=()) (w':={w with heap:=w.heap.setIfInBounds r (.map (es.push {key := .int .i64 i,val:=v,born:=clock}) (clock+1))}) ?_).trans rfl;unfold Instr.mapUpdate;refine (Xpj ((hT.row G).underlying w)).trans ?_;simp only
      refine (Xpj (MapKept.run_getObj_map j)).trans ?_;simp only
      refine (Xpj (Xeq hT l rfl)).trans ?_;refine (Xpj (Xf5 hT l rfl k)).trans ?_;rw [d];exact Xpl _ j
     |some p =>
      obtain ⟨pi,pv⟩:=p;have A:=XfC k d;have H:(((es[pi]?).map (·.key)).getD (.int .i64 i)) = .int .i64 i:=by rw [← Array.getElem?_toList,A]; rfl
      refine Xay.head' B C (w':={w with heap:=w.heap.setIfInBounds r (.map (es.modify pi fun e=>{e with key := .int .i64 i,val:=v}) clock)}) (fun a g => ?_)
       (hg _ ⟨_,_,Xhm u,by simpa using XfF (v':=v) k d⟩ XeI (by simp))
      simp only [execOp,q,g.ev D,g.ev E,g.ev F];refine (Xpj (x:=()) (w':={w with heap:=w.heap.setIfInBounds r (.map (es.modify pi fun e=>{e with key := .int .i64 i,val:=v}) clock)}) ?_).trans rfl;unfold Instr.mapUpdate;refine (Xpj ((hT.row G).underlying w)).trans ?_;simp only
      refine (Xpj (MapKept.run_getObj_map j)).trans ?_;simp only
      refine (Xpj (Xeq hT l rfl)).trans ?_;refine (Xpj (Xf5 hT l rfl k)).trans ?_;rw [d];simp only
      refine (Xpj (x:=(.int .i64 i:Value)) (w':=w) ?_).trans ?_
      ·rw [H];unfold Instr.keyThatStays;rw [Xpm,if_pos rfl]; rfl
      ·exact Xpl _ j
    ·cases h
   ·cases h
  ·cases h
 ·cases h
def Xfn (T:Tab) (s:List Item) (e:Env):Option (Nat × Int × List Item) :=
 match Xg6 s e with
 |some (o,s')=>match o.dst,o.op with
  |none,.call c=>match c.callee,evs e c.args.toList,c.argTypes.toList with
   |.builtin .delete,some [.map (some r),.int .i64 i],t::_=>match row T t with
    |some {und := .map kt _,..}=>match row T kt with
     |some {und := .int .i64,..}=>some (r,i,s')
     |_=>none
    |_=>none
   |_,_,_=>none
  |_,_=>none
 |none=>none
theorem Xay.mapdel (hT:XbB P T) {r:Nat} {i:Int} {m:AL} (h:Xfn T s e=some (r,i,s')) (hm:XaL w r m)
 (hg:∀ w1,XaL w1 r (XbS m i)→Chg (fun b=>b=r) w w1→w1.heap.size=w.heap.size→Xay P f R n ds s' e w1):Xay P f R n ds s e w:=by
 unfold Xfn at h;split at h
 ·rename_i o Q H
  split at h
  ·rename_i c I z
   split at h
   ·rename_i S U t ts g A B
    split at h
    ·rename_i kt et _ _ _ M
     split at h
     ·rename_i _ _ _ J
      cases h
      obtain ⟨es,clock,u,F⟩:=hm;have C:=Xjs u;have D:∀ (w1:World),(Builtin.delete_ c.argTypes o.type #[.map (some r),.int .i64 i]).run P w = .ok (.tuple #[]) w1 → ∀ act,Xau n act e→(execOp act.eval o).run P w = .ok (.value (.tuple #[])) w1:=fun w1 j act k=>by
       obtain ⟨dst,op,type,pos,after,guard⟩:=o;simp only at z
       subst z;obtain ⟨callee,args,argTypes⟩:=c;simp only at g A j
       subst g;have y:args.map act.eval = #[.map (some r),.int .i64 i]:=XjJ (k.evs A);simp only [execOp,resolve,y];refine (Xpj (show _=Result.ok _ w from rfl)).trans ?_;exact (Xpj (x:=(.tuple #[]:Value)) (w':=w1) j).trans rfl
      have N:c.argTypes[0]? = some t:=by
       obtain ⟨callee,args,argTypes⟩:=c;obtain ⟨ats⟩:=argTypes;simp only at B; subst B; rfl
      have l:∀ (o':Obj),(Xb0 m i=none→o' = .map es clock)→(∀ p,Xb0 m i=some p→o' = .map (es.eraseIdxIfInBounds p.1) clock)→(Builtin.delete_ c.argTypes o.type #[.map (some r),.int .i64 i]).run P w = .ok (.tuple #[]) {w with heap:=w.heap.setIfInBounds r o'}:=fun o' K L=>by
       unfold Builtin.delete_;simp only [N,show (#[Value.map (some r),Value.int .i64 i]:Array Value)[0]? = some (.map (some r)) from rfl,show (#[Value.map (some r),Value.int .i64 i]:Array Value)[1]? = some (.int .i64 i) from rfl];refine (Xpj ((hT.row M).underlying w)).trans ?_;simp only
       refine (Xpj (MapKept.run_getObj_map u)).trans ?_;simp only
       refine (Xpj (Xeq hT J rfl)).trans ?_;refine (Xpj (Xf5 hT J rfl F)).trans ?_;cases E:Xb0 m i with
       |none=>rw [K E]; exact (Xpj (Xpl _ u)).trans rfl
       |some p=>obtain ⟨pi,pv⟩:=p; rw [L _ E]; exact (Xpj (Xpl _ u)).trans rfl
      cases d:Xb0 m i with
      |none =>
       refine Xay.head (fl:=false) (v := .tuple #[]) (e':=e) H (by rw [I]; rfl) (fun a k => .inl (D _ (l (.map es clock) (fun _=>rfl) (fun p q=>by rw [d] at q; cases q)) a k)) (hg _ ⟨_,_,Xhm C,by rw [XbU d]; exact F⟩ XeI (by simp))
      |some p =>
       refine Xay.head (fl:=false) (v := .tuple #[]) (e':=e) H (by rw [I]; rfl) (fun a k => .inl (D _ (l (.map (es.eraseIdxIfInBounds p.1) clock) (fun h=>by rw [d] at h; cases h) (fun p' q=>by rw [d] at q; cases q; rfl)) a k)) (hg _ ⟨_,_,Xhm C,?_⟩ XeI (by simp));have:=XfB (v:=p.2) (i:=p.1) F d;have O:(es.eraseIdxIfInBounds p.1).toList=es.toList.eraseIdx p.1:=by
        unfold Array.eraseIdxIfInBounds;split
        ·simp
        ·rename_i G
         rw [List.eraseIdx_of_length_le (by simpa using G)]
       rw [O];exact this
     ·cases h
    ·cases h
   ·cases h
  ·cases h
 ·cases h
def Xka (o:Oper):Option Unit :=
 match o.op with
 |.makeMap _ none=>some ()
 |_=>none
theorem Xay.mkmap {d:Nat} (h:XcR Xka n s e=some ((),d,s')) (hg:∀ r w1,r=w.heap.size→XaL w1 r []→Chg XaW w w1→w1.heap.size=w.heap.size+1→Xay P f R n ds s' ((d,false,.map (some r))::e) w1):Xay P f R n ds s e w:=by
 refine Xay.val (v := .map (some w.heap.size)) (w':={w with heap:=w.heap.push (.map #[] 0)}) h (fun o b a g => ?_) (hg _ _ rfl ⟨#[],0,by simp,rfl⟩ (XeE _ _) (by simp));unfold Xka at b;split at b
 ·rename_i t c
  simp only [execOp,c,Option.map_none];refine (Xpj (x:=(.map (some w.heap.size):Value)) (w':={w with heap:=w.heap.push (.map #[] 0)}) ?_).trans rfl;rfl
 ·cases b
def unZ (op:UnOp) (k:IntKind) (x:Int):Option Int :=
 match op with
 |.neg=>some (k.wrap (0 - x))
 |.xor=>some (Xdi .xor k (if k.signed then -1 else k.max) x)
 |_=>none
def Xtx (e:Env) (o:Oper):Option (UnOp × IntKind × Int) :=
 match o.op with
 |.unOp op _ x=>match op,ev e x with
  |.neg,some (.int k a)=>some (.neg,k,a)
  |.xor,some (.int k a)=>some (.xor,k,a)
  |_,_=>none
 |_=>none
theorem Xty {op:UnOp} {k:IntKind} {x z:Int} {o:Oper} (h:Xtx e o=some (op,k,x)) (hz:unZ op k x=some z) (a:Act) (hf:Xau n a e) (w:World):(execOp a.eval o).run P w = .ok (.value (.int k z)) w:=by
 unfold Xtx at h;split at h
 ·rename_i g t i b
  split at h
  ·rename_i d f c
   cases h
   simp only [unZ,Option.some.injEq] at hz;subst hz;simp only [execOp,b,hf.ev c];refine (Xpj (w':=w) ?_).trans rfl;simp only [Op.unary,Op.intArith];rfl
  ·rename_i d f c
   cases h
   simp only [unZ,Option.some.injEq] at hz;subst hz;simp only [execOp,b,hf.ev c];refine (Xpj (w':=w) ?_).trans rfl;simp only [Op.unary,Op.intBits];rfl
  ·cases h
 ·cases h
theorem Xay.un (hT:XbB P T) {op:UnOp} {k:IntKind} {x z:Int} {d:Nat} {s2:List Item} {e2:Env} (h:XcR (Xtx e) n s e=some ((op,k,x),d,s')) (hz:unZ op k x=some z)
 (ha:Go.Proofs.YtgddpaiandefgaaGreatDoor.adv T n 400 s' ((d,false,.int k z)::e)=(s2,e2)) (hg:Xay P f R n ds s2 e2 w):Xay P f R n ds s e w :=
 Xay.val h (fun _ b a c=>Xty b hz a c w) (Xay.adv hT 400 ha hg)
def Xqw (T:Tab) (e:Env) (o:Oper):Option (ByteArray × Int) :=
 match o.op with
 |.index t x ix=>match ev e x,ev e ix,row T t with
  |some (.string b),some (.int _ i),some {und := .string,..}=>some (b,i)
  |_,_,_=>none
 |_=>none
theorem Xay.sidx (hT:XbB P T) {b:ByteArray} {i v:Int} {d:Nat} {s2:List Item} {e2:Env} (h:XcR (Xqw T e) n s e=some ((b,i),d,s')) (h0:0≤i) (hv:(b[i.toNat]?).map (fun x=>(x.toNat:Int))=some v)
 (ha:Go.Proofs.YtgddpaiandefgaaGreatDoor.adv T n 400 s' ((d,false,.int .u8 v)::e)=(s2,e2)) (hg:Xay P f R n ds s2 e2 w):Xay P f R n ds s e w:=by
 refine Xay.val (v := .int .u8 v) (w':=w) h (fun o c a g => ?_) (Xay.adv hT 400 ha hg);unfold Xqw at c;split at c
 ·rename_i t x ix j
  split at c
  ·rename_i r m u _ _ _ p k q
   cases c
   simp only [execOp,j,g.ev p,g.ev k];refine (Xpj (x:=(.int .u8 v:Value)) (w':=w) ?_).trans rfl;unfold Instr.index;refine (Xpj (x:=(m,i)) (w':=w) rfl).trans ?_;simp only
   refine (Xpj ((hT.row q).underlying w)).trans ?_;simp only [h0,if_true];cases l:b[i.toNat]? with
   |none=>rw [l] at hv; cases hv
   |some y=>rw [l] at hv; simp only [Option.map_some,Option.some.injEq] at hv; subst hv; rfl
  ·cases c
 ·cases c
def Xb1 (T:Tab) (e:Env) (o:Oper):Option (List Value × Int × Nat) :=
 match o.op with
 |.index t x ix=>match ev e x,ev e ix,row T t with
  |some (.agg cs),some (.int _ i),some {und := .array len q,..}=>match row T q with
   |some r2=>match Xh2 r2,Nat.beq r2.size 1 with
    |false,true=>some (cs.toList,i,len)
    |_,_=>none
   |none=>none
  |_,_,_=>none
 |_=>none
theorem Xay.aidx (hT:XbB P T) {vs:List Value} {i:Int} {v:Value} {d len:Nat} {s2:List Item} {e2:Env} (h:XcR (Xb1 T e) n s e=some ((vs,i,len),d,s')) (hlen':vs.length=len) (h0:0≤i) (hv:vs[i.toNat]? = some v)
 (ha:Go.Proofs.YtgddpaiandefgaaGreatDoor.adv T n 400 s' ((d,false,v)::e)=(s2,e2)) (hg:Xay P f R n ds s2 e2 w):Xay P f R n ds s e w:=by
 refine Xay.val (v:=v) (w':=w) h (fun o b a j => ?_) (Xay.adv hT 400 ha hg);unfold Xb1 at b;split at b
 ·rename_i t x ix k
  split at b
  ·rename_i cs p z len q _ _ _ r l u
   split at b
   ·rename_i A c
    split at b
    ·rename_i g m
     cases b
     have y:i.toNat<cs.toList.length:=(List.getElem?_eq_some_iff.1 hv).1;simp only [execOp,k,j.ev r,j.ev l];refine (Xpj (x:=v) (w':=w) ?_).trans rfl;unfold Instr.index;refine (Xpj (x:=(p,i)) (w':=w) rfl).trans ?_;simp only
     refine (Xpj ((hT.row u).underlying w)).trans ?_;simp only
     rw [if_pos ⟨h0,by omega⟩];refine (Xpj ((hT.row c).sizeOf w)).trans ?_;rw [Nat.eq_of_beq_eq_true m,Nat.mul_one];unfold part;refine (Xpj ((hT.row c).isAgg w)).trans ?_;rw [g];simp only [Bool.false_eq_true,if_false];rw [← Array.getElem?_toList,hv];rfl
    ·cases b
   ·cases b
  ·cases b
 ·cases b
theorem Xaq.bits (hT:XbB P T) (hB:Xfs ops q=true) {op:BinOp} {kk:IntKind} {x y z:Int} {d i:Nat} {U2:List Nat} {e2:Env} (h:Xf3 (Xdn e) n ops q U e U=some ((op,kk,x,y),d,i)) (hz:Xdi op kk x y=z)
 (ha:XbV T n ops q (rmN i U) (rmN i U) ((d,false,.int kk z)::e)=(U2,e2)) (hg:Xaq P f R n ds k ops q S U2 e2 w0 w):Xaq P f R n ds k ops q S U e w0 w :=
 Xaq.val hT hB h (fun _ b a w' _ c=>Xdo b hz a c w') ha hg
theorem Xaq.shift (hT:XbB P T) (hB:Xfs ops q=true) {l:Bool} {kk:IntKind} {x y z:Int} {d i:Nat} {U2:List Nat} {e2:Env} (h:Xf3 (Xqu e) n ops q U e U=some ((l,kk,x,y),d,i)) (hy:0≤y) (hz:shV l kk x y=z)
 (ha:XbV T n ops q (rmN i U) (rmN i U) ((d,false,.int kk z)::e)=(U2,e2)) (hg:Xaq P f R n ds k ops q S U2 e2 w0 w):Xaq P f R n ds k ops q S U e w0 w :=
 Xaq.val hT hB h (fun _ b a w' _ c=>Xqv b hy hz a c w') ha hg
theorem Xaq.callQ {fk d i:Nat} {as:List Value} {Q:Value→World→Prop} (hB:Xfs ops q=true) (hU:Xgp ops q U U = [i]) (h:XcV (XdZ e) n ops e i=some ((fk,as),d))
 (hd:∀ w',Chg XaW w w'→Xan P fk as.toArray w' (fun v w2=>Chg S w' w2∧Q v w2)) (hg:∀ v w1,Chg S w w1→Q v w1→Xaq P f R n ds k ops q S (rmN i U) ((d,false,v)::e) w0 w1):Xaq P f R n ds k ops q S U e w0 w:=by
 refine Xaq.turn1 hB hU fun w1 b => ?_;refine XbK.call (Post:=fun v w2=>Chg S w w2∧Q v w2) h (hd w (Chg.refl _ _)).fn (fun g=>(hd w1 b).mono fun v w2 ⟨a,c⟩=>⟨g.trans a,(b.mono fun _ _ h=>h.elim).trans a,c⟩) fun v w2 _ ⟨a,c⟩=>hg v w2 a c
end
end Go.Proofs.YtgddpaiandefgaaGreatDoor
