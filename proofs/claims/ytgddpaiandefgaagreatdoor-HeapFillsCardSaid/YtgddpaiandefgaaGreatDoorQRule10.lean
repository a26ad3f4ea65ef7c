/-
  Rule10
-/
import Derived.Test.YtgddpaiandefgaaGreatDoorQRule9
import Derived.MapKept
namespace Go.Proofs.YtgddpaiandefgaaGreatDoor
open Go.RowKit
abbrev AL:=List (Int × Value)
def Xb7:AL→Int→Option (Nat × Value)
 |[],_=>none
 |(j,v)::r,k=>if k=j then some (0,v) else (Xb7 r k).map fun p=>(p.1+1,p.2)
def Xcj (m:AL) (k:Int):Option Value:=(Xb7 m k).map (·.2)
def XcC:AL→Int→Value→AL
 |[],k,v => [(k,v)]
 |(j,u)::r,k,v=>if k=j then (k,v)::r else (j,u)::XcC r k v
def XbZ:AL→Int→AL
 |[],_ => []
 |(j,u)::r,k=>if k=j then r else (j,u)::XbZ r k
def Xb9 (m:AL):List Int:=m.map (·.1)
theorem Xcm (k:Int):Xcj [] k=none:=rfl
theorem Xck (j:Int) (v:Value) (r:AL) (k:Int):Xcj ((j,v)::r) k=if k=j then some v else Xcj r k:=by
 unfold Xcj;simp only [Xb7];split
 ·rfl
 ·cases Xb7 r k <;> rfl
theorem Xcn {m:AL} {k:Int}:Xcj m k=none↔k ∉ Xb9 m:=by
 induction m with
 |nil=>simp [Xcm,Xb9]
 |cons p r ih =>
  obtain ⟨j,v⟩:=p;rw [Xck];simp only [Xb9,List.map_cons,List.mem_cons,not_or] at ih ⊢;by_cases h:k=j
  ·simp [h]
  ·rw [if_neg h]; simp [h,ih]
theorem Xco (m:AL) (k:Int) (v:Value) (j:Int):Xcj (XcC m k v) j=if j=k then some v else Xcj m j:=by
 induction m with
 |nil=>rw [XcC,Xck,Xcm]
 |cons p r ih =>
  obtain ⟨i,u⟩:=p;rw [XcC];by_cases h:k=i
  ·subst h;rw [if_pos rfl,Xck,Xck];by_cases a:j=k
   ·rw [if_pos a,if_pos a]
   ·rw [if_neg a,if_neg a,if_neg a]
  ·rw [if_neg h,Xck,Xck,ih];by_cases a:j=i
   ·subst a; rw [if_pos rfl,if_pos rfl,if_neg (fun e=>h e.symm)]
   ·rw [if_neg a,if_neg a]
theorem Xca (i:Int) (u:Value) (r:AL):Xb9 ((i,u)::r)=i::Xb9 r:=rfl
theorem Xcc (m:AL) (k:Int) (v:Value):Xb9 (XcC m k v)=if k ∈ Xb9 m then Xb9 m else Xb9 m ++ [k]:=by
 induction m with
 |nil=>simp [XcC,Xb9]
 |cons p r ih =>
  obtain ⟨i,u⟩:=p;rw [XcC];by_cases h:k=i
  ·subst h; rw [if_pos rfl,Xca,Xca,if_pos (by simp)]
  ·rw [if_neg h,Xca,Xca,ih];by_cases a:k ∈ Xb9 r
   ·rw [if_pos a,if_pos (by simp [a])]
   ·rw [if_neg a,if_neg (by simp [a,h])]; rfl
theorem Xcb (m:AL) (k:Int):Xb9 (XbZ m k)=(Xb9 m).erase k:=by
 induction m with
 |nil=>rfl
 |cons p r ih =>
  obtain ⟨i,u⟩:=p;rw [XbZ];by_cases h:k=i
  ·subst h; simp [Xb9]
  ·rw [if_neg h];simp only [Xb9,List.map_cons] at ih ⊢;rw [List.erase_cons_tail (by simpa using fun e=>h e.symm),ih]
theorem Xcl {m:AL} (hn:(Xb9 m).Nodup) (k j:Int):Xcj (XbZ m k) j=if j=k then none else Xcj m j:=by
 induction m with
 |nil=>rw [XbZ,Xcm]; split <;> rfl
 |cons p r ih =>
  obtain ⟨i,u⟩:=p;have b:i ∉ Xb9 r∧(Xb9 r).Nodup:=by simpa [Xb9] using hn
  rw [XbZ];by_cases h:k=i
  ·subst h;rw [if_pos rfl,Xck];by_cases a:j=k
   ·rw [if_pos a,a]; exact Xcn.2 b.1
   ·rw [if_neg a,if_neg a]
  ·rw [if_neg h,Xck,Xck,ih b.2];by_cases a:j=i
   ·subst a; rw [if_pos rfl,if_pos rfl,if_neg (fun e=>h e.symm)]
   ·rw [if_neg a,if_neg a]
theorem XcD (m:AL) (k:Int) (v:Value):(XcC m k v).length=if (Xcj m k).isSome then m.length else m.length+1:=by
 induction m with
 |nil=>rfl
 |cons p r ih =>
  obtain ⟨i,u⟩:=p;rw [XcC,Xck];by_cases h:k=i
  ·subst h; simp
  ·rw [if_neg h,if_neg h,List.length_cons,ih,List.length_cons]; split <;> omega
theorem Xb0 (m:AL) (k:Int):(XbZ m k).length=if (Xcj m k).isSome then m.length - 1 else m.length:=by
 induction m with
 |nil=>rfl
 |cons p r ih =>
  obtain ⟨i,u⟩:=p;rw [XbZ,Xck];by_cases h:k=i
  ·subst h; simp
  ·rw [if_neg h,if_neg h,List.length_cons,ih,List.length_cons];split
   ·rename_i a
    have:r ≠ []:=fun e=>by subst e; simp [Xcm] at a
    have:=List.length_pos_iff.2 this;omega
   ·rfl
theorem XlX {m:AL} (h:(Xb9 m).Nodup) (k:Int) (v:Value):(Xb9 (XcC m k v)).Nodup:=by
 rw [Xcc];split
 ·exact h
 ·rename_i d
  rw [List.nodup_append];exact ⟨h,by simp,fun a f b c e=>by simp at c; subst c; subst e; exact d f⟩
theorem XlV {m:AL} (h:(Xb9 m).Nodup) (k:Int):(Xb9 (XbZ m k)).Nodup:=by
 rw [Xcb]; exact h.erase k
def Xar (m:AL) (es:List MapEntry):Prop:=es.map (fun e=>(e.key,e.val))=m.map (fun p=>(Value.int .i64 p.1,p.2))
def XaL (w:World) (r:Nat) (m:AL):Prop := ∃ es clock,w.heap[r]? = some (.map es clock)∧Xar m es.toList
theorem XaL.chg {S:Nat→Prop} {w w':World} {r:Nat} {m:AL} (h:XaL w r m) (hc:Chg S w w') (hs:¬ S r):XaL w' r m:=by
 obtain ⟨es,clock,a,b⟩:=h;exact ⟨es,clock,hc.heap a hs,b⟩
theorem XaL.lt {w:World} {r:Nat} {m:AL} (h:XaL w r m):r<w.heap.size:=by
 obtain ⟨es,clock,a,_⟩:=h;exact Xkj a
theorem Xgp {q:IntKind} {k:Int}:∀ {m:AL} {es:List MapEntry} {i:Nat},Xar m es→Instr.findNow (.int q) (.int .i64 k) es i=some ((Xb7 m k).map fun p=>(i+p.1,p.2))
 |[],es,i,h=>by
  simp [Xar] at h; subst h; rfl
 |(j,v)::r,[],i,h=>by simp [Xar] at h
 |(j,v)::r,e::es,i,h=>by
  simp only [Xar,List.map_cons,List.cons.injEq,Prod.mk.injEq] at h;obtain ⟨⟨b,c⟩,d⟩:=h;simp only [Instr.findNow,b,Instr.sameNow,if_true,Xb7];by_cases a:k=j
  ·subst a; simp [c]
  ·have:(k == j)=false:=by simpa using a
   rw [this,if_neg a];simp only
   rw [Xgp (m:=r) d];cases Xb7 r k <;> simp; omega
theorem XfT {m:AL} {es:List MapEntry} {k:Int} {i:Nat} {v:Value} (h:Xar m es) (hf:Xb7 m k=some (i,v)):(es[i]?).map (·.key)=some (.int .i64 k):=by
 induction m generalizing es i with
 |nil=>cases hf
 |cons p r ih =>
  obtain ⟨j,u⟩:=p;cases es with
  |nil=>simp [Xar] at h
  |cons e es =>
   simp only [Xar,List.map_cons,List.cons.injEq,Prod.mk.injEq] at h;simp only [Xb7] at hf;by_cases a:k=j
   ·rw [if_pos a] at hf; cases hf; subst a; simp [h.1.1]
   ·rw [if_neg a] at hf;cases b:Xb7 r k with
    |none=>rw [b] at hf; cases hf
    |some q=>rw [b] at hf; cases hf; simpa using ih h.2 b
theorem XfW {m:AL} {es:List MapEntry} {k:Int} {i:Nat} {v v':Value} (h:Xar m es) (hf:Xb7 m k=some (i,v)):Xar (XcC m k v') (es.modify i fun e=>{e with key := .int .i64 k,val:=v'}):=by
 induction m generalizing es i with
 |nil=>cases hf
 |cons p r ih =>
  obtain ⟨j,u⟩:=p;cases es with
  |nil=>simp [Xar] at h
  |cons e es =>
   simp only [Xar,List.map_cons,List.cons.injEq,Prod.mk.injEq] at h;simp only [Xb7] at hf;rw [XcC];by_cases b:k=j
   ·rw [if_pos b] at hf ⊢; cases hf; simp [Xar,h.2]
   ·rw [if_neg b] at hf ⊢;cases a:Xb7 r k with
    |none=>rw [a] at hf; cases hf
    |some q =>
     rw [a] at hf; cases hf;have:=ih h.2 a;simp only [Xar] at this;simp [Xar,h.1,this]
theorem XfV {m:AL} {es:List MapEntry} {k:Int} {v:Value} {c:Nat} (h:Xar m es) (hf:Xb7 m k=none):Xar (XcC m k v) (es ++ [{key := .int .i64 k,val:=v,born:=c}]):=by
 induction m generalizing es with
 |nil=>simp [Xar] at h; subst h; simp [Xar,XcC]
 |cons p r ih =>
  obtain ⟨j,u⟩:=p;cases es with
  |nil=>simp [Xar] at h
  |cons e es =>
   simp only [Xar,List.map_cons,List.cons.injEq,Prod.mk.injEq] at h;simp only [Xb7] at hf;by_cases a:k=j
   ·rw [if_pos a] at hf; cases hf
   ·rw [if_neg a] at hf;have b:Xb7 r k=none:=by cases d:Xb7 r k with | none=>rfl | some q=>rw [d] at hf; cases hf
    have:=ih h.2 b;rw [XcC,if_neg a];simp only [Xar] at this ⊢;simp [h.1,this]
theorem XfS {m:AL} {es:List MapEntry} {k:Int} {i:Nat} {v:Value} (h:Xar m es) (hf:Xb7 m k=some (i,v)):Xar (XbZ m k) (es.eraseIdx i):=by
 induction m generalizing es i with
 |nil=>cases hf
 |cons p r ih =>
  obtain ⟨j,u⟩:=p;cases es with
  |nil=>simp [Xar] at h
  |cons e es =>
   simp only [Xar,List.map_cons,List.cons.injEq,Prod.mk.injEq] at h;simp only [Xb7] at hf;rw [XbZ];by_cases b:k=j
   ·rw [if_pos b] at hf ⊢; cases hf; simpa [Xar] using h.2
   ·rw [if_neg b] at hf ⊢;cases a:Xb7 r k with
    |none=>rw [a] at hf; cases hf
    |some q =>
     rw [a] at hf; cases hf;have:=ih h.2 a;simp only [Xar] at this;simp [Xar,h.1,this]
theorem Xb1 {m:AL} {k:Int} (hf:Xb7 m k=none):XbZ m k=m:=by
 induction m with
 |nil=>rfl
 |cons p r ih =>
  obtain ⟨j,u⟩:=p;simp only [Xb7] at hf;by_cases a:k=j
  ·rw [if_pos a] at hf; cases hf
  ·rw [if_neg a] at hf;have b:Xb7 r k=none:=by cases c:Xb7 r k with | none=>rfl | some q=>rw [c] at hf; cases hf
   rw [XbZ,if_neg a,ih b]
section
variable {P:Program} {T:Tab} {ops:Array Oper} {f:FuncId} {R:Aim} {k:List Item} {q n:Nat} {ds:List Deferred} {s s':List Item} {w w0 w':World} {e e':Env} {U:List Nat} {S:Nat→Prop}
theorem XeF {kt:Nat} {r:XbP} {b:Bool} {x:Int} (hT:XbE P T) (hr:row T kt=some r) (hu:r.und = .int .i64):(Instr.checkKey b 10000 kt (.int .i64 x)).run P w = .ok () w:=by
 unfold Instr.checkKey;refine (XqJ (by rw [(hT.row hr).underlying w,hu])).trans rfl
theorem Xgo {kt:Nat} {r:XbP} {x:Int} {m:AL} {es:List MapEntry} (hT:XbE P T) (hr:row T kt=some r) (hu:r.und = .int .i64) (h:Xar m es):(Instr.findKey kt (.int .i64 x) es).run P w = .ok (Xb7 m x) w:=by
 unfold Instr.findKey;refine (XqJ (by rw [(hT.row hr).underlying w,hu])).trans ?_;rw [Xgp h];simp only [Nat.zero_add];cases Xb7 m x <;> rfl
theorem XqL {r:Nat} {es:Array MapEntry} {clock:Nat} (o:Obj) (hb:w.heap[r]? = some (.map es clock)):(setObj r o).run P w = .ok () {w with heap:=w.heap.setIfInBounds r o}:=MapKept.run_setObj_map o hb
theorem XeX {r:Nat} {o:Obj}:Chg (fun b=>b=r) w {w with heap:=w.heap.setIfInBounds r o} :=
 ⟨rfl,rfl,rfl,by simp,fun b c a=>by simp [Ne.symm a]⟩
theorem XhT {r:Nat} {o:Obj} (h:r<w.heap.size):({w with heap:=w.heap.setIfInBounds r o}:World).heap[r]? = some o:=by simp [h]
def Xj4 (T:Tab) (e:Env) (o:Oper):Option (Option Nat × Value × Int × Bool) :=
 match o.op with
 |.lookup t x ix ok=>match ev e x,ev e ix,row T t with
  |some (.map r),some (.int .i64 i),some {und := .map kt et,..}=>match row T kt,row T et with
   |some {und := .int .i64,..},some re=>match re.zero with
    |some z=>some (r,z,i,ok)
    |none=>none
   |_,_=>none
  |_,_,_=>none
 |_=>none
def Xj6 (m:AL) (z:Value) (i:Int) (ok:Bool):Value :=
 match Xcj m i with
 |some v=>if ok then .tuple #[v,.bool true] else v
 |none=>if ok then .tuple #[z,.bool false] else z
def XaM (w:World) (r:Option Nat) (m:AL):Prop:=match r with
 |none=>m = []
 |some r=>XaL w r m
theorem Xj5 (hT:XbE P T) {r:Option Nat} {z:Value} {i:Int} {ok:Bool} {m:AL} {o:Oper} (h:Xj4 T e o=some (r,z,i,ok)) (hm:XaM w r m) (a:Act) (hf:Xau n a e):(execOp a.eval o).run P w = .ok (.value (Xj6 m z i ok)) w:=by
 unfold Xj4 at h;split at h
 ·rename_i t x ix ok1 b
  split at h
  ·rename_i A B kt et _ _ _ j c k
   split at h
   ·rename_i _ _ _ re d l
    split at h
    ·rename_i C q
     cases h
     simp only [execOp,b,hf.ev j,hf.ev c];refine (XqJ (x:=Xj6 m z i ok) (w':=w) ?_).trans rfl;unfold Instr.lookup;refine (XqJ ((hT.row k).underlying w)).trans ?_;simp only
     have key:∀ es:Array MapEntry,Xar m es.toList→((do
      Instr.checkKey es.isEmpty 10000 kt (.int .i64 i)
      let (v,ok') ← match ← Instr.findKey kt (.int .i64 i) es.toList with
       |some (_,v)=>pure (v,true)
       |none=>pure (← zeroValue et,false)
      pure (if ok then .tuple #[v,.bool ok'] else v)):Sem Value).run P w = .ok (Xj6 m z i ok) w:=fun es f=>by
      refine (XqJ (XeF hT d rfl)).trans ?_;refine (XqJ (Xgo hT d rfl f)).trans ?_;unfold Xj6 Xcj;cases y:Xb7 m i with
      |some p =>
       obtain ⟨pi,pv⟩:=p;simp only [Option.map_some];refine (XqJ (x:=(pv,true)) (w':=w) rfl).trans ?_;cases ok <;> rfl
      |none =>
       simp only [Option.map_none];refine (XqJ ((hT.row l).zero q w)).trans ?_;cases ok <;> rfl
     cases r with
     |none =>
      have g:m = []:=hm;exact key #[] (by rw [g]; rfl)
     |some r =>
      obtain ⟨es,clock,s,u⟩:=hm;refine (XqJ (MapKept.run_getObj_map s)).trans ?_;exact key es u
    ·cases h
   ·cases h
  ·cases h
 ·cases h
theorem Xay.lookup (hT:XbE P T) {r:Option Nat} {z v:Value} {i:Int} {ok:Bool} {m:AL} {d:Nat} {s2:List Item} {e2:Env} (h:XcY (Xj4 T e) n s e=some ((r,z,i,ok),d,s')) (hm:XaM w r m) (hv:Xj6 m z i ok=v)
 (ha:Go.Proofs.YtgddpaiandefgaaGreatDoor.adv T n 400 s' ((d,false,v)::e)=(s2,e2)) (hg:Xay P f R n ds s2 e2 w):Xay P f R n ds s e w:=by
 subst hv;exact Xay.val h (fun _ b a hf=>Xj5 hT b hm a hf) (Xay.adv hT 400 ha hg)
theorem XaM.chg {S:Nat→Prop} {w w':World} {r:Option Nat} {m:AL} (h:XaM w r m) (hc:Chg S w w') (hs:∀ b,r=some b → ¬ S b):XaM w' r m:=by
 cases r with
 |none=>exact h
 |some r=>exact XaL.chg h hc (hs r rfl)
theorem Xba.lookup (hT:XbE P T) {l l':List Oper} {K:Env→Prop} {r:Option Nat} {z v:Value} {i:Int} {ok:Bool} {m:AL} {d:Nat} {l2:List Oper} {e2:Env} (h:XcZ (Xj4 T e) n ops l e=some ((r,z,i,ok),d,l')) (hm:XaM w r m) (hv:Xj6 m z i ok=v)
 (ha:Xb4 T n ops l' ((d,false,v)::e)=(l2,e2)) (hg:Xba P n ops w l2 e2 K):Xba P n ops w l e K:=by
 subst hv;exact Xba.val hT h (fun _ c a w' b hf=>Xj5 hT c (hm.chg b (fun _ _ h=>h)) a hf) ha hg
theorem Xaq.lookup (hT:XbE P T) (hB:XfJ ops q=true) {r:Option Nat} {z v:Value} {x:Int} {ok:Bool} {m:AL} {d i:Nat} {U2:List Nat} {e2:Env} (h:Xgm (Xj4 T e) n ops q U e U=some ((r,z,x,ok),d,i)) (hm:XaM w0 r m) (hS:∀ b,r=some b → ¬ S b) (hv:Xj6 m z x ok=v)
 (ha:Xb2 T n ops q (rmN i U) (rmN i U) ((d,false,v)::e)=(U2,e2)) (hg:Xaq P f R n ds k ops q S U2 e2 w0 w):Xaq P f R n ds k ops q S U e w0 w:=by
 subst hv;exact Xaq.val hT hB h (fun _ g a _ c hf=>Xj5 hT g (hm.chg c hS) a hf) ha hg
def Xvt (T:Tab) (s:List Item) (e:Env):Option (Nat × Int × Value × List Item) :=
 match XhA s e with
 |some (o,s')=>match o.dst,o.op with
  |none,.mapUpdate t m k x=>match ev e m,ev e k,ev e x,row T t with
   |some (.map (some r)),some (.int .i64 i),some v,some {und := .map kt _,..}=>match row T kt with
    |some {und := .int .i64,..}=>some (r,i,v,s')
    |_=>none
   |_,_,_,_=>none
  |_,_=>none
 |none=>none
theorem XqM (x:Int):Instr.sameBits 10000 (.int .i64 x) (.int .i64 x)=true:=by simp [Instr.sameBits]
theorem Xay.mapset (hT:XbE P T) {r:Nat} {i:Int} {v:Value} {m:AL} (h:Xvt T s e=some (r,i,v,s')) (hm:XaL w r m)
 (hg:∀ w1,XaL w1 r (XcC m i v)→Chg (fun b=>b=r) w w1→w1.heap.size=w.heap.size→Xay P f R n ds s' e w1):Xay P f R n ds s e w:=by
 unfold Xvt at h;split at h
 ·rename_i o H A
  split at h
  ·rename_i t x y z B l
   split at h
   ·rename_i I J K kt et _ _ _ C D E F
    split at h
    ·rename_i _ _ _ k
     cases h
     obtain ⟨es,clock,g,j⟩:=hm;have q:=Xkj g;cases d:Xb7 m i with
     |none =>
      refine Xay.head' A B (w':={w with heap:=w.heap.setIfInBounds r (.map (es.push {key := .int .i64 i,val:=v,born:=clock}) (clock+1))}) (fun a hf => ?_)
       (hg _ ⟨_,_,XhT q,by simpa using XfV (c:=clock) j d⟩ XeX (by simp))
      simp only [execOp,l,hf.ev C,hf.ev D,hf.ev E];refine (XqJ (x:=()) (w':={w with heap:=w.heap.setIfInBounds r (.map (es.push {key := .int .i64 i,val:=v,born:=clock}) (clock+1))}) ?_).trans rfl;unfold Instr.mapUpdate;refine (XqJ ((hT.row F).underlying w)).trans ?_;simp only
      refine (XqJ (MapKept.run_getObj_map g)).trans ?_;simp only
      refine (XqJ (XeF hT k rfl)).trans ?_;refine (XqJ (Xgo hT k rfl j)).trans ?_;rw [d];exact XqL _ g
     |some p =>
      obtain ⟨pi,pv⟩:=p;have u:=XfT j d;have G:(((es[pi]?).map (·.key)).getD (.int .i64 i)) = .int .i64 i:=by rw [← Array.getElem?_toList,u]; rfl
      refine Xay.head' A B (w':={w with heap:=w.heap.setIfInBounds r (.map (es.modify pi fun e=>{e with key := .int .i64 i,val:=v}) clock)}) (fun a hf => ?_)
       (hg _ ⟨_,_,XhT q,by simpa using XfW (v':=v) j d⟩ XeX (by simp))
      simp only [execOp,l,hf.ev C,hf.ev D,hf.ev E];refine (XqJ (x:=()) (w':={w with heap:=w.heap.setIfInBounds r (.map (es.modify pi fun e=>{e with key := .int .i64 i,val:=v}) clock)}) ?_).trans rfl;unfold Instr.mapUpdate;refine (XqJ ((hT.row F).underlying w)).trans ?_;simp only
      refine (XqJ (MapKept.run_getObj_map g)).trans ?_;simp only
      refine (XqJ (XeF hT k rfl)).trans ?_;refine (XqJ (Xgo hT k rfl j)).trans ?_;rw [d];simp only
      refine (XqJ (x:=(.int .i64 i:Value)) (w':=w) ?_).trans ?_
      ·rw [G];unfold Instr.keyThatStays;rw [XqM,if_pos rfl]; rfl
      ·exact XqL _ g
    ·cases h
   ·cases h
  ·cases h
 ·cases h
def XfE (T:Tab) (s:List Item) (e:Env):Option (Nat × Int × List Item) :=
 match XhA s e with
 |some (o,s')=>match o.dst,o.op with
  |none,.call c=>match c.callee,evs e c.args.toList,c.argTypes.toList with
   |.builtin .delete,some [.map (some r),.int .i64 i],t::_=>match row T t with
    |some {und := .map kt _,..}=>match row T kt with
     |some {und := .int .i64,..}=>some (r,i,s')
     |_=>none
    |_=>none
   |_,_,_=>none
  |_,_=>none
 |none=>none
theorem Xay.mapdel (hT:XbE P T) {r:Nat} {i:Int} {m:AL} (h:XfE T s e=some (r,i,s')) (hm:XaL w r m)
 (hg:∀ w1,XaL w1 r (XbZ m i)→Chg (fun b=>b=r) w w1→w1.heap.size=w.heap.size→Xay P f R n ds s' e w1):Xay P f R n ds s e w:=by
 unfold XfE at h;split at h
 ·rename_i o O G
  split at h
  ·rename_i c H y
   split at h
   ·rename_i Q S t ts g z A
    split at h
    ·rename_i kt et _ _ _ L
     split at h
     ·rename_i _ _ _ I
      cases h
      obtain ⟨es,clock,q,E⟩:=hm;have B:=Xkj q;have C:∀ (w1:World),(Builtin.delete_ c.argTypes o.type #[.map (some r),.int .i64 i]).run P w = .ok (.tuple #[]) w1 → ∀ act,Xau n act e→(execOp act.eval o).run P w = .ok (.value (.tuple #[])) w1:=fun w1 j act hf=>by
       obtain ⟨dst,op,type,pos,after,guard⟩:=o;simp only at y
       subst y;obtain ⟨callee,args,argTypes⟩:=c;simp only at g z j
       subst g;have u:args.map act.eval = #[.map (some r),.int .i64 i]:=XkD (hf.evs z);simp only [execOp,resolve,u];refine (XqJ (show _=Result.ok _ w from rfl)).trans ?_;exact (XqJ (x:=(.tuple #[]:Value)) (w':=w1) j).trans rfl
      have M:c.argTypes[0]? = some t:=by
       obtain ⟨callee,args,argTypes⟩:=c;obtain ⟨ats⟩:=argTypes;simp only at A; subst A; rfl
      have k:∀ (o':Obj),(Xb7 m i=none→o' = .map es clock)→(∀ p,Xb7 m i=some p→o' = .map (es.eraseIdxIfInBounds p.1) clock)→(Builtin.delete_ c.argTypes o.type #[.map (some r),.int .i64 i]).run P w = .ok (.tuple #[]) {w with heap:=w.heap.setIfInBounds r o'}:=fun o' J K=>by
       unfold Builtin.delete_;simp only [M,show (#[Value.map (some r),Value.int .i64 i]:Array Value)[0]? = some (.map (some r)) from rfl,show (#[Value.map (some r),Value.int .i64 i]:Array Value)[1]? = some (.int .i64 i) from rfl];refine (XqJ ((hT.row L).underlying w)).trans ?_;simp only
       refine (XqJ (MapKept.run_getObj_map q)).trans ?_;simp only
       refine (XqJ (XeF hT I rfl)).trans ?_;refine (XqJ (Xgo hT I rfl E)).trans ?_;cases D:Xb7 m i with
       |none=>rw [J D]; exact (XqJ (XqL _ q)).trans rfl
       |some p=>obtain ⟨pi,pv⟩:=p; rw [K _ D]; exact (XqJ (XqL _ q)).trans rfl
      cases d:Xb7 m i with
      |none =>
       refine Xay.head (fl:=false) (v := .tuple #[]) (e':=e) G (by rw [H]; rfl) (fun a hf => .inl (C _ (k (.map es clock) (fun _=>rfl) (fun p l=>by rw [d] at l; cases l)) a hf)) (hg _ ⟨_,_,XhT B,by rw [Xb1 d]; exact E⟩ XeX (by simp))
      |some p =>
       refine Xay.head (fl:=false) (v := .tuple #[]) (e':=e) G (by rw [H]; rfl) (fun a hf => .inl (C _ (k (.map (es.eraseIdxIfInBounds p.1) clock) (fun h=>by rw [d] at h; cases h) (fun p' l=>by rw [d] at l; cases l; rfl)) a hf)) (hg _ ⟨_,_,XhT B,?_⟩ XeX (by simp));have:=XfS (v:=p.2) (i:=p.1) E d;have N:(es.eraseIdxIfInBounds p.1).toList=es.toList.eraseIdx p.1:=by
        unfold Array.eraseIdxIfInBounds;split
        ·simp
        ·rename_i F
         rw [List.eraseIdx_of_length_le (by simpa using F)]
       rw [N];exact this
     ·cases h
    ·cases h
   ·cases h
  ·cases h
 ·cases h
def Xk4 (o:Oper):Option Unit :=
 match o.op with
 |.makeMap _ none=>some ()
 |_=>none
theorem Xay.mkmap {d:Nat} (h:XcY Xk4 n s e=some ((),d,s')) (hg:∀ r w1,r=w.heap.size→XaL w1 r []→Chg XaX w w1→w1.heap.size=w.heap.size+1→Xay P f R n ds s' ((d,false,.map (some r))::e) w1):Xay P f R n ds s e w:=by
 refine Xay.val (v := .map (some w.heap.size)) (w':={w with heap:=w.heap.push (.map #[] 0)}) h (fun o b a hf => ?_) (hg _ _ rfl ⟨#[],0,by simp,rfl⟩ (XeT _ _) (by simp));unfold Xk4 at b;split at b
 ·rename_i t c
  simp only [execOp,c,Option.map_none];refine (XqJ (x:=(.map (some w.heap.size):Value)) (w':={w with heap:=w.heap.push (.map #[] 0)}) ?_).trans rfl;rfl
 ·cases b
def unZ (op:UnOp) (k:IntKind) (x:Int):Option Int :=
 match op with
 |.neg=>some (k.wrap (0 - x))
 |.xor=>some (Xdr .xor k (if k.signed then -1 else k.max) x)
 |_=>none
def Xvk (e:Env) (o:Oper):Option (UnOp × IntKind × Int) :=
 match o.op with
 |.unOp op _ x=>match op,ev e x with
  |.neg,some (.int k a)=>some (.neg,k,a)
  |.xor,some (.int k a)=>some (.xor,k,a)
  |_,_=>none
 |_=>none
theorem Xvl {op:UnOp} {k:IntKind} {x z:Int} {o:Oper} (h:Xvk e o=some (op,k,x)) (hz:unZ op k x=some z) (a:Act) (hf:Xau n a e) (w:World):(execOp a.eval o).run P w = .ok (.value (.int k z)) w:=by
 unfold Xvk at h;split at h
 ·rename_i g t i b
  split at h
  ·rename_i d f c
   cases h
   simp only [unZ,Option.some.injEq] at hz;subst hz;simp only [execOp,b,hf.ev c];refine (XqJ (w':=w) ?_).trans rfl;simp only [Op.unary,Op.intArith];rfl
  ·rename_i d f c
   cases h
   simp only [unZ,Option.some.injEq] at hz;subst hz;simp only [execOp,b,hf.ev c];refine (XqJ (w':=w) ?_).trans rfl;simp only [Op.unary,Op.intBits];rfl
  ·cases h
 ·cases h
theorem Xay.un (hT:XbE P T) {op:UnOp} {k:IntKind} {x z:Int} {d:Nat} {s2:List Item} {e2:Env} (h:XcY (Xvk e) n s e=some ((op,k,x),d,s')) (hz:unZ op k x=some z)
 (ha:Go.Proofs.YtgddpaiandefgaaGreatDoor.adv T n 400 s' ((d,false,.int k z)::e)=(s2,e2)) (hg:Xay P f R n ds s2 e2 w):Xay P f R n ds s e w :=
 Xay.val h (fun _ b a hf=>Xvl b hz a hf w) (Xay.adv hT 400 ha hg)
def XrX (T:Tab) (e:Env) (o:Oper):Option (ByteArray × Int) :=
 match o.op with
 |.index t x ix=>match ev e x,ev e ix,row T t with
  |some (.string b),some (.int _ i),some {und := .string,..}=>some (b,i)
  |_,_,_=>none
 |_=>none
theorem Xay.sidx (hT:XbE P T) {b:ByteArray} {i v:Int} {d:Nat} {s2:List Item} {e2:Env} (h:XcY (XrX T e) n s e=some ((b,i),d,s')) (h0:0≤i) (hv:(b[i.toNat]?).map (fun x=>(x.toNat:Int))=some v)
 (ha:Go.Proofs.YtgddpaiandefgaaGreatDoor.adv T n 400 s' ((d,false,.int .u8 v)::e)=(s2,e2)) (hg:Xay P f R n ds s2 e2 w):Xay P f R n ds s e w:=by
 refine Xay.val (v := .int .u8 v) (w':=w) h (fun o c a hf => ?_) (Xay.adv hT 400 ha hg);unfold XrX at c;split at c
 ·rename_i t x ix g
  split at c
  ·rename_i q l r _ _ _ m j p
   cases c
   simp only [execOp,g,hf.ev m,hf.ev j];refine (XqJ (x:=(.int .u8 v:Value)) (w':=w) ?_).trans rfl;unfold Instr.index;refine (XqJ (x:=(l,i)) (w':=w) rfl).trans ?_;simp only
   refine (XqJ ((hT.row p).underlying w)).trans ?_;simp only [h0,if_true];cases k:b[i.toNat]? with
   |none=>rw [k] at hv; cases hv
   |some y=>rw [k] at hv; simp only [Option.map_some,Option.some.injEq] at hv; subst hv; rfl
  ·cases c
 ·cases c
def Xb8 (T:Tab) (e:Env) (o:Oper):Option (List Value × Int × Nat) :=
 match o.op with
 |.index t x ix=>match ev e x,ev e ix,row T t with
  |some (.agg cs),some (.int _ i),some {und := .array len q,..}=>match row T q with
   |some r2=>match XiK r2,Nat.beq r2.size 1 with
    |false,true=>some (cs.toList,i,len)
    |_,_=>none
   |none=>none
  |_,_,_=>none
 |_=>none
theorem Xay.aidx (hT:XbE P T) {vs:List Value} {i:Int} {v:Value} {d len:Nat} {s2:List Item} {e2:Env} (h:XcY (Xb8 T e) n s e=some ((vs,i,len),d,s')) (hlen':vs.length=len) (h0:0≤i) (hv:vs[i.toNat]? = some v)
 (ha:Go.Proofs.YtgddpaiandefgaaGreatDoor.adv T n 400 s' ((d,false,v)::e)=(s2,e2)) (hg:Xay P f R n ds s2 e2 w):Xay P f R n ds s e w:=by
 refine Xay.val (v:=v) (w':=w) h (fun o b a hf => ?_) (Xay.adv hT 400 ha hg);unfold Xb8 at b;split at b
 ·rename_i t x ix j
  split at b
  ·rename_i cs m y len q _ _ _ p k r
   split at b
   ·rename_i z c
    split at b
    ·rename_i g l
     cases b
     have u:i.toNat<cs.toList.length:=(List.getElem?_eq_some_iff.1 hv).1;simp only [execOp,j,hf.ev p,hf.ev k];refine (XqJ (x:=v) (w':=w) ?_).trans rfl;unfold Instr.index;refine (XqJ (x:=(m,i)) (w':=w) rfl).trans ?_;simp only
     refine (XqJ ((hT.row r).underlying w)).trans ?_;simp only
     rw [if_pos ⟨h0,by omega⟩];refine (XqJ ((hT.row c).sizeOf w)).trans ?_;rw [Nat.eq_of_beq_eq_true l,Nat.mul_one];unfold part;refine (XqJ ((hT.row c).isAgg w)).trans ?_;rw [g];simp only [Bool.false_eq_true,if_false];rw [← Array.getElem?_toList,hv];rfl
    ·cases b
   ·cases b
  ·cases b
 ·cases b
theorem Xaq.bits (hT:XbE P T) (hB:XfJ ops q=true) {op:BinOp} {kk:IntKind} {x y z:Int} {d i:Nat} {U2:List Nat} {e2:Env} (h:Xgm (Xdw e) n ops q U e U=some ((op,kk,x,y),d,i)) (hz:Xdr op kk x y=z)
 (ha:Xb2 T n ops q (rmN i U) (rmN i U) ((d,false,.int kk z)::e)=(U2,e2)) (hg:Xaq P f R n ds k ops q S U2 e2 w0 w):Xaq P f R n ds k ops q S U e w0 w :=
 Xaq.val hT hB h (fun _ b a w' _ hf=>Xdx b hz a hf w') ha hg
theorem Xaq.shift (hT:XbE P T) (hB:XfJ ops q=true) {l:Bool} {kk:IntKind} {x y z:Int} {d i:Nat} {U2:List Nat} {e2:Env} (h:Xgm (XrV e) n ops q U e U=some ((l,kk,x,y),d,i)) (hy:0≤y) (hz:shV l kk x y=z)
 (ha:Xb2 T n ops q (rmN i U) (rmN i U) ((d,false,.int kk z)::e)=(U2,e2)) (hg:Xaq P f R n ds k ops q S U2 e2 w0 w):Xaq P f R n ds k ops q S U e w0 w :=
 Xaq.val hT hB h (fun _ b a w' _ hf=>XrW b hy hz a hf w') ha hg
theorem Xaq.callQ {fk d i:Nat} {as:List Value} {Q:Value→World→Prop} (hB:XfJ ops q=true) (hU:XgS ops q U U = [i]) (h:Xc2 (Xed e) n ops e i=some ((fk,as),d))
 (hd:∀ w',Chg XaX w w'→Xan P fk as.toArray w' (fun v w2=>Chg S w' w2∧Q v w2)) (hg:∀ v w1,Chg S w w1→Q v w1→Xaq P f R n ds k ops q S (rmN i U) ((d,false,v)::e) w0 w1):Xaq P f R n ds k ops q S U e w0 w:=by
 refine Xaq.turn1 hB hU fun w1 b => ?_;refine XbO.call (Post:=fun v w2=>Chg S w w2∧Q v w2) h (hd w (Chg.refl _ _)).fn (fun g=>(hd w1 b).mono fun v w2 ⟨a,c⟩=>⟨g.trans a,(b.mono fun _ _ h=>h.elim).trans a,c⟩) fun v w2 _ ⟨a,c⟩=>hg v w2 a c
end
end Go.Proofs.YtgddpaiandefgaaGreatDoor
