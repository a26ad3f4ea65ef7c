/-
  Rule10
-/
import Derived.Test.YtgddpaiandefgaaGreatDoorQRule9
import Derived.MapKept
namespace Go.Proofs.YtgddpaiandefgaaGreatDoor
open Go.RowKit
abbrev AL:=List (Int × Value)
def XbZ:AL→Int→Option (Nat × Value)
 |[],_=>none
 |(j,v)::r,k=>if k=j then some (0,v) else (XbZ r k).map fun p=>(p.1+1,p.2)
def Xcb (m:AL) (k:Int):Option Value:=(XbZ m k).map (·.2)
def Xcu:AL→Int→Value→AL
 |[],k,v => [(k,v)]
 |(j,u)::r,k,v=>if k=j then (k,v)::r else (j,u)::Xcu r k v
def XbR:AL→Int→AL
 |[],_ => []
 |(j,u)::r,k=>if k=j then r else (j,u)::XbR r k
def Xb1 (m:AL):List Int:=m.map (·.1)
theorem Xce (k:Int):Xcb [] k=none:=rfl
theorem Xcc (j:Int) (v:Value) (r:AL) (k:Int):Xcb ((j,v)::r) k=if k=j then some v else Xcb r k:=by
 unfold Xcb;simp only [XbZ];split
 ·rfl
 ·cases XbZ r k <;> rfl
theorem Xcf {m:AL} {k:Int}:Xcb m k=none↔k ∉ Xb1 m:=by
 induction m with
 |nil=>simp [Xce,Xb1]
 |cons p r ih =>
  obtain ⟨j,v⟩:=p;rw [Xcc];simp only [Xb1,List.map_cons,List.mem_cons,not_or] at ih ⊢;by_cases h:k=j
  ·simp [h]
  ·rw [if_neg h]; simp [h,ih]
theorem Xcg (m:AL) (k:Int) (v:Value) (j:Int):Xcb (Xcu m k v) j=if j=k then some v else Xcb m j:=by
 induction m with
 |nil=>rw [Xcu,Xcc,Xce]
 |cons p r ih =>
  obtain ⟨i,u⟩:=p;rw [Xcu];by_cases h:k=i
  ·subst h;rw [if_pos rfl,Xcc,Xcc];by_cases a:j=k
   ·rw [if_pos a,if_pos a]
   ·rw [if_neg a,if_neg a,if_neg a]
  ·rw [if_neg h,Xcc,Xcc,ih];by_cases a:j=i
   ·subst a; rw [if_pos rfl,if_pos rfl,if_neg (fun e=>h e.symm)]
   ·rw [if_neg a,if_neg a]
theorem Xb2 (i:Int) (u:Value) (r:AL):Xb1 ((i,u)::r)=i::Xb1 r:=rfl
theorem Xb4 (m:AL) (k:Int) (v:Value):Xb1 (Xcu m k v)=if k ∈ Xb1 m then Xb1 m else Xb1 m ++ [k]:=by
 induction m with
 |nil=>simp [Xcu,Xb1]
 |cons p r ih =>
  obtain ⟨i,u⟩:=p;rw [Xcu];by_cases h:k=i
  ·subst h; rw [if_pos rfl,Xb2,Xb2,if_pos (by simp)]
  ·rw [if_neg h,Xb2,Xb2,ih];by_cases a:k ∈ Xb1 r
   ·rw [if_pos a,if_pos (by simp [a])]
   ·rw [if_neg a,if_neg (by simp [a,h])]; rfl
theorem Xb3 (m:AL) (k:Int):Xb1 (XbR m k)=(Xb1 m).erase k:=by
 induction m with
 |nil=>rfl
 |cons p r ih =>
  obtain ⟨i,u⟩:=p;rw [XbR];by_cases h:k=i
  ·subst h; simp [Xb1]
  ·rw [if_neg h];simp only [Xb1,List.map_cons] at ih ⊢;rw [List.erase_cons_tail (by simpa using fun e=>h e.symm),ih]
theorem Xcd {m:AL} (hn:(Xb1 m).Nodup) (k j:Int):Xcb (XbR m k) j=if j=k then none else Xcb m j:=by
 induction m with
 |nil=>rw [XbR,Xce]; split <;> rfl
 |cons p r ih =>
  obtain ⟨i,u⟩:=p;have b:i ∉ Xb1 r∧(Xb1 r).Nodup:=by simpa [Xb1] using hn
  rw [XbR];by_cases h:k=i
  ·subst h;rw [if_pos rfl,Xcc];by_cases a:j=k
   ·rw [if_pos a,a]; exact Xcf.2 b.1
   ·rw [if_neg a,if_neg a]
  ·rw [if_neg h,Xcc,Xcc,ih b.2];by_cases a:j=i
   ·subst a; rw [if_pos rfl,if_pos rfl,if_neg (fun e=>h e.symm)]
   ·rw [if_neg a,if_neg a]
theorem Xcv (m:AL) (k:Int) (v:Value):(Xcu m k v).length=if (Xcb m k).isSome then m.length else m.length+1:=by
 induction m with
 |nil=>rfl
 |cons p r ih =>
  obtain ⟨i,u⟩:=p;rw [Xcu,Xcc];by_cases h:k=i
  ·subst h; simp
  ·rw [if_neg h,if_neg h,List.length_cons,ih,List.length_cons]; split <;> omega
theorem XbS (m:AL) (k:Int):(XbR m k).length=if (Xcb m k).isSome then m.length - 1 else m.length:=by
 induction m with
 |nil=>rfl
 |cons p r ih =>
  obtain ⟨i,u⟩:=p;rw [XbR,Xcc];by_cases h:k=i
  ·subst h; simp
  ·rw [if_neg h,if_neg h,List.length_cons,ih,List.length_cons];split
   ·rename_i a
    have:r ≠ []:=fun e=>by subst e; simp [Xce] at a
    have:=List.length_pos_iff.2 this;omega
   ·rfl
theorem Xk8 {m:AL} (h:(Xb1 m).Nodup) (k:Int) (v:Value):(Xb1 (Xcu m k v)).Nodup:=by
 rw [Xb4];split
 ·exact h
 ·rename_i d
  rw [List.nodup_append];exact ⟨h,by simp,fun a f b c e=>by simp at c; subst c; subst e; exact d f⟩
theorem Xk6 {m:AL} (h:(Xb1 m).Nodup) (k:Int):(Xb1 (XbR m k)).Nodup:=by
 rw [Xb3]; exact h.erase k
def Xar (m:AL) (es:List MapEntry):Prop:=es.map (fun e=>(e.key,e.val))=m.map (fun p=>(Value.int .i64 p.1,p.2))
def XaL (w:World) (r:Nat) (m:AL):Prop := ∃ es clock,w.heap[r]? = some (.map es clock)∧Xar m es.toList
theorem XaL.chg {S:Nat→Prop} {w w':World} {r:Nat} {m:AL} (h:XaL w r m) (hc:Chg S w w') (hs:¬ S r):XaL w' r m:=by
 obtain ⟨es,clock,a,b⟩:=h;exact ⟨es,clock,hc.heap a hs,b⟩
theorem XaL.lt {w:World} {r:Nat} {m:AL} (h:XaL w r m):r<w.heap.size:=by
 obtain ⟨es,clock,a,_⟩:=h;exact XjD a
theorem Xf5 {q:IntKind} {k:Int}:∀ {m:AL} {es:List MapEntry} {i:Nat},Xar m es→Instr.findNow (.int q) (.int .i64 k) es i=some ((XbZ m k).map fun p=>(i+p.1,p.2))
 |[],es,i,h=>by
  simp [Xar] at h; subst h; rfl
 |(j,v)::r,[],i,h=>by simp [Xar] at h
 |(j,v)::r,e::es,i,h=>by
  simp only [Xar,List.map_cons,List.cons.injEq,Prod.mk.injEq] at h;obtain ⟨⟨b,c⟩,d⟩:=h;simp only [Instr.findNow,b,Instr.sameNow,if_true,XbZ];by_cases a:k=j
  ·subst a; simp [c]
  ·have:(k == j)=false:=by simpa using a
   rw [this,if_neg a];simp only
   rw [Xf5 (m:=r) d];cases XbZ r k <;> simp; omega
theorem XfB {m:AL} {es:List MapEntry} {k:Int} {i:Nat} {v:Value} (h:Xar m es) (hf:XbZ m k=some (i,v)):(es[i]?).map (·.key)=some (.int .i64 k):=by
 induction m generalizing es i with
 |nil=>cases hf
 |cons p r ih =>
  obtain ⟨j,u⟩:=p;cases es with
  |nil=>simp [Xar] at h
  |cons e es =>
   simp only [Xar,List.map_cons,List.cons.injEq,Prod.mk.injEq] at h;simp only [XbZ] at hf;by_cases a:k=j
   ·rw [if_pos a] at hf; cases hf; subst a; simp [h.1.1]
   ·rw [if_neg a] at hf;cases b:XbZ r k with
    |none=>rw [b] at hf; cases hf
    |some q=>rw [b] at hf; cases hf; simpa using ih h.2 b
theorem XfE {m:AL} {es:List MapEntry} {k:Int} {i:Nat} {v v':Value} (h:Xar m es) (hf:XbZ m k=some (i,v)):Xar (Xcu m k v') (es.modify i fun e=>{e with key := .int .i64 k,val:=v'}):=by
 induction m generalizing es i with
 |nil=>cases hf
 |cons p r ih =>
  obtain ⟨j,u⟩:=p;cases es with
  |nil=>simp [Xar] at h
  |cons e es =>
   simp only [Xar,List.map_cons,List.cons.injEq,Prod.mk.injEq] at h;simp only [XbZ] at hf;rw [Xcu];by_cases b:k=j
   ·rw [if_pos b] at hf ⊢; cases hf; simp [Xar,h.2]
   ·rw [if_neg b] at hf ⊢;cases a:XbZ r k with
    |none=>rw [a] at hf; cases hf
    |some q =>
     rw [a] at hf; cases hf;have:=ih h.2 a;simp only [Xar] at this;simp [Xar,h.1,this]
theorem XfD {m:AL} {es:List MapEntry} {k:Int} {v:Value} {c:Nat} (h:Xar m es) (hf:XbZ m k=none):Xar (Xcu m k v) (es ++ [{key := .int .i64 k,val:=v,born:=c}]):=by
 induction m generalizing es with
 |nil=>simp [Xar] at h; subst h; simp [Xar,Xcu]
 |cons p r ih =>
  obtain ⟨j,u⟩:=p;cases es with
  |nil=>simp [Xar] at h
  |cons e es =>
   simp only [Xar,List.map_cons,List.cons.injEq,Prod.mk.injEq] at h;simp only [XbZ] at hf;by_cases a:k=j
   ·rw [if_pos a] at hf; cases hf
   ·rw [if_neg a] at hf;have b:XbZ r k=none:=by cases d:XbZ r k with | none=>rfl | some q=>rw [d] at hf; cases hf
    have:=ih h.2 b;rw [Xcu,if_neg a];simp only [Xar] at this ⊢;simp [h.1,this]
theorem XfA {m:AL} {es:List MapEntry} {k:Int} {i:Nat} {v:Value} (h:Xar m es) (hf:XbZ m k=some (i,v)):Xar (XbR m k) (es.eraseIdx i):=by
 induction m generalizing es i with
 |nil=>cases hf
 |cons p r ih =>
  obtain ⟨j,u⟩:=p;cases es with
  |nil=>simp [Xar] at h
  |cons e es =>
   simp only [Xar,List.map_cons,List.cons.injEq,Prod.mk.injEq] at h;simp only [XbZ] at hf;rw [XbR];by_cases b:k=j
   ·rw [if_pos b] at hf ⊢; cases hf; simpa [Xar] using h.2
   ·rw [if_neg b] at hf ⊢;cases a:XbZ r k with
    |none=>rw [a] at hf; cases hf
    |some q =>
     rw [a] at hf; cases hf;have:=ih h.2 a;simp only [Xar] at this;simp [Xar,h.1,this]
theorem XbT {m:AL} {k:Int} (hf:XbZ m k=none):XbR m k=m:=by
 induction m with
 |nil=>rfl
 |cons p r ih =>
  obtain ⟨j,u⟩:=p;simp only [XbZ] at hf;by_cases a:k=j
  ·rw [if_pos a] at hf; cases hf
  ·rw [if_neg a] at hf;have b:XbZ r k=none:=by cases c:XbZ r k with | none=>rfl | some q=>rw [c] at hf; cases hf
   rw [XbR,if_neg a,ih b]
section
variable {P:Program} {T:Tab} {ops:Array Oper} {f:FuncId} {R:Aim} {k:List Item} {q n:Nat} {ds:List Deferred} {s s':List Item} {w w0 w':World} {e e':Env} {U:List Nat} {S:Nat→Prop}
theorem Xep {kt:Nat} {r:XbK} {b:Bool} {x:Int} (hT:XbA P T) (hr:row T kt=some r) (hu:r.und = .int .i64):(Instr.checkKey b 10000 kt (.int .i64 x)).run P w = .ok () w:=by
 unfold Instr.checkKey;refine (Xpf (by rw [(hT.row hr).underlying w,hu])).trans rfl
theorem Xf4 {kt:Nat} {r:XbK} {x:Int} {m:AL} {es:List MapEntry} (hT:XbA P T) (hr:row T kt=some r) (hu:r.und = .int .i64) (h:Xar m es):(Instr.findKey kt (.int .i64 x) es).run P w = .ok (XbZ m x) w:=by
 unfold Instr.findKey;refine (Xpf (by rw [(hT.row hr).underlying w,hu])).trans ?_;rw [Xf5 h];simp only [Nat.zero_add];cases XbZ m x <;> rfl
theorem Xph {r:Nat} {es:Array MapEntry} {clock:Nat} (o:Obj) (hb:w.heap[r]? = some (.map es clock)):(setObj r o).run P w = .ok () {w with heap:=w.heap.setIfInBounds r o}:=MapKept.run_setObj_map o hb
theorem XeH {r:Nat} {o:Obj}:Chg (fun b=>b=r) w {w with heap:=w.heap.setIfInBounds r o} :=
 ⟨rfl,rfl,rfl,by simp,fun b c a=>by simp [Ne.symm a]⟩
theorem Xhy {r:Nat} {o:Obj} (h:r<w.heap.size):({w with heap:=w.heap.setIfInBounds r o}:World).heap[r]? = some o:=by simp [h]
def Xjo (T:Tab) (e:Env) (o:Oper):Option (Option Nat × Value × Int × Bool) :=
 match o.op with
 |.lookup t x ix ok=>match ev e x,ev e ix,row T t with
  |some (.map r),some (.int .i64 i),some {und := .map kt et,..}=>match row T kt,row T et with
   |some {und := .int .i64,..},some re=>match re.zero with
    |some z=>some (r,z,i,ok)
    |none=>none
   |_,_=>none
  |_,_,_=>none
 |_=>none
def Xjq (m:AL) (z:Value) (i:Int) (ok:Bool):Value :=
 match Xcb m i with
 |some v=>if ok then .tuple #[v,.bool true] else v
 |none=>if ok then .tuple #[z,.bool false] else z
def XaM (w:World) (r:Option Nat) (m:AL):Prop:=match r with
 |none=>m = []
 |some r=>XaL w r m
theorem Xjp (hT:XbA P T) {r:Option Nat} {z:Value} {i:Int} {ok:Bool} {m:AL} {o:Oper} (h:Xjo T e o=some (r,z,i,ok)) (hm:XaM w r m) (a:Act) (hf:Xau n a e):(execOp a.eval o).run P w = .ok (.value (Xjq m z i ok)) w:=by
 unfold Xjo at h;split at h
 ·rename_i t x ix ok1 b
  split at h
  ·rename_i A B kt et _ _ _ j c k
   split at h
   ·rename_i _ _ _ re d l
    split at h
    ·rename_i C q
     cases h
     simp only [execOp,b,hf.ev j,hf.ev c];refine (Xpf (x:=Xjq m z i ok) (w':=w) ?_).trans rfl;unfold Instr.lookup;refine (Xpf ((hT.row k).underlying w)).trans ?_;simp only
     have key:∀ es:Array MapEntry,Xar m es.toList→((do
      Instr.checkKey es.isEmpty 10000 kt (.int .i64 i)
      let (v,ok') ← match ← Instr.findKey kt (.int .i64 i) es.toList with
       |some (_,v)=>pure (v,true)
       |none=>pure (← zeroValue et,false)
      pure (if ok then .tuple #[v,.bool ok'] else v)):Sem Value).run P w = .ok (Xjq m z i ok) w:=fun es f=>by
      refine (Xpf (Xep hT d rfl)).trans ?_;refine (Xpf (Xf4 hT d rfl f)).trans ?_;unfold Xjq Xcb;cases y:XbZ m i with
      |some p =>
       obtain ⟨pi,pv⟩:=p;simp only [Option.map_some];refine (Xpf (x:=(pv,true)) (w':=w) rfl).trans ?_;cases ok <;> rfl
      |none =>
       simp only [Option.map_none];refine (Xpf ((hT.row l).zero q w)).trans ?_;cases ok <;> rfl
     cases r with
     |none =>
      have g:m = []:=hm;exact key #[] (by rw [g]; rfl)
     |some r =>
      obtain ⟨es,clock,s,u⟩:=hm;refine (Xpf (MapKept.run_getObj_map s)).trans ?_;exact key es u
    ·cases h
   ·cases h
  ·cases h
 ·cases h
theorem Xay.lookup (hT:XbA P T) {r:Option Nat} {z v:Value} {i:Int} {ok:Bool} {m:AL} {d:Nat} {s2:List Item} {e2:Env} (h:XcQ (Xjo T e) n s e=some ((r,z,i,ok),d,s')) (hm:XaM w r m) (hv:Xjq m z i ok=v)
 (ha:Go.Proofs.YtgddpaiandefgaaGreatDoor.adv T n 400 s' ((d,false,v)::e)=(s2,e2)) (hg:Xay P f R n ds s2 e2 w):Xay P f R n ds s e w:=by
 subst hv;exact Xay.val h (fun _ b a c=>Xjp hT b hm a c) (Xay.adv hT 400 ha hg)
theorem XaM.chg {S:Nat→Prop} {w w':World} {r:Option Nat} {m:AL} (h:XaM w r m) (hc:Chg S w w') (hs:∀ b,r=some b → ¬ S b):XaM w' r m:=by
 cases r with
 |none=>exact h
 |some r=>exact XaL.chg h hc (hs r rfl)
theorem Xa6.lookup (hT:XbA P T) {l l':List Oper} {K:Env→Prop} {r:Option Nat} {z v:Value} {i:Int} {ok:Bool} {m:AL} {d:Nat} {l2:List Oper} {e2:Env} (h:XcR (Xjo T e) n ops l e=some ((r,z,i,ok),d,l')) (hm:XaM w r m) (hv:Xjq m z i ok=v)
 (ha:XbW T n ops l' ((d,false,v)::e)=(l2,e2)) (hg:Xa6 P n ops w l2 e2 K):Xa6 P n ops w l e K:=by
 subst hv;exact Xa6.val hT h (fun _ c a w' b f=>Xjp hT c (hm.chg b (fun _ _ h=>h)) a f) ha hg
theorem Xaq.lookup (hT:XbA P T) (hB:Xfr ops q=true) {r:Option Nat} {z v:Value} {x:Int} {ok:Bool} {m:AL} {d i:Nat} {U2:List Nat} {e2:Env} (h:Xf2 (Xjo T e) n ops q U e U=some ((r,z,x,ok),d,i)) (hm:XaM w0 r m) (hS:∀ b,r=some b → ¬ S b) (hv:Xjq m z x ok=v)
 (ha:XbU T n ops q (rmN i U) (rmN i U) ((d,false,v)::e)=(U2,e2)) (hg:Xaq P f R n ds k ops q S U2 e2 w0 w):Xaq P f R n ds k ops q S U e w0 w:=by
 subst hv;exact Xaq.val hT hB h (fun _ g a _ c j=>Xjp hT g (hm.chg c hS) a j) ha hg
def XtB (T:Tab) (s:List Item) (e:Env):Option (Nat × Int × Value × List Item) :=
 match Xg5 s e with
 |some (o,s')=>match o.dst,o.op with
  |none,.mapUpdate t m k x=>match ev e m,ev e k,ev e x,row T t with
   |some (.map (some r)),some (.int .i64 i),some v,some {und := .map kt _,..}=>match row T kt with
    |some {und := .int .i64,..}=>some (r,i,v,s')
    |_=>none
   |_,_,_,_=>none
  |_,_=>none
 |none=>none
theorem Xpi (x:Int):Instr.sameBits 10000 (.int .i64 x) (.int .i64 x)=true:=by simp [Instr.sameBits]
theorem Xay.mapset (hT:XbA P T) {r:Nat} {i:Int} {v:Value} {m:AL} (h:XtB T s e=some (r,i,v,s')) (hm:XaL w r m)
 (hg:∀ w1,XaL w1 r (Xcu m i v)→Chg (fun b=>b=r) w w1→w1.heap.size=w.heap.size→Xay P f R n ds s' e w1):Xay P f R n ds s e w:=by
 unfold XtB at h;split at h
 ·rename_i o I B
  split at h
  ·rename_i t x y z C q
   split at h
   ·rename_i J K L kt et _ _ _ D E F G
    split at h
    ·rename_i _ _ _ l
     cases h
     obtain ⟨es,clock,j,k⟩:=hm;have u:=XjD j;cases d:XbZ m i with
     |none =>
      refine Xay.head' B C (w':={w with heap:=w.heap.setIfInBounds r (.map (es.push {key := .int .i64 i,val:=v,born:=clock}) (clock+1))}) (fun a g => ?_)
       (hg _ ⟨_,_,Xhy u,by simpa using XfD (c:=clock) k d⟩ XeH (by simp))
      simp only [execOp,q,g.ev D,g.ev E,g.ev F];refine (Xpf (x:=()) (w':={w with heap:=w.heap.setIfInBounds r (.map (es.push {key := .int .i64 i,val:=v,born:=clock}) (clock+1))}) ?_).trans rfl;unfold Instr.mapUpdate;refine (Xpf ((hT.row G).underlying w)).trans ?_;simp only
      refine (Xpf (MapKept.run_getObj_map j)).trans ?_;simp only
      refine (Xpf (Xep hT l rfl)).trans ?_;refine (Xpf (Xf4 hT l rfl k)).trans ?_;rw [d];exact Xph _ j
     |some p =>
      obtain ⟨pi,pv⟩:=p;have A:=XfB k d;have H:(((es[pi]?).map (·.key)).getD (.int .i64 i)) = .int .i64 i:=by rw [← Array.getElem?_toList,A]; rfl
      refine Xay.head' B C (w':={w with heap:=w.heap.setIfInBounds r (.map (es.modify pi fun e=>{e with key := .int .i64 i,val:=v}) clock)}) (fun a g => ?_)
       (hg _ ⟨_,_,Xhy u,by simpa using XfE (v':=v) k d⟩ XeH (by simp))
      simp only [execOp,q,g.ev D,g.ev E,g.ev F];refine (Xpf (x:=()) (w':={w with heap:=w.heap.setIfInBounds r (.map (es.modify pi fun e=>{e with key := .int .i64 i,val:=v}) clock)}) ?_).trans rfl;unfold Instr.mapUpdate;refine (Xpf ((hT.row G).underlying w)).trans ?_;simp only
      refine (Xpf (MapKept.run_getObj_map j)).trans ?_;simp only
      refine (Xpf (Xep hT l rfl)).trans ?_;refine (Xpf (Xf4 hT l rfl k)).trans ?_;rw [d];simp only
      refine (Xpf (x:=(.int .i64 i:Value)) (w':=w) ?_).trans ?_
      ·rw [H];unfold Instr.keyThatStays;rw [Xpi,if_pos rfl]; rfl
      ·exact Xph _ j
    ·cases h
   ·cases h
  ·cases h
 ·cases h
def Xfm (T:Tab) (s:List Item) (e:Env):Option (Nat × Int × List Item) :=
 match Xg5 s e with
 |some (o,s')=>match o.dst,o.op with
  |none,.call c=>match c.callee,evs e c.args.toList,c.argTypes.toList with
   |.builtin .delete,some [.map (some r),.int .i64 i],t::_=>match row T t with
    |some {und := .map kt _,..}=>match row T kt with
     |some {und := .int .i64,..}=>some (r,i,s')
     |_=>none
    |_=>none
   |_,_,_=>none
  |_,_=>none
 |none=>none
theorem Xay.mapdel (hT:XbA P T) {r:Nat} {i:Int} {m:AL} (h:Xfm T s e=some (r,i,s')) (hm:XaL w r m)
 (hg:∀ w1,XaL w1 r (XbR m i)→Chg (fun b=>b=r) w w1→w1.heap.size=w.heap.size→Xay P f R n ds s' e w1):Xay P f R n ds s e w:=by
 unfold Xfm at h;split at h
 ·rename_i o Q H
  split at h
  ·rename_i c I z
   split at h
   ·rename_i S U t ts g A B
    split at h
    ·rename_i kt et _ _ _ M
     split at h
     ·rename_i _ _ _ J
      cases h
      obtain ⟨es,clock,u,F⟩:=hm;have C:=XjD u;have D:∀ (w1:World),(Builtin.delete_ c.argTypes o.type #[.map (some r),.int .i64 i]).run P w = .ok (.tuple #[]) w1 → ∀ act,Xau n act e→(execOp act.eval o).run P w = .ok (.value (.tuple #[])) w1:=fun w1 j act k=>by
       obtain ⟨dst,op,type,pos,after,guard⟩:=o;simp only at z
       subst z;obtain ⟨callee,args,argTypes⟩:=c;simp only at g A j
       subst g;have y:args.map act.eval = #[.map (some r),.int .i64 i]:=XjU (k.evs A);simp only [execOp,resolve,y];refine (Xpf (show _=Result.ok _ w from rfl)).trans ?_;exact (Xpf (x:=(.tuple #[]:Value)) (w':=w1) j).trans rfl
      have N:c.argTypes[0]? = some t:=by
       obtain ⟨callee,args,argTypes⟩:=c;obtain ⟨ats⟩:=argTypes;simp only at B; subst B; rfl
      have l:∀ (o':Obj),(XbZ m i=none→o' = .map es clock)→(∀ p,XbZ m i=some p→o' = .map (es.eraseIdxIfInBounds p.1) clock)→(Builtin.delete_ c.argTypes o.type #[.map (some r),.int .i64 i]).run P w = .ok (.tuple #[]) {w with heap:=w.heap.setIfInBounds r o'}:=fun o' K L=>by
       unfold Builtin.delete_;simp only [N,show (#[Value.map (some r),Value.int .i64 i]:Array Value)[0]? = some (.map (some r)) from rfl,show (#[Value.map (some r),Value.int .i64 i]:Array Value)[1]? = some (.int .i64 i) from rfl];refine (Xpf ((hT.row M).underlying w)).trans ?_;simp only
       refine (Xpf (MapKept.run_getObj_map u)).trans ?_;simp only
       refine (Xpf (Xep hT J rfl)).trans ?_;refine (Xpf (Xf4 hT J rfl F)).trans ?_;cases E:XbZ m i with
       |none=>rw [K E]; exact (Xpf (Xph _ u)).trans rfl
       |some p=>obtain ⟨pi,pv⟩:=p; rw [L _ E]; exact (Xpf (Xph _ u)).trans rfl
      cases d:XbZ m i with
      |none =>
       refine Xay.head (fl:=false) (v := .tuple #[]) (e':=e) H (by rw [I]; rfl) (fun a k => .inl (D _ (l (.map es clock) (fun _=>rfl) (fun p q=>by rw [d] at q; cases q)) a k)) (hg _ ⟨_,_,Xhy C,by rw [XbT d]; exact F⟩ XeH (by simp))
      |some p =>
       refine Xay.head (fl:=false) (v := .tuple #[]) (e':=e) H (by rw [I]; rfl) (fun a k => .inl (D _ (l (.map (es.eraseIdxIfInBounds p.1) clock) (fun h=>by rw [d] at h; cases h) (fun p' q=>by rw [d] at q; cases q; rfl)) a k)) (hg _ ⟨_,_,Xhy C,?_⟩ XeH (by simp));have:=XfA (v:=p.2) (i:=p.1) F d;have O:(es.eraseIdxIfInBounds p.1).toList=es.toList.eraseIdx p.1:=by
        unfold Array.eraseIdxIfInBounds;split
        ·simp
        ·rename_i G
         rw [List.eraseIdx_of_length_le (by simpa using G)]
       rw [O];exact this
     ·cases h
    ·cases h
   ·cases h
  ·cases h
 ·cases h
def Xkj (o:Oper):Option Unit :=
 match o.op with
 |.makeMap _ none=>some ()
 |_=>none
theorem Xay.mkmap {d:Nat} (h:XcQ Xkj n s e=some ((),d,s')) (hg:∀ r w1,r=w.heap.size→XaL w1 r []→Chg XaW w w1→w1.heap.size=w.heap.size+1→Xay P f R n ds s' ((d,false,.map (some r))::e) w1):Xay P f R n ds s e w:=by
 refine Xay.val (v := .map (some w.heap.size)) (w':={w with heap:=w.heap.push (.map #[] 0)}) h (fun o b a g => ?_) (hg _ _ rfl ⟨#[],0,by simp,rfl⟩ (XeD _ _) (by simp));unfold Xkj at b;split at b
 ·rename_i t c
  simp only [execOp,c,Option.map_none];refine (Xpf (x:=(.map (some w.heap.size):Value)) (w':={w with heap:=w.heap.push (.map #[] 0)}) ?_).trans rfl;rfl
 ·cases b
def unZ (op:UnOp) (k:IntKind) (x:Int):Option Int :=
 match op with
 |.neg=>some (k.wrap (0 - x))
 |.xor=>some (Xdh .xor k (if k.signed then -1 else k.max) x)
 |_=>none
def Xts (e:Env) (o:Oper):Option (UnOp × IntKind × Int) :=
 match o.op with
 |.unOp op _ x=>match op,ev e x with
  |.neg,some (.int k a)=>some (.neg,k,a)
  |.xor,some (.int k a)=>some (.xor,k,a)
  |_,_=>none
 |_=>none
theorem Xtt {op:UnOp} {k:IntKind} {x z:Int} {o:Oper} (h:Xts e o=some (op,k,x)) (hz:unZ op k x=some z) (a:Act) (hf:Xau n a e) (w:World):(execOp a.eval o).run P w = .ok (.value (.int k z)) w:=by
 unfold Xts at h;split at h
 ·rename_i g t i b
  split at h
  ·rename_i d f c
   cases h
   simp only [unZ,Option.some.injEq] at hz;subst hz;simp only [execOp,b,hf.ev c];refine (Xpf (w':=w) ?_).trans rfl;simp only [Op.unary,Op.intArith];rfl
  ·rename_i d f c
   cases h
   simp only [unZ,Option.some.injEq] at hz;subst hz;simp only [execOp,b,hf.ev c];refine (Xpf (w':=w) ?_).trans rfl;simp only [Op.unary,Op.intBits];rfl
  ·cases h
 ·cases h
theorem Xay.un (hT:XbA P T) {op:UnOp} {k:IntKind} {x z:Int} {d:Nat} {s2:List Item} {e2:Env} (h:XcQ (Xts e) n s e=some ((op,k,x),d,s')) (hz:unZ op k x=some z)
 (ha:Go.Proofs.YtgddpaiandefgaaGreatDoor.adv T n 400 s' ((d,false,.int k z)::e)=(s2,e2)) (hg:Xay P f R n ds s2 e2 w):Xay P f R n ds s e w :=
 Xay.val h (fun _ b a c=>Xtt b hz a c w) (Xay.adv hT 400 ha hg)
def Xqs (T:Tab) (e:Env) (o:Oper):Option (ByteArray × Int) :=
 match o.op with
 |.index t x ix=>match ev e x,ev e ix,row T t with
  |some (.string b),some (.int _ i),some {und := .string,..}=>some (b,i)
  |_,_,_=>none
 |_=>none
theorem Xay.sidx (hT:XbA P T) {b:ByteArray} {i v:Int} {d:Nat} {s2:List Item} {e2:Env} (h:XcQ (Xqs T e) n s e=some ((b,i),d,s')) (h0:0≤i) (hv:(b[i.toNat]?).map (fun x=>(x.toNat:Int))=some v)
 (ha:Go.Proofs.YtgddpaiandefgaaGreatDoor.adv T n 400 s' ((d,false,.int .u8 v)::e)=(s2,e2)) (hg:Xay P f R n ds s2 e2 w):Xay P f R n ds s e w:=by
 refine Xay.val (v := .int .u8 v) (w':=w) h (fun o c a g => ?_) (Xay.adv hT 400 ha hg);unfold Xqs at c;split at c
 ·rename_i t x ix j
  split at c
  ·rename_i r m u _ _ _ p k q
   cases c
   simp only [execOp,j,g.ev p,g.ev k];refine (Xpf (x:=(.int .u8 v:Value)) (w':=w) ?_).trans rfl;unfold Instr.index;refine (Xpf (x:=(m,i)) (w':=w) rfl).trans ?_;simp only
   refine (Xpf ((hT.row q).underlying w)).trans ?_;simp only [h0,if_true];cases l:b[i.toNat]? with
   |none=>rw [l] at hv; cases hv
   |some y=>rw [l] at hv; simp only [Option.map_some,Option.some.injEq] at hv; subst hv; rfl
  ·cases c
 ·cases c
def Xb0 (T:Tab) (e:Env) (o:Oper):Option (List Value × Int × Nat) :=
 match o.op with
 |.index t x ix=>match ev e x,ev e ix,row T t with
  |some (.agg cs),some (.int _ i),some {und := .array len q,..}=>match row T q with
   |some r2=>match Xie r2,Nat.beq r2.size 1 with
    |false,true=>some (cs.toList,i,len)
    |_,_=>none
   |none=>none
  |_,_,_=>none
 |_=>none
theorem Xay.aidx (hT:XbA P T) {vs:List Value} {i:Int} {v:Value} {d len:Nat} {s2:List Item} {e2:Env} (h:XcQ (Xb0 T e) n s e=some ((vs,i,len),d,s')) (hlen':vs.length=len) (h0:0≤i) (hv:vs[i.toNat]? = some v)
 (ha:Go.Proofs.YtgddpaiandefgaaGreatDoor.adv T n 400 s' ((d,false,v)::e)=(s2,e2)) (hg:Xay P f R n ds s2 e2 w):Xay P f R n ds s e w:=by
 refine Xay.val (v:=v) (w':=w) h (fun o b a j => ?_) (Xay.adv hT 400 ha hg);unfold Xb0 at b;split at b
 ·rename_i t x ix k
  split at b
  ·rename_i cs p z len q _ _ _ r l u
   split at b
   ·rename_i A c
    split at b
    ·rename_i g m
     cases b
     have y:i.toNat<cs.toList.length:=(List.getElem?_eq_some_iff.1 hv).1;simp only [execOp,k,j.ev r,j.ev l];refine (Xpf (x:=v) (w':=w) ?_).trans rfl;unfold Instr.index;refine (Xpf (x:=(p,i)) (w':=w) rfl).trans ?_;simp only
     refine (Xpf ((hT.row u).underlying w)).trans ?_;simp only
     rw [if_pos ⟨h0,by omega⟩];refine (Xpf ((hT.row c).sizeOf w)).trans ?_;rw [Nat.eq_of_beq_eq_true m,Nat.mul_one];unfold part;refine (Xpf ((hT.row c).isAgg w)).trans ?_;rw [g];simp only [Bool.false_eq_true,if_false];rw [← Array.getElem?_toList,hv];rfl
    ·cases b
   ·cases b
  ·cases b
 ·cases b
theorem Xaq.bits (hT:XbA P T) (hB:Xfr ops q=true) {op:BinOp} {kk:IntKind} {x y z:Int} {d i:Nat} {U2:List Nat} {e2:Env} (h:Xf2 (Xdm e) n ops q U e U=some ((op,kk,x,y),d,i)) (hz:Xdh op kk x y=z)
 (ha:XbU T n ops q (rmN i U) (rmN i U) ((d,false,.int kk z)::e)=(U2,e2)) (hg:Xaq P f R n ds k ops q S U2 e2 w0 w):Xaq P f R n ds k ops q S U e w0 w :=
 Xaq.val hT hB h (fun _ b a w' _ c=>Xdn b hz a c w') ha hg
theorem Xaq.shift (hT:XbA P T) (hB:Xfr ops q=true) {l:Bool} {kk:IntKind} {x y z:Int} {d i:Nat} {U2:List Nat} {e2:Env} (h:Xf2 (Xqq e) n ops q U e U=some ((l,kk,x,y),d,i)) (hy:0≤y) (hz:shV l kk x y=z)
 (ha:XbU T n ops q (rmN i U) (rmN i U) ((d,false,.int kk z)::e)=(U2,e2)) (hg:Xaq P f R n ds k ops q S U2 e2 w0 w):Xaq P f R n ds k ops q S U e w0 w :=
 Xaq.val hT hB h (fun _ b a w' _ c=>Xqr b hy hz a c w') ha hg
theorem Xaq.callQ {fk d i:Nat} {as:List Value} {Q:Value→World→Prop} (hB:Xfr ops q=true) (hU:Xgo ops q U U = [i]) (h:XcU (XdY e) n ops e i=some ((fk,as),d))
 (hd:∀ w',Chg XaW w w'→Xan P fk as.toArray w' (fun v w2=>Chg S w' w2∧Q v w2)) (hg:∀ v w1,Chg S w w1→Q v w1→Xaq P f R n ds k ops q S (rmN i U) ((d,false,v)::e) w0 w1):Xaq P f R n ds k ops q S U e w0 w:=by
 refine Xaq.turn1 hB hU fun w1 b => ?_;refine XbJ.call (Post:=fun v w2=>Chg S w w2∧Q v w2) h (hd w (Chg.refl _ _)).fn (fun g=>(hd w1 b).mono fun v w2 ⟨a,c⟩=>⟨g.trans a,(b.mono fun _ _ h=>h.elim).trans a,c⟩) fun v w2 _ ⟨a,c⟩=>hg v w2 a c
end
end Go.Proofs.YtgddpaiandefgaaGreatDoor
