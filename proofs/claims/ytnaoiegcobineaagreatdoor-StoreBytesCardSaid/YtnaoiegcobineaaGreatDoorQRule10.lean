/-
  Rule10
-/
import Derived.Test.YtnaoiegcobineaaGreatDoorQRule9
import Derived.MapKept
namespace Go.Proofs.YtnaoiegcobineaaGreatDoor
open Go.RowKit
abbrev AL:=List (Int × Value)
def afind:AL→Int→Option (Nat × Value)
 |[],_=>none
 |(j,v)::r,k=>if k=j then some (0,v) else (afind r k).map fun p=>(p.1+1,p.2)
def alook (m:AL) (k:Int):Option Value:=(afind m k).map (·.2)
def aput:AL→Int→Value→AL
 |[],k,v => [(k,v)]
 |(j,u)::r,k,v=>if k=j then (k,v)::r else (j,u)::aput r k v
def adel:AL→Int→AL
 |[],_ => []
 |(j,u)::r,k=>if k=j then r else (j,u)::adel r k
def akeys (m:AL):List Int:=m.map (·.1)
theorem alook_nil (k:Int):alook [] k=none:=rfl
theorem alook_cons (j:Int) (v:Value) (r:AL) (k:Int):alook ((j,v)::r) k=if k=j then some v else alook r k:=by
 unfold alook
 simp only [afind]
 split
 ·rfl
 ·cases afind r k <;> rfl
theorem alook_none {m:AL} {k:Int}:alook m k=none↔k ∉ akeys m:=by
 induction m with
 |nil=>simp [alook_nil,akeys]
 |cons p r ih =>
  obtain ⟨j,v⟩:=p
  rw [alook_cons]
  simp only [akeys,List.map_cons,List.mem_cons,not_or] at ih ⊢
  by_cases h:k=j
  ·simp [h]
  ·rw [if_neg h]; simp [h,ih]
theorem alook_put (m:AL) (k:Int) (v:Value) (j:Int):alook (aput m k v) j=if j=k then some v else alook m j:=by
 induction m with
 |nil=>rw [aput,alook_cons,alook_nil]
 |cons p r ih =>
  obtain ⟨i,u⟩:=p
  rw [aput]
  by_cases h:k=i
  ·subst h
   rw [if_pos rfl,alook_cons,alook_cons]
   by_cases h2:j=k
   ·rw [if_pos h2,if_pos h2]
   ·rw [if_neg h2,if_neg h2,if_neg h2]
  ·rw [if_neg h,alook_cons,alook_cons,ih]
   by_cases h2:j=i
   ·subst h2; rw [if_pos rfl,if_pos rfl,if_neg (fun e=>h e.symm)]
   ·rw [if_neg h2,if_neg h2]
theorem akeys_cons (i:Int) (u:Value) (r:AL):akeys ((i,u)::r)=i::akeys r:=rfl
theorem akeys_put (m:AL) (k:Int) (v:Value):akeys (aput m k v)=if k ∈ akeys m then akeys m else akeys m ++ [k]:=by
 induction m with
 |nil=>simp [aput,akeys]
 |cons p r ih =>
  obtain ⟨i,u⟩:=p
  rw [aput]
  by_cases h:k=i
  ·subst h; rw [if_pos rfl,akeys_cons,akeys_cons,if_pos (by simp)]
  ·rw [if_neg h,akeys_cons,akeys_cons,ih]
   by_cases hk:k ∈ akeys r
   ·rw [if_pos hk,if_pos (by simp [hk])]
   ·rw [if_neg hk,if_neg (by simp [hk,h])]; rfl
theorem akeys_del (m:AL) (k:Int):akeys (adel m k)=(akeys m).erase k:=by
 induction m with
 |nil=>rfl
 |cons p r ih =>
  obtain ⟨i,u⟩:=p
  rw [adel]
  by_cases h:k=i
  ·subst h; simp [akeys]
  ·rw [if_neg h]
   simp only [akeys,List.map_cons] at ih ⊢
   rw [List.erase_cons_tail (by simpa using fun e=>h e.symm),ih]
theorem alook_del {m:AL} (hn:(akeys m).Nodup) (k j:Int):alook (adel m k) j=if j=k then none else alook m j:=by
 induction m with
 |nil=>rw [adel,alook_nil]; split <;> rfl
 |cons p r ih =>
  obtain ⟨i,u⟩:=p
  have hn':i ∉ akeys r∧(akeys r).Nodup:=by simpa [akeys] using hn
  rw [adel]
  by_cases h:k=i
  ·subst h
   rw [if_pos rfl,alook_cons]
   by_cases h2:j=k
   ·rw [if_pos h2,h2]; exact alook_none.2 hn'.1
   ·rw [if_neg h2,if_neg h2]
  ·rw [if_neg h,alook_cons,alook_cons,ih hn'.2]
   by_cases h2:j=i
   ·subst h2; rw [if_pos rfl,if_pos rfl,if_neg (fun e=>h e.symm)]
   ·rw [if_neg h2,if_neg h2]
theorem aput_length (m:AL) (k:Int) (v:Value):(aput m k v).length=if (alook m k).isSome then m.length else m.length+1:=by
 induction m with
 |nil=>rfl
 |cons p r ih =>
  obtain ⟨i,u⟩:=p
  rw [aput,alook_cons]
  by_cases h:k=i
  ·subst h; simp
  ·rw [if_neg h,if_neg h,List.length_cons,ih,List.length_cons]; split <;> omega
theorem adel_length (m:AL) (k:Int):(adel m k).length=if (alook m k).isSome then m.length - 1 else m.length:=by
 induction m with
 |nil=>rfl
 |cons p r ih =>
  obtain ⟨i,u⟩:=p
  rw [adel,alook_cons]
  by_cases h:k=i
  ·subst h; simp
  ·rw [if_neg h,if_neg h,List.length_cons,ih,List.length_cons]
   split
   ·rename_i hs
    have:r ≠ []:=fun e=>by subst e; simp [alook_nil] at hs
    have:=List.length_pos_iff.2 this
    omega
   ·rfl
theorem nodup_put {m:AL} (h:(akeys m).Nodup) (k:Int) (v:Value):(akeys (aput m k v)).Nodup:=by
 rw [akeys_put]
 split
 ·exact h
 ·rename_i hk
  rw [List.nodup_append]
  exact ⟨h,by simp,fun a ha b hb e=>by simp at hb; subst hb; subst e; exact hk ha⟩
theorem nodup_del {m:AL} (h:(akeys m).Nodup) (k:Int):(akeys (adel m k)).Nodup:=by
 rw [akeys_del]; exact h.erase k
def Ents (m:AL) (es:List MapEntry):Prop:=es.map (fun e=>(e.key,e.val))=m.map (fun p=>(Value.int .i64 p.1,p.2))
def MapAt (w:World) (r:Nat) (m:AL):Prop := ∃ es clock,w.heap[r]? = some (.map es clock)∧Ents m es.toList
theorem MapAt.chg {S:Nat→Prop} {w w':World} {r:Nat} {m:AL} (h:MapAt w r m) (hc:Chg S w w') (hs:¬ S r):MapAt w' r m:=by
 obtain ⟨es,clock,h1,h2⟩:=h
 exact ⟨es,clock,hc.heap h1 hs,h2⟩
theorem MapAt.lt {w:World} {r:Nat} {m:AL} (h:MapAt w r m):r<w.heap.size:=by
 obtain ⟨es,clock,h1,_⟩:=h
 exact lt_of_heap h1
theorem findNow_ents {q:IntKind} {k:Int}:∀ {m:AL} {es:List MapEntry} {i:Nat},Ents m es→Instr.findNow (.int q) (.int .i64 k) es i=some ((afind m k).map fun p=>(i+p.1,p.2))
 |[],es,i,h=>by
  simp [Ents] at h; subst h; rfl
 |(j,v)::r,[],i,h=>by simp [Ents] at h
 |(j,v)::r,e::es,i,h=>by
  simp only [Ents,List.map_cons,List.cons.injEq,Prod.mk.injEq] at h
  obtain ⟨⟨h1,h2⟩,h3⟩:=h
  simp only [Instr.findNow,h1,Instr.sameNow,if_true,afind]
  by_cases hk:k=j
  ·subst hk; simp [h2]
  ·have:(k == j)=false:=by simpa using hk
   rw [this,if_neg hk]
   simp only
   rw [findNow_ents (m:=r) h3]
   cases afind r k <;> simp; omega
theorem ents_find {m:AL} {es:List MapEntry} {k:Int} {i:Nat} {v:Value} (h:Ents m es) (hf:afind m k=some (i,v)):(es[i]?).map (·.key)=some (.int .i64 k):=by
 induction m generalizing es i with
 |nil=>cases hf
 |cons p r ih =>
  obtain ⟨j,u⟩:=p
  cases es with
  |nil=>simp [Ents] at h
  |cons e es =>
   simp only [Ents,List.map_cons,List.cons.injEq,Prod.mk.injEq] at h
   simp only [afind] at hf
   by_cases hk:k=j
   ·rw [if_pos hk] at hf; cases hf; subst hk; simp [h.1.1]
   ·rw [if_neg hk] at hf
    cases ha:afind r k with
    |none=>rw [ha] at hf; cases hf
    |some q=>rw [ha] at hf; cases hf; simpa using ih h.2 ha
theorem ents_put {m:AL} {es:List MapEntry} {k:Int} {i:Nat} {v v':Value} (h:Ents m es) (hf:afind m k=some (i,v)):Ents (aput m k v') (es.modify i fun e=>{e with key := .int .i64 k,val:=v'}):=by
 induction m generalizing es i with
 |nil=>cases hf
 |cons p r ih =>
  obtain ⟨j,u⟩:=p
  cases es with
  |nil=>simp [Ents] at h
  |cons e es =>
   simp only [Ents,List.map_cons,List.cons.injEq,Prod.mk.injEq] at h
   simp only [afind] at hf
   rw [aput]
   by_cases hk:k=j
   ·rw [if_pos hk] at hf ⊢; cases hf; simp [Ents,h.2]
   ·rw [if_neg hk] at hf ⊢
    cases ha:afind r k with
    |none=>rw [ha] at hf; cases hf
    |some q =>
     rw [ha] at hf; cases hf
     have:=ih h.2 ha
     simp only [Ents] at this
     simp [Ents,h.1,this]
theorem ents_push {m:AL} {es:List MapEntry} {k:Int} {v:Value} {c:Nat} (h:Ents m es) (hf:afind m k=none):Ents (aput m k v) (es ++ [{key := .int .i64 k,val:=v,born:=c}]):=by
 induction m generalizing es with
 |nil=>simp [Ents] at h; subst h; simp [Ents,aput]
 |cons p r ih =>
  obtain ⟨j,u⟩:=p
  cases es with
  |nil=>simp [Ents] at h
  |cons e es =>
   simp only [Ents,List.map_cons,List.cons.injEq,Prod.mk.injEq] at h
   simp only [afind] at hf
   by_cases hk:k=j
   ·rw [if_pos hk] at hf; cases hf
   ·rw [if_neg hk] at hf
    have ha:afind r k=none:=by cases hh:afind r k with | none=>rfl | some q=>rw [hh] at hf; cases hf
    have:=ih h.2 ha
    rw [aput,if_neg hk]
    simp only [Ents] at this ⊢
    simp [h.1,this]
theorem ents_del {m:AL} {es:List MapEntry} {k:Int} {i:Nat} {v:Value} (h:Ents m es) (hf:afind m k=some (i,v)):Ents (adel m k) (es.eraseIdx i):=by
 induction m generalizing es i with
 |nil=>cases hf
 |cons p r ih =>
  obtain ⟨j,u⟩:=p
  cases es with
  |nil=>simp [Ents] at h
  |cons e es =>
   simp only [Ents,List.map_cons,List.cons.injEq,Prod.mk.injEq] at h
   simp only [afind] at hf
   rw [adel]
   by_cases hk:k=j
   ·rw [if_pos hk] at hf ⊢; cases hf; simpa [Ents] using h.2
   ·rw [if_neg hk] at hf ⊢
    cases ha:afind r k with
    |none=>rw [ha] at hf; cases hf
    |some q =>
     rw [ha] at hf; cases hf
     have:=ih h.2 ha
     simp only [Ents] at this
     simp [Ents,h.1,this]
theorem adel_none {m:AL} {k:Int} (hf:afind m k=none):adel m k=m:=by
 induction m with
 |nil=>rfl
 |cons p r ih =>
  obtain ⟨j,u⟩:=p
  simp only [afind] at hf
  by_cases hk:k=j
  ·rw [if_pos hk] at hf; cases hf
  ·rw [if_neg hk] at hf
   have ha:afind r k=none:=by cases hh:afind r k with | none=>rfl | some q=>rw [hh] at hf; cases hf
   rw [adel,if_neg hk,ih ha]
section
variable {P:Program} {T:Tab} {ops:Array Oper} {f:FuncId} {R:Aim} {k:List Item} {q n:Nat} {ds:List Deferred} {s s':List Item} {w w0 w':World} {e e':Env} {U:List Nat} {S:Nat→Prop}
theorem checkKey_int {kt:Nat} {r:TyRow} {b:Bool} {x:Int} (hT:TabOk P T) (hr:row T kt=some r) (hu:r.und = .int .i64):(Instr.checkKey b 10000 kt (.int .i64 x)).run P w = .ok () w:=by
 unfold Instr.checkKey
 refine (run_bind_ok (by rw [(hT.row hr).underlying w,hu])).trans rfl
theorem findKey_int {kt:Nat} {r:TyRow} {x:Int} {m:AL} {es:List MapEntry} (hT:TabOk P T) (hr:row T kt=some r) (hu:r.und = .int .i64) (h:Ents m es):(Instr.findKey kt (.int .i64 x) es).run P w = .ok (afind m x) w:=by
 unfold Instr.findKey
 refine (run_bind_ok (by rw [(hT.row hr).underlying w,hu])).trans ?_
 rw [findNow_ents h]
 simp only [Nat.zero_add]
 cases afind m x <;> rfl
theorem run_setObj_map' {r:Nat} {es:Array MapEntry} {clock:Nat} (o:Obj) (hb:w.heap[r]? = some (.map es clock)):(setObj r o).run P w = .ok () {w with heap:=w.heap.setIfInBounds r o}:=MapKept.run_setObj_map o hb
theorem chg_setObj {r:Nat} {o:Obj}:Chg (fun b=>b=r) w {w with heap:=w.heap.setIfInBounds r o} :=
 ⟨rfl,rfl,rfl,by simp,fun b hb hne=>by simp [Ne.symm hne]⟩
theorem heap_setObj {r:Nat} {o:Obj} (h:r<w.heap.size):({w with heap:=w.heap.setIfInBounds r o}:World).heap[r]? = some o:=by simp [h]
def lookOf (T:Tab) (e:Env) (o:Oper):Option (Option Nat × Value × Int × Bool) :=
 match o.op with
 |.lookup t x ix ok=>match ev e x,ev e ix,row T t with
  |some (.map r),some (.int .i64 i),some {und := .map kt et,..}=>match row T kt,row T et with
   |some {und := .int .i64,..},some re=>match re.zero with
    |some z=>some (r,z,i,ok)
    |none=>none
   |_,_=>none
  |_,_,_=>none
 |_=>none
def lookV (m:AL) (z:Value) (i:Int) (ok:Bool):Value :=
 match alook m i with
 |some v=>if ok then .tuple #[v,.bool true] else v
 |none=>if ok then .tuple #[z,.bool false] else z
def MapIs (w:World) (r:Option Nat) (m:AL):Prop:=match r with
 |none=>m = []
 |some r=>MapAt w r m
theorem lookOf_run (hT:TabOk P T) {r:Option Nat} {z:Value} {i:Int} {ok:Bool} {m:AL} {o:Oper} (h:lookOf T e o=some (r,z,i,ok)) (hm:MapIs w r m) (a:Act) (hf:Fits n a e):(execOp a.eval o).run P w = .ok (.value (lookV m z i ok)) w:=by
 unfold lookOf at h
 split at h
 ·rename_i t x ix ok1 hop
  split at h
  ·rename_i r1 i1 kt et _ _ _ hx hix hr
   split at h
   ·rename_i _ _ _ re hk he
    split at h
    ·rename_i z1 hz
     cases h
     simp only [execOp,hop,hf.ev hx,hf.ev hix]
     refine (run_bind_ok (x:=lookV m z i ok) (w':=w) ?_).trans rfl
     unfold Instr.lookup
     refine (run_bind_ok ((hT.row hr).underlying w)).trans ?_
     simp only
     have key:∀ es:Array MapEntry,Ents m es.toList→((do
      Instr.checkKey es.isEmpty 10000 kt (.int .i64 i)
      let (v,ok') ← match ← Instr.findKey kt (.int .i64 i) es.toList with
       |some (_,v)=>pure (v,true)
       |none=>pure (← zeroValue et,false)
      pure (if ok then .tuple #[v,.bool ok'] else v)):Sem Value).run P w = .ok (lookV m z i ok) w:=fun es hes=>by
      refine (run_bind_ok (checkKey_int hT hk rfl)).trans ?_
      refine (run_bind_ok (findKey_int hT hk rfl hes)).trans ?_
      unfold lookV alook
      cases hfi:afind m i with
      |some p =>
       obtain ⟨pi,pv⟩:=p
       simp only [Option.map_some]
       refine (run_bind_ok (x:=(pv,true)) (w':=w) rfl).trans ?_
       cases ok <;> rfl
      |none =>
       simp only [Option.map_none]
       refine (run_bind_ok ((hT.row he).zero hz w)).trans ?_
       cases ok <;> rfl
     cases r with
     |none =>
      have hm':m = []:=hm
      exact key #[] (by rw [hm']; rfl)
     |some r =>
      obtain ⟨es,clock,h1,h2⟩:=hm
      refine (run_bind_ok (MapKept.run_getObj_map h1)).trans ?_
      exact key es h2
    ·cases h
   ·cases h
  ·cases h
 ·cases h
theorem Goes.lookup (hT:TabOk P T) {r:Option Nat} {z v:Value} {i:Int} {ok:Bool} {m:AL} {d:Nat} {s2:List Item} {e2:Env} (h:atHead (lookOf T e) n s e=some ((r,z,i,ok),d,s')) (hm:MapIs w r m) (hv:lookV m z i ok=v)
 (ha:Go.Proofs.YtnaoiegcobineaaGreatDoor.adv T n 400 s' ((d,false,v)::e)=(s2,e2)) (hg:Goes P f R n ds s2 e2 w):Goes P f R n ds s e w:=by
 subst hv
 exact Goes.val h (fun _ ho a hf=>lookOf_run hT ho hm a hf) (Goes.adv hT 400 ha hg)
theorem MapIs.chg {S:Nat→Prop} {w w':World} {r:Option Nat} {m:AL} (h:MapIs w r m) (hc:Chg S w w') (hs:∀ b,r=some b → ¬ S b):MapIs w' r m:=by
 cases r with
 |none=>exact h
 |some r=>exact MapAt.chg h hc (hs r rfl)
theorem Quiet.lookup (hT:TabOk P T) {l l':List Oper} {K:Env→Prop} {r:Option Nat} {z v:Value} {i:Int} {ok:Bool} {m:AL} {d:Nat} {l2:List Oper} {e2:Env} (h:atHeadQ (lookOf T e) n ops l e=some ((r,z,i,ok),d,l')) (hm:MapIs w r m) (hv:lookV m z i ok=v)
 (ha:advQ T n ops l' ((d,false,v)::e)=(l2,e2)) (hg:Quiet P n ops w l2 e2 K):Quiet P n ops w l e K:=by
 subst hv
 exact Quiet.val hT h (fun _ ho a w' hw' hf=>lookOf_run hT ho (hm.chg hw' (fun _ _ h=>h)) a hf) ha hg
theorem Drawn.lookup (hT:TabOk P T) (hB:drawB ops q=true) {r:Option Nat} {z v:Value} {x:Int} {ok:Bool} {m:AL} {d i:Nat} {U2:List Nat} {e2:Env} (h:findD (lookOf T e) n ops q U e U=some ((r,z,x,ok),d,i)) (hm:MapIs w0 r m) (hS:∀ b,r=some b → ¬ S b) (hv:lookV m z x ok=v)
 (ha:advD T n ops q (rmN i U) (rmN i U) ((d,false,v)::e)=(U2,e2)) (hg:Drawn P f R n ds k ops q S U2 e2 w0 w):Drawn P f R n ds k ops q S U e w0 w:=by
 subst hv
 exact Drawn.val hT hB h (fun _ ho a _ hw' hf=>lookOf_run hT ho (hm.chg hw' hS) a hf) ha hg
def updAt (T:Tab) (s:List Item) (e:Env):Option (Nat × Int × Value × List Item) :=
 match headOp s e with
 |some (o,s')=>match o.dst,o.op with
  |none,.mapUpdate t m k x=>match ev e m,ev e k,ev e x,row T t with
   |some (.map (some r)),some (.int .i64 i),some v,some {und := .map kt _,..}=>match row T kt with
    |some {und := .int .i64,..}=>some (r,i,v,s')
    |_=>none
   |_,_,_,_=>none
  |_,_=>none
 |none=>none
theorem sameBits_int (x:Int):Instr.sameBits 10000 (.int .i64 x) (.int .i64 x)=true:=by simp [Instr.sameBits]
theorem Goes.mapset (hT:TabOk P T) {r:Nat} {i:Int} {v:Value} {m:AL} (h:updAt T s e=some (r,i,v,s')) (hm:MapAt w r m)
 (hg:∀ w1,MapAt w1 r (aput m i v)→Chg (fun b=>b=r) w w1→w1.heap.size=w.heap.size→Goes P f R n ds s' e w1):Goes P f R n ds s e w:=by
 unfold updAt at h
 split at h
 ·rename_i o s1 ho
  split at h
  ·rename_i t x y z hd hop
   split at h
   ·rename_i r1 i1 v1 kt et _ _ _ hx hy hz hr
    split at h
    ·rename_i _ _ _ hk
     cases h
     obtain ⟨es,clock,h1,h2⟩:=hm
     have hlt:=lt_of_heap h1
     cases hf':afind m i with
     |none =>
      refine Goes.head' ho hd (w':={w with heap:=w.heap.setIfInBounds r (.map (es.push {key := .int .i64 i,val:=v,born:=clock}) (clock+1))}) (fun a hf => ?_)
       (hg _ ⟨_,_,heap_setObj hlt,by simpa using ents_push (c:=clock) h2 hf'⟩ chg_setObj (by simp))
      simp only [execOp,hop,hf.ev hx,hf.ev hy,hf.ev hz]
      refine (run_bind_ok (x:=()) (w':={w with heap:=w.heap.setIfInBounds r (.map (es.push {key := .int .i64 i,val:=v,born:=clock}) (clock+1))}) ?_).trans rfl
      unfold Instr.mapUpdate
      refine (run_bind_ok ((hT.row hr).underlying w)).trans ?_
      simp only
      refine (run_bind_ok (MapKept.run_getObj_map h1)).trans ?_
      simp only
      refine (run_bind_ok (checkKey_int hT hk rfl)).trans ?_
      refine (run_bind_ok (findKey_int hT hk rfl h2)).trans ?_
      rw [hf']
      exact run_setObj_map' _ h1
     |some p =>
      obtain ⟨pi,pv⟩:=p
      have hkey:=ents_find h2 hf'
      have hk2:(((es[pi]?).map (·.key)).getD (.int .i64 i)) = .int .i64 i:=by rw [← Array.getElem?_toList,hkey]; rfl
      refine Goes.head' ho hd (w':={w with heap:=w.heap.setIfInBounds r (.map (es.modify pi fun e=>{e with key := .int .i64 i,val:=v}) clock)}) (fun a hf => ?_)
       (hg _ ⟨_,_,heap_setObj hlt,by simpa using ents_put (v':=v) h2 hf'⟩ chg_setObj (by simp))
      simp only [execOp,hop,hf.ev hx,hf.ev hy,hf.ev hz]
      refine (run_bind_ok (x:=()) (w':={w with heap:=w.heap.setIfInBounds r (.map (es.modify pi fun e=>{e with key := .int .i64 i,val:=v}) clock)}) ?_).trans rfl
      unfold Instr.mapUpdate
      refine (run_bind_ok ((hT.row hr).underlying w)).trans ?_
      simp only
      refine (run_bind_ok (MapKept.run_getObj_map h1)).trans ?_
      simp only
      refine (run_bind_ok (checkKey_int hT hk rfl)).trans ?_
      refine (run_bind_ok (findKey_int hT hk rfl h2)).trans ?_
      rw [hf']
      simp only
      refine (run_bind_ok (x:=(.int .i64 i:Value)) (w':=w) ?_).trans ?_
      ·rw [hk2]
       unfold Instr.keyThatStays
       rw [sameBits_int,if_pos rfl]; rfl
      ·exact run_setObj_map' _ h1
    ·cases h
   ·cases h
  ·cases h
 ·cases h
def delAt (T:Tab) (s:List Item) (e:Env):Option (Nat × Int × List Item) :=
 match headOp s e with
 |some (o,s')=>match o.dst,o.op with
  |none,.call c=>match c.callee,evs e c.args.toList,c.argTypes.toList with
   |.builtin .delete,some [.map (some r),.int .i64 i],t::_=>match row T t with
    |some {und := .map kt _,..}=>match row T kt with
     |some {und := .int .i64,..}=>some (r,i,s')
     |_=>none
    |_=>none
   |_,_,_=>none
  |_,_=>none
 |none=>none
theorem Goes.mapdel (hT:TabOk P T) {r:Nat} {i:Int} {m:AL} (h:delAt T s e=some (r,i,s')) (hm:MapAt w r m)
 (hg:∀ w1,MapAt w1 r (adel m i)→Chg (fun b=>b=r) w w1→w1.heap.size=w.heap.size→Goes P f R n ds s' e w1):Goes P f R n ds s e w:=by
 unfold delAt at h
 split at h
 ·rename_i o s1 ho
  split at h
  ·rename_i c hd hop
   split at h
   ·rename_i r1 i1 t ts hcal hev hty
    split at h
    ·rename_i kt et _ _ _ hr
     split at h
     ·rename_i _ _ _ hk
      cases h
      obtain ⟨es,clock,h1,h2⟩:=hm
      have hlt:=lt_of_heap h1
      have hex:∀ (w1:World),(Builtin.delete_ c.argTypes o.type #[.map (some r),.int .i64 i]).run P w = .ok (.tuple #[]) w1 → ∀ act,Fits n act e→(execOp act.eval o).run P w = .ok (.value (.tuple #[])) w1:=fun w1 hrun act hf=>by
       obtain ⟨dst,op,type,pos,after,guard⟩:=o
       simp only at hop
       subst hop
       obtain ⟨callee,args,argTypes⟩:=c
       simp only at hcal hev hrun
       subst hcal
       have hargs:args.map act.eval = #[.map (some r),.int .i64 i]:=map_of_toList (hf.evs hev)
       simp only [execOp,resolve,hargs]
       refine (run_bind_ok (show _=Result.ok _ w from rfl)).trans ?_
       exact (run_bind_ok (x:=(.tuple #[]:Value)) (w':=w1) hrun).trans rfl
      have h0:c.argTypes[0]? = some t:=by
       obtain ⟨callee,args,argTypes⟩:=c
       obtain ⟨ats⟩:=argTypes
       simp only at hty; subst hty; rfl
      have hdel:∀ (o':Obj),(afind m i=none→o' = .map es clock)→(∀ p,afind m i=some p→o' = .map (es.eraseIdxIfInBounds p.1) clock)→(Builtin.delete_ c.argTypes o.type #[.map (some r),.int .i64 i]).run P w = .ok (.tuple #[]) {w with heap:=w.heap.setIfInBounds r o'}:=fun o' hno hso=>by
       unfold Builtin.delete_
       simp only [h0,show (#[Value.map (some r),Value.int .i64 i]:Array Value)[0]? = some (.map (some r)) from rfl,show (#[Value.map (some r),Value.int .i64 i]:Array Value)[1]? = some (.int .i64 i) from rfl]
       refine (run_bind_ok ((hT.row hr).underlying w)).trans ?_
       simp only
       refine (run_bind_ok (MapKept.run_getObj_map h1)).trans ?_
       simp only
       refine (run_bind_ok (checkKey_int hT hk rfl)).trans ?_
       refine (run_bind_ok (findKey_int hT hk rfl h2)).trans ?_
       cases hfi:afind m i with
       |none=>rw [hno hfi]; exact (run_bind_ok (run_setObj_map' _ h1)).trans rfl
       |some p=>obtain ⟨pi,pv⟩:=p; rw [hso _ hfi]; exact (run_bind_ok (run_setObj_map' _ h1)).trans rfl
      cases hf':afind m i with
      |none =>
       refine Goes.head (fl:=false) (v := .tuple #[]) (e':=e) ho (by rw [hd]; rfl) (fun a hf => .inl (hex _ (hdel (.map es clock) (fun _=>rfl) (fun p hp=>by rw [hf'] at hp; cases hp)) a hf)) (hg _ ⟨_,_,heap_setObj hlt,by rw [adel_none hf']; exact h2⟩ chg_setObj (by simp))
      |some p =>
       refine Goes.head (fl:=false) (v := .tuple #[]) (e':=e) ho (by rw [hd]; rfl) (fun a hf => .inl (hex _ (hdel (.map (es.eraseIdxIfInBounds p.1) clock) (fun h=>by rw [hf'] at h; cases h) (fun p' hp=>by rw [hf'] at hp; cases hp; rfl)) a hf)) (hg _ ⟨_,_,heap_setObj hlt,?_⟩ chg_setObj (by simp))
       have:=ents_del (v:=p.2) (i:=p.1) h2 hf'
       have he:(es.eraseIdxIfInBounds p.1).toList=es.toList.eraseIdx p.1:=by
        unfold Array.eraseIdxIfInBounds
        split
        ·simp
        ·rename_i hlt'
         rw [List.eraseIdx_of_length_le (by simpa using hlt')]
       rw [he]
       exact this
     ·cases h
    ·cases h
   ·cases h
  ·cases h
 ·cases h
def mkmapOf (o:Oper):Option Unit :=
 match o.op with
 |.makeMap _ none=>some ()
 |_=>none
theorem Goes.mkmap {d:Nat} (h:atHead mkmapOf n s e=some ((),d,s')) (hg:∀ r w1,r=w.heap.size→MapAt w1 r []→Chg None' w w1→w1.heap.size=w.heap.size+1→Goes P f R n ds s' ((d,false,.map (some r))::e) w1):Goes P f R n ds s e w:=by
 refine Goes.val (v := .map (some w.heap.size)) (w':={w with heap:=w.heap.push (.map #[] 0)}) h (fun o ho a hf => ?_) (hg _ _ rfl ⟨#[],0,by simp,rfl⟩ (chg_new _ _) (by simp))
 unfold mkmapOf at ho
 split at ho
 ·rename_i t hop
  simp only [execOp,hop,Option.map_none]
  refine (run_bind_ok (x:=(.map (some w.heap.size):Value)) (w':={w with heap:=w.heap.push (.map #[] 0)}) ?_).trans rfl
  rfl
 ·cases ho
def unZ (op:UnOp) (k:IntKind) (x:Int):Option Int :=
 match op with
 |.neg=>some (k.wrap (0 - x))
 |.xor=>some (bitV .xor k (if k.signed then -1 else k.max) x)
 |_=>none
def unOf (e:Env) (o:Oper):Option (UnOp × IntKind × Int) :=
 match o.op with
 |.unOp op _ x=>match op,ev e x with
  |.neg,some (.int k a)=>some (.neg,k,a)
  |.xor,some (.int k a)=>some (.xor,k,a)
  |_,_=>none
 |_=>none
theorem unOf_run {op:UnOp} {k:IntKind} {x z:Int} {o:Oper} (h:unOf e o=some (op,k,x)) (hz:unZ op k x=some z) (a:Act) (hf:Fits n a e) (w:World):(execOp a.eval o).run P w = .ok (.value (.int k z)) w:=by
 unfold unOf at h
 split at h
 ·rename_i op1 t x1 hop
  split at h
  ·rename_i k1 a1 hx
   cases h
   simp only [unZ,Option.some.injEq] at hz
   subst hz
   simp only [execOp,hop,hf.ev hx]
   refine (run_bind_ok (w':=w) ?_).trans rfl
   simp only [Op.unary,Op.intArith]
   rfl
  ·rename_i k1 a1 hx
   cases h
   simp only [unZ,Option.some.injEq] at hz
   subst hz
   simp only [execOp,hop,hf.ev hx]
   refine (run_bind_ok (w':=w) ?_).trans rfl
   simp only [Op.unary,Op.intBits]
   rfl
  ·cases h
 ·cases h
theorem Goes.un (hT:TabOk P T) {op:UnOp} {k:IntKind} {x z:Int} {d:Nat} {s2:List Item} {e2:Env} (h:atHead (unOf e) n s e=some ((op,k,x),d,s')) (hz:unZ op k x=some z)
 (ha:Go.Proofs.YtnaoiegcobineaaGreatDoor.adv T n 400 s' ((d,false,.int k z)::e)=(s2,e2)) (hg:Goes P f R n ds s2 e2 w):Goes P f R n ds s e w :=
 Goes.val h (fun _ ho a hf=>unOf_run ho hz a hf w) (Goes.adv hT 400 ha hg)
def sidxOf (T:Tab) (e:Env) (o:Oper):Option (ByteArray × Int) :=
 match o.op with
 |.index t x ix=>match ev e x,ev e ix,row T t with
  |some (.string b),some (.int _ i),some {und := .string,..}=>some (b,i)
  |_,_,_=>none
 |_=>none
theorem Goes.sidx (hT:TabOk P T) {b:ByteArray} {i v:Int} {d:Nat} {s2:List Item} {e2:Env} (h:atHead (sidxOf T e) n s e=some ((b,i),d,s')) (h0:0≤i) (hv:(b[i.toNat]?).map (fun x=>(x.toNat:Int))=some v)
 (ha:Go.Proofs.YtnaoiegcobineaaGreatDoor.adv T n 400 s' ((d,false,.int .u8 v)::e)=(s2,e2)) (hg:Goes P f R n ds s2 e2 w):Goes P f R n ds s e w:=by
 refine Goes.val (v := .int .u8 v) (w':=w) h (fun o ho a hf => ?_) (Goes.adv hT 400 ha hg)
 unfold sidxOf at ho
 split at ho
 ·rename_i t x ix hop
  split at ho
  ·rename_i b1 k1 i1 _ _ _ hx hix hr
   cases ho
   simp only [execOp,hop,hf.ev hx,hf.ev hix]
   refine (run_bind_ok (x:=(.int .u8 v:Value)) (w':=w) ?_).trans rfl
   unfold Instr.index
   refine (run_bind_ok (x:=(k1,i)) (w':=w) rfl).trans ?_
   simp only
   refine (run_bind_ok ((hT.row hr).underlying w)).trans ?_
   simp only [h0,if_true]
   cases hb:b[i.toNat]? with
   |none=>rw [hb] at hv; cases hv
   |some y=>rw [hb] at hv; simp only [Option.map_some,Option.some.injEq] at hv; subst hv; rfl
  ·cases ho
 ·cases ho
def aidxOf (T:Tab) (e:Env) (o:Oper):Option (List Value × Int × Nat) :=
 match o.op with
 |.index t x ix=>match ev e x,ev e ix,row T t with
  |some (.agg cs),some (.int _ i),some {und := .array len q,..}=>match row T q with
   |some r2=>match isAggR r2,Nat.beq r2.size 1 with
    |false,true=>some (cs.toList,i,len)
    |_,_=>none
   |none=>none
  |_,_,_=>none
 |_=>none
theorem Goes.aidx (hT:TabOk P T) {vs:List Value} {i:Int} {v:Value} {d len:Nat} {s2:List Item} {e2:Env} (h:atHead (aidxOf T e) n s e=some ((vs,i,len),d,s')) (hlen':vs.length=len) (h0:0≤i) (hv:vs[i.toNat]? = some v)
 (ha:Go.Proofs.YtnaoiegcobineaaGreatDoor.adv T n 400 s' ((d,false,v)::e)=(s2,e2)) (hg:Goes P f R n ds s2 e2 w):Goes P f R n ds s e w:=by
 refine Goes.val (v:=v) (w':=w) h (fun o ho a hf => ?_) (Goes.adv hT 400 ha hg)
 unfold aidxOf at ho
 split at ho
 ·rename_i t x ix hop
  split at ho
  ·rename_i cs k1 i1 len q _ _ _ hx hix hr
   split at ho
   ·rename_i r2 hr2
    split at ho
    ·rename_i hagg hsz
     cases ho
     have hlt:i.toNat<cs.toList.length:=(List.getElem?_eq_some_iff.1 hv).1
     simp only [execOp,hop,hf.ev hx,hf.ev hix]
     refine (run_bind_ok (x:=v) (w':=w) ?_).trans rfl
     unfold Instr.index
     refine (run_bind_ok (x:=(k1,i)) (w':=w) rfl).trans ?_
     simp only
     refine (run_bind_ok ((hT.row hr).underlying w)).trans ?_
     simp only
     rw [if_pos ⟨h0,by omega⟩]
     refine (run_bind_ok ((hT.row hr2).sizeOf w)).trans ?_
     rw [Nat.eq_of_beq_eq_true hsz,Nat.mul_one]
     unfold part
     refine (run_bind_ok ((hT.row hr2).isAgg w)).trans ?_
     rw [hagg]
     simp only [Bool.false_eq_true,if_false]
     rw [← Array.getElem?_toList,hv]
     rfl
    ·cases ho
   ·cases ho
  ·cases ho
 ·cases ho
theorem Drawn.bits (hT:TabOk P T) (hB:drawB ops q=true) {op:BinOp} {kk:IntKind} {x y z:Int} {d i:Nat} {U2:List Nat} {e2:Env} (h:findD (bitsOf e) n ops q U e U=some ((op,kk,x,y),d,i)) (hz:bitV op kk x y=z)
 (ha:advD T n ops q (rmN i U) (rmN i U) ((d,false,.int kk z)::e)=(U2,e2)) (hg:Drawn P f R n ds k ops q S U2 e2 w0 w):Drawn P f R n ds k ops q S U e w0 w :=
 Drawn.val hT hB h (fun _ ho a w' _ hf=>bitsOf_run ho hz a hf w') ha hg
theorem Drawn.shift (hT:TabOk P T) (hB:drawB ops q=true) {l:Bool} {kk:IntKind} {x y z:Int} {d i:Nat} {U2:List Nat} {e2:Env} (h:findD (shiftOf e) n ops q U e U=some ((l,kk,x,y),d,i)) (hy:0≤y) (hz:shV l kk x y=z)
 (ha:advD T n ops q (rmN i U) (rmN i U) ((d,false,.int kk z)::e)=(U2,e2)) (hg:Drawn P f R n ds k ops q S U2 e2 w0 w):Drawn P f R n ds k ops q S U e w0 w :=
 Drawn.val hT hB h (fun _ ho a w' _ hf=>shiftOf_run ho hy hz a hf w') ha hg
theorem Drawn.callQ {fk d i:Nat} {as:List Value} {Q:Value→World→Prop} (hB:drawB ops q=true) (hU:freeL ops q U U = [i]) (h:atTurn (callOf e) n ops e i=some ((fk,as),d))
 (hd:∀ w',Chg None' w w'→Does P fk as.toArray w' (fun v w2=>Chg S w' w2∧Q v w2)) (hg:∀ v w1,Chg S w w1→Q v w1→Drawn P f R n ds k ops q S (rmN i U) ((d,false,v)::e) w0 w1):Drawn P f R n ds k ops q S U e w0 w:=by
 refine Drawn.turn1 hB hU fun w1 hw1 => ?_
 refine Turn.call (Post:=fun v w2=>Chg S w w2∧Q v w2) h (hd w (Chg.refl _ _)).fn (fun h0=>(hd w1 hw1).mono fun v w2 ⟨g1,g2⟩=>⟨h0.trans g1,(hw1.mono fun _ _ h=>h.elim).trans g1,g2⟩) fun v w2 _ ⟨g1,g2⟩=>hg v w2 g1 g2
end
end Go.Proofs.YtnaoiegcobineaaGreatDoor
