/-
  Rule17
-/
import Derived.Test.YtnaoiegcobineaaGreatDoorQRule15
import Derived.Lib.AppendZerosOnto
namespace Go.Proofs.YtnaoiegcobineaaGreatDoor
open Go.RowKit
section
variable {P:Program} {T:Tab} {ops:Array Oper} {f:FuncId} {R:Aim} {k:List Item} {q n:Nat} {ds:List Deferred} {s s':List Item} {w w0:World} {e:Env} {U:List Nat} {S:Nat→Prop}
def appendZOf (T:Tab) (e:Env) (o:Oper):Option (Int × Nat × Nat × Value) :=
 match o.op with
 |.call c=>match c.callee,evs e c.args.toList,c.argTypes.toList with
  |.builtin .append,some [.slice none 0 0,.int .i64 k],[t,t']=>match row T t,row T t' with
   |some {und := .slice q,..},some {und := .int .i64,..}=>match row T q with
    |some r2=>match r2.zero with
     |some z=>match Nat.beq (cellsL z).length 1,Nat.beq r2.size 1 with
      |true,true=>some (k,q,r2.bytes,z)
      |_,_=>none
     |none=>none
    |none=>none
   |_,_=>none
  |_,_,_=>none
 |_=>none
theorem appendZ_run (hT:TabOk P T) {z:Value} {k q by':Nat} {o:Oper} (h:appendZOf T e o=some ((k:Int),q,by',z)) (hk:0<k) (hb:k*by'≤140737488355328) (hk2:k≤140737488355328) :
 ∃ cap w',(∀ act,Fits n act e→(execOp act.eval o).run P w = .ok (.value (.slice (some ⟨w.heap.size,0,none⟩) k cap)) w')∧Chg None' w w'∧w'.heap.size=w.heap.size+1∧k≤cap∧cap≤maxLen ∧ ∃ cur,w'.heap[w.heap.size]? = some (.cells cur q (0,0))∧cur.size=cap:=by
 unfold appendZOf at h
 split at h
 ·rename_i c hop
  split at h
  ·rename_i k1 t t' hcal hev hty
   split at h
   ·rename_i q1 sz1 by1 z1 sz3 by3 z3 hr hr'
    split at h
    ·rename_i r2 hr2
     split at h
     ·rename_i z2 hz2
      split at h
      ·rename_i hzl hsz
       cases h
       have hi:=(hT.row hr2).2
       have hu:=(hT.row hr).1
       have hu':=(hT.row hr').1
       cases hinf:P.info? q with
       |none=>rw [hinf] at hi; cases hi
       |some inf =>
        rw [hinf] at hi
        simp only [Option.map_some,Option.some.injEq,Prod.mk.injEq] at hi
        obtain ⟨i1,i2,i3⟩:=hi
        have hs1:inf.size=1:=by rw [i1]; exact Nat.eq_of_beq_eq_true hsz
        have hzc:z.cells.size=1:=by
         have:=Nat.eq_of_beq_eq_true hzl
         rw [← cellsL_eq] at this; simpa using this
        have hfit:Builtin.nextslicecap (0+k) 0*inf.bytes≤281474976710656:=growslice_fits (by omega) (by rw [i2,Nat.zero_add]; exact hb)
        have hrun:=Lib.run_append_grow_zeros (P:=P) w t t' o.type q inf z .i64 .i64 hu hu' hinf (by rw [i3,hz2]) none 0 0 [] (by simp [Builtin.firstCells]) k hk (by omega) (by omega) (by omega) (by rw [i2]; omega) hfit
        rw [Nat.zero_add] at hrun
        have hge:=grownCap_ge w k 0 q
        have hle:=grownCap_le_maxLen w k 0 q (by unfold maxLen; omega)
        refine ⟨grownCap w k 0 q,w.drew.alloc (.cells (#[]++Builtin.zeroCells z.cells k++Builtin.zeroCells z.cells (grownCap w k 0 q - k)) q),fun act hf => ?_,?_,?_,hge,hle,#[]++Builtin.zeroCells z.cells k++Builtin.zeroCells z.cells (grownCap w k 0 q - k),?_,?_⟩
        ·obtain ⟨dst,op,type,pos,after,guard⟩:=o
         simp only at hop
         subst hop
         obtain ⟨callee,args,argTypes⟩:=c
         simp only at hcal hev hty hrun
         subst hcal
         have hargs:args.map act.eval = #[.slice none 0 0,.int .i64 (k:Int)]:=map_of_toList (hf.evs hev)
         have hts:argTypes = #[t,t']:=by obtain ⟨ats⟩:=argTypes; simp only at hty; subst hty; rfl
         subst hts
         simp only [execOp,resolve,hargs]
         refine (run_bind_ok (show _=Result.ok _ w from rfl)).trans ?_
         exact (run_bind_ok hrun).trans rfl
        ·exact (show Chg None' w w.drew from ⟨rfl,rfl,rfl,Nat.le_refl _,fun _ _ _=>rfl⟩).trans (chg_new _ _)
        ·simp
        ·exact (show ∀ (w1:World) o,w1.heap.size=w.heap.size→(w1.alloc o).heap[w.heap.size]? = some o from fun w1 o h=>by show (w1.heap.push o)[w.heap.size]? = some o; rw [← h]; simp) w.drew _ rfl
        ·simp [Builtin.zeroCells,hzc]
         omega
      ·cases h
     ·cases h
    ·cases h
   ·cases h
  ·cases h
 ·cases h
theorem Goes.appendZ (hT:TabOk P T) {z:Value} {k q by' d:Nat} (h:atHead (appendZOf T e) n s e=some (((k:Int),q,by',z),d,s')) (hk:0<k) (hb:k*by'≤140737488355328) (hk2:k≤140737488355328)
 (hg:∀ cap cur w1,Chg None' w w1→w1.heap.size=w.heap.size+1→k≤cap→cap≤maxLen→w1.heap[w.heap.size]? = some (.cells cur q (0,0))→cur.size=cap→Goes P f R n ds s' ((d,false,.slice (some ⟨w.heap.size,0,none⟩) k cap)::e) w1):Goes P f R n ds s e w:=by
 obtain ⟨o,ho,hd,hlt,hx⟩:=atHead_ok h
 obtain ⟨cap,w',g1,g2,g3,g4,g5,cur,g6,g7⟩:=appendZ_run (n:=n) hT hx hk hb hk2
 exact Goes.head ho (by rw [hd]; exact putE_lt hlt) (fun a hf => .inl (g1 a hf)) (hg cap cur w' g2 g3 g4 g5 g6 g7)
def capOf (T:Tab) (e:Env) (o:Oper):Option Nat :=
 match o.op with
 |.call c=>match c.callee,evs e c.args.toList,c.argTypes.toList with
  |.builtin .cap,some [.slice _ _ m],t::_=>match row T t with
   |some {und := .slice _,..}=>some m
   |_=>none
  |_,_,_=>none
 |_=>none
theorem capOf_run (hT:TabOk P T) {m:Nat} {o:Oper} (h:capOf T e o=some m) (a:Act) (hf:Fits n a e) (w:World):(execOp a.eval o).run P w = .ok (.value (.int .i64 m)) w:=by
 unfold capOf at h
 split at h
 ·rename_i c hop
  split at h
  ·rename_i b0 m0 m1 t ts hcal hev hty
   split at h
   ·rename_i q1 sz by' z hr
    cases h
    have hu:=(hT.row hr).underlying w
    obtain ⟨dst,op,type,pos,after,guard⟩:=o
    simp only at hop
    subst hop
    obtain ⟨callee,args,argTypes⟩:=c
    simp only at hcal hev hty
    subst hcal
    have hargs:args.map a.eval = #[.slice b0 m0 m]:=map_of_toList (hf.evs hev)
    have h0:argTypes[0]? = some t:=by
     obtain ⟨ats⟩:=argTypes
     simp only at hty; subst hty; rfl
    simp only [execOp,resolve,hargs]
    refine (run_bind_ok (show _=Result.ok _ w from rfl)).trans ?_
    refine (run_bind_ok (x:=(.int .i64 m:Value)) (w':=w) ?_).trans rfl
    simp only [Builtin.cap_,h0]
    exact (run_bind_ok hu).trans rfl
   ·cases h
  ·cases h
 ·cases h
theorem Goes.cap (hT:TabOk P T) {m d:Nat} (h:atHead (capOf T e) n s e=some (m,d,s')) (hg:Goes P f R n ds s' ((d,false,.int .i64 m)::e) w):Goes P f R n ds s e w :=
 Goes.val h (fun _ ho a hf=>capOf_run hT ho a hf w) hg
end
end Go.Proofs.YtnaoiegcobineaaGreatDoor
