/-
  Rule23
-/
import Derived.Test.YtnaoiegcobineaaGreatDoorQRule12
import Derived.Test.YtnaoiegcobineaaGreatDoorQRule10
namespace Go.Proofs.YtnaoiegcobineaaGreatDoor
open Go.RowKit
section
variable {P:Program} {T:Tab} {ops:Array Oper} {f:FuncId} {R:Aim} {k:List Item} {q n:Nat} {ds:List Deferred} {w w0:World} {e:Env} {U:List Nat} {S:Nat→Prop}
theorem Drawn.turn3 (hB:drawB ops q=true) {i j l:Nat} (h:freeL ops q U U = [i,j,l]) (h1:∀ w',Chg None' w w'→Turn P f R n ds k ops q S U i e w0 w') (h2:∀ w',Chg None' w w'→Turn P f R n ds k ops q S U j e w0 w') (h3:∀ w',Chg None' w w'→Turn P f R n ds k ops q S U l e w0 w'):Drawn P f R n ds k ops q S U e w0 w :=
 Drawn.turns hB h fun w' hw' x hx=>by
  rcases List.mem_cons.1 hx with rfl | hx
  ·exact h1 w' hw'
  ·rcases List.mem_cons.1 hx with rfl | hx
   ·exact h2 w' hw'
   ·simp at hx; subst hx; exact h3 w' hw'
theorem Turn.mkmap (hT:TabOk P T) (hB:drawB ops q=true) {d i:Nat} {U2:List Nat} {e2:Nat→Env} (h:atTurn mkmapOf n ops e i=some ((),d))
 (ha:∀ b,advD T n ops q (rmN i U) (rmN i U) ((d,false,.map (some b))::e)=(U2,e2 b))
 (hg:∀ b w1,b=w.heap.size→MapAt w1 b []→Chg None' w w1→w1.heap.size=w.heap.size+1→Drawn P f R n ds k ops q S U2 (e2 b) w0 w1):Turn P f R n ds k ops q S U i e w0 w:=by
 refine Turn.val (v := .map (some w.heap.size)) (w1:={w with heap:=w.heap.push (.map #[] 0)}) hT hB h (fun o ho a hf => ?_) (fun h=>h.up (chg_new _ _)) (ha _) (hg _ _ rfl ⟨#[],0,by simp,rfl⟩ (chg_new _ _) (by simp))
 unfold mkmapOf at ho
 split at ho
 ·rename_i t hop
  simp only [execOp,hop,Option.map_none]
  refine (run_bind_ok (x:=(.map (some w.heap.size):Value)) (w':={w with heap:=w.heap.push (.map #[] 0)}) ?_).trans rfl
  rfl
 ·cases ho
end
end Go.Proofs.YtnaoiegcobineaaGreatDoor
