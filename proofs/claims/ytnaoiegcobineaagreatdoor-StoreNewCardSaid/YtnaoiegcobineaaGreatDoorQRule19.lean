/-
  Rule19
-/
import Derived.Test.YtnaoiegcobineaaGreatDoorQRule18
/-
  append to a row of one's own at its turn, where the row is older than the region.
-/
namespace Go.Proofs.YtnaoiegcobineaaGreatDoor
open Go.RowKit
section
variable {P : Program} {T : Tab} {ops : Array Oper} {f : FuncId} {R : Aim} {k : List Item} {q n : Nat} {ds : List Deferred} {s s' : List Item} {w w0 : World} {e : Env} {U : List Nat} {S : Nat → Prop}
theorem Turn.loads (hT : TabOk P T) (hB : drawB ops q = true) {b off m d i : Nat} {c vs : List Value} {t : TypeId} {fz : Nat × Nat} {U2 : List Nat} {e2 : Env} (h : atTurn (loadOf T e) n ops e i = some ((b, off, some m), d))
    (hc : w.heap[b]? = some (.cells c.toArray t fz)) (hv : cut c off m = some vs)
    (ha : advD T n ops q (rmN i U) (rmN i U) ((d, false, .agg vs.toArray) :: e) = (U2, e2)) (hg : Drawn P f R n ds k ops q S U2 e2 w0 w) : Turn P f R n ds k ops q S U i e w0 w :=
  Turn.val hT hB h (fun _ ho a hf => loadsOf_run hT ho hc hv a hf) id ha hg
end
end Go.Proofs.YtnaoiegcobineaaGreatDoor

