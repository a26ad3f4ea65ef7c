/-
  Texts put together: Open, Tied, OpenRows.
-/
import Derived.Test.YtnaoiegcobineaaGreatDoorPt5
import Derived.Test.YtnaoiegcobineaaGreatDoorRows
import Derived.Test.YtnaoiegcobineaaGreatDoorQBase
import Derived.OpenShut
import Derived.ShutString
import Derived.ChangeOld
import Derived.Test.YtnaoiegcobineaaGreatDoorTie
import Derived.Test.YtnaoiegcobineaaGreatDoorCards
import Derived.ProofKit
import Derived.LaidMore
import Derived.Lay
import Derived.SevenTiedAt
import Derived.Stop.Joined
import Derived.Deep.Slices
set_option linter.unusedVariables false
/-
  What every claim of this seat needs: no switch of its own, and what the text lays.
-/
namespace Go.Proofs.YtnaoiegcobineaaGreatDoor
open Go.RowKit

theorem own : ownKnob Tryz.prog.godebug = none := by kernel_rfl
end Go.Proofs.YtnaoiegcobineaaGreatDoor
/-
  What the row's condition says of Go's own table: its cells.
-/
namespace Go.Proofs.YtnaoiegcobineaaGreatDoor
open Go.ChangeShapes Go.WideShapes Go.ChangeAt Go.RowKit

def laidL : List (String × DataW Unit) := [("math/bits.deBruijn64tab", Rows.laid_math_bits_deBruijn64tab)]
theorem laid_deB : (Rows.laid_math_bits_deBruijn64tab : DataW Unit) = .agg (deB.map fun n : Nat => .lit (.int .u8 (n : Int))) := by rfl
theorem tab_of_laid {W : World} (h : laidMetH Tryz.prog laidL W) : TabAt W := fun r hr => by
  rw [MakeChecks.laidMetH_plain _ _ _ (by kernel_rfl)] at h
  obtain ⟨ps, ⟨g, t, cs, fuel, p, q, hg, ht, hv, hd, _, _⟩, _, _⟩ := h
  obtain rfl := Option.some.inj ((show Tryz.prog.globalNamed "math/bits.deBruijn64tab" = some 0 by kernel_rfl).symm.trans hg)
  obtain rfl := Option.some.inj ((show (Tryz.prog.globals[0]?).map (·.type) = some 329 by kernel_rfl).symm.trans ht)
  rw [laid_deB] at hd
  obtain ⟨xs, m, _, ex, _, hl, hel⟩ := DataW.trod_array Tryz.underlying329 hd
  have c5 : Tryz.prog.cellsOf 5 = 1 := by kernel_rfl
  have hE := hel r hr
  rw [c5, Nat.mul_one, List.getElem?_eq_getElem (by omega)] at hE
  obtain ⟨z, e1, e2, _⟩ := DataW.trod_int Tryz.underlying5 hE
  have hlen : deB.length = 64 := rfl
  have e3 : (xs.map (·.1)) = deB.map fun n : Nat => .lit (.int .u8 (n : Int)) := (DataW.agg.inj (Prod.mk.inj ex).1).symm
  have e4 : (xs.map (·.1))[r]? = (deB.map fun n : Nat => (DataW.lit (.int .u8 (n : Int)) : DataW Unit))[r]? := by rw [e3]
  rw [List.getElem?_map, List.getElem?_map, List.getElem?_eq_getElem (by omega : r < xs.length), List.getElem?_eq_getElem (by omega : r < deB.length), e2] at e4
  have hz : z = (deB.getD r 0 : Nat) := by
    simp only [Option.map_some, Option.some.injEq, DataW.lit.injEq, Lit.int.injEq, true_and] at e4
    rw [e4, List.getD, List.getElem?_eq_getElem (by omega : r < deB.length)]; rfl
  rw [World.var?_cell hg hv r, ← hz]
  have : cs.toList[r]? = some (.int .u8 z) := by
    have h0 : ((cs.toList.drop r).take 1)[0]? = some (.int .u8 z) := by rw [e1]; rfl
    simpa using h0
  simpa using this
end Go.Proofs.YtnaoiegcobineaaGreatDoor
/-
  Arguments that came in: bounds of numbers, slices of elements.
-/
namespace Go.Proofs.YtnaoiegcobineaaGreatDoor
open Go.ChangeShapes Go.WideShapes Go.ChangeAt Go.RowKit

theorem inI64_of_wf {n : Int} (h : (Lit.int .i64 n).wf = true) : -9223372036854775808 ≤ n ∧ n ≤ 9223372036854775807 := by
  simp only [Lit.wf, Bool.and_eq_true, decide_eq_true_eq] at h
  exact h
section
variable {H : Type} {enc : TypeId × Value → H} {w : World} {base b0 : Nat} {r : Go.Reach} {spare : Nat → Bool} {held : Bool} {P : Program}
end
end Go.Proofs.YtnaoiegcobineaaGreatDoor
