/-
  A slice of elements of several cells.
-/
import Derived.Test.YtoileikhfgehcaaDoorRule9
namespace Go.Proofs.YtoileikhfgehcaaDoor
open Go.RowKit

/-- Elements of so many cells each, one behind another. -/
def Rows {α : Type} (cells : α → List Value) (sz : Nat) (w : World) (a : Option Addr) (xs : List α) : Prop :=
  ∀ i x, xs[i]? = some x → ∃ b off, a = some ⟨b, off, none⟩ ∧ ∀ j v, (cells x)[j]? = some v → w.cell? ⟨b, off + i * sz + j, none⟩ = some v
theorem Rows.chg {α : Type} {cells : α → List Value} {sz : Nat} {w w' : World} {a : Option Addr} {xs : List α} (h : Rows cells sz w a xs) (hc : Chg None' w w') : Rows cells sz w' a xs := fun i x hx => by
  obtain ⟨b, off, e, hcell⟩ := h i x hx
  exact ⟨b, off, e, fun j v hv => below_cell hc.below (hcell j v hv)⟩
theorem Rows.at {α : Type} {cells : α → List Value} {sz : Nat} {w : World} {a : Option Addr} {xs : List α} (h : Rows cells sz w a xs) {i : Nat} (hi : i < xs.length) :
    ∃ b off, a = some ⟨b, off, none⟩ ∧ ∀ j v, (cells xs[i])[j]? = some v → w.cell? ⟨b, off + i * sz + j, none⟩ = some v := h i xs[i] (List.getElem?_eq_getElem hi)
end Go.Proofs.YtoileikhfgehcaaDoor
