/-
  A slice of elements of several cells.
-/
import Derived.Test.YtffimkpllchfcaaRule9
namespace Go.Proofs.Ytffimkpllchfcaa
open Go.RowKit

/-- Elements of so many cells each, one behind another. -/
def Rows {α : Type} (cells : α → List Value) (sz : Nat) (w : World) (a : Option Addr) (xs : List α) : Prop :=
  ∀ i x, xs[i]? = some x → ∃ b off, a = some ⟨b, off, none⟩ ∧ ∀ j v, (cells x)[j]? = some v → w.cell? ⟨b, off + i * sz + j, none⟩ = some v
theorem Rows.chg {α : Type} {cells : α → List Value} {sz : Nat} {w w' : World} {a : Option Addr} {xs : List α} (h : Rows cells sz w a xs) (hc : Chg None' w w') : Rows cells sz w' a xs := fun i x hx => by
  obtain ⟨b, off, e, hcell⟩ := h i x hx
  exact ⟨b, off, e, fun j v hv => below_cell hc.below (hcell j v hv)⟩
theorem Rows.at {α : Type} {cells : α → List Value} {sz : Nat} {w : World} {a : Option Addr} {xs : List α} (h : Rows cells sz w a xs) {i : Nat} (hi : i < xs.length) :
    ∃ b off, a = some ⟨b, off, none⟩ ∧ ∀ j v, (cells xs[i])[j]? = some v → w.cell? ⟨b, off + i * sz + j, none⟩ = some v := h i xs[i] (List.getElem?_eq_getElem hi)
/-- Outside some blocks. -/
def OutA (S : Nat → Prop) (a : Option Addr) : Prop := ∀ b off s, a = some ⟨b, off, s⟩ → ¬ S b
/-- Where it was, or in a block that is new. -/
def Newer (w : World) (a a' : Option Addr) : Prop := a' = a ∨ ∃ g off, a' = some ⟨g, off, none⟩ ∧ w.heap.size ≤ g
theorem OutA.newer {S : Nat → Prop} {w : World} {a a' : Option Addr} (h : OutA S a) (hn : Newer w a a') (hS : ∀ b, S b → b < w.heap.size) : OutA S a' := fun b off s e hb => by
  rcases hn with hn | ⟨g, off', hn, hg⟩
  · rw [hn] at e; exact h b off s e hb
  · rw [hn] at e; cases e; have := hS _ hb; omega
theorem OutA.fresh {S : Nat → Prop} {w : World} {g off : Nat} (hg : w.heap.size ≤ g) (hS : ∀ b, S b → b < w.heap.size) : OutA S (some ⟨g, off, none⟩) := fun b off' s e hb => by cases e; have := hS _ hb; omega
theorem Rd.far {k : IntKind} {w w' : World} {a : Option Addr} {zs : List Int} {S : Nat → Prop} (h : Rd k w a zs) (hs : OutA S a) (hc : Chg S w w') : Rd k w' a zs := (RdS.chg ⟨h, fun b off s e _ => hs b off s e⟩ hc).1
theorem OutA.mono {S S' : Nat → Prop} {a : Option Addr} (h : OutA S a) (hs : ∀ z, S' z → S z) : OutA S' a := fun b off s e hb => h b off s e (hs _ hb)
end Go.Proofs.Ytffimkpllchfcaa
