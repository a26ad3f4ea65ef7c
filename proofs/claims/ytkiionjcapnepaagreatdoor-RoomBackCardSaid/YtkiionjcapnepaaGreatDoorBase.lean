/-
  General lemmas: worlds that have only grown, slices that read as lists. No program in sight.
-/
import Derived.WalkKit
import Derived.Below
import Derived.ProofKit
import Derived.Deep.QuietTactic
import Derived.BigQuiet
import Derived.Outline
import Derived.LoopTactic
import Derived.Deep.LoopGhost
import Derived.WalkSpells
import Derived.WalkLawsBesides
import Derived.Lib.Hide
namespace Go.Proofs.YtkiionjcapnepaaGreatDoor
open Go.RowKit

theorem ret_eq {a b : Value} (h : a = b) : Ending.returned a = .returned b := by rw [h]
theorem int_eq {k : IntKind} {a b : Int} (h : a = b) : Ending.returned (.int k a) = .returned (.int k b) := by rw [h]
theorem bool_eq {a b : Bool} (h : a = b) : Ending.returned (.bool a) = .returned (.bool b) := by rw [h]

theorem below_cell {w w' : World} (h : Below w.heap.size w w') {a : Addr} {v : Value} (hc : w.cell? a = some v) : w'.cell? a = some v :=
  (h.cell (World.block_lt_of_cell? w a hc)).trans hc
theorem below_trans {w w1 w2 : World} (h : Below w.heap.size w w1) (k : Below w1.heap.size w1 w2) : Below w.heap.size w w2 :=
  h.trans (k.mono h.size)
theorem below_alloc {w w1 : World} (h : Below w.heap.size w w1) (o : Obj) : Below w.heap.size w (w1.alloc o) := h.alloc h.size o
theorem below_drewN {w w1 : World} (h : Below w.heap.size w w1) (n : Nat) : Below w.heap.size w (w1.drewN n) := ⟨h.os, h.tape, h.output, h.size, h.block⟩
theorem below_drew {w w1 : World} (h : Below w.heap.size w w1) : Below w.heap.size w w1.drew := ⟨h.os, h.tape, h.output, h.size, h.block⟩
theorem below_self (w : World) : Below w.heap.size w w := Below.refl _ _

/-- The slice of address a reads as whole numbers zs of kind k (so many as zs has). -/
def Rd (k : IntKind) (w : World) (a : Option Addr) (zs : List Int) : Prop :=
  ∀ i, i < zs.length → ∃ b off, a = some ⟨b, off, none⟩ ∧ w.cell? ⟨b, off + i, none⟩ = some (.int k (zs.getD i 0))
theorem Rd.nil (k : IntKind) (w : World) (a : Option Addr) : Rd k w a [] := fun i h => absurd h (by simp)
theorem Rd.below {k : IntKind} {w w' : World} {a : Option Addr} {zs : List Int} (h : Rd k w a zs) (hb : Below w.heap.size w w') : Rd k w' a zs := fun i hi => by
  obtain ⟨b, off, e, hc⟩ := h i hi
  exact ⟨b, off, e, below_cell hb hc⟩
/-- Cells that stand behind one another. -/
theorem Rd.of_cells {k : IntKind} {w : World} {b off : Nat} {zs : List Int} (h : ∀ i, i < zs.length → w.cell? ⟨b, off + i, none⟩ = some (.int k (zs.getD i 0))) : Rd k w (some ⟨b, off, none⟩) zs :=
  fun i hi => ⟨b, off, rfl, h i hi⟩
end Go.Proofs.YtkiionjcapnepaaGreatDoor
