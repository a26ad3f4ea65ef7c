/-
  Arguments that came in: bounds of numbers, slices of elements.
-/
import Derived.Test.YtffimkpllchfcaaOpen
import Derived.Test.YtffimkpllchfcaaRowsD
import Derived.Deep.Slices
namespace Go.Proofs.Ytffimkpllchfcaa
open Go.ChangeShapes Go.WideShapes Go.ChangeAt Go.RowKit

theorem inU8_of_wf {n : Int} (h : (Lit.int .u8 n).wf = true) : 0 ≤ n ∧ n < 256 := by
  have h' : 0 ≤ n ∧ n ≤ 255 := by simp only [Lit.wf, Bool.and_eq_true, decide_eq_true_eq] at h; exact h
  omega
theorem inU16_of_wf {n : Int} (h : (Lit.int .u16 n).wf = true) : 0 ≤ n ∧ n < 65536 := by
  have h' : 0 ≤ n ∧ n ≤ 65535 := by simp only [Lit.wf, Bool.and_eq_true, decide_eq_true_eq] at h; exact h
  omega
theorem inU32_of_wf {n : Int} (h : (Lit.int .u32 n).wf = true) : 0 ≤ n ∧ n < 4294967296 := by
  have h' : 0 ≤ n ∧ n ≤ 4294967295 := by simp only [Lit.wf, Bool.and_eq_true, decide_eq_true_eq] at h; exact h
  omega
theorem inI64_of_wf {n : Int} (h : (Lit.int .i64 n).wf = true) : -9223372036854775808 ≤ n ∧ n ≤ 9223372036854775807 := by
  simp only [Lit.wf, Bool.and_eq_true, decide_eq_true_eq] at h
  exact h
section
variable {H : Type} {enc : TypeId × Value → H} {w : World} {base b0 : Nat} {r : Go.Reach} {spare : Nat → Bool} {held : Bool} {P : Program}
theorem spot_none {w : World} {b off : Nat} {q : Option _} {v : Value} (h : w.cell? ⟨b, off, q⟩ = some v) : q = none := by
  cases q with
  | none => rfl
  | some q =>
    exfalso
    simp only [World.cell?] at h
    split at h <;> simp at h
/-- A slice of elements that came in. -/
theorem open_rows {α : Type} {cells : α → List Value} {Ok : α → Prop} {t e sz fuel : Nat} {cs : List Value} {x : DataW H × List MemPlace} (ht : P.underlying t = some (.slice e)) (hsz : P.cellsOf e = sz) (h0 : 0 < sz)
    (hopen : ∀ n cs y, DataW.trod enc P w base spare held n e cs = some y → ∃ v, cs = cells v ∧ Ok v) (h : DataW.trod enc P w base spare held fuel t cs = some x) :
    ∃ a cap xs, cs = [.slice a xs.length cap] ∧ Rows cells sz w a xs ∧ (∀ x ∈ xs, Ok x) ∧ xs.length ≤ cap ∧ cap ≤ maxLen := by
  rcases Go.Deep.open_slice ht h with ⟨hcs, _⟩ | ⟨a, len, cap, m, n, D, Pl, hcs, _, hl, hm, hmm, _, hi⟩
  · exact ⟨none, 0, [], hcs, (fun i x hx => by simp at hx), (fun x hx => by cases hx), Nat.le_refl _, by decide⟩
  · have hle : len ≤ m := by rw [hmm]; split <;> omega
    have hv : ∀ i : Fin len, ∃ v, Ok v ∧ w.cells? base (a.add (i * sz)) sz = some (cells v) := fun i => by
      obtain ⟨cs', h1, h2⟩ := hi i (by omega)
      obtain ⟨v, rfl, hok⟩ := hopen n cs' _ h2
      rw [hsz] at h1
      exact ⟨v, hok, h1⟩
    let f : Fin len → α := fun i => Classical.choose (hv i)
    have hf : ∀ i, Ok (f i) ∧ w.cells? base (a.add (i * sz)) sz = some (cells (f i)) := fun i => Classical.choose_spec (hv i)
    have hlen : (List.ofFn f).length = len := List.length_ofFn
    refine ⟨some a, cap, List.ofFn f, by rw [hlen]; exact hcs, fun i x hx => ?_, fun x hx => ?_, by rw [hlen]; exact hl, hm⟩
    · rw [List.getElem?_ofFn] at hx
      split at hx
      · rename_i hil
        cases hx
        obtain ⟨_, hcl, hat⟩ := World.cells?_some (hf ⟨i, hil⟩).2
        have h00 := hi 0 (by omega)
        obtain ⟨cs0, h1, _⟩ := h00
        obtain ⟨_, hcl0, hat0⟩ := World.cells?_some h1
        have hc0 := hat0 0 (by omega)
        obtain ⟨b, off, q⟩ := a
        have hq : q = none := by
          rw [List.getElem?_eq_getElem (by omega)] at hc0
          simp only [Nat.zero_mul, Addr.add, if_true] at hc0
          exact spot_none hc0
        subst hq
        refine ⟨b, off, rfl, fun j v hv => ?_⟩
        have hj : j < sz := by
          have := (List.getElem?_eq_some_iff.1 hv).1
          omega
        have := hat j hj
        rw [hv, add_off, add_off] at this
        exact this
      · cases hx
    · rw [List.mem_ofFn] at hx
      obtain ⟨i, rfl⟩ := hx
      exact (hf i).1
end
end Go.Proofs.Ytffimkpllchfcaa
