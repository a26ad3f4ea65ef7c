/-
  Arguments that came in: slices of structs.
-/
import Derived.Test.YtommemplakcaaaaArenaOpen
import Derived.Test.YtommemplakcaaaaUse
import Derived.Deep.Slices
namespace Go.Proofs.Ytommemplakcaaaa
open Go.ChangeShapes Go.WideShapes Go.ChangeAt Go.RowKit

section
variable {H : Type} {enc : TypeId × Value → H} {w : World} {base b0 : Nat} {r : Reach} {spare : Nat → Bool} {held : Bool} {P : Program}
theorem spot_none {w : World} {b off : Nat} {q : Option _} {v : Value} (h : w.cell? ⟨b, off, q⟩ = some v) : q = none := by
  cases q with
  | none => rfl
  | some q =>
    exfalso
    simp only [World.cell?] at h
    split at h <;> simp at h
/-- A slice of elements that came in. -/
theorem open_rows {α : Type} {cells : α → List Value} {Ok : α → Prop} {t e sz fuel : Nat} {cs : List Value} {x : DataW H × List MemPlace} (ht : P.underlying t = some (.slice e)) (hsz : P.cellsOf e = sz) (h0 : 0 < sz)
    (hopen : ∀ n cs y, DataW.trod enc P w base spare held n e cs = some y → ∃ v, cs = cells v ∧ Ok v) (h : DataW.trod enc P w base spare held fuel t cs = some x) :
    ∃ a cap xs, cs = [.slice a xs.length cap] ∧ Rows cells sz w a xs ∧ (∀ x ∈ xs, Ok x) ∧ xs.length ≤ cap ∧ cap ≤ maxLen := by
  rcases Go.Deep.open_slice ht h with ⟨hcs, _⟩ | ⟨a, len, cap, m, n, D, Pl, hcs, _, hl, hm, hmm, _, hi⟩
  · exact ⟨none, 0, [], hcs, (fun i x hx => by simp at hx), (fun x hx => by cases hx), Nat.le_refl _, by decide⟩
  · have hle : len ≤ m := by rw [hmm]; split <;> omega
    have hv : ∀ i : Fin len, ∃ v, Ok v ∧ w.cells? base (a.add (i * sz)) sz = some (cells v) := fun i => by
      obtain ⟨cs', h1, h2⟩ := hi i (by omega)
      obtain ⟨v, rfl, hok⟩ := hopen n cs' _ h2
      rw [hsz] at h1
      exact ⟨v, hok, h1⟩
    let f : Fin len → α := fun i => Classical.choose (hv i)
    have hf : ∀ i, Ok (f i) ∧ w.cells? base (a.add (i * sz)) sz = some (cells (f i)) := fun i => Classical.choose_spec (hv i)
    have hlen : (List.ofFn f).length = len := List.length_ofFn
    refine ⟨some a, cap, List.ofFn f, by rw [hlen]; exact hcs, fun i x hx => ?_, fun x hx => ?_, by rw [hlen]; exact hl, hm⟩
    · rw [List.getElem?_ofFn] at hx
      split at hx
      · rename_i hil
        cases hx
        obtain ⟨_, hcl, hat⟩ := World.cells?_some (hf ⟨i, hil⟩).2
        have h00 := hi 0 (by omega)
        obtain ⟨cs0, h1, _⟩ := h00
        obtain ⟨_, hcl0, hat0⟩ := World.cells?_some h1
        have hc0 := hat0 0 (by omega)
        obtain ⟨b, off, q⟩ := a
        have hq : q = none := by
          rw [List.getElem?_eq_getElem (by omega)] at hc0
          simp only [Nat.zero_mul, Addr.add, if_true] at hc0
          exact spot_none hc0
        subst hq
        refine ⟨b, off, rfl, fun j v hv => ?_⟩
        have hj : j < sz := by
          have := (List.getElem?_eq_some_iff.1 hv).1
          omega
        have := hat j hj
        rw [hv, add_off, add_off] at this
        exact this
      · cases hx
    · rw [List.mem_ofFn] at hx
      obtain ⟨i, rfl⟩ := hx
      exact (hf i).1
end
section
variable {H : Type} {enc : TypeId × Value → H} {w : World} {base b0 : Nat} {r : Reach} {spare : Nat → Bool} {held : Bool}
theorem inU64_of_wf {n : Int} (h : (Lit.int .u64 n).wf = true) : 0 ≤ n ∧ n < 18446744073709551616 := by
  have h' : 0 ≤ n ∧ n ≤ 18446744073709551615 := by simp only [Lit.wf, Bool.and_eq_true, decide_eq_true_eq] at h; exact h
  omega
set_option maxRecDepth 100000 in
/-- A use that came in. -/
theorem open_use0 {fuel : Nat} {cs : List Value} {x : DataW H × List MemPlace} (h : DataW.trod enc Try.prog w base spare held fuel 69 cs = some x) : ∃ u, cs = useL u ∧ UseOk w u := by
  obtain ⟨xs, n, _, _, hl, hlen, hfs⟩ := DataW.trod_struct (P := Try.prog) Try.underlying69 h
  clear h
  have h0 := hfs 0 _ rfl
  have h1 := hfs 1 _ rfl
  have h2 := hfs 2 _ rfl
  have h3 := hfs 3 _ rfl
  have h4 := hfs 4 _ rfl
  have h5 := hfs 5 _ rfl
  have hl' : cs.length = 6 := hl
  match xs, hlen, cs, hl' with
  | [x0, x1, x2, x3, x4, x5], _, [c0, c1, c2, c3, c4, c5], _ =>
    obtain ⟨n0, e0, _, g0⟩ := DataW.trod_int (P := Try.prog) Try.underlying5 h0
    obtain ⟨n1, e1, _, g1⟩ := DataW.trod_int (P := Try.prog) Try.underlying3 h1
    obtain ⟨n2, e2, _, g2⟩ := DataW.trod_int (P := Try.prog) Try.underlying3 h2
    obtain ⟨n3, e3, _, g3⟩ := DataW.trod_int (P := Try.prog) Try.underlying3 h3
    obtain ⟨n4, e4, _, g4⟩ := DataW.trod_int (P := Try.prog) Try.underlying65 h4
    obtain ⟨a5, k5, z5, e5, r5, i5, l5, m5⟩ := open_bytes0 h5
    have e0' : [c0] = [.int .u8 n0] := e0
    have e1' : [c1] = [.int .i64 n1] := e1
    have e2' : [c2] = [.int .i64 n2] := e2
    have e3' : [c3] = [.int .i64 n3] := e3
    have e4' : [c4] = [.int .u64 n4] := e4
    have e5' : [c5] = [.slice a5 z5.length k5] := e5
    cases e0'; cases e1'; cases e2'; cases e3'; cases e4'; cases e5'
    have hm : maxLen ≤ 9223372036854775807 := by decide
    exact ⟨⟨n0, n1, n2, n3, n4, a5, k5, z5⟩, rfl, ⟨inU8_of_wf g0, inU64_of_wf g4, r5, i5, by simp only; omega⟩⟩
set_option maxRecDepth 100000 in
theorem open_use {v : Value} {d : DataW H} {ps : List MemPlace} (hval : Value.okWide Try.prog w r b0 69 v) (h : DataW.Trod enc Try.prog w base spare held 69 v d ps) : ∃ u, v = .agg (useL u).toArray ∧ UseOk w u := by
  obtain ⟨cs, rfl, _⟩ := okWide_struct Try.underlying69 hval
  obtain ⟨fuel, hf⟩ := h
  obtain ⟨u, hcs, hu⟩ := open_use0 hf
  exact ⟨u, by rw [← hcs]; rfl, hu⟩
set_option maxRecDepth 100000 in
theorem open_uses {v : Value} {d : DataW H} {ps : List MemPlace} (hval : Value.okWide Try.prog w r b0 63 v) (h : DataW.Trod enc Try.prog w base spare held 63 v d ps) :
    ∃ a cap xs, v = .slice a xs.length cap ∧ Rows useL 6 w a xs ∧ (∀ x ∈ xs, UseOk w x) ∧ xs.length ≤ 9223372036854775807 := by
  obtain ⟨a, len, cap, rfl⟩ := okWide_slice Try.underlying63 hval
  obtain ⟨fuel, hf⟩ := h
  obtain ⟨a', cap', xs, hcs, hr, hx, hl, hm⟩ := open_rows (P := Try.prog) (cells := useL) (Ok := UseOk w) (sz := 6) Try.underlying63 (by kernel_rfl) (by decide) (fun n cs y hy => open_use0 hy) hf
  have e : [Value.slice a len cap] = [.slice a' xs.length cap'] := hcs
  cases e
  have hml : maxLen ≤ 9223372036854775807 := by decide
  exact ⟨a, cap, xs, rfl, hr, hx, by omega⟩
end
end Go.Proofs.Ytommemplakcaaaa
