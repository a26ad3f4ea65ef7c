/-
  Arguments that came in: bytes, arrays of bytes.
-/
import Derived.Test.YtommemplakcaaaaOpen
import Derived.Test.YtommemplakcaaaaArena2
namespace Go.Proofs.Ytommemplakcaaaa
open Go.ChangeShapes Go.WideShapes Go.ChangeAt Go.RowKit

theorem inU8_of_wf {n : Int} (h : (Lit.int .u8 n).wf = true) : 0 ≤ n ∧ n < 256 := by
  have h' : 0 ≤ n ∧ n ≤ 255 := by simp only [Lit.wf, Bool.and_eq_true, decide_eq_true_eq] at h; exact h
  omega
section
variable {H : Type} {enc : TypeId × Value → H} {w : World} {base b0 : Nat} {r : Reach} {spare : Nat → Bool} {held : Bool}
/-- Bytes that came in. -/
theorem open_bytes0 {fuel : Nat} {cs : List Value} {x : DataW H × List MemPlace} (h : DataW.trod enc Try.prog w base spare held fuel 23 cs = some x) :
    ∃ a cap zs, cs = [.slice a zs.length cap] ∧ Rd .u8 w a zs ∧ InB zs ∧ zs.length ≤ cap ∧ cap ≤ maxLen := by
  rcases open_ints (P := Try.prog) Try.underlying23 Try.underlying5 (by kernel_rfl) h with ⟨hcs, _⟩ | ⟨x, l, c, zs, hcs, _, hl, hm, hz, _, hcell, hwz⟩
  · exact ⟨none, 0, [], hcs, Rd.nil _ _ _, (by intro x hx; cases hx), Nat.le_refl _, by decide⟩
  · have hlen : (zs.take l).length = l := by
      rw [List.length_take, hz]; split <;> omega
    refine ⟨some x, c, zs.take l, by rw [hlen]; exact hcs, ?_, fun n hn => inU8_of_wf (hwz n (List.mem_of_mem_take hn)), by rw [hlen]; exact hl, hm⟩
    intro i hi
    rw [hlen] at hi
    have hi' : i < zs.length := by rw [List.length_take] at hlen; omega
    have hc := hcell i hi'
    have hc0 := hcell 0 (by omega)
    obtain ⟨b, off, spot⟩ := x
    cases spot with
    | none =>
      refine ⟨b, off, rfl, ?_⟩
      rw [show (zs.take l).getD i 0 = zs.getD i 0 from by simp [List.getD, hi]]
      unfold Addr.add at hc
      by_cases h0 : i = 0
      · subst h0; exact hc
      · rw [if_neg h0] at hc; exact hc
    | some q =>
      exfalso
      simp only [World.cell?, Addr.add, if_true] at hc0
      split at hc0 <;> simp at hc0
set_option maxRecDepth 100000 in
theorem open_bytes {v : Value} {d : DataW H} {ps : List MemPlace} (hval : Value.okWide Try.prog w r b0 23 v) (h : DataW.Trod enc Try.prog w base spare held 23 v d ps) :
    ∃ a cap zs, v = .slice a zs.length cap ∧ Rd .u8 w a zs ∧ InB zs ∧ zs.length ≤ cap ∧ cap ≤ maxLen := by
  obtain ⟨a, len, cap, rfl⟩ := okWide_slice Try.underlying23 hval
  obtain ⟨fuel, hf⟩ := h
  obtain ⟨a', cap', zs, hcs, hr⟩ := open_bytes0 hf
  have e : [Value.slice a len cap] = [.slice a' zs.length cap'] := hcs
  cases e
  exact ⟨a, cap, zs, rfl, hr⟩
set_option maxRecDepth 100000 in
theorem open_two {v : Value} {d : DataW H} {ps : List MemPlace} (hval : Value.okWide Try.prog w r b0 34 v) (h : DataW.Trod enc Try.prog w base spare held 34 v d ps) :
    ∃ x y, v = .agg #[.int .u8 x, .int .u8 y] ∧ (0 ≤ x ∧ x < 256) ∧ (0 ≤ y ∧ y < 256) := by
  have hv : ∃ cs, v = .agg cs := by
    unfold Value.okWide at hval
    rw [Try.underlying34] at hval
    obtain ⟨cs, h1, _⟩ := hval
    exact ⟨cs, h1⟩
  obtain ⟨cs, rfl⟩ := hv
  obtain ⟨fuel, hf⟩ := h
  obtain ⟨xs, m, _, _, hl, hlen, hfs⟩ := DataW.trod_array (P := Try.prog) Try.underlying34 hf
  clear hf
  have h0 := hfs 0 (by omega)
  have h1 := hfs 1 (by omega)
  obtain ⟨cl, rfl⟩ : ∃ l : List Value, cs = l.toArray := ⟨cs.toList, by simp⟩
  have hl' : cl.length = 2 := hl
  match xs, hlen, cl, hl' with
  | [x0, x1], _, [c0, c1], _ =>
    obtain ⟨n0, e0, _, g0⟩ := DataW.trod_int (P := Try.prog) Try.underlying5 h0
    obtain ⟨n1, e1, _, g1⟩ := DataW.trod_int (P := Try.prog) Try.underlying5 h1
    have e0' : [c0] = [.int .u8 n0] := e0
    have e1' : [c1] = [.int .u8 n1] := e1
    cases e0'; cases e1'
    exact ⟨n0, n1, rfl, inU8_of_wf g0, inU8_of_wf g1⟩
end
end Go.Proofs.Ytommemplakcaaaa
