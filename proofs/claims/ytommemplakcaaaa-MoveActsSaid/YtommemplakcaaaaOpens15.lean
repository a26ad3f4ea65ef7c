/-
  Arguments that came in: acts of a move; three numbers.
-/
import Derived.Test.YtommemplakcaaaaOpens
import Derived.Test.YtommemplakcaaaaAct
namespace Go.Proofs.Ytommemplakcaaaa
open Go.ChangeShapes Go.WideShapes Go.ChangeAt Go.RowKit
section
variable {H : Type} {enc : TypeId × Value → H} {w : World} {base b0 : Nat} {r : Reach} {spare : Nat → Bool} {held : Bool}
set_option maxRecDepth 100000 in
theorem open_act0 {fuel : Nat} {cs : List Value} {x : DataW H × List MemPlace} (h : DataW.trod enc Try.prog w base spare held fuel 48 cs = some x) : ∃ u, cs = actL u ∧ ActOk w u := by
  obtain ⟨xs, n, _, _, hl, hlen, hfs⟩ := DataW.trod_struct (P := Try.prog) Try.underlying48 h
  clear h
  have h0 := hfs 0 _ rfl
  have h1 := hfs 1 _ rfl
  have h2 := hfs 2 _ rfl
  have h3 := hfs 3 _ rfl
  have hl' : cs.length = 4 := hl
  match xs, hlen, cs, hl' with
  | [x0, x1, x2, x3], _, [c0, c1, c2, c3], _ =>
    obtain ⟨n0, e0, _⟩ := DataW.trod_bool (P := Try.prog) Try.underlying4 h0
    obtain ⟨n1, e1, _, g1⟩ := DataW.trod_int (P := Try.prog) Try.underlying3 h1
    obtain ⟨n2, e2, _, g2⟩ := DataW.trod_int (P := Try.prog) Try.underlying3 h2
    obtain ⟨a5, k5, z5, e5, r5, i5, l5, m5⟩ := open_bytes0 h3
    have e0' : [c0] = [.bool n0] := e0
    have e1' : [c1] = [.int .i64 n1] := e1
    have e2' : [c2] = [.int .i64 n2] := e2
    have e5' : [c3] = [.slice a5 z5.length k5] := e5
    cases e0'; cases e1'; cases e2'; cases e5'
    have hm : maxLen ≤ 9223372036854775807 := by decide
    exact ⟨⟨n0, n1, n2, a5, k5, z5⟩, rfl, ⟨r5, i5, by simp only; omega⟩⟩
set_option maxRecDepth 100000 in
theorem open_acts {v : Value} {d : DataW H} {ps : List MemPlace} (hval : Value.okWide Try.prog w r b0 41 v) (h : DataW.Trod enc Try.prog w base spare held 41 v d ps) :
    ∃ a cap xs, v = .slice a xs.length cap ∧ Rows actL 4 w a xs ∧ (∀ x ∈ xs, ActOk w x) ∧ xs.length ≤ 9223372036854775807 := by
  obtain ⟨a, len, cap, rfl⟩ := okWide_slice Try.underlying41 hval
  obtain ⟨fuel, hf⟩ := h
  obtain ⟨a', cap', xs, hcs, hr, hx, hl, hm⟩ := open_rows (P := Try.prog) (cells := actL) (Ok := ActOk w) (sz := 4) Try.underlying41 (by kernel_rfl) (by decide) (fun n cs y hy => open_act0 hy) hf
  have e : [Value.slice a len cap] = [.slice a' xs.length cap'] := hcs
  cases e
  have hml : maxLen ≤ 9223372036854775807 := by decide
  exact ⟨a, cap, xs, rfl, hr, hx, by omega⟩
set_option maxRecDepth 100000 in
theorem open_three8 {v : Value} {d : DataW H} {ps : List MemPlace} (hval : Value.okWide Try.prog w r b0 40 v) (h : DataW.Trod enc Try.prog w base spare held 40 v d ps) :
    ∃ x y z, v = .agg #[.int .u8 x, .int .u8 y, .int .u8 z] ∧ (0 ≤ x ∧ x < 256) ∧ (0 ≤ y ∧ y < 256) ∧ (0 ≤ z ∧ z < 256) := by
  have hv : ∃ cs, v = .agg cs := by
    unfold Value.okWide at hval
    rw [Try.underlying40] at hval
    obtain ⟨cs, h1, _⟩ := hval
    exact ⟨cs, h1⟩
  obtain ⟨cs, rfl⟩ := hv
  obtain ⟨fuel, hf⟩ := h
  obtain ⟨xs, m, _, _, hl, hlen, hfs⟩ := DataW.trod_array (P := Try.prog) Try.underlying40 hf
  clear hf
  have h0 := hfs 0 (by omega)
  have h1 := hfs 1 (by omega)
  have h2 := hfs 2 (by omega)
  obtain ⟨cl, rfl⟩ : ∃ l : List Value, cs = l.toArray := ⟨cs.toList, by simp⟩
  have hl' : cl.length = 3 := hl
  match xs, hlen, cl, hl' with
  | [x0, x1, x2], _, [c0, c1, c2], _ =>
    obtain ⟨n0, e0, _, g0⟩ := DataW.trod_int (P := Try.prog) Try.underlying5 h0
    obtain ⟨n1, e1, _, g1⟩ := DataW.trod_int (P := Try.prog) Try.underlying5 h1
    obtain ⟨n2, e2, _, g2⟩ := DataW.trod_int (P := Try.prog) Try.underlying5 h2
    have e0' : [c0] = [.int .u8 n0] := e0
    have e1' : [c1] = [.int .u8 n1] := e1
    have e2' : [c2] = [.int .u8 n2] := e2
    cases e0'; cases e1'; cases e2'
    exact ⟨n0, n1, n2, rfl, inU8_of_wf g0, inU8_of_wf g1, inU8_of_wf g2⟩
theorem inI64_of_wf {n : Int} (h : (Lit.int .i64 n).wf = true) : -9223372036854775808 ≤ n ∧ n ≤ 9223372036854775807 := by
  simp only [Lit.wf, Bool.and_eq_true, decide_eq_true_eq] at h
  exact h
set_option maxRecDepth 100000 in
theorem open_three64 {v : Value} {d : DataW H} {ps : List MemPlace} (hval : Value.okWide Try.prog w r b0 53 v) (h : DataW.Trod enc Try.prog w base spare held 53 v d ps) :
    ∃ x y z, v = .agg #[.int .i64 x, .int .i64 y, .int .i64 z] ∧ (-9223372036854775808 ≤ x ∧ x ≤ 9223372036854775807) ∧ (-9223372036854775808 ≤ y ∧ y ≤ 9223372036854775807) ∧ (-9223372036854775808 ≤ z ∧ z ≤ 9223372036854775807) := by
  have hv : ∃ cs, v = .agg cs := by
    unfold Value.okWide at hval
    rw [Try.underlying53] at hval
    obtain ⟨cs, h1, _⟩ := hval
    exact ⟨cs, h1⟩
  obtain ⟨cs, rfl⟩ := hv
  obtain ⟨fuel, hf⟩ := h
  obtain ⟨xs, m, _, _, hl, hlen, hfs⟩ := DataW.trod_array (P := Try.prog) Try.underlying53 hf
  clear hf
  have h0 := hfs 0 (by omega)
  have h1 := hfs 1 (by omega)
  have h2 := hfs 2 (by omega)
  obtain ⟨cl, rfl⟩ : ∃ l : List Value, cs = l.toArray := ⟨cs.toList, by simp⟩
  have hl' : cl.length = 3 := hl
  match xs, hlen, cl, hl' with
  | [x0, x1, x2], _, [c0, c1, c2], _ =>
    obtain ⟨n0, e0, _, g0⟩ := DataW.trod_int (P := Try.prog) Try.underlying3 h0
    obtain ⟨n1, e1, _, g1⟩ := DataW.trod_int (P := Try.prog) Try.underlying3 h1
    obtain ⟨n2, e2, _, g2⟩ := DataW.trod_int (P := Try.prog) Try.underlying3 h2
    have e0' : [c0] = [.int .i64 n0] := e0
    have e1' : [c1] = [.int .i64 n1] := e1
    have e2' : [c2] = [.int .i64 n2] := e2
    cases e0'; cases e1'; cases e2'
    exact ⟨n0, n1, n2, rfl, inI64_of_wf g0, inI64_of_wf g1, inI64_of_wf g2⟩
end
end Go.Proofs.Ytommemplakcaaaa
