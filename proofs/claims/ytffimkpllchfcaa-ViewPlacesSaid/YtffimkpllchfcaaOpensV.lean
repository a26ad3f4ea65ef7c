/-
  Arguments that came in: places.
-/
import Derived.Test.YtffimkpllchfcaaOpenConf
import Derived.Test.YtffimkpllchfcaaOpenRows
import Derived.Test.YtffimkpllchfcaaView
namespace Go.Proofs.Ytffimkpllchfcaa
open Go.ChangeShapes Go.WideShapes Go.ChangeAt Go.RowKit
section
variable {H : Type} {enc : TypeId × Value → H} {w : World} {base b0 : Nat} {r : Go.Reach} {spare : Nat → Bool} {held : Bool}
set_option maxRecDepth 100000 in
theorem open_plc0 {fuel : Nat} {cs : List Value} {x : DataW H × List MemPlace} (h : DataW.trod enc Try.prog w base spare held fuel 26 cs = some x) : ∃ u, cs = plL u ∧ PlcOk w u := by
  obtain ⟨xs, n, _, _, hl, hlen, hfs⟩ := DataW.trod_struct (P := Try.prog) Try.underlying26 h
  clear h
  have h0 := hfs 0 _ rfl
  have h1 := hfs 1 _ rfl
  have h2 := hfs 2 _ rfl
  have h3 := hfs 3 _ rfl
  have hl' : cs.length = 4 := hl
  match xs, hlen, cs, hl' with
  | [x0, x1, x2, x3], _, [c0, c1, c2, c3], _ =>
    obtain ⟨n0, e0, _, g0⟩ := DataW.trod_int (P := Try.prog) Try.underlying3 h0
    obtain ⟨n1, e1, _, g1⟩ := DataW.trod_int (P := Try.prog) Try.underlying3 h1
    obtain ⟨n2, e2, _, g2⟩ := DataW.trod_int (P := Try.prog) Try.underlying3 h2
    obtain ⟨a3, k3, z3, e3, r3, l3, m3, _⟩ := open_row h3
    have hm : maxLen ≤ 9223372036854775807 := by decide
    have e0' : [c0] = [.int .i64 n0] := e0
    have e1' : [c1] = [.int .i64 n1] := e1
    have e2' : [c2] = [.int .i64 n2] := e2
    have e3' : [c3] = [.slice a3 z3.length k3] := e3
    cases e0'; cases e1'; cases e2'; cases e3'
    exact ⟨⟨n0, n1, n2, a3, k3, z3⟩, rfl, ⟨r3, by simp only; omega⟩⟩
set_option maxRecDepth 100000 in
theorem open_plc {v : Value} {d : DataW H} {ps : List MemPlace} (hval : Value.okWide Try.prog w r b0 26 v) (h : DataW.Trod enc Try.prog w base spare held 26 v d ps) : ∃ u, v = .agg (plL u).toArray ∧ PlcOk w u := by
  obtain ⟨cs, rfl, _⟩ := okWide_struct Try.underlying26 hval
  obtain ⟨fuel, hf⟩ := h
  obtain ⟨u, hcs, hu⟩ := open_plc0 hf
  exact ⟨u, by rw [← hcs]; rfl, hu⟩
end
end Go.Proofs.Ytffimkpllchfcaa
