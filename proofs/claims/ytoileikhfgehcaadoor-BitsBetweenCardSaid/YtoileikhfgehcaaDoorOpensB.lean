/-
  Arguments that came in: what is set, or not.
-/
import Derived.Test.YtoileikhfgehcaaDoorOpenRows
import Derived.Test.YtoileikhfgehcaaDoorLaws11b
namespace Go.Proofs.YtoileikhfgehcaaDoor
open Go.ChangeShapes Go.WideShapes Go.ChangeAt Go.RowKit
section
variable {H : Type} {enc : TypeId × Value → H} {w : World} {base b0 : Nat} {r : Go.Reach} {spare : Nat → Bool} {held : Bool}
def act11L (u : Int × Bool) : List Value := [.int .i64 u.1, .bool u.2]
set_option maxRecDepth 100000 in
theorem open_act11 {fuel : Nat} {cs : List Value} {x : DataW H × List MemPlace} (h : DataW.trod enc Tryd.prog w base spare held fuel 33 cs = some x) : ∃ u, cs = act11L u ∧ True := by
  obtain ⟨xs, n, _, _, hl, hlen, hfs⟩ := DataW.trod_struct (P := Tryd.prog) Tryd.underlying33 h
  clear h
  have h0 := hfs 0 _ rfl
  have h1 := hfs 1 _ rfl
  have hl' : cs.length = 2 := hl
  match xs, hlen, cs, hl' with
  | [x0, x1], _, [c0, c1], _ =>
    obtain ⟨n0, e0, _, _⟩ := DataW.trod_int (P := Tryd.prog) Tryd.underlying3 h0
    obtain ⟨n1, e1, _⟩ := DataW.trod_bool (P := Tryd.prog) Tryd.underlying4 h1
    have e0' : [c0] = [.int .i64 n0] := e0
    have e1' : [c1] = [.bool n1] := e1
    cases e0'; cases e1'
    exact ⟨(n0, n1), rfl, trivial⟩
theorem rowsB {a : Option Addr} {xs : List (Int × Bool)} (h : Rows act11L 2 w a xs) : RowsB w a xs := fun i hi => by
  obtain ⟨b, off, e, hc⟩ := h i xs[i] (List.getElem?_eq_getElem hi)
  exact ⟨b, off, e, hc 0 _ rfl, hc 1 _ rfl⟩
set_option maxRecDepth 100000 in
theorem open_acts11 {v : Value} {d : DataW H} {ps : List MemPlace} (hval : Value.okWide Tryd.prog w r b0 22 v) (h : DataW.Trod enc Tryd.prog w base spare held 22 v d ps) :
    ∃ a cap xs, v = .slice a xs.length cap ∧ RowsB w a xs ∧ xs.length ≤ 9223372036854775807 := by
  obtain ⟨a, len, cap, rfl⟩ := okWide_slice Tryd.underlying22 hval
  obtain ⟨fuel, hf⟩ := h
  obtain ⟨a', cap', xs, hcs, hr, _, hl, hm⟩ := open_rows (P := Tryd.prog) (cells := act11L) (Ok := fun _ => True) (sz := 2) Tryd.underlying22 (by kernel_rfl) (by decide) (fun n cs y hy => open_act11 hy) hf
  have e : [Value.slice a len cap] = [.slice a' xs.length cap'] := hcs
  cases e
  have hml : maxLen ≤ 9223372036854775807 := by decide
  exact ⟨a, cap, xs, rfl, rowsB hr, by omega⟩
end
end Go.Proofs.YtoileikhfgehcaaDoor
