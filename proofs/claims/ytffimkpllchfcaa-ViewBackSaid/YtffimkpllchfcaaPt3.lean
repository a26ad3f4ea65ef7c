/-
  Texts put together: Open, OpenConf, OpenRows, OpensV, OpensV2, Laws21c, Laws21d, Laws21e, Plain21d, Laws21f, Laws21g, Laws21h, OpensV3.
-/
import Derived.Test.YtffimkpllchfcaaPt2
import Derived.Test.YtffimkpllchfcaaRows
import Derived.Test.YtffimkpllchfcaaBase
import Derived.OpenShut
import Derived.ShutString
import Derived.ChangeOld
import Derived.Deep.Slices
/-
  What every claim of this seat needs: no switch of its own, and what the text lays.
-/
namespace Go.Proofs.Ytffimkpllchfcaa
open Go.RowKit

theorem own : ownKnob Try.prog.godebug = none := by kernel_rfl
theorem laidOut : laidOutB Try.prog = true := by kernel_rfl
end Go.Proofs.Ytffimkpllchfcaa
/-
  A layout that came in asV an argument: what its cells hold.
-/
namespace Go.Proofs.Ytffimkpllchfcaa
open Go.ChangeShapes Go.WideShapes Go.ChangeAt Go.RowKit

theorem in64_of_wf {n : Int} (h : (Lit.int .i64 n).wf = true) : In64 n := by
  simp only [Lit.wf, Bool.and_eq_true, decide_eq_true_eq] at h
  exact h
section
variable {H : Type} {enc : TypeId × Value → H} {w : World} {base : Nat} {spare : Nat → Bool} {held : Bool}
/-- A slice of ints that came in. -/
theorem open_row {fuel : Nat} {cs : List Value} {x : DataW H × List MemPlace} (h : DataW.trod enc Try.prog w base spare held fuel 22 cs = some x) :
    ∃ a cap zs, cs = [.slice a zs.length cap] ∧ Rd .i64 w a zs ∧ zs.length ≤ cap ∧ cap ≤ maxLen ∧ ∀ n ∈ zs, In64 n := by
  rcases open_ints (P := Try.prog) Try.underlying22 Try.underlying3 (by kernel_rfl) h with ⟨hcs, _⟩ | ⟨x, l, c, zs, hcs, _, hl, hm, hz, _, hcell, hwz⟩
  · exact ⟨none, 0, [], hcs, Rd.nil _ _ _, Nat.le_refl _, by decide, fun _ h => by cases h⟩
  · have hlen : (zs.take l).length = l := by
      rw [List.length_take, hz]; split <;> omega
    refine ⟨some x, c, zs.take l, by rw [hlen]; exact hcs, ?_, by rw [hlen]; exact hl, hm, fun n hn => in64_of_wf (hwz n (List.mem_of_mem_take hn))⟩
    intro i hi
    rw [hlen] at hi
    have hi' : i < zs.length := by rw [List.length_take] at hlen; omega
    have hc := hcell i hi'
    have hc0 := hcell 0 (by omega)
    obtain ⟨b, off, spot⟩ := x
    cases spot with
    | none =>
      refine ⟨b, off, rfl, ?_⟩
      rw [show (zs.take l).getD i 0 = zs.getD i 0 from by simp [List.getD, hi]]
      unfold Addr.add at hc
      by_cases h0 : i = 0
      · subst h0; exact hc
      · rw [if_neg h0] at hc; exact hc
    | some q =>
      exfalso
      simp only [World.cell?, Addr.add, if_true] at hc0
      split at hc0 <;> simp at hc0
set_option maxRecDepth 100000 in
/-- A layout that came in. -/
theorem open_conf {v : Value} {d : DataW H} {ps : List MemPlace} (hval : ∃ cs, v = .agg cs) (h : DataW.Trod enc Try.prog w base spare held 24 v d ps) :
    ∃ c p, v = .agg (confL c p).toArray ∧ ConfOk w c p ∧ c.keep.length ≤ p.kc := by
  obtain ⟨cs, rfl⟩ := hval
  obtain ⟨fuel, hf⟩ := h
  obtain ⟨xs, n, _, _, hl, hlen, hfs⟩ := DataW.trod_struct (P := Try.prog) Try.underlying24 hf
  clear hf
  have h0 := hfs 0 _ rfl
  have h1 := hfs 1 _ rfl
  have h2 := hfs 2 _ rfl
  have h3 := hfs 3 _ rfl
  have h4 := hfs 4 _ rfl
  have h5 := hfs 5 _ rfl
  have h6 := hfs 6 _ rfl
  have h7 := hfs 7 _ rfl
  obtain ⟨cl, rfl⟩ : ∃ l : List Value, cs = l.toArray := ⟨cs.toList, by simp⟩
  have hl' : cl.length = 8 := hl
  match xs, hlen, cl, hl' with
  | [x0, x1, x2, x3, x4, x5, x6, x7], _, [c0, c1, c2, c3, c4, c5, c6, c7], _ =>
    obtain ⟨n0, e0, _, g0⟩ := DataW.trod_int (P := Try.prog) Try.underlying3 h0
    obtain ⟨n1, e1, _, g1⟩ := DataW.trod_int (P := Try.prog) Try.underlying3 h1
    obtain ⟨a2, k2, z2, e2, g2, l2, m2, _⟩ := open_row h2
    obtain ⟨a3, k3, z3, e3, g3, l3, m3, _⟩ := open_row h3
    obtain ⟨n4, e4, _, g4⟩ := DataW.trod_int (P := Try.prog) Try.underlying3 h4
    obtain ⟨n5, e5, _, g5⟩ := DataW.trod_int (P := Try.prog) Try.underlying3 h5
    obtain ⟨n6, e6, _, g6⟩ := DataW.trod_int (P := Try.prog) Try.underlying3 h6
    obtain ⟨n7, e7, _, g7⟩ := DataW.trod_int (P := Try.prog) Try.underlying3 h7
    have hm : maxLen ≤ 9223372036854775807 := by decide
    refine ⟨⟨n0, n1, z2, z3, n4, n5, n6, n7⟩, ⟨a2, k2, a3, k3⟩, ?_, ⟨g2, g3, by simp only; omega, by simp only; omega, in64_of_wf g0⟩, l3⟩
    have e0' : [c0] = [.int .i64 n0] := e0
    have e1' : [c1] = [.int .i64 n1] := e1
    have e2' : [c2] = [.slice a2 z2.length k2] := e2
    have e3' : [c3] = [.slice a3 z3.length k3] := e3
    have e4' : [c4] = [.int .i64 n4] := e4
    have e5' : [c5] = [.int .i64 n5] := e5
    have e6' : [c6] = [.int .i64 n6] := e6
    have e7' : [c7] = [.int .i64 n7] := e7
    cases e0'; cases e1'; cases e2'; cases e3'; cases e4'; cases e5'; cases e6'; cases e7'
    rfl
end
end Go.Proofs.Ytffimkpllchfcaa
/-
  Arguments that came in: bounds of numbers, slices of elements.
-/
namespace Go.Proofs.Ytffimkpllchfcaa
open Go.ChangeShapes Go.WideShapes Go.ChangeAt Go.RowKit

theorem inU8_of_wf {n : Int} (h : (Lit.int .u8 n).wf = true) : 0 ≤ n ∧ n < 256 := by
  have h' : 0 ≤ n ∧ n ≤ 255 := by simp only [Lit.wf, Bool.and_eq_true, decide_eq_true_eq] at h; exact h
  omega
theorem inU16_of_wf {n : Int} (h : (Lit.int .u16 n).wf = true) : 0 ≤ n ∧ n < 65536 := by
  have h' : 0 ≤ n ∧ n ≤ 65535 := by simp only [Lit.wf, Bool.and_eq_true, decide_eq_true_eq] at h; exact h
  omega
theorem inU32_of_wf {n : Int} (h : (Lit.int .u32 n).wf = true) : 0 ≤ n ∧ n < 4294967296 := by
  have h' : 0 ≤ n ∧ n ≤ 4294967295 := by simp only [Lit.wf, Bool.and_eq_true, decide_eq_true_eq] at h; exact h
  omega
theorem inI64_of_wf {n : Int} (h : (Lit.int .i64 n).wf = true) : -9223372036854775808 ≤ n ∧ n ≤ 9223372036854775807 := by
  simp only [Lit.wf, Bool.and_eq_true, decide_eq_true_eq] at h
  exact h
section
variable {H : Type} {enc : TypeId × Value → H} {w : World} {base b0 : Nat} {r : Go.Reach} {spare : Nat → Bool} {held : Bool} {P : Program}
theorem spot_none {w : World} {b off : Nat} {q : Option _} {v : Value} (h : w.cell? ⟨b, off, q⟩ = some v) : q = none := by
  cases q with
  | none => rfl
  | some q =>
    exfalso
    simp only [World.cell?] at h
    split at h <;> simp at h
/-- A slice of elements that came in. -/
theorem open_rows {α : Type} {cells : α → List Value} {Ok : α → Prop} {t e sz fuel : Nat} {cs : List Value} {x : DataW H × List MemPlace} (ht : P.underlying t = some (.slice e)) (hsz : P.cellsOf e = sz) (h0 : 0 < sz)
    (hopen : ∀ n cs y, DataW.trod enc P w base spare held n e cs = some y → ∃ v, cs = cells v ∧ Ok v) (h : DataW.trod enc P w base spare held fuel t cs = some x) :
    ∃ a cap xs, cs = [.slice a xs.length cap] ∧ Rows cells sz w a xs ∧ (∀ x ∈ xs, Ok x) ∧ xs.length ≤ cap ∧ cap ≤ maxLen := by
  rcases Go.Deep.open_slice ht h with ⟨hcs, _⟩ | ⟨a, len, cap, m, n, D, Pl, hcs, _, hl, hm, hmm, _, hi⟩
  · exact ⟨none, 0, [], hcs, (fun i x hx => by simp at hx), (fun x hx => by cases hx), Nat.le_refl _, by decide⟩
  · have hle : len ≤ m := by rw [hmm]; split <;> omega
    have hv : ∀ i : Fin len, ∃ v, Ok v ∧ w.cells? base (a.add (i * sz)) sz = some (cells v) := fun i => by
      obtain ⟨cs', h1, h2⟩ := hi i (by omega)
      obtain ⟨v, rfl, hok⟩ := hopen n cs' _ h2
      rw [hsz] at h1
      exact ⟨v, hok, h1⟩
    let f : Fin len → α := fun i => Classical.choose (hv i)
    have hf : ∀ i, Ok (f i) ∧ w.cells? base (a.add (i * sz)) sz = some (cells (f i)) := fun i => Classical.choose_spec (hv i)
    have hlen : (List.ofFn f).length = len := List.length_ofFn
    refine ⟨some a, cap, List.ofFn f, by rw [hlen]; exact hcs, fun i x hx => ?_, fun x hx => ?_, by rw [hlen]; exact hl, hm⟩
    · rw [List.getElem?_ofFn] at hx
      split at hx
      · rename_i hil
        cases hx
        obtain ⟨_, hcl, hat⟩ := World.cells?_some (hf ⟨i, hil⟩).2
        have h00 := hi 0 (by omega)
        obtain ⟨cs0, h1, _⟩ := h00
        obtain ⟨_, hcl0, hat0⟩ := World.cells?_some h1
        have hc0 := hat0 0 (by omega)
        obtain ⟨b, off, q⟩ := a
        have hq : q = none := by
          rw [List.getElem?_eq_getElem (by omega)] at hc0
          simp only [Nat.zero_mul, Addr.add, if_true] at hc0
          exact spot_none hc0
        subst hq
        refine ⟨b, off, rfl, fun j v hv => ?_⟩
        have hj : j < sz := by
          have := (List.getElem?_eq_some_iff.1 hv).1
          omega
        have := hat j hj
        rw [hv, add_off, add_off] at this
        exact this
      · cases hx
    · rw [List.mem_ofFn] at hx
      obtain ⟨i, rfl⟩ := hx
      exact (hf i).1
end
end Go.Proofs.Ytffimkpllchfcaa
/-
  Arguments that came in: places.
-/
namespace Go.Proofs.Ytffimkpllchfcaa
open Go.ChangeShapes Go.WideShapes Go.ChangeAt Go.RowKit
section
variable {H : Type} {enc : TypeId × Value → H} {w : World} {base b0 : Nat} {r : Go.Reach} {spare : Nat → Bool} {held : Bool}
set_option maxRecDepth 100000 in
theorem open_plc0 {fuel : Nat} {cs : List Value} {x : DataW H × List MemPlace} (h : DataW.trod enc Try.prog w base spare held fuel 26 cs = some x) : ∃ u, cs = plL u ∧ PlcOk w u := by
  obtain ⟨xs, n, _, _, hl, hlen, hfs⟩ := DataW.trod_struct (P := Try.prog) Try.underlying26 h
  clear h
  have h0 := hfs 0 _ rfl
  have h1 := hfs 1 _ rfl
  have h2 := hfs 2 _ rfl
  have h3 := hfs 3 _ rfl
  have hl' : cs.length = 4 := hl
  match xs, hlen, cs, hl' with
  | [x0, x1, x2, x3], _, [c0, c1, c2, c3], _ =>
    obtain ⟨n0, e0, _, g0⟩ := DataW.trod_int (P := Try.prog) Try.underlying3 h0
    obtain ⟨n1, e1, _, g1⟩ := DataW.trod_int (P := Try.prog) Try.underlying3 h1
    obtain ⟨n2, e2, _, g2⟩ := DataW.trod_int (P := Try.prog) Try.underlying3 h2
    obtain ⟨a3, k3, z3, e3, r3, l3, m3, _⟩ := open_row h3
    have hm : maxLen ≤ 9223372036854775807 := by decide
    have e0' : [c0] = [.int .i64 n0] := e0
    have e1' : [c1] = [.int .i64 n1] := e1
    have e2' : [c2] = [.int .i64 n2] := e2
    have e3' : [c3] = [.slice a3 z3.length k3] := e3
    cases e0'; cases e1'; cases e2'; cases e3'
    exact ⟨⟨n0, n1, n2, a3, k3, z3⟩, rfl, ⟨r3, by simp only; omega⟩⟩
set_option maxRecDepth 100000 in
theorem open_plc {v : Value} {d : DataW H} {ps : List MemPlace} (hval : Value.okWide Try.prog w r b0 26 v) (h : DataW.Trod enc Try.prog w base spare held 26 v d ps) : ∃ u, v = .agg (plL u).toArray ∧ PlcOk w u := by
  obtain ⟨cs, rfl, _⟩ := okWide_struct Try.underlying26 hval
  obtain ⟨fuel, hf⟩ := h
  obtain ⟨u, hcs, hu⟩ := open_plc0 hf
  exact ⟨u, by rw [← hcs]; rfl, hu⟩
end
end Go.Proofs.Ytffimkpllchfcaa
/-
  Arguments that came in: acts on a view.
-/
namespace Go.Proofs.Ytffimkpllchfcaa
open Go.ChangeShapes Go.WideShapes Go.ChangeAt Go.RowKit

/-- An act on a view. -/
structure Act21 where
  kind : Int
  q : Plc
  at' : Int
  n : Int
  a : Option Addr
  cap : Nat
  bs : List Int
def act21L (u : Act21) : List Value := [.int .u8 u.kind] ++ plL u.q ++ [.int .i64 u.at', .int .i64 u.n, .slice u.a u.bs.length u.cap]
structure Act21Ok (w : World) (u : Act21) : Prop where
  kind : 0 ≤ u.kind ∧ u.kind < 256
  plc : PlcOk w u.q
  rd : Rd .u8 w u.a u.bs
  rng : InB u.bs
  lc : u.bs.length ≤ u.cap
  len : u.cap ≤ 9223372036854775807
theorem Act21Ok.grow {w w' : World} {u : Act21} (h : Act21Ok w u) (hc : Chg None' w w') : Act21Ok w' u := ⟨h.kind, h.plc.grow hc, h.rd.chg hc, h.rng, h.lc, h.len⟩
section
variable {H : Type} {enc : TypeId × Value → H} {w : World} {base b0 : Nat} {r : Go.Reach} {spare : Nat → Bool} {held : Bool}
/-- Bytes that came in. -/
theorem open_bytes0 {fuel : Nat} {cs : List Value} {x : DataW H × List MemPlace} (h : DataW.trod enc Try.prog w base spare held fuel 39 cs = some x) :
    ∃ a cap zs, cs = [.slice a zs.length cap] ∧ Rd .u8 w a zs ∧ InB zs ∧ zs.length ≤ cap ∧ cap ≤ maxLen := by
  rcases open_ints (P := Try.prog) Try.underlying39 Try.underlying5 (by kernel_rfl) h with ⟨hcs, _⟩ | ⟨x, l, c, zs, hcs, _, hl, hm, hz, _, hcell, hwz⟩
  · exact ⟨none, 0, [], hcs, Rd.nil _ _ _, (by intro x hx; cases hx), Nat.le_refl _, by decide⟩
  · have hlen : (zs.take l).length = l := by
      rw [List.length_take, hz]; split <;> omega
    refine ⟨some x, c, zs.take l, by rw [hlen]; exact hcs, ?_, fun n hn => inU8_of_wf (hwz n (List.mem_of_mem_take hn)), by rw [hlen]; exact hl, hm⟩
    intro i hi
    rw [hlen] at hi
    have hi' : i < zs.length := by rw [List.length_take] at hlen; omega
    have hc := hcell i hi'
    have hc0 := hcell 0 (by omega)
    obtain ⟨b, off, spot⟩ := x
    cases spot with
    | none =>
      refine ⟨b, off, rfl, ?_⟩
      rw [show (zs.take l).getD i 0 = zs.getD i 0 from by simp [List.getD, hi]]
      unfold Addr.add at hc
      by_cases h0 : i = 0
      · subst h0; exact hc
      · rw [if_neg h0] at hc; exact hc
    | some q =>
      exfalso
      simp only [World.cell?, Addr.add, if_true] at hc0
      split at hc0 <;> simp at hc0
set_option maxRecDepth 100000 in
set_option maxRecDepth 100000 in
theorem open_act21 {fuel : Nat} {cs : List Value} {x : DataW H × List MemPlace} (h : DataW.trod enc Try.prog w base spare held fuel 48 cs = some x) : ∃ u, cs = act21L u ∧ Act21Ok w u := by
  obtain ⟨xs, n, _, _, hl, hlen, hfs⟩ := DataW.trod_struct (P := Try.prog) Try.underlying48 h
  clear h
  have h0 := hfs 0 _ rfl
  have h1 := hfs 1 _ rfl
  have h2 := hfs 2 _ rfl
  have h3 := hfs 3 _ rfl
  have h4 := hfs 4 _ rfl
  have hl' : cs.length = 8 := hl
  match xs, hlen, cs, hl' with
  | [x0, x1, x2, x3, x4], _, [c0, p0, p1, p2, p3, c2, c3, c4], _ =>
    obtain ⟨n0, e0, _, g0⟩ := DataW.trod_int (P := Try.prog) Try.underlying5 h0
    obtain ⟨u1, e1, g1⟩ := open_plc0 h1
    obtain ⟨n2, e2, _, g2⟩ := DataW.trod_int (P := Try.prog) Try.underlying3 h2
    obtain ⟨n3, e3, _, g3⟩ := DataW.trod_int (P := Try.prog) Try.underlying3 h3
    obtain ⟨a4, k4, z4, e4, r4, i4, l4, m4⟩ := open_bytes0 h4
    have hm : maxLen ≤ 9223372036854775807 := by decide
    have e0' : [c0] = [.int .u8 n0] := e0
    have e1' : [p0, p1, p2, p3] = plL u1 := e1
    have e2' : [c2] = [.int .i64 n2] := e2
    have e3' : [c3] = [.int .i64 n3] := e3
    have e4' : [c4] = [.slice a4 z4.length k4] := e4
    cases e0'; cases e2'; cases e3'; cases e4'
    refine ⟨⟨n0, u1, n2, n3, a4, k4, z4⟩, ?_, ⟨inU8_of_wf g0, g1, r4, i4, l4, by simp only; omega⟩⟩
    unfold act21L
    rw [← e1']
    rfl
set_option maxRecDepth 100000 in
theorem open_acts21 {v : Value} {d : DataW H} {ps : List MemPlace} (hval : Value.okWide Try.prog w r b0 51 v) (h : DataW.Trod enc Try.prog w base spare held 51 v d ps) :
    ∃ a cap xs, v = .slice a xs.length cap ∧ Rows act21L 8 w a xs ∧ (∀ x ∈ xs, Act21Ok w x) ∧ xs.length ≤ 9223372036854775807 := by
  obtain ⟨a, len, cap, rfl⟩ := okWide_slice Try.underlying51 hval
  obtain ⟨fuel, hf⟩ := h
  obtain ⟨a', cap', xs, hcs, hr, hx, hl, hm⟩ := open_rows (P := Try.prog) (cells := act21L) (Ok := Act21Ok w) (sz := 8) Try.underlying51 (by kernel_rfl) (by decide) (fun n cs y hy => open_act21 hy) hf
  have e : [Value.slice a len cap] = [.slice a' xs.length cap'] := hcs
  cases e
  have hml : maxLen ≤ 9223372036854775807 := by decide
  exact ⟨a, cap, xs, rfl, hr, hx, by omega⟩
end
end Go.Proofs.Ytffimkpllchfcaa
/-
  Layer 21: an act on a view, the program's.
-/
namespace Go.Proofs.Ytffimkpllchfcaa
open Go.RowKit

theorem ref21_Few (a : Option Addr) (cap : Nat) (xs : List Act21) (w : World) (hr : Rows act21L 8 w a xs) (hl : xs.length ≤ 9223372036854775807) :
    Does Try.prog 17 #[.slice a xs.length cap] w (fun v w' => ∃ b, v = .bool b ∧ (b = true → xs.length ≤ 16 ∧ ∀ x ∈ xs, x.q.pages.length ≤ 12 ∧ x.bs.length ≤ 200) ∧ w = w') := by
  refine Does.enter Try.func17 rfl Try.ntmps17 rfl rfl ?_
  refine Goes.adv hTT 400 rfl ?_
  refine Goes.loop (α := Nat) (fun k => [(0, false, .slice a xs.length cap), (3, false, .int .i64 k)])
    (fun k w' => w' = w ∧ k ≤ xs.length ∧ k ≤ 17 ∧ ∀ j (h : j < xs.length), j < k → xs[j].q.pages.length ≤ 12 ∧ xs[j].bs.length ≤ 200) (fun k => 17 - k) 0 ⟨rfl, rfl, trivial⟩ ⟨rfl, Nat.zero_le _, by omega, fun _ _ h => by omega⟩ ?_
  rintro k w1 ⟨hw, hk, hk17, hpre⟩ ih
  subst hw
  refine Goes.adv hTT 400 rfl ?_
  have hend : ¬ (k < xs.length ∧ k < 17) → xs.length ≤ 16 → ∀ x ∈ xs, x.q.pages.length ≤ 12 ∧ x.bs.length ≤ 200 := fun h1 h2 x hx => by
    obtain ⟨j, hj, rfl⟩ := List.getElem_of_mem hx
    exact hpre j hj (by omega)
  refine Goes.fork hTT rfl rfl rfl (fun h1 => ?_) (fun h1 => ?_)
  · refine Goes.fork hTT rfl rfl rfl (fun h2 => ?_) (fun h2 => ?_)
    · have g1 : k < xs.length := by have := of_decide_eq_true h1; omega
      have g2 : k < 17 := by have := of_decide_eq_true h2; omega
      obtain ⟨b, off, rfl, hcell⟩ := hr.at g1
      refine Goes.index hTT rfl (j := (k * 8)) (by omega) (by omega) (by first | rfl | omega | (simp; done) | (simp; omega)) rfl ?_
      refine Goes.load hTT rfl (hcell 4 _ rfl) rfl ?_
      refine Goes.fork hTT rfl rfl rfl (fun h3 => ?_) (fun h3 => ?_)
      · exact Goes.ret1 hTT rfl Try.func17 rfl rfl ⟨false, rfl, (fun h => Bool.noConfusion h), rfl⟩
      · refine Goes.index hTT rfl (j := (k * 8)) (by omega) (by omega) (by first | rfl | omega | (simp; done) | (simp; omega)) rfl ?_
        refine Goes.load hTT rfl (hcell 7 _ rfl) rfl ?_
        refine Goes.fork hTT rfl rfl rfl (fun h4 => ?_) (fun h4 => ?_)
        · exact Goes.ret1 hTT rfl Try.func17 rfl rfl ⟨false, rfl, (fun h => Bool.noConfusion h), rfl⟩
        · have g3 := of_decide_eq_false h3
          have g4 := of_decide_eq_false h4
          refine Goes.arith hTT rfl (w64 (by omega)) rfl ?_
          exact ih (k + 1) _ _ ⟨rfl, by omega, by omega, fun j hj hjk => by
            by_cases e : j = k
            · subst e; exact ⟨by omega, by omega⟩
            · exact hpre j hj (by omega)⟩ (by omega) ⟨rfl, rfl, trivial⟩
    · have g2 := of_decide_eq_false h2
      exact Goes.ret1 hTT rfl Try.func17 rfl rfl ⟨_, rfl, fun h => by have := of_decide_eq_true h; exact ⟨by omega, hend (by omega) (by omega)⟩, rfl⟩
  · have g1 := of_decide_eq_false h1
    exact Goes.ret1 hTT rfl Try.func17 rfl rfl ⟨_, rfl, fun h => by have := of_decide_eq_true h; exact ⟨by omega, hend (by omega) (by omega)⟩, rfl⟩
end Go.Proofs.Ytffimkpllchfcaa
/-
  Layer 21: an act on a view, the program's.
-/
namespace Go.Proofs.Ytffimkpllchfcaa
open Go.RowKit

/-- An act: how many bytes; what forbids it; what it tells; the bytes behind it; what it is charged. -/
def actN (u : Act21) : Int := if u.kind % 3 = 1 then (u.bs.length : Int) else u.n
def actE (c : Conf) (u : Act21) : Int := checkM c u.q u.at' (actN u)
def actT (c : Conf) (bs : List Int) (u : Act21) : List Int := if u.kind % 3 = 0 ∧ actE c u = 0 then toldM c u.q bs u.at'.toNat u.n.toNat else []
def actLay (c : Conf) (bs : List Int) (u : Act21) : List Int :=
  if actE c u = 0 then (if u.kind % 3 = 0 then bs else if u.kind % 3 = 1 then layM c u.q bs u.at'.toNat u.bs u.bs.length else layM c u.q bs u.at'.toNat (zeros u.n.toNat) u.n.toNat) else bs
def actC21 (c : Conf) (u : Act21) : Int := if actE c u = 0 then chargeM c u.q u.at'.toNat (actN u).toNat else 0
theorem check_nat {c : Conf} {q : Plc} {at' n : Int} (h : checkM c q at' n = 0) : ∃ a k : Nat, at' = a ∧ n = k := by
  obtain ⟨_, h1, h2, _⟩ := check_zero h
  exact ⟨at'.toNat, n.toNat, by omega, by omega⟩
theorem actLay_len {c : Conf} {bs : List Int} {u : Act21} : (actLay c bs u).length = bs.length := by
  unfold actLay
  split
  · split
    · rfl
    · split
      · exact layM_len ..
      · exact layM_len ..
  · rfl
theorem parts_few {c : Conf} {q : Plc} {at' n : Nat} (hm : mayB c = true) : (partsM c q at' n).length ≤ n + 1 := by
  obtain ⟨m1, m2, m3⟩ := may_facts hm
  unfold partsM
  split
  · rw [List.length_map]
    have := spansM_length (page := c.size.toNat) (by omega) n at'
    omega
  · simp
theorem charge_bound {c : Conf} {q : Plc} {at' n : Nat} (hm : mayB c = true) : 0 ≤ chargeM c q at' n ∧ chargeM c q at' n ≤ 2 * n + 1 := by
  obtain ⟨m1, m2, m3⟩ := may_facts hm
  have := spansM_length (page := c.size.toNat) (by omega) n at'
  unfold chargeM
  split <;> omega
theorem told_total {c : Conf} {q : Plc} {A : Ar} {V : ArV} {b at' n : Nat} (hm : mayB c = true) (hb : A.mb = some b) (hfew : q.pages.length ≤ 4096) (hck : checkM c q at' n = 0) (ht : 0 ≤ V.total ∧ V.total ≤ 1152921504606846976) :
    (vsT q A V (partsM c q at' n) (partsM c q at' n).length).total = V.total + chargeM c q at' n := by
  obtain ⟨_, _, _, hle⟩ := check_zero hck
  have hhb := viewHolds_bound (c := c) (q := q) hm hfew
  have h1 : totalM (partsM c q at' n) = n := parts_total hm
  have h2 := parts_few (c := c) (q := q) (at' := at') (n := n) hm
  rw [vsT_total hb (fun p hp => by obtain ⟨i, m, e, _⟩ := parts_in hm hck hfew p hp; exact ⟨i, m, e⟩) (by omega) _ (Nat.le_refl _), List.take_length, ← parts_charge (c := c) (q := q) (at' := at') (n := n) hm]
  omega
theorem laid_total {c : Conf} {q : Plc} {A : Ar} {V : ArV} {b at' n : Nat} {l : List Int} (hm : mayB c = true) (hb : A.mb = some b) (hfew : q.pages.length ≤ 4096) (hck : checkM c q at' n = 0) (ht : 0 ≤ V.total ∧ V.total ≤ 1152921504606846976) :
    (vsW q A V (partsM c q at' n) l (partsM c q at' n).length).total = V.total + chargeM c q at' n := by
  obtain ⟨_, _, _, hle⟩ := check_zero hck
  have hhb := viewHolds_bound (c := c) (q := q) hm hfew
  have h1 : totalM (partsM c q at' n) = n := parts_total hm
  have h2 := parts_few (c := c) (q := q) (at' := at') (n := n) hm
  rw [vsW_total hb (fun p hp => by obtain ⟨i, m, e, _⟩ := parts_in hm hck hfew p hp; exact ⟨i, m, e⟩) (by omega) _ (Nat.le_refl _), List.take_length, ← parts_charge (c := c) (q := q) (at' := at') (n := n) hm]
  omega
theorem Own.bytes {base n : Nat} {w : World} {v : Value} {l : List Int} {S : Nat → Prop} (h : Own base 5 1 w v n (l.map (Value.int .u8))) (hn : l.length = n) (hS : ∀ z, S z → z < base) :
    ∃ a cap, v = .slice a l.length cap ∧ Rd .u8 w a l ∧ OutA S a ∧ l.length ≤ cap := by
  obtain ⟨_, h | ⟨g, cap, cur, rfl, hg, hh, hcap, _, _, hx⟩⟩ := h
  · obtain ⟨rfl, h2⟩ := h
    have : l = [] := List.length_eq_zero_iff.1 (by omega)
    subst this
    exact ⟨none, 0, rfl, Rd.nil _ _ _, (by intro b off s e; cases e), Nat.le_refl _⟩
  · subst hn
    exact ⟨some ⟨g, 0, none⟩, cap, rfl, Rd.of_take hh (by simpa using hx), (by intro b off s e; cases e; intro hz; have := hS _ hz; omega), hcap⟩
theorem law21_do (v : Vw) (u : Act21) (A : Ar) (V : ArV) (b : Nat) (w : World) (hv : VwOk w v) (hu : Act21Ok w u) (hmb : v.mb = A.mb) (hb : A.mb = some b) (hab : v.ab = A.ab) (hfew : u.q.pages.length ≤ 4096)
    (hPv : ¬ foot A v.vb) (hPq : 0 < u.q.pages.length → OutA (foot A) u.q.pa) (hPc : 0 < v.c.classes.length → OutA (foot A) v.p.ca) (hPk : 0 < v.c.keep.length → OutA (foot A) v.p.ka) (hout : 0 < u.bs.length → OutA (foot A) u.a)
    (hA : ArOk w A V) (hlen : (V.bs.length : Int) = v.c.size * v.c.pages) (ht : 0 ≤ V.total ∧ V.total ≤ 1152921504606846976) :
    Does Try.prog 23 #[vwV v, .agg (act21L u).toArray] w (fun r w' => ∃ a cap V', r = .tuple #[.slice a (actT v.c V.bs u).length cap, .int .i64 (actE v.c u)] ∧ Rd .u8 w' a (actT v.c V.bs u) ∧ ArOk w' A V' ∧ V'.bs = actLay v.c V.bs u ∧ V'.total = V.total + actC21 v.c u ∧ Chg (foot A) w w') := by
  have hm := hv.may
  have hk := hu.kind
  have hff := foot_lt hA
  have hmf : ∀ z, mFoot A z → foot A z := fun z h => .inr h
  have hnil : Rd .u8 w none [] := Rd.nil _ _ _
  refine Does.enter Try.func23 rfl Try.ntmps23 rfl rfl ?_
  refine Goes.adv hTT 400 rfl ?_
  refine Goes.alloc hTT rfl ?_
  intro ub w1 e1 hub hw1 hz1
  refine Goes.adv hTT 400 rfl ?_
  replace hub : w1.heap[ub]? = some (.cells (act21L u).toArray 48 (0, 0)) := hub
  refine Goes.loadb hTT rfl hub rfl rfl ?_
  refine Goes.div hTT rfl (by omega) (rem_ (by omega)) rfl ?_
  have hup : ∀ {S : Nat → Prop} {w'}, Chg S w1 w' → Chg S w w' := fun h => (hw1.mono fun _ _ h => h.elim).trans h
  refine Goes.fork hTT rfl rfl rfl (fun h0 => ?_) (fun h0 => ?_)
  · have g0 : u.kind % 3 = 0 := by simpa using h0
    have hN : actN u = u.n := by unfold actN; rw [if_neg (by omega)]
    refine Goes.loads hTT rfl hub rfl rfl ?_
    refine Goes.loadb hTT rfl hub rfl rfl ?_
    refine Goes.loadb hTT rfl hub rfl rfl ?_
    by_cases hck : actE v.c u = 0
    · obtain ⟨a', n', ha', hn'⟩ := check_nat hck
      rw [hN] at hn'
      have hck' : checkM v.c u.q a' n' = 0 := by rw [← ha', ← hn', ← hN]; exact hck
      have hT : actT v.c V.bs u = toldM v.c u.q V.bs a' n' := by unfold actT; rw [if_pos ⟨g0, hck⟩, ha', hn']; simp
      have hL : actLay v.c V.bs u = V.bs := by unfold actLay; rw [if_pos hck, if_pos g0]
      have hC : actC21 v.c u = chargeM v.c u.q a' n' := by unfold actC21; rw [if_pos hck, hN, ha', hn']; simp
      rw [hT, hL, hC, hck, ha', hn']
      refine Goes.call rfl (view_Read v u.q a' n' A V w1 (hv.grow hw1) (hu.plc.grow hw1) hmb hab hck' hfew (fun h => hPv (hmf _ h)) (fun h => (hPq h).mono hmf) (fun h => (hPc h).mono hmf) (fun h => (hPk h).mono hmf) (hA.grow hw1) hlen) ?_
      rintro _ w2 ⟨u1, rfl, hA2, hs2, ho2⟩
      refine Goes.adv hTT 400 rfl ?_
      rw [read_told hm hck' hlen] at ho2
      obtain ⟨ra, rc, rfl, hrd, _, _⟩ := ho2.bytes rfl (S := None') (fun _ h => h.elim)
      exact Goes.ret2 hTT rfl Try.func23 rfl rfl rfl ⟨ra, rc, _, rfl, hrd, hA2, vsT_bs .., told_total hm hb hfew hck' ht, (hup hs2).mono fun z _ h => hmf z h⟩
    · have hT : actT v.c V.bs u = [] := by unfold actT; rw [if_neg (fun h => hck h.2)]
      have hL : actLay v.c V.bs u = V.bs := by unfold actLay; rw [if_neg hck]
      have hC : actC21 v.c u = 0 := by unfold actC21; rw [if_neg hck]
      have hE : actE v.c u = checkM v.c u.q u.at' u.n := by unfold actE; rw [hN]
      rw [hT, hL, hC, hE]
      rw [hE] at hck
      refine Goes.call rfl (view_Read_no v u.q u.at' u.n w1 (hv.grow hw1) (hu.plc.grow hw1) hfew hck) ?_
      rintro _ w2 ⟨rfl, hw2⟩
      refine Goes.adv hTT 400 rfl ?_
      exact Goes.ret2 hTT rfl Try.func23 rfl rfl rfl ⟨none, 0, V, rfl, Rd.nil _ _ _, hA.grow (hw1.trans hw2), rfl, by omega, (hw1.trans hw2).mono fun _ _ h => h.elim⟩
  have g0 : ¬ u.kind % 3 = 0 := by simpa using h0
  have hT : actT v.c V.bs u = [] := by unfold actT; rw [if_neg (fun h => g0 h.1)]
  rw [hT]
  refine Goes.fork hTT rfl rfl rfl (fun h1 => ?_) (fun h1 => ?_)
  · have g1 : u.kind % 3 = 1 := by simpa using h1
    have hN : actN u = u.bs.length := by unfold actN; rw [if_pos g1]
    have hE : actE v.c u = checkM v.c u.q u.at' u.bs.length := by unfold actE; rw [hN]
    refine Goes.loads hTT rfl hub rfl rfl ?_
    refine Goes.loadb hTT rfl hub rfl rfl ?_
    refine Goes.loadb hTT rfl hub rfl rfl ?_
    by_cases hck : actE v.c u = 0
    · obtain ⟨a', n', ha', hn'⟩ := check_nat hck
      have hck' : checkM v.c u.q a' u.bs.length = 0 := by rw [← ha', ← hE]; exact hck
      have hL : actLay v.c V.bs u = layM v.c u.q V.bs a' u.bs u.bs.length := by unfold actLay; rw [if_pos hck, if_neg g0, if_pos g1, ha']; simp
      have hC : actC21 v.c u = chargeM v.c u.q a' u.bs.length := by unfold actC21; rw [if_pos hck, hN, ha']; simp
      rw [hL, hC, hck, ha']
      refine Goes.call rfl (view_Write v u.q a' u.a u.cap u.bs A V w1 (hv.grow hw1) (hu.plc.grow hw1) hmb hab hck' hfew hPv hPq hPc hPk (hA.grow hw1) hlen (hu.rd.chg hw1) hu.lc hu.rng hout) ?_
      rintro _ w2 ⟨rfl, hA2, hs2⟩
      refine Goes.adv hTT 400 rfl ?_
      exact Goes.ret2 hTT rfl Try.func23 rfl rfl rfl ⟨none, 0, _, rfl, Rd.nil _ _ _, hA2, write_lay_all hm hck' hfew hlen, laid_total hm hb hfew hck' ht, hup hs2⟩
    · have hL : actLay v.c V.bs u = V.bs := by unfold actLay; rw [if_neg hck]
      have hC : actC21 v.c u = 0 := by unfold actC21; rw [if_neg hck]
      rw [hL, hC, hE]
      rw [hE] at hck
      refine Goes.call rfl (view_Write_no v u.q u.at' u.a u.bs.length u.cap w1 (hv.grow hw1) (hu.plc.grow hw1) hfew hck) ?_
      rintro _ w2 ⟨rfl, hw2⟩
      refine Goes.adv hTT 400 rfl ?_
      exact Goes.ret2 hTT rfl Try.func23 rfl rfl rfl ⟨none, 0, V, rfl, Rd.nil _ _ _, hA.grow (hw1.trans hw2), rfl, by omega, (hw1.trans hw2).mono fun _ _ h => h.elim⟩
  have g1 : ¬ u.kind % 3 = 1 := by simpa using h1
  have hN : actN u = u.n := by unfold actN; rw [if_neg g1]
  have hE : actE v.c u = checkM v.c u.q u.at' u.n := by unfold actE; rw [hN]
  refine Goes.loads hTT rfl hub rfl rfl ?_
  refine Goes.loadb hTT rfl hub rfl rfl ?_
  refine Goes.loadb hTT rfl hub rfl rfl ?_
  by_cases hck : actE v.c u = 0
  · obtain ⟨a', n', ha', hn'⟩ := check_nat hck
    rw [hN] at hn'
    have hck' : checkM v.c u.q a' n' = 0 := by rw [← ha', ← hn', ← hE]; exact hck
    have hzl : (zeros n').length = n' := List.length_replicate
    have hL : actLay v.c V.bs u = layM v.c u.q V.bs a' (zeros n') n' := by unfold actLay; rw [if_pos hck, if_neg g0, if_neg g1, ha', hn']; simp
    have hC : actC21 v.c u = chargeM v.c u.q a' n' := by unfold actC21; rw [if_pos hck, hN, ha', hn']; simp
    rw [hL, hC, hck, ha', hn']
    refine Goes.call rfl (view_Zero v u.q a' n' A V w1 (hv.grow hw1) (hu.plc.grow hw1) hmb hab hck' hfew hPv hPq hPc hPk (hA.grow hw1) hlen) ?_
    rintro _ w2 ⟨rfl, hA2, hs2⟩
    refine Goes.adv hTT 400 rfl ?_
    have hla := write_lay_all (A := A) (V := V) (l := zeros n') (at' := a') hm (by rw [hzl]; exact hck') hfew hlen
    rw [hzl] at hla
    exact Goes.ret2 hTT rfl Try.func23 rfl rfl rfl ⟨none, 0, _, rfl, Rd.nil _ _ _, hA2, hla, laid_total hm hb hfew hck' ht, hup hs2⟩
  · have hL : actLay v.c V.bs u = V.bs := by unfold actLay; rw [if_neg hck]
    have hC : actC21 v.c u = 0 := by unfold actC21; rw [if_neg hck]
    rw [hL, hC, hE]
    rw [hE] at hck
    refine Goes.call rfl (view_Zero_no v u.q u.at' u.n w1 (hv.grow hw1) (hu.plc.grow hw1) hfew hck) ?_
    rintro _ w2 ⟨rfl, hw2⟩
    refine Goes.adv hTT 400 rfl ?_
    exact Goes.ret2 hTT rfl Try.func23 rfl rfl rfl ⟨none, 0, V, rfl, Rd.nil _ _ _, hA.grow (hw1.trans hw2), rfl, by omega, (hw1.trans hw2).mono fun _ _ h => h.elim⟩
end Go.Proofs.Ytffimkpllchfcaa
/-
  Layer 21: an act on a view, the document's.
-/
namespace Go.Proofs.Ytffimkpllchfcaa
open Go.RowKit

theorem RaOk.far {w w' : World} {r : RA} {S : Nat → Prop} (h : RaOk w r) (hs : OutA S r.a) (hc : Chg S w w') : RaOk w' r := ⟨h.rd.far hs hc, h.len, h.lc, h.rng⟩
theorem Rd.keepU {w w' : World} {a : Option Addr} {l : List Int} {q t : Nat} {c : Array Value} {fz : Nat × Nat} (hr : Rd .u8 w a l) (hq : w.heap[q]? = some (.cells c t fz)) (hc : ∀ x ∈ c.toList, ∀ z, x ≠ .int .u8 z) (hs : Chg (fun b => b = q) w w') : Rd .u8 w' a l := fun j hj => by
  obtain ⟨b, off, e, hcell⟩ := hr j hj
  refine ⟨b, off, e, hs.cell hcell (fun hx => ?_)⟩
  subst hx
  rw [cell_of hq] at hcell
  exact hc _ (Array.mem_toList_iff.2 (Array.mem_of_getElem? hcell)) _ rfl
theorem RaOk.keep {w w' : World} {r : RA} {q t : Nat} {c : Array Value} {fz : Nat × Nat} (h : RaOk w r) (hq : w.heap[q]? = some (.cells c t fz)) (hc : ∀ x ∈ c.toList, ∀ z, x ≠ .int .u8 z) (hs : Chg (fun b => b = q) w w') : RaOk w' r :=
  ⟨h.rd.keepU hq hc hs, h.len, h.lc, h.rng⟩
theorem RaOk.steps {w : World} {r : RA} (h : RaOk w r) (s : Int) : RaOk w { r with steps := s } := ⟨h.rd, h.len, h.lc, h.rng⟩
/-- What lies in an old block, or a new one, lies not in one of those between. -/
theorem Newer.out {w1 : World} {a a' : Option Addr} {S : Nat → Prop} (h : Newer w1 a a') (ha : OutA S a) (hs : ∀ z, S z → z < w1.heap.size) : OutA S a' := by
  rcases h with rfl | ⟨g, off, rfl, hg⟩
  · exact ha
  · intro b off' s e hb
    cases e
    have := hs _ hb
    omega
theorem RaOk.out {w : World} {r : RA} {S : Nat → Prop} (h : RaOk w r) (hn : 0 < r.bs.length) (hs : ∀ z, S z → w.heap.size ≤ z) : OutA S r.a := by
  obtain ⟨b, off, e, hc⟩ := h.rd 0 hn
  intro b' off' s e' hb
  rw [e] at e'
  cases e'
  have := World.block_lt_of_cell? w _ hc
  have := hs _ hb
  simp only at *
  omega
set_option maxRecDepth 100000 in
theorem ref21_Do (c : Conf) (p : ConfAt) (r : RA) (u : Act21) (w : World) (hc : ConfOk w c p) (hu : Act21Ok w u) (hm : mayB c = true) (hfew : u.q.pages.length ≤ 4096)
    (hR : RaOk w r) (hrl : (r.bs.length : Int) = c.size * c.pages) (hst : 0 ≤ r.steps ∧ r.steps ≤ 1152921504606846976) :
    Does Try.prog 24 #[.agg (vrL c p r).toArray, .agg (act21L u).toArray] w (fun x w' => ∃ (r' : RA) (a : Option Addr) (cap : Nat), x = .tuple #[.agg (vrL c p r').toArray, .slice a (actT c r.bs u).length cap, .int .i64 (actE c u)] ∧ r'.bs = actLay c r.bs u ∧ r'.steps = r.steps + actC21 c u ∧ RaOk w' r' ∧ Newer w r.a r'.a ∧ Rd .u8 w' a (actT c r.bs u) ∧ Chg None' w w') := by
  have hk := hu.kind
  have htot := size_total hm
  have hpos : 0 < r.bs.length := by omega
  refine Does.enter Try.func24 rfl Try.ntmps24 rfl rfl ?_
  refine Goes.adv hTT 400 rfl ?_
  refine Goes.alloc hTT rfl ?_
  intro xb w1 e1 hxb hw1 hz1
  refine Goes.adv hTT 400 rfl ?_
  refine Goes.alloc hTT rfl ?_
  intro ub w2 e2 hub hw2 hz2
  refine Goes.adv hTT 400 rfl ?_
  refine Goes.alloc hTT rfl ?_
  intro ob w3 e3 hob hw3 hz3
  refine Goes.adv hTT 400 rfl ?_
  replace hxb : w1.heap[xb]? = some (.cells (vrL c p r).toArray 43 (0, 0)) := hxb
  replace hub : w2.heap[ub]? = some (.cells (act21L u).toArray 48 (0, 0)) := hub
  have hw := (hw1.trans hw2).trans hw3
  have hxb3 := (hw2.trans hw3).heap' hxb
  have hub3 := hw3.heap' hub
  have hs1 := hw1.size
  have hs2 := hw2.size
  have hs3 := hw3.size
  refine Goes.loadb hTT rfl hub3 rfl rfl ?_
  refine Goes.div hTT rfl (by omega) (rem_ (by omega)) rfl ?_
  refine Goes.fork hTT rfl rfl rfl (fun h0 => ?_) (fun h0 => ?_)
  · have g0 : u.kind % 3 = 0 := by simpa using h0
    have hN : actN u = u.n := by unfold actN; rw [if_neg (by omega)]
    refine Goes.loads hTT rfl hxb3 rfl rfl ?_
    refine Goes.loads hTT rfl hub3 rfl rfl ?_
    refine Goes.loadb hTT rfl hub3 rfl rfl ?_
    refine Goes.loadb hTT rfl hub3 rfl rfl ?_
    by_cases hck : actE c u = 0
    · obtain ⟨a', n', ha', hn'⟩ := check_nat hck
      rw [hN] at hn'
      have hck' : checkM c u.q a' n' = 0 := by rw [← ha', ← hn', ← hN]; exact hck
      have hT : actT c r.bs u = toldM c u.q r.bs a' n' := by unfold actT; rw [if_pos ⟨g0, hck⟩, ha', hn']; simp
      have hL : actLay c r.bs u = r.bs := by unfold actLay; rw [if_pos hck, if_pos g0]
      have hC : actC21 c u = chargeM c u.q a' n' := by unfold actC21; rw [if_pos hck, hN, ha', hn']; simp
      rw [hT, hL, hC, hck, ha', hn']
      refine Goes.call rfl (ref21_Read c p r u.q a' n' w3 (hc.chg hw) (hu.plc.grow hw) hm hfew hck' (hR.grow hw) hrl hst) ?_
      rintro _ w4 ⟨u1, rfl, ho4, hw4⟩
      refine Goes.adv hTT 400 rfl ?_
      have hs4 := hw4.size
      refine Goes.store hTT rfl (hw4.heap' hob) rfl rfl ?_
      intro w5 hob5 hs5 hz5
      refine Goes.adv hTT 400 rfl ?_
      replace hob5 : w5.heap[ob]? = some (.cells (vrL c p { r with steps := r.steps + chargeM c u.q a' n' }).toArray 43 (0, 0)) := hob5
      obtain ⟨ra, rc, rfl, hrd, hout, _⟩ := ho4.bytes (by unfold toldM; simp) (S := fun z => z = ob) (fun z h => by have := lt_of_heap hob; omega)
      have hR4 := (hR.grow hw).grow hw4
      exact Goes.ret hTT rfl Try.func24 (ResOk.cell rfl rfl rfl hob5 rfl (.tmp rfl (.tmp rfl .nil))) ⟨_, ra, rc, rfl, rfl, rfl, (show RaOk w5 r from (hR4.far (hR.out hpos (fun z h => by omega)) hs5)).steps _, .inl rfl, hrd.far hout hs5, (hw.trans hw4).since hs5 (fun z hz e => by omega)⟩
    · have hT : actT c r.bs u = [] := by unfold actT; rw [if_neg (fun h => hck h.2)]
      have hL : actLay c r.bs u = r.bs := by unfold actLay; rw [if_neg hck]
      have hC : actC21 c u = 0 := by unfold actC21; rw [if_neg hck]
      have hE : actE c u = checkM c u.q u.at' u.n := by unfold actE; rw [hN]
      rw [hT, hL, hC, hE]
      rw [hE] at hck
      refine Goes.call rfl (ref21_Read_no c p r u.q u.at' u.n w3 (hc.chg hw) (hu.plc.grow hw) hm hfew hck) ?_
      rintro _ w4 ⟨rfl, hw4⟩
      refine Goes.adv hTT 400 rfl ?_
      refine Goes.store hTT rfl (hw4.heap' hob) rfl rfl ?_
      intro w5 hob5 hs5 hz5
      refine Goes.adv hTT 400 rfl ?_
      replace hob5 : w5.heap[ob]? = some (.cells (vrL c p r).toArray 43 (0, 0)) := hob5
      exact Goes.ret hTT rfl Try.func24 (ResOk.cell rfl rfl rfl hob5 rfl (.tmp rfl (.tmp rfl .nil))) ⟨r, none, 0, rfl, rfl, by omega, ((hR.grow hw).grow hw4).far (hR.out hpos (fun z h => by omega)) hs5, .inl rfl, Rd.nil _ _ _, (hw.trans hw4).since hs5 (fun z hz e => by omega)⟩
  have g0 : ¬ u.kind % 3 = 0 := by simpa using h0
  have hT : actT c r.bs u = [] := by unfold actT; rw [if_neg (fun h => g0 h.1)]
  rw [hT]
  refine Goes.fork hTT rfl rfl rfl (fun h1 => ?_) (fun h1 => ?_)
  · have g1 : u.kind % 3 = 1 := by simpa using h1
    have hN : actN u = u.bs.length := by unfold actN; rw [if_pos g1]
    have hE : actE c u = checkM c u.q u.at' u.bs.length := by unfold actE; rw [hN]
    refine Goes.loads hTT rfl hxb3 rfl rfl ?_
    refine Goes.loads hTT rfl hub3 rfl rfl ?_
    refine Goes.loadb hTT rfl hub3 rfl rfl ?_
    refine Goes.loadb hTT rfl hub3 rfl rfl ?_
    by_cases hck : actE c u = 0
    · obtain ⟨a', n', ha', hn'⟩ := check_nat hck
      have hck' : checkM c u.q a' u.bs.length = 0 := by rw [← ha', ← hE]; exact hck
      have hL : actLay c r.bs u = layM c u.q r.bs a' u.bs u.bs.length := by unfold actLay; rw [if_pos hck, if_neg g0, if_pos g1, ha']; simp
      have hC : actC21 c u = chargeM c u.q a' u.bs.length := by unfold actC21; rw [if_pos hck, hN, ha']; simp
      rw [hL, hC, hck, ha']
      refine Goes.call rfl (ref21_Write c p r u.q a' u.a u.cap u.bs w3 (hc.chg hw) (hu.plc.grow hw) hm hfew hck' (hR.grow hw) hrl hst (hu.rd.chg hw) hu.rng) ?_
      rintro _ w4 ⟨r', rfl, hbs, hst', hR4, hnew, hw4⟩
      refine Goes.adv hTT 400 rfl ?_
      have hs4 := hw4.size
      refine Goes.alloc hTT rfl ?_
      intro tb w5 e5 htb hw5 hz5
      refine Goes.adv hTT 400 rfl ?_
      refine Goes.store hTT rfl htb rfl rfl ?_
      intro w6 htb6 hs6 hz6
      refine Goes.adv hTT 400 rfl ?_
      replace htb6 : w6.heap[tb]? = some (.cells (vrL c p r').toArray 43 (0, 0)) := htb6
      refine Goes.loads hTT rfl htb6 rfl rfl ?_
      have hob6 := hs6.heap (hw5.heap' (hw4.heap' hob)) (by have := lt_of_heap hob; omega)
      refine Goes.store hTT rfl hob6 rfl rfl ?_
      intro w7 hob7 hs7 hz7
      refine Goes.adv hTT 400 rfl ?_
      replace hob7 : w7.heap[ob]? = some (.cells (vrL c p r').toArray 43 (0, 0)) := hob7
      have hlo := lt_of_heap hob
      have hout3 : OutA (fun z => z = ob) r'.a := Newer.out hnew (hR.out hpos (fun z h => by omega)) (fun z h => by omega)
      have hout6 : OutA (fun z => z = tb) r'.a := hR4.out (by rw [hbs, layM_len]; exact hpos) (fun z h => by omega)
      have hR7 := ((hR4.grow hw5).far hout6 hs6).far hout3 hs7
      exact Goes.ret hTT rfl Try.func24 (ResOk.cell rfl rfl rfl hob7 rfl (.tmp rfl (.tmp rfl .nil))) ⟨r', none, 0, rfl, hbs, hst', hR7, hnew.imp id (fun ⟨g, off, h1, h2⟩ => ⟨g, off, h1, by omega⟩), Rd.nil _ _ _, (((hw.trans hw4).trans hw5).since hs6 (fun z hz e => by omega)).since hs7 (fun z hz e => by omega)⟩
    · have hL : actLay c r.bs u = r.bs := by unfold actLay; rw [if_neg hck]
      have hC : actC21 c u = 0 := by unfold actC21; rw [if_neg hck]
      rw [hL, hC, hE]
      rw [hE] at hck
      refine Goes.call rfl (ref21_Write_no c p r u.q u.at' u.a u.bs.length u.cap w3 (hc.chg hw) (hu.plc.grow hw) hm hfew hck) ?_
      rintro _ w4 ⟨rfl, hw4⟩
      refine Goes.adv hTT 400 rfl ?_
      have hs4 := hw4.size
      refine Goes.alloc hTT rfl ?_
      intro tb w5 e5 htb hw5 hz5
      refine Goes.adv hTT 400 rfl ?_
      refine Goes.store hTT rfl htb rfl rfl ?_
      intro w6 htb6 hs6 hz6
      refine Goes.adv hTT 400 rfl ?_
      replace htb6 : w6.heap[tb]? = some (.cells (vrL c p r).toArray 43 (0, 0)) := htb6
      refine Goes.loads hTT rfl htb6 rfl rfl ?_
      have hob6 := hs6.heap (hw5.heap' (hw4.heap' hob)) (by have := lt_of_heap hob; omega)
      refine Goes.store hTT rfl hob6 rfl rfl ?_
      intro w7 hob7 hs7 hz7
      refine Goes.adv hTT 400 rfl ?_
      replace hob7 : w7.heap[ob]? = some (.cells (vrL c p r).toArray 43 (0, 0)) := hob7
      have hR7 := ((((hR.grow hw).grow hw4).grow hw5).far (hR.out hpos (fun z h => by omega)) hs6).far (hR.out hpos (fun z h => by omega)) hs7
      exact Goes.ret hTT rfl Try.func24 (ResOk.cell rfl rfl rfl hob7 rfl (.tmp rfl (.tmp rfl .nil))) ⟨r, none, 0, rfl, rfl, by omega, hR7, .inl rfl, Rd.nil _ _ _, (((hw.trans hw4).trans hw5).since hs6 (fun z hz e => by omega)).since hs7 (fun z hz e => by omega)⟩
  have g1 : ¬ u.kind % 3 = 1 := by simpa using h1
  have hN : actN u = u.n := by unfold actN; rw [if_neg g1]
  have hE : actE c u = checkM c u.q u.at' u.n := by unfold actE; rw [hN]
  refine Goes.loads hTT rfl hxb3 rfl rfl ?_
  refine Goes.loads hTT rfl hub3 rfl rfl ?_
  refine Goes.loadb hTT rfl hub3 rfl rfl ?_
  refine Goes.loadb hTT rfl hub3 rfl rfl ?_
  by_cases hck : actE c u = 0
  · obtain ⟨a', n', ha', hn'⟩ := check_nat hck
    rw [hN] at hn'
    have hck' : checkM c u.q a' n' = 0 := by rw [← ha', ← hn', ← hE]; exact hck
    have hL : actLay c r.bs u = layM c u.q r.bs a' (zeros n') n' := by unfold actLay; rw [if_pos hck, if_neg g0, if_neg g1, ha', hn']; simp
    have hC : actC21 c u = chargeM c u.q a' n' := by unfold actC21; rw [if_pos hck, hN, ha', hn']; simp
    rw [hL, hC, hck, ha', hn']
    refine Goes.call rfl (ref21_Zero c p r u.q a' n' w3 (hc.chg hw) (hu.plc.grow hw) hm hfew hck' (hR.grow hw) hrl hst) ?_
    rintro _ w4 ⟨r', rfl, hbs, hst', hR4, hnew, hw4⟩
    refine Goes.adv hTT 400 rfl ?_
    have hs4 := hw4.size
    refine Goes.alloc hTT rfl ?_
    intro tb w5 e5 htb hw5 hz5
    refine Goes.adv hTT 400 rfl ?_
    refine Goes.store hTT rfl htb rfl rfl ?_
    intro w6 htb6 hs6 hz6
    refine Goes.adv hTT 400 rfl ?_
    replace htb6 : w6.heap[tb]? = some (.cells (vrL c p r').toArray 43 (0, 0)) := htb6
    refine Goes.loads hTT rfl htb6 rfl rfl ?_
    have hob6 := hs6.heap (hw5.heap' (hw4.heap' hob)) (by have := lt_of_heap hob; omega)
    refine Goes.store hTT rfl hob6 rfl rfl ?_
    intro w7 hob7 hs7 hz7
    refine Goes.adv hTT 400 rfl ?_
    replace hob7 : w7.heap[ob]? = some (.cells (vrL c p r').toArray 43 (0, 0)) := hob7
    have hlo := lt_of_heap hob
    have hout3 : OutA (fun z => z = ob) r'.a := Newer.out hnew (hR.out hpos (fun z h => by omega)) (fun z h => by omega)
    have hout6 : OutA (fun z => z = tb) r'.a := hR4.out (by rw [hbs, layM_len]; exact hpos) (fun z h => by omega)
    have hR7 := ((hR4.grow hw5).far hout6 hs6).far hout3 hs7
    exact Goes.ret hTT rfl Try.func24 (ResOk.cell rfl rfl rfl hob7 rfl (.tmp rfl (.tmp rfl .nil))) ⟨r', none, 0, rfl, hbs, hst', hR7, hnew.imp id (fun ⟨g, off, h1, h2⟩ => ⟨g, off, h1, by omega⟩), Rd.nil _ _ _, (((hw.trans hw4).trans hw5).since hs6 (fun z hz e => by omega)).since hs7 (fun z hz e => by omega)⟩
  · have hL : actLay c r.bs u = r.bs := by unfold actLay; rw [if_neg hck]
    have hC : actC21 c u = 0 := by unfold actC21; rw [if_neg hck]
    rw [hL, hC, hE]
    rw [hE] at hck
    refine Goes.call rfl (ref21_Zero_no c p r u.q u.at' u.n w3 (hc.chg hw) (hu.plc.grow hw) hm hfew hck) ?_
    rintro _ w4 ⟨rfl, hw4⟩
    refine Goes.adv hTT 400 rfl ?_
    have hs4 := hw4.size
    refine Goes.alloc hTT rfl ?_
    intro tb w5 e5 htb hw5 hz5
    refine Goes.adv hTT 400 rfl ?_
    refine Goes.store hTT rfl htb rfl rfl ?_
    intro w6 htb6 hs6 hz6
    refine Goes.adv hTT 400 rfl ?_
    replace htb6 : w6.heap[tb]? = some (.cells (vrL c p r).toArray 43 (0, 0)) := htb6
    refine Goes.loads hTT rfl htb6 rfl rfl ?_
    have hob6 := hs6.heap (hw5.heap' (hw4.heap' hob)) (by have := lt_of_heap hob; omega)
    refine Goes.store hTT rfl hob6 rfl rfl ?_
    intro w7 hob7 hs7 hz7
    refine Goes.adv hTT 400 rfl ?_
    replace hob7 : w7.heap[ob]? = some (.cells (vrL c p r).toArray 43 (0, 0)) := hob7
    have hR7 := ((((hR.grow hw).grow hw4).grow hw5).far (hR.out hpos (fun z h => by omega)) hs6).far (hR.out hpos (fun z h => by omega)) hs7
    exact Goes.ret hTT rfl Try.func24 (ResOk.cell rfl rfl rfl hob7 rfl (.tmp rfl (.tmp rfl .nil))) ⟨r, none, 0, rfl, rfl, by omega, hR7, .inl rfl, Rd.nil _ _ _, (((hw.trans hw4).trans hw5).since hs6 (fun z hz e => by omega)).since hs7 (fun z hz e => by omega)⟩
end Go.Proofs.Ytffimkpllchfcaa
/-
  Layer 21: what is laid is told again; bytes that have none in common with it are asV before.
-/
namespace Go.Proofs.Ytffimkpllchfcaa
open Go.RowKit

/-- No page stands twice in a large place. -/
def OnceP (q : Plc) : Prop := q.cls = -1 → ∀ i k, k < i → i < q.pages.length → q.pages.getD i 0 ≠ q.pages.getD k 0
theorem where_inj {c : Conf} {q : Plc} {i k : Nat} (hm : mayB c = true) (hin : viewIs c q = true) (ho : OnceP q) (hi : (i : Int) < viewHolds c q) (hk : (k : Int) < viewHolds c q) (h : whereM c q i = whereM c q k) : i = k := by
  obtain ⟨m1, m2, m3⟩ := may_facts hm
  unfold whereM at h
  by_cases hcl : q.cls = -1
  · rw [if_pos hcl, if_pos hcl] at h
    have hho : viewHolds c q = (q.pages.length : Int) * c.size := by unfold viewHolds; rw [if_pos hin, if_pos hcl]
    rw [hho] at hi hk
    obtain ⟨sz, hsz⟩ := Int.eq_ofNat_of_zero_le (show 0 ≤ c.size by omega)
    have hpos : 1 ≤ sz := by omega
    rw [hsz] at hi hk h
    simp only [Int.toNat_natCast] at h
    have hi' : i < q.pages.length * sz := by exact_mod_cast hi
    have hk' : k < q.pages.length * sz := by exact_mod_cast hk
    have di : i / sz < q.pages.length := Nat.div_lt_of_lt_mul (by rw [Nat.mul_comm]; exact hi')
    have dk : k / sz < q.pages.length := Nat.div_lt_of_lt_mul (by rw [Nat.mul_comm]; exact hk')
    have ri := Nat.mod_lt i hpos
    have rk := Nat.mod_lt k hpos
    have ei := Nat.div_add_mod i sz
    have ek := Nat.div_add_mod k sz
    obtain ⟨a, ha⟩ : ∃ a, a = q.pages.getD (i / sz) 0 := ⟨_, rfl⟩
    obtain ⟨b, hb⟩ : ∃ b, b = q.pages.getD (k / sz) 0 := ⟨_, rfl⟩
    rw [← ha, ← hb] at h
    have hab : a = b := by
      rcases Int.lt_trichotomy a b with g | g | g
      · exfalso
        have : (a + 1) * (sz : Int) ≤ b * sz := Int.mul_le_mul_of_nonneg_right (by omega) (by omega)
        rw [Int.add_mul] at this
        omega
      · exact g
      · exfalso
        have : (b + 1) * (sz : Int) ≤ a * sz := Int.mul_le_mul_of_nonneg_right (by omega) (by omega)
        rw [Int.add_mul] at this
        omega
    have hd : i / sz = k / sz := by
      rcases Nat.lt_trichotomy (i / sz) (k / sz) with g | g | g
      · exact absurd (by rw [← ha, ← hb, hab]) (ho hcl _ _ g dk)
      · exact g
      · exact absurd (by rw [← ha, ← hb, hab]) (ho hcl _ _ g di)
    rw [hab] at h
    rw [hd] at ei
    omega
  · rw [if_neg hcl, if_neg hcl] at h
    omega
theorem layM_get {c : Conf} {q : Plc} {bs l : List Int} {at' : Nat} (hm : mayB c = true) (hin : viewIs c q = true) (ho : OnceP q) (hlen : (bs.length : Int) = c.size * c.pages) : ∀ (k : Nat), ((at' + k : Nat) : Int) ≤ viewHolds c q →
    ∀ j, j < k → (layM c q bs at' l k).getD (whereM c q (at' + j)).toNat 0 = l.getD j 0
  | 0, _ => fun j h => absurd h (Nat.not_lt_zero _)
  | k + 1, hk => fun j hj => by
    have hwk := where_in (i := at' + k) hm hin (by omega)
    have hwj := where_in (i := at' + j) hm hin (by omega)
    have hll := layM_len c q bs at' l k
    show (List.set _ _ _).getD _ 0 = _
    by_cases e : j = k
    · subst e
      rw [List.getD_eq_getElem?_getD, List.getElem?_set_self (by omega)]
      rfl
    · have hne : (whereM c q (at' + k)).toNat ≠ (whereM c q (at' + j)).toNat := fun h => by
        have : at' + k = at' + j := where_inj hm hin ho (by omega) (by omega) (by omega)
        omega
      rw [List.getD_eq_getElem?_getD, List.getElem?_set_ne hne, ← List.getD_eq_getElem?_getD]
      exact layM_get hm hin ho hlen k (by omega) j (by omega)
theorem told_lay {c : Conf} {q : Plc} {bs l : List Int} {at' : Nat} (hm : mayB c = true) (hck : checkM c q at' l.length = 0) (ho : OnceP q) (hlen : (bs.length : Int) = c.size * c.pages) : toldM c q (layM c q bs at' l l.length) at' l.length = l := by
  obtain ⟨hin, _, _, hle⟩ := check_zero hck
  refine List.ext_getElem? fun j => ?_
  unfold toldM
  rw [List.getElem?_map]
  by_cases h : j < l.length
  · rw [List.getElem?_range h, Option.map_some, layM_get hm hin ho hlen l.length (by omega) j h, List.getD_eq_getElem?_getD, List.getElem?_eq_getElem h]
    rfl
  · rw [List.getElem?_eq_none (by simpa using h), List.getElem?_eq_none (by omega)]
    rfl
theorem layM_far {c : Conf} {q : Plc} {bs l : List Int} {at' x : Nat} : ∀ (k : Nat), (∀ j, j < k → (whereM c q (at' + j)).toNat ≠ x) → (layM c q bs at' l k).getD x 0 = bs.getD x 0
  | 0, _ => rfl
  | k + 1, h => by
    show (List.set _ _ _).getD _ 0 = _
    rw [List.getD_eq_getElem?_getD, List.getElem?_set_ne (h k (by omega)), ← List.getD_eq_getElem?_getD]
    exact layM_far k fun j hj => h j (by omega)
theorem told_apart {c : Conf} {p q : Plc} {bs l : List Int} {at' n : Nat} (hm : mayB c = true) (hck : checkM c p at' l.length = 0) (hq : viewIs c q = true) (hn : (n : Int) ≤ viewHolds c q)
    (h : ∀ i k : Nat, (i : Int) < viewHolds c p → (k : Int) < viewHolds c q → whereM c p i ≠ whereM c q k) : toldM c q (layM c p bs at' l l.length) 0 n = toldM c q bs 0 n := by
  obtain ⟨hin, _, _, hle⟩ := check_zero hck
  unfold toldM
  refine List.map_congr_left fun i hi => ?_
  have hi' := List.mem_range.1 hi
  refine layM_far _ fun j hj e => ?_
  have h1 := where_in (i := at' + j) hm hin (by omega)
  have h2 := where_in (i := 0 + i) hm hq (by omega)
  exact h (at' + j) (0 + i) (by omega) (by omega) (by omega)
theorem holds_zero {c : Conf} {q : Plc} (hm : mayB c = true) : viewHolds c q = 0 ↔ viewIs c q = false := by
  obtain ⟨m1, m2, m3⟩ := may_facts hm
  unfold viewHolds
  cases hi : viewIs c q with
  | false => simp
  | true =>
    simp only [if_true]
    split
    · rename_i hcl
      obtain ⟨hpos, _⟩ := is_large hi hcl
      have : (0 : Int) < (q.pages.length : Int) * c.size := Int.mul_pos (by omega) (by omega)
      constructor <;> intro h
      · omega
      · cases h
    · rename_i hcl
      obtain ⟨kk, pg, ix, hkk, _, _, hkl, _, g2, g3, _⟩ := is_small hm hi hcl
      rw [hkk]
      constructor <;> intro h
      · omega
      · cases h
end Go.Proofs.Ytffimkpllchfcaa
/-
  Layer 21: whatever is told, and laid, of any places.
-/
namespace Go.Proofs.Ytffimkpllchfcaa
open Go.RowKit

theorem may_arMay {c : Conf} (h : mayB c = true) : arMay c.pages c.size = true := by
  obtain ⟨m1, m2, m3⟩ := may_facts h
  exact arMay_iff.2 (by omega)
theorem ref21_NewOk (c : Conf) (p : ConfAt) (w : World) (hc : ConfOk w c p) (hm : mayB c = true) : Does Try.prog 16 #[.agg (confL c p).toArray, .int .i64 c.pages, .int .i64 c.size] w
    (fun u w' => Chg None' w w' ∧ ∃ r : RA, u = .tuple #[.agg (vrL c p r).toArray, .int .i64 0] ∧ RaOk w' r ∧ r.bs = zeros (c.pages * c.size).toNat ∧ r.steps = 0 ∧ OutA (fun z => z < w.heap.size) r.a) := by
  have ht := may_arMay hm
  have g := arMay_iff.1 ht
  have h0 : 0 ≤ c.pages * c.size := Int.mul_nonneg (by omega) (by omega)
  have hlen : (zeros (c.pages * c.size).toNat).length = (c.pages * c.size).toNat := List.length_replicate
  have htot := size_total hm
  have hcm : c.pages * c.size = c.size * c.pages := Int.mul_comm _ _
  refine Does.enter Try.func16 rfl Try.ntmps16 rfl rfl ?_
  refine Goes.adv hTT 400 rfl ?_
  refine Goes.alloc hTT rfl ?_
  intro cb w1 e1 hcb hw1 hz1
  refine Goes.adv hTT 400 rfl ?_
  refine Goes.alloc hTT rfl ?_
  intro xb w2 e2 hxb hw2 hz2
  refine Goes.adv hTT 400 rfl ?_
  replace hcb : w1.heap[cb]? = some (.cells (confL c p).toArray 24 (0, 0)) := hcb
  have hw := hw1.trans hw2
  have hs := hw.size
  refine Goes.call rfl (ref06_New c.pages c.size w2 ht) ?_
  rintro _ w3 ⟨b, rfl, hb, hR, hw3⟩
  refine Goes.adv hTT 400 rfl ?_
  have hs3 := hw3.size
  refine Goes.alloc hTT rfl ?_
  intro ab w4 e4 hab hw4 hz4
  refine Goes.adv hTT 400 rfl ?_
  refine Goes.store hTT rfl hab rfl rfl ?_
  intro w5 hab5 hs5 hz5
  refine Goes.adv hTT 400 rfl ?_
  have hwa : Chg None' w w5 := ((hw.trans hw3).trans hw4).since hs5 (fun z hz e => by omega)
  have hw25 : Chg None' w2 w5 := (hw3.trans hw4).since hs5 (fun z hz e => by omega)
  have hcb5 := hw25.heap' (hw2.heap' hcb)
  have hbl : b < w3.heap.size := by
    obtain ⟨b', off', e', hcl⟩ := hR.rd 0 (by show 0 < (zeros (c.pages * c.size).toNat).length; omega)
    cases e'
    exact World.block_lt_of_cell? w3 _ hcl
  have hR5 : RaOk w5 ⟨some ⟨b, 0, none⟩, (c.pages * c.size).toNat, zeros (c.pages * c.size).toNat, 0⟩ := (hR.grow hw4).far (by intro b' off s e hz; cases e; omega) hs5
  refine Goes.loads hTT rfl hcb5 rfl rfl ?_
  refine Goes.call rfl (ref03_May c p w5 (hc.chg hwa)) ?_
  rintro _ w6 ⟨rfl, hw6⟩
  refine Goes.adv hTT 400 rfl ?_
  have hs6 := hw6.size
  have hwb := hwa.trans hw6
  have hw26 := hw25.trans hw6
  have hlx := lt_of_heap hxb
  rw [show mayM c = 0 from by unfold mayM; rw [hm]; rfl]
  refine Goes.no hTT rfl rfl rfl ?_
  refine Goes.no hTT rfl rfl rfl ?_
  refine Goes.loadb hTT rfl (hw6.heap' hab5) rfl rfl ?_
  refine Goes.loadb hTT rfl (hw6.heap' hcb5) rfl rfl ?_
  refine Goes.loadb hTT rfl (hw6.heap' hcb5) rfl rfl ?_
  refine Goes.arith hTT rfl (w64 (by omega)) rfl ?_
  refine Goes.no hTT rfl (show ((((zeros (c.pages * c.size).toNat).length : Nat) : Int) != c.size * c.pages) = false by rw [hlen, show (((c.pages * c.size).toNat : Nat) : Int) = c.size * c.pages by omega]; exact bne_self_eq_false _) rfl ?_
  refine Goes.loads hTT rfl (hw6.heap' hcb5) rfl rfl ?_
  refine Goes.loads hTT rfl (hw6.heap' hab5) rfl rfl ?_
  refine Goes.build hTT rfl rfl ?_
  refine Goes.store hTT rfl (hw26.heap' hxb) rfl rfl ?_
  intro w7 hx7 hs7 hz7
  refine Goes.adv hTT 400 rfl ?_
  exact Goes.ret hTT rfl Try.func16 (ResOk.cell rfl rfl rfl hx7 rfl (.tmp rfl .nil)) ⟨hwb.since hs7 (fun z hz e => by have := hw1.size; omega), _, rfl, (hR5.grow hw6).far (by intro b' off s e hz; cases e; omega) hs7, rfl, rfl, by intro b' off s e hz; cases e; omega⟩
/-- What the document's act answers. -/
abbrev acF21 (c : Conf) (p : ConfAt) (bs : List Int) (u : Act21) (x : RA × Option Addr × Nat) : Value := .tuple #[.agg (vrL c p x.1).toArray, .slice x.2.1 (actT c bs u).length x.2.2, .int .i64 (actE c u)]
def acQ21 (c : Conf) (bs : List Int) (u : Act21) (st : Int) (S : Nat → Prop) (x : RA × Option Addr × Nat) (w' : World) : Prop := x.1.bs = actLay c bs u ∧ x.1.steps = st ∧ RaOk w' x.1 ∧ OutA S x.1.a ∧ Rd .u8 w' x.2.1 (actT c bs u)
theorem actE_charge {c : Conf} {u : Act21} (hm : mayB c = true) (hfew : u.q.pages.length ≤ 4096) : 0 ≤ actC21 c u ∧ actC21 c u ≤ 40000000 := by
  unfold actC21
  split
  · rename_i h
    obtain ⟨a, k, h1, h2⟩ := check_nat h
    obtain ⟨_, _, _, hle⟩ := check_zero (show checkM c u.q u.at' (actN u) = 0 from h)
    have hhb := viewHolds_bound (c := c) (q := u.q) hm hfew
    have := charge_bound (c := c) (q := u.q) (at' := u.at'.toNat) (n := (actN u).toNat) hm
    omega
  · omega
set_option maxRecDepth 100000 in
theorem law_ViewActs (c : Conf) (p : ConfAt) (a : Option Addr) (cap : Nat) (xs : List Act21) (w : World) (hc : ConfOk w c p) (hrs : Rows act21L 8 w a xs) (hl : xs.length ≤ 9223372036854775807) (hxs : ∀ x ∈ xs, Act21Ok w x) :
    Does Try.prog 6 #[.agg (confL c p).toArray, .slice a xs.length cap] w (Grow (.bool true) w) := by
  refine Does.enter Try.func6 rfl Try.ntmps6 rfl rfl ?_
  refine Goes.adv hTT 400 rfl ?_
  refine Goes.alloc hTT rfl ?_
  intro cb w1 e1 hcb hw1 hz1
  refine Goes.adv hTT 400 rfl ?_
  replace hcb : w1.heap[cb]? = some (.cells (confL c p).toArray 24 (0, 0)) := hcb
  refine Goes.call rfl (law21_awake w1) ?_
  rintro _ w2 ⟨rfl, hw2⟩
  refine Goes.adv hTT 400 rfl ?_
  have hw02 := hw1.trans hw2
  have hcb2 := hw2.heap' hcb
  refine Goes.loads hTT rfl hcb2 rfl rfl ?_
  refine Goes.call rfl (ref03_Few c p w2 (hc.chg hw02)) ?_
  rintro _ w3 ⟨rfl, hw3⟩
  refine Goes.adv hTT 400 rfl ?_
  have hw03 := hw02.trans hw3
  cases hf : fewM c with
  | false =>
    refine Goes.yes hTT rfl rfl rfl ?_
    exact Goes.ret1 hTT rfl Try.func6 rfl rfl ⟨rfl, hw03⟩
  | true =>
  obtain ⟨hm, hsz, hpg⟩ := few_may hf
  obtain ⟨m1, m2, m3⟩ := may_facts hm
  have htot := size_total hm
  have hcb3 := hw3.heap' hcb2
  refine Goes.no hTT rfl rfl rfl ?_
  refine Goes.call rfl (ref21_Few a cap xs w3 (hrs.chg hw03) hl) ?_
  rintro _ w4 ⟨b0, rfl, hb0, rfl⟩
  refine Goes.adv hTT 400 rfl ?_
  refine Goes.fork hTT rfl rfl rfl (fun h1 => ?_) (fun h1 => ?_)
  · exact Goes.ret1 hTT rfl Try.func6 rfl rfl ⟨rfl, hw03⟩
  obtain ⟨hx16, hfew⟩ := hb0 (by simpa using h1)
  refine Goes.call rfl (meter_New w3) ?_
  rintro _ w4 ⟨rfl, hm4, hw4, hz4⟩
  refine Goes.adv hTT 400 rfl ?_
  have hcb4 := hw4.heap' hcb3
  refine Goes.loadb hTT rfl hcb4 rfl rfl ?_
  refine Goes.loadb hTT rfl hcb4 rfl rfl ?_
  refine Goes.call rfl (arena_New (some w3.heap.size) 0 0 c.pages c.size w4 (fun b hb => by cases hb; exact hm4) (may_arMay hm)) ?_
  rintro _ w5 ⟨A, rfl, hmb, ha1, ha2, ha3, hA5, hw5⟩
  refine Goes.adv hTT 400 rfl ?_
  have hlen : (zeros (c.pages * c.size).toNat).length = (c.pages * c.size).toNat := List.length_replicate
  have hcomm : c.pages * c.size = c.size * c.pages := Int.mul_comm _ _
  have hcond : mayB c = true ∧ (((⟨zeros (c.pages * c.size).toNat, 0, 0⟩ : ArV).bs.length : Nat) : Int) = c.size * c.pages := ⟨hm, by show (((zeros (c.pages * c.size).toNat).length : Nat) : Int) = _; rw [hlen]; omega⟩
  have hw05 := (hw03.trans hw4).trans hw5
  have hcb5 := hw5.heap' hcb4
  refine Goes.loads hTT rfl hcb5 rfl rfl ?_
  have hVN : Does Try.prog 11 #[.agg (confL c p).toArray, .pointer (some ⟨A.ab, 0, none⟩), ptr A.mb] w5 (fun u w' => Chg None' w5 w' ∧ ∃ vb, u = .tuple #[.pointer (some ⟨vb, 0, none⟩), .int .i64 0] ∧ w5.heap.size ≤ vb ∧ VwOk w' ⟨vb, c, p, A.ab, A.mb⟩) :=
    (view_New c p A _ w5 (hc.chg hw05) hA5).mono fun u w' h => ⟨h.1, by have h2 := h.2; rw [if_pos hcond] at h2; exact h2⟩
  rw [hmb] at hVN
  refine Goes.call rfl (hVN) ?_
  rintro _ w6 ⟨hw6, vb, rfl, hvb, hv6⟩
  refine Goes.adv hTT 400 rfl ?_
  have hcb6 := hw6.heap' hcb5
  have hw06 := hw05.trans hw6
  refine Goes.loads hTT rfl hcb6 rfl rfl ?_
  refine Goes.loadb hTT rfl hcb6 rfl rfl ?_
  refine Goes.loadb hTT rfl hcb6 rfl rfl ?_
  refine Goes.call rfl (ref21_NewOk c p w6 (hc.chg hw06) hm) ?_
  rintro _ w7 ⟨hw7, r0, rfl, hR7, hbs7, hst7, hout7⟩
  refine Goes.adv hTT 400 rfl ?_
  refine Goes.alloc hTT rfl ?_
  intro xb w8 e8 hxb hw8 hz8
  refine Goes.adv hTT 400 rfl ?_
  refine Goes.store hTT rfl hxb rfl rfl ?_
  intro w9 hxb9 hs9 hz9
  refine Goes.adv hTT 400 rfl ?_
  replace hxb9 : w9.heap[xb]? = some (.cells (vrL c p r0).toArray 43 (0, 0)) := hxb9
  have hs4 := hw4.size
  have hs5 := hw5.size
  have hs6 := hw6.size
  have hs7 := hw7.size
  have hs03 := hw03.size
  have hc9 : Chg None' w w9 := ((hw06.trans hw7).trans hw8).since hs9 (fun z hz e => by have := hw06.size; omega)
  have hw69 : Chg None' w6 w9 := (hw7.trans hw8).since hs9 (fun z hz e => by omega)
  have hf5 : ∀ z, foot A z → w3.heap.size ≤ z ∧ z < w5.heap.size := fun z h => ⟨by rcases h with h | h; omega; rw [hmb] at h; cases h; omega, foot_lt hA5 z h⟩
  have hfA : ∀ z, z < w3.heap.size → foot A z → False := fun z hz h => by have := hf5 z h; omega
  have hxbf : ¬ foot A xb := fun h => by have := hf5 xb h; omega
  have hvbf : ¬ foot A vb := fun h => by have := hf5 vb h; omega
  have hA9 := (hA5.grow hw6).grow hw69
  have hR9 : RaOk w9 r0 := (hR7.grow hw8).far (hR7.out (by rw [hbs7, hlen]; omega) (fun z h => by omega)) hs9
  have hold : ∀ {b off s}, (∃ v, w.cell? ⟨b, off, s⟩ = some v) → b < w.heap.size := fun ⟨v, h⟩ => World.block_lt_of_cell? w _ h
  have hPc : 0 < c.classes.length → OutA (foot A) p.ca := fun h b off s e hz => by
    obtain ⟨b', off', e', hcl⟩ := hc.classes 0 h
    rw [e] at e'; cases e'
    exact hfA b (by have := hold ⟨_, hcl⟩; omega) hz
  have hPk : 0 < c.keep.length → OutA (foot A) p.ka := fun h b off s e hz => by
    obtain ⟨b', off', e', hcl⟩ := hc.keep 0 h
    rw [e] at e'; cases e'
    exact hfA b (by have := hold ⟨_, hcl⟩; omega) hz
  refine Goes.loop (α := Nat) (fun i => [(1, false, .slice a xs.length cap), (5, false, .bool true), (6, false, .pointer (some ⟨w3.heap.size, 0, none⟩)), (7, false, .pointer (some ⟨A.ab, 0, none⟩)), (9, false, .pointer (some ⟨vb, 0, none⟩)), (10, false, .int .i64 0), (11, false, .pointer (some ⟨xb, 0, none⟩)), (12, false, .int .i64 0), (13, false, .int .i64 i)])
    (fun i w' => i ≤ xs.length ∧ ∃ (V : ArV) (r : RA), ArOk w' A V ∧ (V.bs.length : Int) = c.size * c.pages ∧ 0 ≤ V.total ∧ V.total ≤ i * 40000000 ∧ RaOk w' r ∧ r.bs = V.bs ∧ r.steps = V.total ∧ OutA (foot A) r.a ∧
      w'.heap[xb]? = some (.cells (vrL c p r).toArray 43 (0, 0)) ∧ w'.heap[vb]? = some (.cells (vwL ⟨vb, c, p, A.ab, A.mb⟩).toArray 75 (0, 0)) ∧ Chg None' w w' ∧ w9.heap.size ≤ w'.heap.size) (fun i => xs.length - i) 0 ⟨rfl, rfl, rfl, rfl, rfl, rfl, rfl, rfl, rfl, trivial⟩
    ⟨Nat.zero_le _, _, r0, hA9, by show (((zeros (c.pages * c.size).toNat).length : Nat) : Int) = _; rw [hlen]; omega, Int.le_refl _, by simp, hR9, hbs7, hst7, hout7.mono (fun z h => by have := hf5 z h; omega), hxb9, hw69.heap' (by rw [hmb]; exact hv6.obj), hc9, Nat.le_refl _⟩ ?_
  rintro i w10 ⟨hi, V, r, hA10, hVl, ht0, hti, hR10, hrb, hrs', hro, hxb10, hvb10, hc10, hs910⟩ ih
  refine Goes.adv hTT 400 rfl ?_
  refine Goes.fork hTT rfl rfl rfl (fun h10 => ?_) (fun h10 => ?_)
  · have hlt : i < xs.length := by have := of_decide_eq_true h10; omega
    obtain ⟨ub, uoff, rfl, hcell⟩ := hrs.at hlt
    have hxok := hxs _ (List.getElem_mem hlt)
    obtain ⟨hf12, _⟩ := hfew _ (List.getElem_mem hlt)
    have hcell' : ∀ {w'}, Chg None' w w' → ∀ j v, (act21L xs[i])[j]? = some v → w'.cell? ⟨ub, uoff + i * 8 + j, none⟩ = some v := fun hc j v hv => below_cell hc.below (hcell j v hv)
    have hPq : 0 < xs[i].q.pages.length → OutA (foot A) xs[i].q.pa := fun h b off s e hz => by
      obtain ⟨b', off', e', hcl⟩ := hxok.plc.rd 0 h
      rw [e] at e'; cases e'
      exact hfA b (by have := hold ⟨_, hcl⟩; omega) hz
    have hPb : 0 < xs[i].bs.length → OutA (foot A) xs[i].a := fun h b off s e hz => by
      obtain ⟨b', off', e', hcl⟩ := hxok.rd 0 h
      rw [e] at e'; cases e'
      exact hfA b (by have := hold ⟨_, hcl⟩; omega) hz
    have htl : V.total ≤ 1152921504606846976 := by omega
    have hcb := actE_charge (c := c) (u := xs[i]) hm (by omega)
    refine Goes.index hTT rfl (j := (i * 8)) (by omega) (by omega) (by first | rfl | omega | (simp; done) | (simp; omega)) rfl ?_
    refine Goes.loadC hTT (act21L xs[i]) rfl (by first | rfl | (simp; done) | (simp [*]; done) | (simp; omega)) (hcell' hc10) rfl ?_
    refine Goes.call rfl (law21_do ⟨vb, c, p, A.ab, A.mb⟩ xs[i] A V w3.heap.size w10 ⟨hvb10, hc.chg hc10, hm⟩ (hxok.grow hc10) rfl hmb rfl (by omega) hvbf hPq hPc hPk hPb hA10 hVl ⟨ht0, htl⟩) ?_
    rintro _ w11 ⟨a11, cap11, V', rfl, hr11, hA11, hVb, hVt, hs11⟩
    refine Goes.adv hTT 400 rfl ?_
    replace hr11 : Rd .u8 w11 a11 (actT c V.bs xs[i]) := hr11
    replace hVb : V'.bs = actLay c V.bs xs[i] := hVb
    replace hVt : V'.total = V.total + actC21 c xs[i] := hVt
    have hz11 := hs11.size
    have hc11 : Chg None' w w11 := hc10.since hs11 (fun z hz h => hfA z (by omega) h)
    have hxb11 := hs11.heap hxb10 hxbf
    have hvb11 := hs11.heap hvb10 hvbf
    have hR11 := hR10.far hro hs11
    have hlx := lt_of_heap hxb9
    have hd : ∀ w', Chg None' w11 w' → Does Try.prog 24 #[.agg (vrL c p r).toArray, .agg (act21L xs[i]).toArray] w' (fun v w2 => Chg None' w' w2 ∧ ∃ x, v = acF21 c p V.bs xs[i] x ∧ acQ21 c V.bs xs[i] V'.total (foot A) x w2) := fun w' hw' =>
      (ref21_Do c p r xs[i] w' (hc.chg (hc11.trans hw')) (hxok.grow (hc11.trans hw')) hm (by omega) (hR11.grow hw') (by rw [hrb]; exact hVl) (by rw [hrs']; exact ⟨ht0, htl⟩)).mono fun v w2 ⟨r', a', cap', g1, g2, g3, g4, g5, g6, g7⟩ => by
        rw [hrb] at g1 g2 g6
        rw [hrs'] at g3
        exact ⟨g7, (r', a', cap'), g1, g2, g3.trans hVt.symm, g4, g5.out hro (fun z h => by have := hf5 z h; have := hw'.size; omega), g6⟩
    refine Goes.drawn (q := 14) None' hTT mixed (by kernel_rfl) rfl ?_
    intro hB
    refine Drawn.loads hTT hB rfl hxb11 (by first | exact fun h => h | (intro h; omega) | assumption) rfl rfl ?_
    refine Drawn.index hTT hB rfl (j := (i * 8)) (by omega) (by omega) (by first | rfl | omega | (simp; done) | (simp; omega)) rfl ?_
    refine Drawn.loadC hTT hB (act21L xs[i]) rfl (by first | rfl | (simp; done) | (simp [*]; done) | (simp; omega)) (hcell' hc11) (by first | exact fun h => h | (intro h; omega) | assumption) rfl ?_
    refine Drawn.callAlloc (acF21 c p V.bs xs[i]) (acQ21 c V.bs xs[i] V'.total (foot A)) hTT hB rfl rfl rfl (fun _ => rfl) rfl (fun _ => rfl) (fun _ => rfl) rfl rfl (fun _ _ => rfl) rfl (fun _ _ => rfl) (hd) (fun x w2 w3 ⟨h1, h2, h3, h4, h5⟩ hc => ⟨h1, h2, h3.grow hc, h4, h5.chg hc⟩) (fun _ h => h.elim) ?_
    rintro nb m2 w12 hnb hzn hw12 ⟨q1, q2, q3, q4, q5⟩
    obtain ⟨r', a', cap'⟩ := m2
    simp only at q1 q2 q3 q4 q5
    refine Drawn.turn1 hB rfl ?_
    intro w13 hw13
    refine Turn.store hTT hB rfl (hw13.heap' hzn) (by first | (intro h; exact rfl) | (intro h; omega)) rfl rfl rfl ?_
    intro w14 hnb14 hs14 hz14
    refine Drawn.nil hB ?_
    intro w15 hw15
    refine Goes.adv hTT 400 rfl ?_
    replace hnb14 : w14.heap[nb]? = some (.cells (vrL c p r').toArray 43 (0, 0)) := hnb14
    have hs1 : w11.heap.size ≤ w12.heap.size := hw12.size
    have hs2 := hw13.size
    have hs3 := hw15.size
    have hc1114 : Chg None' w11 w14 := (hw12.trans hw13).since hs14 (fun z hz e => by omega)
    have hc1115 := hc1114.trans hw15
    have hxb15 := hc1115.heap' hxb11
    refine Goes.loads hTT rfl (hw15.heap' hnb14) rfl rfl ?_
    refine Goes.store hTT rfl hxb15 rfl rfl ?_
    intro w16 hxb16 hs16 hz16
    refine Goes.adv hTT 400 rfl ?_
    replace hxb16 : w16.heap[xb]? = some (.cells (vrL c p r').toArray 43 (0, 0)) := hxb16
    have hc015 := hc11.trans hc1115
    have hc016 : Chg None' w w16 := hc015.since hs16 (fun z hz e => by have := hw06.size; omega)
    have hvb15 := hc1115.heap' hvb11
    have hvx : vb ≠ xb := by have : vb < w6.heap.size := lt_of_heap hv6.obj; omega
    have hvb16 := hs16.heap hvb15 hvx
    have hA15 := hA11.grow hc1115
    have hA16 : ArOk w16 A V' := hA15.chg hs16 (fun b hb e => by
      subst e
      rcases hb with h | h | h | h
      · exact blk_ne hA15.obj hxb15 (by decide) h.symm
      · exact blk_ne hA15.dat hxb15 (by decide) h.symm
      · exact blk_ne hA15.cap hxb15 (by decide) h.symm
      · exact blk_ne (hA15.met _ h).1 hxb15 (by decide) rfl)
    have hR14 : RaOk w14 r' := RaOk.keep (q3.grow hw13) (hw13.heap' hzn) (by simp [cellsL]) hs14
    have hR16 : RaOk w16 r' := RaOk.keep (hR14.grow hw15) hxb15 (by simp [vrL, confL, raL]) hs16
    have hr16 : Rd .u8 w16 a11 (actT c V.bs xs[i]) := (hr11.chg hc1115).keepU hxb15 (by simp [vrL, confL, raL]) hs16
    have hq16 : Rd .u8 w16 a' (actT c V.bs xs[i]) := (((q5.chg hw13).keepU (hw13.heap' hzn) (by simp [cellsL]) hs14).chg hw15).keepU hxb15 (by simp [vrL, confL, raL]) hs16
    refine Goes.drawn (q := 18) None' hTT mixed (by kernel_rfl) rfl ?_
    intro hB
    refine Drawn.bstrN hTT hB (actT c V.bs xs[i]) rfl rfl (⟨hr16, fun _ _ _ _ _ h => h⟩) rfl ?_
    refine Drawn.bstrN hTT hB (actT c V.bs xs[i]) rfl rfl (⟨hq16, fun _ _ _ _ _ h => h⟩) rfl ?_
    refine Drawn.streq hTT hB rfl (rfl) rfl ?_
    refine Drawn.no hTT hB rfl rfl rfl ?_
    refine Drawn.no hTT hB rfl (bne_self_eq_false _) rfl ?_
    refine Drawn.call hTT hB rfl (fun w' hw' => (meter_Total w3.heap.size _ _ w' ((hA16.grow hw').met _ hmb)).grow) rfl ?_
    refine Drawn.loadb hTT hB rfl hxb16 (by first | exact fun h => h | (intro h; omega) | assumption) rfl rfl ?_
    refine Drawn.nil hB ?_
    intro w17 hw17
    refine Goes.adv hTT 400 rfl ?_
    refine Goes.no hTT rfl (by rw [q2]; exact bne_self_eq_false _) rfl ?_
    refine Goes.arith hTT rfl (w64 (by omega)) rfl ?_
    exact ih (i + 1) _ _ ⟨by omega, V', r', hA16.grow hw17, by rw [hVb, actLay_len]; exact hVl, by omega, by omega, hR16.grow hw17, by rw [q1, hVb], q2, q4, hw17.heap' hxb16, hw17.heap' hvb16, hc016.trans hw17, by have := hw17.size; omega⟩ (by omega) ⟨rfl, rfl, rfl, rfl, rfl, rfl, rfl, rfl, rfl, trivial⟩
  · refine Goes.call rfl (arena_Len A V w10 hA10) ?_
    rintro _ _ ⟨rfl, rfl⟩
    refine Goes.adv hTT 400 rfl ?_
    refine Goes.call rfl (arena_Read A V 0 V.bs.length w10 hA10 (by omega)) ?_
    rintro _ w11 ⟨v11, rfl, ho11, hA11, hs11⟩
    refine Goes.adv hTT 400 rfl ?_
    have hmf : ∀ z, mFoot A z → foot A z := fun z h => .inr h
    have hall : sub V.bs 0 V.bs.length = V.bs := by unfold Go.Proofs.Ytffimkpllchfcaa.sub; rw [List.drop_zero]; exact List.take_length
    rw [hall] at ho11
    obtain ⟨g11, c11, u11, rfl, _, h3, _, h5⟩ := ho11
    have hr11 := Rd.of_take h3 h5
    have hc11 : Chg None' w w11 := hc10.since hs11 (fun z hz h => hfA z (by omega) (hmf z h))
    have hxb11 := hs11.heap hxb10 (fun h => hxbf (hmf _ h))
    have hR11 := hR10.far (hro.mono hmf) hs11
    refine Goes.yes hTT rfl rfl rfl ?_
    refine Goes.yes hTT rfl rfl rfl ?_
    refine Goes.bstrN hTT (V.bs) rfl rfl (hr11) rfl ?_
    refine Goes.loadb hTT rfl hxb11 rfl rfl ?_
    refine Goes.bstrN hTT (r.bs) rfl rfl (hR11.rd) rfl ?_
    rw [hrb]
    refine Goes.streq hTT rfl (rfl) rfl ?_
    exact Goes.ret1 hTT rfl Try.func6 rfl rfl ⟨rfl, hc11⟩
end Go.Proofs.Ytffimkpllchfcaa
/-
  Layer 21: what is laid is told again.
-/
namespace Go.Proofs.Ytffimkpllchfcaa
open Go.RowKit

theorem law21_once (q : Plc) (w : World) (hq : PlcOk w q) : Does Try.prog 20 #[.agg (plL q).toArray] w (fun v w' => ∃ b, v = .bool b ∧ (b = true → OnceP q) ∧ Chg None' w w') := by
  obtain ⟨cls, page, idx, pa, pc, pages⟩ := q
  obtain ⟨hqrd, hql⟩ := hq
  replace hqrd : Rd .i64 w pa pages := hqrd
  replace hql : pages.length ≤ 9223372036854775807 := hql
  show Does _ _ _ _ (fun v w' => ∃ b, v = .bool b ∧ (b = true → cls = -1 → ∀ i k, k < i → i < pages.length → pages.getD i 0 ≠ pages.getD k 0) ∧ Chg None' w w')
  refine Does.enter Try.func20 rfl Try.ntmps20 rfl rfl ?_
  refine Goes.adv hTT 400 rfl ?_
  refine Goes.alloc hTT rfl ?_
  intro qb w1 e1 hqb hw1 hz1
  refine Goes.adv hTT 400 rfl ?_
  replace hqb : w1.heap[qb]? = some (.cells ([.int .i64 cls, .int .i64 page, .int .i64 idx, .slice pa pages.length pc] : List Value).toArray 26 (0, 0)) := hqb
  refine Goes.loop (α := Nat) (fun i => [(1, false, .pointer (some ⟨qb, 0, none⟩)), (3, false, .int .i64 i)])
    (fun i w' => i ≤ pages.length ∧ Chg None' w1 w' ∧ (cls = -1 → ∀ j k, k < j → j < i → pages.getD j 0 ≠ pages.getD k 0)) (fun i => pages.length - i) 0 ⟨rfl, rfl, trivial⟩ ⟨Nat.zero_le _, Chg.refl _ _, fun _ j k _ h => by omega⟩ ?_
  rintro i w2 ⟨hi, hw2, hpre⟩ ih
  have hqb2 := hw2.heap' hqb
  refine Goes.adv hTT 400 rfl ?_
  refine Goes.loadb hTT rfl hqb2 rfl rfl ?_
  refine Goes.fork hTT rfl rfl rfl (fun h0 => ?_) (fun h0 => ?_)
  · have hlt : i < pages.length := by have := of_decide_eq_true h0; omega
    refine Goes.loop (α := Nat) (fun k => [(1, false, .pointer (some ⟨qb, 0, none⟩)), (3, false, .int .i64 i), (4, false, .int .i64 k)])
      (fun k w' => k ≤ i ∧ Chg None' w1 w' ∧ (cls = -1 → ∀ m, m < k → pages.getD i 0 ≠ pages.getD m 0)) (fun k => i - k) 0 ⟨rfl, rfl, rfl, trivial⟩ ⟨Nat.zero_le _, hw2, fun _ m h => by omega⟩ ?_
    rintro k w3 ⟨hk, hw3, hpre3⟩ ih3
    have hqb3 := hw3.heap' hqb
    refine Goes.adv hTT 400 rfl ?_
    refine Goes.fork hTT rfl rfl rfl (fun h1 => ?_) (fun h1 => ?_)
    · have hlt1 : k < i := by have := of_decide_eq_true h1; omega
      obtain ⟨b, off, hpa, hcell⟩ := (hqrd.chg (hw1.trans hw3)) i hlt
      obtain ⟨b', off', hpa', hcell'⟩ := (hqrd.chg (hw1.trans hw3)) k (by omega)
      rw [hpa] at hpa'
      cases hpa'
      subst hpa
      refine Goes.drawn (q := 16) None' hTT mixed (by kernel_rfl) rfl ?_
      intro hB
      refine Drawn.loadb hTT hB rfl hqb3 (by first | exact fun h => h | (intro h; omega) | assumption) rfl rfl ?_
      refine Drawn.fork hTT hB rfl rfl rfl (fun hc => ?_) (fun hc => ?_)
      · have gc : cls = -1 := by simpa using hc
        refine Drawn.loadb hTT hB rfl hqb3 (by first | exact fun h => h | (intro h; omega) | assumption) rfl rfl ?_
        refine Drawn.index hTT hB rfl (j := i) (by omega) (by omega) (by first | rfl | omega | (simp; done) | (simp; omega)) rfl ?_
        refine Drawn.load hTT hB rfl hcell (by first | exact fun h => h | (intro h; omega) | assumption) rfl ?_
        refine Drawn.loadb hTT hB rfl hqb3 (by first | exact fun h => h | (intro h; omega) | assumption) rfl rfl ?_
        refine Drawn.index hTT hB rfl (j := k) (by omega) (by omega) (by first | rfl | omega | (simp; done) | (simp; omega)) rfl ?_
        refine Drawn.load hTT hB rfl hcell' (by first | exact fun h => h | (intro h; omega) | assumption) rfl ?_
        refine Drawn.nil hB ?_
        intro w4 hw4
        refine Goes.adv hTT 400 rfl ?_
        refine Goes.fork hTT rfl rfl rfl (fun he => ?_) (fun he => ?_)
        · exact Goes.ret1 hTT rfl Try.func20 rfl rfl ⟨false, rfl, (fun h => by cases h), hw1.trans (hw3.trans hw4)⟩
        · have ge : pages.getD i 0 ≠ pages.getD k 0 := by simpa using he
          refine Goes.arith hTT rfl (w64 (by omega)) rfl ?_
          exact ih3 (k + 1) _ _ ⟨by omega, hw3.trans hw4, fun h m hm => by
            by_cases e : m = k
            · subst e; exact ge
            · exact hpre3 h m (by omega)⟩ (by omega) ⟨rfl, rfl, rfl, trivial⟩
      · have gc : cls ≠ -1 := by simpa using hc
        refine Drawn.nil hB ?_
        intro w4 hw4
        refine Goes.adv hTT 400 rfl ?_
        refine Goes.arith hTT rfl (w64 (by omega)) rfl ?_
        exact ih3 (k + 1) _ _ ⟨by omega, hw3.trans hw4, fun h => absurd h gc⟩ (by omega) ⟨rfl, rfl, rfl, trivial⟩
    · have hge : k = i := by have := of_decide_eq_false h1; omega
      subst hge
      refine Goes.arith hTT rfl (w64 (by omega)) rfl ?_
      exact ih (k + 1) _ _ ⟨by omega, hw3, fun h j m hm hj => by
        by_cases e : j = k
        · subst e; exact hpre3 h m hm
        · exact hpre h j m hm (by omega)⟩ (by omega) ⟨rfl, rfl, trivial⟩
  · have hge : i = pages.length := by have := of_decide_eq_false h0; omega
    exact Goes.ret1 hTT rfl Try.func20 rfl rfl ⟨true, rfl, (fun _ h j k hk hj => hpre h j k hk (by omega)), hw1.trans hw2⟩
theorem law21_apart (c : Conf) (p : ConfAt) (q1 q2 : Plc) (w : World) (hc : ConfOk w c p) (hq1 : PlcOk w q1) (hq2 : PlcOk w q2) (hm : mayB c = true) (hf1 : q1.pages.length ≤ 4096) (hf2 : q2.pages.length ≤ 4096) :
    Does Try.prog 21 #[.agg (confL c p).toArray, .agg (plL q1).toArray, .agg (plL q2).toArray] w (fun v w' => ∃ b, v = .bool b ∧ (b = true → ∀ i k : Nat, (i : Int) < viewHolds c q1 → (k : Int) < viewHolds c q2 → whereM c q1 i ≠ whereM c q2 k) ∧ Chg None' w w') := by
  have hb1 := viewHolds_bound (c := c) (q := q1) hm hf1
  have hb2 := viewHolds_bound (c := c) (q := q2) hm hf2
  refine Does.enter Try.func21 rfl Try.ntmps21 rfl rfl ?_
  refine Goes.adv hTT 400 rfl ?_
  refine Goes.alloc hTT rfl ?_
  intro cb w1 e1 hcb hw1 hz1
  refine Goes.adv hTT 400 rfl ?_
  refine Goes.alloc hTT rfl ?_
  intro ab w2 e2 hab hw2 hz2
  refine Goes.adv hTT 400 rfl ?_
  refine Goes.alloc hTT rfl ?_
  intro bb w3 e3 hbb hw3 hz3
  refine Goes.adv hTT 400 rfl ?_
  replace hcb : w1.heap[cb]? = some (.cells (confL c p).toArray 24 (0, 0)) := hcb
  replace hab : w2.heap[ab]? = some (.cells (plL q1).toArray 26 (0, 0)) := hab
  replace hbb : w3.heap[bb]? = some (.cells (plL q2).toArray 26 (0, 0)) := hbb
  have hw := (hw1.trans hw2).trans hw3
  have hcb3 := (hw2.trans hw3).heap' hcb
  have hab3 := hw3.heap' hab
  refine Goes.loop (α := Nat) (fun i => [(3, false, .pointer (some ⟨cb, 0, none⟩)), (4, false, .pointer (some ⟨ab, 0, none⟩)), (5, false, .pointer (some ⟨bb, 0, none⟩)), (7, false, .int .i64 i)])
    (fun i w' => (i : Int) ≤ viewHolds c q1 ∧ Chg None' w3 w' ∧ (∀ j k : Nat, j < i → (k : Int) < viewHolds c q2 → whereM c q1 j ≠ whereM c q2 k)) (fun i => (viewHolds c q1).toNat - i) 0 ⟨rfl, rfl, rfl, rfl, trivial⟩ ⟨by omega, Chg.refl _ _, fun _ _ h => by omega⟩ ?_
  rintro i w4 ⟨hi, hw4, hpre⟩ ih
  refine Goes.adv hTT 400 rfl ?_
  have hwb := hw.trans hw4
  refine Goes.loads hTT rfl (hw4.heap' hcb3) rfl rfl ?_
  refine Goes.loads hTT rfl (hw4.heap' hab3) rfl rfl ?_
  refine Goes.call rfl (ref21_Holds c p q1 w4 (hc.chg hwb) (hq1.grow hwb) hm (by omega)) ?_
  rintro _ w5 ⟨rfl, hw5⟩
  refine Goes.adv hTT 400 rfl ?_
  have hw45 := hw4.trans hw5
  refine Goes.fork hTT rfl rfl rfl (fun h0 => ?_) (fun h0 => ?_)
  · have hlt : (i : Int) < viewHolds c q1 := of_decide_eq_true h0
    have hin1 : viewIs c q1 = true := by
      cases h : viewIs c q1 with
      | true => rfl
      | false => rw [(holds_zero hm).2 h] at hlt; omega
    refine Goes.loop (α := Nat) (fun k => [(3, false, .pointer (some ⟨cb, 0, none⟩)), (4, false, .pointer (some ⟨ab, 0, none⟩)), (5, false, .pointer (some ⟨bb, 0, none⟩)), (7, false, .int .i64 i), (8, false, .int .i64 k)])
      (fun k w' => (k : Int) ≤ viewHolds c q2 ∧ Chg None' w3 w' ∧ (∀ m : Nat, m < k → whereM c q1 i ≠ whereM c q2 m)) (fun k => (viewHolds c q2).toNat - k) 0 ⟨rfl, rfl, rfl, rfl, rfl, trivial⟩ ⟨by omega, hw45, fun _ h => by omega⟩ ?_
    rintro k w6 ⟨hk, hw6, hpre6⟩ ih6
    refine Goes.adv hTT 400 rfl ?_
    have hwc := hw.trans hw6
    refine Goes.loads hTT rfl (hw6.heap' hcb3) rfl rfl ?_
    refine Goes.loads hTT rfl (hw6.heap' hbb) rfl rfl ?_
    refine Goes.call rfl (ref21_Holds c p q2 w6 (hc.chg hwc) (hq2.grow hwc) hm (by omega)) ?_
    rintro _ w7 ⟨rfl, hw7⟩
    refine Goes.adv hTT 400 rfl ?_
    have hw67 := hw6.trans hw7
    have hwd := hwc.trans hw7
    refine Goes.fork hTT rfl rfl rfl (fun h1 => ?_) (fun h1 => ?_)
    · have hlt1 : (k : Int) < viewHolds c q2 := of_decide_eq_true h1
      have hin2 : viewIs c q2 = true := by
        cases h : viewIs c q2 with
        | true => rfl
        | false => rw [(holds_zero hm).2 h] at hlt1; omega
      refine Goes.drawn (q := 9) None' hTT mixed (by kernel_rfl) rfl ?_
      intro hB
      refine Drawn.loads hTT hB rfl (hw67.heap' hcb3) (by first | exact fun h => h | (intro h; omega) | assumption) rfl rfl ?_
      refine Drawn.loads hTT hB rfl (hw67.heap' hab3) (by first | exact fun h => h | (intro h; omega) | assumption) rfl rfl ?_
      refine Drawn.call hTT hB rfl (fun w' hw' => ref21_Where c p q1 i w' ((hc.chg hwd).chg hw') ((hq1.grow hwd).grow hw') hm hin1 hf1 hlt) rfl ?_
      refine Drawn.loads hTT hB rfl (hw67.heap' hcb3) (by first | exact fun h => h | (intro h; omega) | assumption) rfl rfl ?_
      refine Drawn.loads hTT hB rfl (hw67.heap' hbb) (by first | exact fun h => h | (intro h; omega) | assumption) rfl rfl ?_
      refine Drawn.call hTT hB rfl (fun w' hw' => ref21_Where c p q2 k w' ((hc.chg hwd).chg hw') ((hq2.grow hwd).grow hw') hm hin2 hf2 hlt1) rfl ?_
      refine Drawn.nil hB ?_
      intro w8 hw8
      refine Goes.adv hTT 400 rfl ?_
      refine Goes.fork hTT rfl rfl rfl (fun he => ?_) (fun he => ?_)
      · exact Goes.ret1 hTT rfl Try.func21 rfl rfl ⟨false, rfl, (fun h => by cases h), hwd.trans hw8⟩
      · have ge : whereM c q1 i ≠ whereM c q2 k := by simpa using he
        refine Goes.arith hTT rfl (w64 (by omega)) rfl ?_
        exact ih6 (k + 1) _ _ ⟨by omega, hw67.trans hw8, fun m hmk => by
          by_cases e : m = k
          · subst e; exact ge
          · exact hpre6 m (by omega)⟩ (by omega) ⟨rfl, rfl, rfl, rfl, rfl, trivial⟩
    · have hge := of_decide_eq_false h1
      refine Goes.arith hTT rfl (w64 (by omega)) rfl ?_
      exact ih (i + 1) _ _ ⟨by omega, hw67, fun j m hj hmk => by
        by_cases e : j = i
        · subst e; exact hpre6 m (by omega)
        · exact hpre j m (by omega) hmk⟩ (by omega) ⟨rfl, rfl, rfl, rfl, trivial⟩
  · have hge := of_decide_eq_false h0
    exact Goes.ret1 hTT rfl Try.func21 rfl rfl ⟨true, rfl, (fun _ j k hj hk => hpre j k (by omega) hk), hw.trans hw45⟩
end Go.Proofs.Ytffimkpllchfcaa
/-
  Layer 21: what is laid at a place is told there; bytes of another place, that has none in common, are asV before.
-/
namespace Go.Proofs.Ytffimkpllchfcaa
open Go.RowKit

theorem rows_two {w : World} {tb : Nat} {t : TypeId} {fz : Nat × Nat} {u0 u1 : Act21} (h : w.heap[tb]? = some (.cells (act21L u0 ++ act21L u1).toArray t fz)) : Rows act21L 8 w (some ⟨tb, 0, none⟩) [u0, u1] := by
  intro i x hx
  refine ⟨tb, 0, rfl, fun j v hv => ?_⟩
  have hj : j < 8 := (List.getElem?_eq_some_iff.1 hv).1
  rw [cell_of h]
  rcases i with _ | _ | i
  · simp only [List.getElem?_cons_zero, Option.some.injEq] at hx
    subst hx
    rw [List.getElem?_toArray, List.getElem?_append_left (by show 0 + 0 * 8 + j < 8; omega), show 0 + 0 * 8 + j = j by omega]
    exact hv
  · simp only [Nat.zero_add, List.getElem?_cons_succ, List.getElem?_cons_zero, Option.some.injEq] at hx
    subst hx
    rw [List.getElem?_toArray, List.getElem?_append_right (by show 8 ≤ 0 + (0 + 1) * 8 + j; omega)]
    show (act21L u1)[0 + (0 + 1) * 8 + j - 8]? = _
    rw [show 0 + (0 + 1) * 8 + j - 8 = j by omega]
    exact hv
  · simp at hx
/-- 1, 2, 3 .. -/
def upL (m : Nat) : List Int := (List.range m).map fun i : Nat => 1 + (i : Int)
theorem upL_in {m : Nat} (h : m ≤ 200) : InB (upL m) := fun x hx => by
  obtain ⟨i, hi, rfl⟩ := List.mem_map.1 hx
  have := List.mem_range.1 hi
  omega
theorem upL_len (m : Nat) : (upL m).length = m := by unfold upL; simp
theorem upL_step {m k : Nat} (h : k < m) : (upL k ++ zeros (m - k)).set k (1 + (k : Int)) = upL (k + 1) ++ zeros (m - (k + 1)) := by
  rw [List.set_append_right _ _ (by rw [upL_len]; omega), upL_len, Nat.sub_self]
  obtain ⟨n, hn⟩ : ∃ n, m - k = n + 1 := ⟨m - k - 1, by omega⟩
  have e : upL (k + 1) = upL k ++ [1 + (k : Int)] := by unfold upL; rw [List.range_succ, List.map_append]; rfl
  rw [e, hn, show m - (k + 1) = n by omega]
  show upL k ++ (0 :: zeros n).set 0 _ = _
  simp
/-- What a read tells, what is there behind a write. -/
def rdL (c : Conf) (q : Plc) (bs : List Int) (at' n : Int) : List Int := if checkM c q at' n = 0 then toldM c q bs at'.toNat n.toNat else []
def wrL (c : Conf) (q : Plc) (bs : List Int) (at' : Int) (l : List Int) : List Int := if checkM c q at' l.length = 0 then layM c q bs at'.toNat l l.length else bs
theorem wrL_len {c : Conf} {q : Plc} {bs : List Int} {at' : Int} {l : List Int} : (wrL c q bs at' l).length = bs.length := by
  unfold wrL
  split
  · exact layM_len ..
  · rfl
theorem vwRead (v : Vw) (q : Plc) (at' n : Int) (A : Ar) (V : ArV) (w : World) (hv : VwOk w v) (hq : PlcOk w q) (hmb : v.mb = A.mb) (hab : v.ab = A.ab) (hfew : q.pages.length ≤ 4096)
    (hPv : ¬ foot A v.vb) (hPq : 0 < q.pages.length → OutA (foot A) q.pa) (hPc : 0 < v.c.classes.length → OutA (foot A) v.p.ca) (hPk : 0 < v.c.keep.length → OutA (foot A) v.p.ka) (hA : ArOk w A V) (hlen : (V.bs.length : Int) = v.c.size * v.c.pages) :
    Does Try.prog 19 #[vwV v, .agg (plL q).toArray, .int .i64 at', .int .i64 n] w (fun r w' => ∃ a cap V', r = .tuple #[.slice a (rdL v.c q V.bs at' n).length cap, .int .i64 (checkM v.c q at' n)] ∧ Rd .u8 w' a (rdL v.c q V.bs at' n) ∧ OutA (fun z => z < w.heap.size) a ∧ ArOk w' A V' ∧ V'.bs = V.bs ∧ Chg (mFoot A) w w') := by
  have hmf : ∀ z, mFoot A z → foot A z := fun z h => .inr h
  by_cases hck : checkM v.c q at' n = 0
  · obtain ⟨a', n', rfl, rfl⟩ := check_nat hck
    refine (view_Read v q a' n' A V w hv hq hmb hab hck hfew (fun h => hPv (hmf _ h)) (fun h => (hPq h).mono hmf) (fun h => (hPc h).mono hmf) (fun h => (hPk h).mono hmf) hA hlen).mono fun r w' ⟨u1, hr, hA2, hs2, ho2⟩ => ?_
    rw [read_told hv.may hck hlen] at ho2
    have hT : rdL v.c q V.bs a' n' = toldM v.c q V.bs a' n' := by unfold rdL; rw [if_pos hck]; simp
    rw [hT, hck]
    obtain ⟨ra, rc, rfl, hrd, hout, _⟩ := ho2.bytes rfl (S := fun z => z < w.heap.size) (fun _ h => h)
    exact ⟨ra, rc, _, hr, hrd, hout, hA2, vsT_bs .., hs2⟩
  · refine (view_Read_no v q at' n w hv hq hfew hck).mono fun r w' ⟨hr, hs2⟩ => ?_
    have hT : rdL v.c q V.bs at' n = [] := by unfold rdL; rw [if_neg hck]
    rw [hT]
    exact ⟨none, 0, V, hr, Rd.nil _ _ _, (by intro b off s e; cases e), hA.grow hs2, rfl, hs2.mono fun _ _ h => h.elim⟩
theorem vwWrite (v : Vw) (q : Plc) (at' : Int) (a : Option Addr) (cap : Nat) (l : List Int) (A : Ar) (V : ArV) (w : World) (hv : VwOk w v) (hq : PlcOk w q) (hmb : v.mb = A.mb) (hab : v.ab = A.ab) (hfew : q.pages.length ≤ 4096)
    (hPv : ¬ foot A v.vb) (hPq : 0 < q.pages.length → OutA (foot A) q.pa) (hPc : 0 < v.c.classes.length → OutA (foot A) v.p.ca) (hPk : 0 < v.c.keep.length → OutA (foot A) v.p.ka) (hA : ArOk w A V) (hlen : (V.bs.length : Int) = v.c.size * v.c.pages)
    (hr : Rd .u8 w a l) (hlc : l.length ≤ cap) (hin : InB l) (hout : 0 < l.length → OutA (foot A) a) :
    Does Try.prog 18 #[vwV v, .agg (plL q).toArray, .int .i64 at', .slice a l.length cap] w (fun r w' => ∃ V', r = .int .i64 (checkM v.c q at' l.length) ∧ ArOk w' A V' ∧ V'.bs = wrL v.c q V.bs at' l ∧ Chg (foot A) w w') := by
  by_cases hck : checkM v.c q at' l.length = 0
  · obtain ⟨a', n', rfl, _⟩ := check_nat hck
    refine (view_Write v q a' a cap l A V w hv hq hmb hab hck hfew hPv hPq hPc hPk hA hlen hr hlc hin hout).mono fun r w' ⟨hr, hA2, hs2⟩ => ?_
    have hT : wrL v.c q V.bs a' l = layM v.c q V.bs a' l l.length := by unfold wrL; rw [if_pos hck]; simp
    rw [hT, hck]
    exact ⟨_, hr, hA2, write_lay_all hv.may hck hfew hlen, hs2⟩
  · refine (view_Write_no v q at' a l.length cap w hv hq hfew hck).mono fun r w' ⟨hr, hs2⟩ => ?_
    have hT : wrL v.c q V.bs at' l = V.bs := by unfold wrL; rw [if_neg hck]
    rw [hT]
    exact ⟨V, hr, hA.grow hs2, rfl, hs2.mono fun _ _ h => h.elim⟩
set_option maxRecDepth 100000 in
theorem law_ViewBack (c : Conf) (p : ConfAt) (u0 u1 : Act21) (a : Option Addr) (cap : Nat) (l : List Int) (w : World) (hc : ConfOk w c p) (hu0 : Act21Ok w u0) (hu1 : Act21Ok w u1) (hr : Rd .u8 w a l) (hb8 : InB l) (hlc : l.length ≤ cap) :
    Does Try.prog 5 #[.agg (confL c p).toArray, .agg (act21L u0 ++ act21L u1).toArray, .slice a l.length cap] w (Grow (.bool true) w) := by
  refine Does.enter Try.func5 rfl Try.ntmps5 rfl rfl ?_
  refine Goes.adv hTT 400 rfl ?_
  refine Goes.alloc hTT rfl ?_
  intro cb w1 e1 hcb hw1 hz1
  refine Goes.adv hTT 400 rfl ?_
  refine Goes.alloc hTT rfl ?_
  intro tb w2 e2 htb hw2 hz2
  refine Goes.adv hTT 400 rfl ?_
  replace hcb : w1.heap[cb]? = some (.cells (confL c p).toArray 24 (0, 0)) := hcb
  replace htb : w2.heap[tb]? = some (.cells (act21L u0 ++ act21L u1).toArray 49 (0, 0)) := htb
  have hw02 := hw1.trans hw2
  have hcb2 := hw2.heap' hcb
  refine Goes.call rfl (law21_awake w2) ?_
  rintro _ w3 ⟨rfl, hw3⟩
  refine Goes.adv hTT 400 rfl ?_
  have hw03 := hw02.trans hw3
  have hcb3 := hw3.heap' hcb2
  have htb3 := hw3.heap' htb
  refine Goes.loads hTT rfl hcb3 rfl rfl ?_
  refine Goes.call rfl (ref03_Few c p w3 (hc.chg hw03)) ?_
  rintro _ w4 ⟨rfl, hw4⟩
  refine Goes.adv hTT 400 rfl ?_
  have hw04 := hw03.trans hw4
  cases hf : fewM c with
  | false =>
    refine Goes.yes hTT rfl rfl rfl ?_
    exact Goes.ret1 hTT rfl Try.func5 rfl rfl ⟨rfl, hw04⟩
  | true =>
  obtain ⟨hm, hsz, hpg⟩ := few_may hf
  obtain ⟨m1, m2, m3⟩ := may_facts hm
  have htot := size_total hm
  have hcb4 := hw4.heap' hcb3
  have htb4 := hw4.heap' htb3
  refine Goes.no hTT rfl rfl rfl ?_
  refine Goes.slice hTT rfl (l := 0) (h := 2) (by first | rfl | omega | simp [loV]) (by first | rfl | omega | simp [hiV]) (by omega) (by omega) rfl ?_
  refine Goes.call rfl (ref21_Few (some ⟨tb, 0, none⟩) 2 [u0, u1] w4 (rows_two htb4) (by simp)) ?_
  rintro _ w5 ⟨b0, rfl, hb0, rfl⟩
  refine Goes.adv hTT 400 rfl ?_
  refine Goes.fork hTT rfl rfl rfl (fun h1 => ?_) (fun h1 => ?_)
  · exact Goes.ret1 hTT rfl Try.func5 rfl rfl ⟨rfl, hw04⟩
  obtain ⟨_, hfew⟩ := hb0 (by simpa using h1)
  have hf0 := (hfew u0 (by simp)).1
  have hf1 := (hfew u1 (by simp)).1
  refine Goes.fork hTT rfl rfl rfl (fun h2 => ?_) (fun h2 => ?_)
  · exact Goes.ret1 hTT rfl Try.func5 rfl rfl ⟨rfl, hw04⟩
  have hl200 : l.length ≤ 200 := by have := of_decide_eq_false h2; omega
  refine Goes.loadb hTT rfl hcb4 rfl rfl ?_
  refine Goes.loadb hTT rfl hcb4 rfl rfl ?_
  refine Goes.call rfl (arena_New none 0 0 c.pages c.size w4 (fun b hb => by cases hb) (may_arMay hm)) ?_
  rintro _ w5 ⟨A, rfl, hmb, ha1, ha2, ha3, hA5, hw5⟩
  refine Goes.adv hTT 400 rfl ?_
  have hlen : (zeros (c.pages * c.size).toNat).length = (c.pages * c.size).toNat := List.length_replicate
  have hcomm : c.pages * c.size = c.size * c.pages := Int.mul_comm _ _
  have hcond : mayB c = true ∧ (((⟨zeros (c.pages * c.size).toNat, 0, 0⟩ : ArV).bs.length : Nat) : Int) = c.size * c.pages := ⟨hm, by show (((zeros (c.pages * c.size).toNat).length : Nat) : Int) = _; rw [hlen]; omega⟩
  have hw05 := hw04.trans hw5
  have hcb5 := hw5.heap' hcb4
  have htb5 := hw5.heap' htb4
  refine Goes.loads hTT rfl hcb5 rfl rfl ?_
  have hVN : Does Try.prog 11 #[.agg (confL c p).toArray, .pointer (some ⟨A.ab, 0, none⟩), ptr A.mb] w5 (fun u w' => Chg None' w5 w' ∧ ∃ vb, u = .tuple #[.pointer (some ⟨vb, 0, none⟩), .int .i64 0] ∧ w5.heap.size ≤ vb ∧ VwOk w' ⟨vb, c, p, A.ab, A.mb⟩) :=
    (view_New c p A _ w5 (hc.chg hw05) hA5).mono fun u w' h => ⟨h.1, by have h2 := h.2; rw [if_pos hcond] at h2; exact h2⟩
  rw [hmb] at hVN
  refine Goes.call rfl (hVN) ?_
  rintro _ w6 ⟨hw6, vb, rfl, hvb, hv6⟩
  refine Goes.adv hTT 400 rfl ?_
  have hvb6 : w6.heap[vb]? = some (.cells (vwL ⟨vb, c, p, A.ab, A.mb⟩).toArray 75 (0, 0)) := by rw [hmb]; exact hv6.obj
  have hcb6 := hw6.heap' hcb5
  have htb6 := hw6.heap' htb5
  have hw06 := hw05.trans hw6
  obtain ⟨kd0, q0, at0, n0, ba0, bc0, bs0⟩ := u0
  obtain ⟨kd1, q1, at1, n1, ba1, bc1, bs1⟩ := u1
  replace hf0 : q0.pages.length ≤ 12 := hf0
  replace hf1 : q1.pages.length ≤ 12 := hf1
  have hq0 : PlcOk w q0 := hu0.plc
  have hq1 : PlcOk w q1 := hu1.plc
  refine Goes.index hTT rfl (j := 0) (by omega) (by omega) (by first | rfl | omega | (simp; done) | (simp; omega)) rfl ?_
  refine Goes.loads hTT rfl htb6 rfl rfl ?_
  refine Goes.alloc hTT rfl ?_
  intro pb w7 e7 hpb hw7 hz7
  refine Goes.adv hTT 400 rfl ?_
  refine Goes.store hTT rfl hpb rfl rfl ?_
  intro w8 hpb8 hs8 hz8
  refine Goes.adv hTT 400 rfl ?_
  replace hpb8 : w8.heap[pb]? = some (.cells (plL q0).toArray 26 (0, 0)) := hpb8
  have hs06 := hw06.size
  have hc8 : Chg None' w w8 := (hw06.trans hw7).since hs8 (fun z hz e => by omega)
  have hc68 : Chg None' w6 w8 := hw7.since hs8 (fun z hz e => by omega)
  have htb8 := hc68.heap' htb6
  refine Goes.index hTT rfl (j := 8) (by omega) (by omega) (by first | rfl | omega | (simp; done) | (simp; omega)) rfl ?_
  refine Goes.loads hTT rfl htb8 rfl rfl ?_
  refine Goes.alloc hTT rfl ?_
  intro qb w9 e9 hqb hw9 hz9
  refine Goes.adv hTT 400 rfl ?_
  refine Goes.store hTT rfl hqb rfl rfl ?_
  intro w10 hqb10 hs10 hz10
  refine Goes.adv hTT 400 rfl ?_
  replace hqb10 : w10.heap[qb]? = some (.cells (plL q1).toArray 26 (0, 0)) := hqb10
  have hs68 := hc68.size
  have hc10 : Chg None' w w10 := (hc8.trans hw9).since hs10 (fun z hz e => by omega)
  have hc610 : Chg None' w6 w10 := (hc68.trans hw9).since hs10 (fun z hz e => by omega)
  have hc810 : Chg None' w8 w10 := hw9.since hs10 (fun z hz e => by omega)
  have hpb10 := hc810.heap' hpb8
  have htb10 := hc610.heap' htb6
  have hvb10 := hc610.heap' hvb6
  have hA10 := (hA5.grow hw6).grow hc610
  have hb0 := viewHolds_bound (c := c) (q := q0) hm (by omega)
  have hb1 := viewHolds_bound (c := c) (q := q1) hm (by omega)
  refine Goes.loads hTT rfl hqb10 rfl rfl ?_
  refine Goes.call rfl (view_Holds ⟨vb, c, p, A.ab, A.mb⟩ q1 w10 ⟨hvb10, hc.chg hc10, hm⟩ (hq1.grow hc10) (by omega)) ?_
  rintro _ w11 ⟨rfl, hw11⟩
  refine Goes.adv hTT 400 rfl ?_
  obtain ⟨m, hmdef⟩ : ∃ m : Nat, (m : Int) = if (200 : Int) < viewHolds c q1 then 200 else viewHolds c q1 := ⟨(if (200 : Int) < viewHolds c q1 then 200 else viewHolds c q1).toNat, by split <;> omega⟩
  have hm200 : m ≤ 200 := by split at hmdef <;> omega
  have hmh : (m : Int) ≤ viewHolds c q1 := by split at hmdef <;> omega
  refine Goes.make hTT (m := m) (k := m) rfl hmdef.symm hmdef.symm (Nat.le_refl _) (by simp only; omega) (by omega) ?_
  intro lb w12 e12 hlb12 hw12 hz12
  refine Goes.adv hTT 400 rfl ?_
  have hzr : zeroRow (cellsL (Value.int .u8 0)) m = (zeros m).map (Value.int .u8) := zeroRow_zeros _
  replace hlb12 : w12.heap[lb]? = some (.cells ((upL 0 ++ zeros (m - 0)).map (Value.int .u8)).toArray 5 (0, 0)) := by rw [hlb12]; exact congrArg (fun x : List Value => some (Obj.cells x.toArray 5 (0, 0))) hzr
  have hs5 := hw5.size
  have hs6 := hw6.size
  have hs8 := hc810.size
  have hs610 := hc610.size
  have hs11 := hw11.size
  have hw1012 := hw11.trans hw12
  have hc12 := hc10.trans hw1012
  refine Goes.loop (α := Nat) (fun k => [(2, false, .slice a l.length cap), (3, false, .pointer (some ⟨cb, 0, none⟩)), (4, false, .pointer (some ⟨tb, 0, none⟩)), (7, false, .bool true), (10, false, .pointer (some ⟨vb, 0, none⟩)), (12, false, .pointer (some ⟨pb, 0, none⟩)), (13, false, .pointer (some ⟨qb, 0, none⟩)), (14, false, .int .i64 (viewHolds c q1)), (15, false, .slice (some ⟨lb, 0, none⟩) m m), (16, false, .int .i64 k)])
    (fun k w' => k ≤ m ∧ w'.heap[lb]? = some (.cells ((upL k ++ zeros (m - k)).map (Value.int .u8)).toArray 5 (0, 0)) ∧ Chg (fun z => z = lb) w12 w') (fun k => m - k) 0 ⟨rfl, rfl, rfl, rfl, rfl, rfl, rfl, rfl, rfl, rfl, trivial⟩ ⟨Nat.zero_le _, hlb12, Chg.refl _ _⟩ ?_
  rintro k w13 ⟨hk, hlb13, hs13⟩ ih
  refine Goes.adv hTT 400 rfl ?_
  refine Goes.fork hTT rfl rfl rfl (fun h3 => ?_) (fun h3 => ?_)
  · have hlt : k < m := by have := of_decide_eq_true h3; omega
    refine Goes.arith hTT rfl (w64 (by omega)) rfl ?_
    refine Goes.arith hTT rfl (show IntKind.u8.wrap (1 + (k : Int)) = 1 + (k : Int) from by rw [wrap_u8]; omega) rfl ?_
    refine Goes.index hTT rfl (j := k) (by omega) (by omega) (by first | rfl | omega | (simp; done) | (simp; omega)) rfl ?_
    refine Goes.store hTT rfl hlb13 (show setV ((upL k ++ zeros (m - k)).map (Value.int .u8)) (0 + k) [.int .u8 (1 + (k : Int))] = some ((upL (k + 1) ++ zeros (m - (k + 1))).map (Value.int .u8)) from by
      have hl : (upL k ++ zeros (m - k)).length = m := by rw [List.length_append, upL_len]; simp [zeros]; omega
      rw [Nat.zero_add, setV_one _ _ _ (by rw [List.length_map, hl]; exact hlt), ← List.map_set, upL_step hlt]) rfl ?_
    intro w14 hlb14 hs14 hz14
    refine Goes.adv hTT 400 rfl ?_
    refine Goes.arith hTT rfl (w64 (by omega)) rfl ?_
    exact ih (k + 1) _ _ ⟨hlt, hlb14, hs13.trans hs14⟩ (by omega) ⟨rfl, rfl, rfl, rfl, rfl, rfl, rfl, rfl, rfl, rfl, trivial⟩
  have hge : k = m := by have := of_decide_eq_false h3; omega
  subst hge
  rw [Nat.sub_self, show zeros 0 = [] from rfl, List.append_nil] at hlb13
  have hc1213 : Chg None' w10 w13 := hw1012.since hs13 (fun z hz e => by omega)
  have hc13 := hc10.trans hc1213
  have hmn : ∀ {n : Nat} z, z < n → mFoot A z → None' z := fun z _ h => by unfold mFoot at h; rw [hmb] at h; cases h
  have hfA : ∀ z, foot A z → w4.heap.size ≤ z ∧ z < w5.heap.size := fun z h => ⟨(by rcases h with h | h; omega; rw [hmb] at h; cases h), foot_lt hA5 z h⟩
  have hs04 := hw04.size
  have hold : ∀ {b off s}, (∃ v, w.cell? ⟨b, off, s⟩ = some v) → ¬ foot A b := fun ⟨v, h⟩ hz => by have := World.block_lt_of_cell? w _ h; have := hfA _ hz; simp only at *; omega
  have hout : ∀ {k : IntKind} {x : Option Addr} {zs : List Int}, Rd k w x zs → 0 < zs.length → OutA (foot A) x := fun hx h b off s e hz => by
    obtain ⟨b', off', e', hcl⟩ := hx 0 h
    rw [e] at e'; cases e'
    exact hold ⟨_, hcl⟩ hz
  have hPv : ¬ foot A vb := fun h => by have := hfA vb h; omega
  have hPc : 0 < c.classes.length → OutA (foot A) p.ca := hout hc.classes
  have hPk : 0 < c.keep.length → OutA (foot A) p.ka := hout hc.keep
  have hP0 : 0 < q0.pages.length → OutA (foot A) q0.pa := hout hq0.rd
  have hP1 : 0 < q1.pages.length → OutA (foot A) q1.pa := hout hq1.rd
  have hpbf : ¬ foot A pb := fun h => by have := hfA pb h; omega
  have hqbf : ¬ foot A qb := fun h => by have := hfA qb h; omega
  have hlq := lt_of_heap hcb6
  have hcbf : ¬ foot A cb := fun h => by have := hfA cb h; have := lt_of_heap hcb4; omega
  have htbf : ¬ foot A tb := fun h => by have := hfA tb h; have := lt_of_heap htb4; omega
  have hVl : (((⟨zeros (c.pages * c.size).toNat, 0, 0⟩ : ArV).bs.length : Nat) : Int) = c.size * c.pages := hcond.2
  obtain ⟨V0, hV0⟩ : ∃ V0 : ArV, V0 = ⟨zeros (c.pages * c.size).toNat, 0, 0⟩ := ⟨_, rfl⟩
  rw [← hV0] at hA10 hVl
  have hpb13 := hc1213.heap' hpb10
  have hqb13 := hc1213.heap' hqb10
  have htb13 := hc1213.heap' htb10
  have hvb13 := hc1213.heap' hvb10
  have hcb13 := (hc610.trans hc1213).heap' hcb6
  refine Goes.loads hTT rfl hqb13 rfl rfl ?_
  have hW1 := vwWrite ⟨vb, c, p, A.ab, A.mb⟩ q1 0 (some ⟨lb, 0, none⟩) k (upL k) A V0 w13 ⟨hvb13, hc.chg hc13, hm⟩ (hq1.grow hc13) rfl rfl (by omega) hPv hP1 hPc hPk (hA10.grow hc1213) hVl (Rd.of hlb13 rfl) (by rw [upL_len]; exact Nat.le_refl _) (upL_in hm200) (by intro _ b off s e hz; cases e; have := hfA _ hz; omega)
  rw [upL_len] at hW1
  refine Goes.call rfl (hW1) ?_
  rintro _ w14 ⟨V1, rfl, hA14, hV1, hs14⟩
  refine Goes.adv hTT 400 rfl ?_
  replace hV1 : V1.bs = wrL c q1 V0.bs 0 (upL k) := hV1
  have hV1l : (V1.bs.length : Int) = c.size * c.pages := by rw [hV1, wrL_len]; exact hVl
  have hc14 : Chg None' w w14 := hc13.since hs14 (fun z hz h => by have := hfA z h; omega)
  have hpb14 := hs14.heap hpb13 hpbf
  have hqb14 := hs14.heap hqb13 hqbf
  have htb14 := hs14.heap htb13 htbf
  have hvb14 := hs14.heap hvb13 hPv
  have hcb14 := hs14.heap hcb13 hcbf
  refine Goes.loads hTT rfl hqb14 rfl rfl ?_
  refine Goes.call rfl (vwRead ⟨vb, c, p, A.ab, A.mb⟩ q1 0 (viewHolds c q1) A V1 w14 ⟨hvb14, hc.chg hc14, hm⟩ (hq1.grow hc14) rfl rfl (by omega) hPv hP1 hPc hPk hA14 hV1l) ?_
  rintro _ w15 ⟨a15, cap15, V15, rfl, hr15, ho15, hA15, hV15, hs15⟩
  refine Goes.adv hTT 400 rfl ?_
  replace hr15 : Rd .u8 w15 a15 (rdL c q1 V1.bs 0 (viewHolds c q1)) := hr15
  replace hs15 := hs15.mono hmn
  have hc15 := hc14.trans hs15
  have hpb15 := hs15.heap' hpb14
  have hqb15 := hs15.heap' hqb14
  have htb15 := hs15.heap' htb14
  have hvb15 := hs15.heap' hvb14
  have hcb15 := hs15.heap' hcb14
  refine Goes.loads hTT rfl hpb15 rfl rfl ?_
  refine Goes.index hTT rfl (j := 0) (by omega) (by omega) (by first | rfl | omega | (simp; done) | (simp; omega)) rfl ?_
  refine Goes.loadb hTT rfl htb15 rfl rfl ?_
  refine Goes.call rfl (vwWrite ⟨vb, c, p, A.ab, A.mb⟩ q0 at0 a cap l A V15 w15 ⟨hvb15, hc.chg hc15, hm⟩ (hq0.grow hc15) rfl rfl (by omega) hPv hP0 hPc hPk hA15 (by rw [hV15]; exact hV1l) (hr.chg hc15) hlc hb8 (hout hr)) ?_
  rintro _ w16 ⟨V2, rfl, hA16, hV2, hs16⟩
  refine Goes.adv hTT 400 rfl ?_
  replace hV2 : V2.bs = wrL c q0 V15.bs at0 l := hV2
  rw [hV15] at hV2
  have hs1016 := hc1213.size
  have hs1416 := hs14.size
  have hs1516 := hs15.size
  have hc16 : Chg None' w w16 := hc15.since hs16 (fun z hz h => by have := hfA z h; omega)
  have hpb16 := hs16.heap hpb15 hpbf
  have hqb16 := hs16.heap hqb15 hqbf
  have htb16 := hs16.heap htb15 htbf
  have hvb16 := hs16.heap hvb15 hPv
  have hcb16 := hs16.heap hcb15 hcbf
  have hr16 : Rd .u8 w16 a15 (rdL c q1 V1.bs 0 (viewHolds c q1)) := hr15.far (by intro b off s e hz; have := hfA b hz; exact ho15 b off s e (by show b < w14.heap.size; omega)) hs16
  by_cases hck : checkM c q0 at0 l.length = 0
  · rw [hck]
    obtain ⟨at0', n0', hat0, hn0'⟩ := check_nat hck
    have hV2l : (V2.bs.length : Int) = c.size * c.pages := by rw [hV2, wrL_len]; exact hV1l
    refine Goes.no hTT rfl rfl rfl ?_
    refine Goes.loads hTT rfl hpb16 rfl rfl ?_
    refine Goes.index hTT rfl (j := 0) (by omega) (by omega) (by first | rfl | omega | (simp; done) | (simp; omega)) rfl ?_
    refine Goes.loadb hTT rfl htb16 rfl rfl ?_
    have hR17 := vwRead ⟨vb, c, p, A.ab, A.mb⟩ q0 at0 l.length A V2 w16 ⟨hvb16, hc.chg hc16, hm⟩ (hq0.grow hc16) rfl rfl (by omega) hPv hP0 hPc hPk hA16 hV2l
    rw [hck] at hR17
    refine Goes.call rfl (hR17) ?_
    rintro _ w17 ⟨a17, cap17, V17, rfl, hr17, _, hA17, hV17, hs17⟩
    refine Goes.adv hTT 400 rfl ?_
    replace hr17 : Rd .u8 w17 a17 (rdL c q0 V2.bs at0 l.length) := hr17
    replace hs17 := hs17.mono hmn
    have hc17 := hc16.trans hs17
    refine Goes.loads hTT rfl (hs17.heap' hqb16) rfl rfl ?_
    refine Goes.call rfl (vwRead ⟨vb, c, p, A.ab, A.mb⟩ q1 0 (viewHolds c q1) A V17 w17 ⟨hs17.heap' hvb16, hc.chg hc17, hm⟩ (hq1.grow hc17) rfl rfl (by omega) hPv hP1 hPc hPk hA17 (by rw [hV17]; exact hV2l)) ?_
    rintro _ w18 ⟨a18, cap18, V18, rfl, hr18, _, hA18, hV18, hs18⟩
    refine Goes.adv hTT 400 rfl ?_
    replace hr18 : Rd .u8 w18 a18 (rdL c q1 V17.bs 0 (viewHolds c q1)) := hr18
    replace hs18 := hs18.mono hmn
    have hc18 := hc17.trans hs18
    have hs1618 := hs17.trans hs18
    refine Goes.yes hTT rfl rfl rfl ?_
    refine Goes.yes hTT rfl rfl rfl ?_
    refine Goes.loads hTT rfl (hs1618.heap' hpb16) rfl rfl ?_
    refine Goes.call rfl (law21_once q0 w18 (hq0.grow hc18)) ?_
    rintro _ w19 ⟨bo, rfl, hbo, hw19⟩
    refine Goes.adv hTT 400 rfl ?_
    have hc19 := hc18.trans hw19
    have hs1619 := hs1618.trans hw19
    have htold : OnceP q0 → rdL c q0 V2.bs at0 l.length = l := fun h => by
      unfold rdL
      rw [if_pos hck, hV2]
      unfold wrL
      rw [if_pos hck, hat0]
      simp only [Int.toNat_natCast]
      exact told_lay hm (by rw [← hat0]; exact hck) h (by rw [← hV1l])
    have hstill : (∀ i k : Nat, (i : Int) < viewHolds c q0 → (k : Int) < viewHolds c q1 → whereM c q0 i ≠ whereM c q1 k) → rdL c q1 V2.bs 0 (viewHolds c q1) = rdL c q1 V1.bs 0 (viewHolds c q1) := fun h => by
      unfold rdL
      split
      · rename_i hz
        obtain ⟨hin1, _, hn1, _⟩ := check_zero hz
        rw [hV2]
        unfold wrL
        rw [if_pos hck, hat0]
        simp only [Int.toNat_natCast]
        exact told_apart hm (by rw [← hat0]; exact hck) hin1 (by omega) h
      · rfl
    have hr17' := hr17.chg (hs18.trans hw19)
    have hr16' := hr16.chg hs1619
    have hr18' := hr18.chg hw19
    cases bo with
    | false =>
      refine Goes.yes hTT rfl rfl rfl ?_
      refine Goes.loads hTT rfl (hs1619.heap' hcb16) rfl rfl ?_
      refine Goes.loads hTT rfl (hs1619.heap' hpb16) rfl rfl ?_
      refine Goes.loads hTT rfl (hs1619.heap' hqb16) rfl rfl ?_
      refine Goes.call rfl (law21_apart c p q0 q1 w19 (hc.chg hc19) (hq0.grow hc19) (hq1.grow hc19) hm (by omega) (by omega)) ?_
      rintro _ w20 ⟨ba, rfl, hba, hw20⟩
      refine Goes.adv hTT 400 rfl ?_
      cases ba with
      | false =>
        refine Goes.yes hTT rfl rfl rfl ?_
        exact Goes.ret1 hTT rfl Try.func5 rfl rfl ⟨rfl, hc19.trans hw20⟩
      | true =>
        refine Goes.no hTT rfl rfl rfl ?_
        have e : rdL c q1 V17.bs 0 (viewHolds c q1) = rdL c q1 V1.bs 0 (viewHolds c q1) := by rw [hV17]; exact hstill (hba rfl)
        refine Goes.bstrN hTT (rdL c q1 V17.bs 0 (viewHolds c q1)) rfl rfl (hr18'.chg hw20) rfl ?_
        refine Goes.bstrN hTT (rdL c q1 V1.bs 0 (viewHolds c q1)) rfl rfl (hr16'.chg hw20) rfl ?_
        rw [e]
        refine Goes.streq hTT rfl (rfl) rfl ?_
        exact Goes.ret1 hTT rfl Try.func5 rfl rfl ⟨rfl, hc19.trans hw20⟩
    | true =>
      refine Goes.no hTT rfl rfl rfl ?_
      have e17 := htold (hbo rfl)
      refine Goes.bstrN hTT (rdL c q0 V2.bs at0 l.length) rfl rfl (hr17') rfl ?_
      refine Goes.bstrN hTT (l) rfl rfl (hr.chg hc19) rfl ?_
      rw [e17]
      refine Goes.streq hTT rfl (rfl) rfl ?_
      refine Goes.loads hTT rfl (hs1619.heap' hcb16) rfl rfl ?_
      refine Goes.loads hTT rfl (hs1619.heap' hpb16) rfl rfl ?_
      refine Goes.loads hTT rfl (hs1619.heap' hqb16) rfl rfl ?_
      refine Goes.call rfl (law21_apart c p q0 q1 w19 (hc.chg hc19) (hq0.grow hc19) (hq1.grow hc19) hm (by omega) (by omega)) ?_
      rintro _ w20 ⟨ba, rfl, hba, hw20⟩
      refine Goes.adv hTT 400 rfl ?_
      cases ba with
      | false =>
        refine Goes.yes hTT rfl rfl rfl ?_
        exact Goes.ret1 hTT rfl Try.func5 rfl rfl ⟨rfl, hc19.trans hw20⟩
      | true =>
        refine Goes.no hTT rfl rfl rfl ?_
        have e : rdL c q1 V17.bs 0 (viewHolds c q1) = rdL c q1 V1.bs 0 (viewHolds c q1) := by rw [hV17]; exact hstill (hba rfl)
        refine Goes.bstrN hTT (rdL c q1 V17.bs 0 (viewHolds c q1)) rfl rfl (hr18'.chg hw20) rfl ?_
        refine Goes.bstrN hTT (rdL c q1 V1.bs 0 (viewHolds c q1)) rfl rfl (hr16'.chg hw20) rfl ?_
        rw [e]
        refine Goes.streq hTT rfl (rfl) rfl ?_
        exact Goes.ret1 hTT rfl Try.func5 rfl rfl ⟨rfl, hc19.trans hw20⟩
  · refine Goes.yes hTT rfl (show (checkM c q0 at0 l.length != 0) = true by simpa using hck) rfl ?_
    refine Goes.yes hTT rfl rfl rfl ?_
    refine Goes.loads hTT rfl hpb16 rfl rfl ?_
    refine Goes.call rfl (view_Holds ⟨vb, c, p, A.ab, A.mb⟩ q0 w16 ⟨hvb16, hc.chg hc16, hm⟩ (hq0.grow hc16) (by omega)) ?_
    rintro _ w17 ⟨rfl, hw17⟩
    refine Goes.adv hTT 400 rfl ?_
    exact Goes.ret1 hTT rfl Try.func5 rfl rfl ⟨bool_v (by
      have h0 := holds_zero (c := c) (q := q0) hm
      show ((checkM c q0 at0 l.length == 1) == (viewHolds c q0 == 0)) = true
      unfold checkM at hck ⊢
      cases hi : viewIs c q0 with
      | false => rw [h0.2 hi]; simp
      | true =>
        have hne : viewHolds c q0 ≠ 0 := fun h => by rw [h0.1 h] at hi; cases hi
        rw [if_neg (by rw [hi]; simp)] at hck
        rw [if_neg (by simp)]
        split
        · simp [hne]
        · rename_i h; rw [if_neg h] at hck; exact absurd rfl hck), hc16.trans hw17⟩
end Go.Proofs.Ytffimkpllchfcaa
/-
  Arguments that came in: two acts on a view; bytes.
-/
namespace Go.Proofs.Ytffimkpllchfcaa
open Go.ChangeShapes Go.WideShapes Go.ChangeAt Go.RowKit
section
variable {H : Type} {enc : TypeId × Value → H} {w : World} {base b0 : Nat} {r : Go.Reach} {spare : Nat → Bool} {held : Bool}
set_option maxRecDepth 100000 in
theorem open_bytesV {v : Value} {d : DataW H} {ps : List MemPlace} (hval : Value.okWide Try.prog w r b0 39 v) (h : DataW.Trod enc Try.prog w base spare held 39 v d ps) :
    ∃ a cap zs, v = .slice a zs.length cap ∧ Rd .u8 w a zs ∧ InB zs ∧ zs.length ≤ cap := by
  obtain ⟨a, len, cap, rfl⟩ := okWide_slice Try.underlying39 hval
  obtain ⟨fuel, hf⟩ := h
  obtain ⟨a', cap', zs, hcs, hr, hb, hl, hm⟩ := open_bytes0 hf
  have e : [Value.slice a len cap] = [.slice a' zs.length cap'] := hcs
  cases e
  exact ⟨a, cap, zs, rfl, hr, hb, hl⟩
theorem act21L_len (u : Act21) : (act21L u).length = 8 := rfl
set_option maxRecDepth 100000 in
theorem open_two21 {v : Value} {d : DataW H} {ps : List MemPlace} (hval : Value.okWide Try.prog w r b0 49 v) (h : DataW.Trod enc Try.prog w base spare held 49 v d ps) :
    ∃ u0 u1, v = .agg (act21L u0 ++ act21L u1).toArray ∧ Act21Ok w u0 ∧ Act21Ok w u1 := by
  have hv : ∃ cs, v = .agg cs := by
    unfold Value.okWide at hval
    rw [Try.underlying49] at hval
    obtain ⟨cs, h1, _⟩ := hval
    exact ⟨cs, h1⟩
  obtain ⟨cs, rfl⟩ := hv
  obtain ⟨fuel, hf⟩ := h
  obtain ⟨xs, m, _, _, hl, hlen, hfs⟩ := DataW.trod_array (P := Try.prog) Try.underlying49 hf
  clear hf
  have h0 := hfs 0 (by omega)
  have h1 := hfs 1 (by omega)
  have hsz : Try.prog.cellsOf 48 = 8 := by kernel_rfl
  have hsz2 : Try.prog.cellsOf 49 = 16 := by kernel_rfl
  obtain ⟨cl, rfl⟩ : ∃ l : List Value, cs = l.toArray := ⟨cs.toList, by simp⟩
  replace hl : cl.length = 16 := by rw [← hsz2]; exact hl
  rw [hsz] at h0 h1
  replace h0 : DataW.trod enc Try.prog w base spare held m 48 (cl.take 8) = xs[0]? := h0
  replace h1 : DataW.trod enc Try.prog w base spare held m 48 ((cl.drop 8).take 8) = xs[1]? := h1
  match xs, hlen with
  | [x0, x1], _ =>
    obtain ⟨u0, e0, o0⟩ := open_act21 h0
    obtain ⟨u1, e1, o1⟩ := open_act21 h1
    refine ⟨u0, u1, ?_, o0, o1⟩
    rw [← e0, ← e1]
    have e2 : (cl.drop 8).take 8 = cl.drop 8 := List.take_of_length_le (by rw [List.length_drop]; omega)
    rw [e2, List.take_append_drop]
end
end Go.Proofs.Ytffimkpllchfcaa
