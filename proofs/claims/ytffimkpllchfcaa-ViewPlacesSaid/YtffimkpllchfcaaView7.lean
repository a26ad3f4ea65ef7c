/-
  Layer 21: a view: writing.
-/
import Derived.Test.YtffimkpllchfcaaView6
namespace Go.Proofs.Ytffimkpllchfcaa
open Go.RowKit

def vsW (q : Plc) (A : Ar) (V : ArV) (ps : List (Int × Int)) (l : List Int) : Nat → ArV
  | 0 => V
  | k + 1 => { (chgL q A (vsW q A V ps l k)).charge A (ps.getD k (0, 0)).2 with bs := wrB (vsW q A V ps l k).bs (ps.getD k (0, 0)).1.toNat (sub l (totalM (ps.take k)) (ps.getD k (0, 0)).2.toNat) }
theorem vsW_succ {q : Plc} {A : Ar} {V : ArV} {ps : List (Int × Int)} {l : List Int} {k i m : Nat} (h : k < ps.length) (hp : ps[k] = ((i : Int), (m : Int))) :
    vsW q A V ps l (k + 1) = { (chgL q A (vsW q A V ps l k)).charge A m with bs := wrB (vsW q A V ps l k).bs i (sub l (totalM (ps.take k)) m) } := by
  have hg : ps.getD k (0, 0) = ((i : Int), (m : Int)) := by rw [List.getD_eq_getElem?_getD, List.getElem?_eq_getElem h, hp]; rfl
  show ({ (chgL q A (vsW q A V ps l k)).charge A (ps.getD k (0, 0)).2 with bs := wrB (vsW q A V ps l k).bs (ps.getD k (0, 0)).1.toNat (sub l (totalM (ps.take k)) (ps.getD k (0, 0)).2.toNat) } : ArV) = _
  rw [hg]
  rfl
theorem vsW_len {q : Plc} {A : Ar} {V : ArV} {ps : List (Int × Int)} {l : List Int} (hpin : ∀ p ∈ ps, ∃ i m : Nat, p = ((i : Int), (m : Int)) ∧ i + m ≤ V.bs.length) (htot : totalM ps = l.length) : ∀ {k : Nat}, k ≤ ps.length → (vsW q A V ps l k).bs.length = V.bs.length
  | 0, _ => rfl
  | k + 1, h => by
    obtain ⟨i, m, hp, him⟩ := hpin ps[k] (List.getElem_mem h)
    have ih := vsW_len (q := q) (A := A) hpin htot (k := k) (by omega)
    have htk := totalM_take h
    rw [hp] at htk
    simp only [Int.toNat_natCast] at htk
    rw [vsW_succ h hp]
    show (wrB _ _ _).length = _
    rw [wrB_length (by rw [sub_length (by omega), ih]; exact him), ih]
theorem shiftA_out {S : Nat → Prop} {a : Option Addr} {cap l sz : Nat} (h : OutA S a) : OutA S (shiftA a cap l sz) := by
  intro b off s e
  unfold shiftA at e
  by_cases hc : cap = l
  · rw [if_pos hc] at e; exact h b off s e
  · rw [if_neg hc] at e
    cases a with
    | none => cases e
    | some x =>
      obtain ⟨xb, xo, xs⟩ := x
      have hx := h xb xo xs rfl
      simp only [Option.map_some, Option.some.injEq] at e
      unfold Addr.add at e
      have hb : xb = b := by
        split at e <;> (cases e; rfl)
      rw [← hb]; exact hx
theorem view_Write1 (v : Vw) (vb bb : Nat) (A : Ar) (V : ArV) (i m : Nat) (a : Option Addr) (cap : Nat) (l : List Int) (w : World) (hvb : ptrBox w vb v) (hv : w.heap[v.vb]? = some (.cells (vwL v).toArray 75 (0, 0))) (hab : v.ab = A.ab)
    (hbb : w.heap[bb]? = some (.cells ([.slice a l.length cap] : List Value).toArray 39 (0, 0))) (hr : Rd .u8 w a l) (hlc : l.length ≤ cap) (hin : InB l) (hm : m ≤ l.length) (hA : ArOk w A V) (him : i + m ≤ V.bs.length)
    (hfo : ∀ z, foot A z → z ≠ bb) (hAb : ∀ b, b = A.ab ∨ b = A.db ∨ b = A.mc ∨ A.mb = some b → b ≠ bb) (S : Nat → Prop) (hS : ∀ z, z = bb ∨ foot A z → S z) (hout : 0 < l.length → OutA S a) :
    Does Try.prog 38 #[.int .i64 i, .int .i64 m, .pointer (some ⟨vb, 0, none⟩), .pointer (some ⟨bb, 0, none⟩)] w (fun _ w' => ArOk w' A { V.charge A m with bs := wrB V.bs i (l.take m) } ∧ Chg (fun z => z = bb ∨ foot A z) w w' ∧
      ∃ a' cap', w'.heap[bb]? = some (.cells ([.slice a' (l.drop m).length cap'] : List Value).toArray 39 (0, 0)) ∧ Rd .u8 w' a' (l.drop m) ∧ (l.drop m).length ≤ cap' ∧ (0 < (l.drop m).length → OutA S a')) := by
  have htl : (l.take m).length = m := by simp; omega
  refine Does.enter Try.func38 rfl Try.ntmps38 rfl rfl ?_
  refine Goes.adv hTT 400 rfl ?_
  refine Goes.drawn (q := 8) None' hTT mixed (by kernel_rfl) rfl ?_
  intro hB
  refine Drawn.loadb hTT hB rfl hvb (by first | exact fun h => h | (intro h; omega) | assumption) rfl rfl ?_
  refine Drawn.loadb hTT hB rfl hv (by first | exact fun h => h | (intro h; omega) | assumption) rfl rfl ?_
  refine Drawn.loadb hTT hB rfl hbb (by first | exact fun h => h | (intro h; omega) | assumption) rfl rfl ?_
  refine Drawn.slice hTT hB rfl (l := 0) (h := m) (by first | rfl | omega | simp [loV]) (by first | rfl | omega | simp [hiV]) (by omega) (by omega) rfl ?_
  refine Drawn.nil hB ?_
  intro w1 hw1
  refine Goes.adv hTT 400 rfl ?_
  rw [hab]
  have hr1 := hr.chg hw1
  have hsh := hr1.shift (l := 0) (m := m) (by omega) hlc
  rw [List.drop_zero] at hsh
  have hW := arena_Write A V i (shiftA a cap 0 1) (cap - 0) (l.take m) w1 (hA.grow hw1) hsh (fun x hx => hin x (List.mem_of_mem_take hx)) (by rw [htl]; exact him)
  rw [htl] at hW
  refine Goes.call rfl hW ?_
  rintro _ w2 ⟨rfl, hA2, hs2⟩
  refine Goes.adv hTT 400 rfl ?_
  have hbb2 := hs2.heap (hw1.heap' hbb) (fun e => hfo _ e rfl)
  refine Goes.loadb hTT rfl hbb2 rfl rfl ?_
  refine Goes.slice hTT rfl (l := m) (h := l.length) (by first | rfl | omega | simp [loV]) (by first | rfl | omega | simp [hiV]) (by omega) (by omega) rfl ?_
  refine Goes.store hTT rfl hbb2 rfl rfl ?_
  intro w3 hbb3 hs3 hz3
  refine Goes.adv hTT 400 rfl ?_
  have hdl : (l.drop m).length = l.length - m := by simp
  have hc : Chg (fun z => z = bb ∨ foot A z) w w3 := ((hw1.mono fun _ _ h => h.elim).trans (hs2.mono fun _ _ h => .inr h)).trans (hs3.mono fun _ _ h => .inl h)
  have hr3 : Rd .u8 w3 a l := hr.far' hout (hc.mono fun z _ h => hS z h)
  have hrd := hr3.shift (l := m) (m := l.length - m) (by omega) hlc
  rw [List.take_of_length_le (by rw [hdl]; exact Nat.le_refl _)] at hrd
  exact Goes.ret0 hTT rfl Try.func38 rfl ⟨hA2.chg hs3 (fun b hb e => hAb b hb e), hc, _, _, by rw [hdl]; exact hbb3, hrd, by rw [hdl]; omega, fun h => shiftA_out (hout (by omega))⟩
end Go.Proofs.Ytffimkpllchfcaa
