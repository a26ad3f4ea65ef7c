/-
  Layer 6: what the document's functions answer; the statements' own small ones.
-/
import Derived.Test.YtffimkpllchfcaaArena2
namespace Go.Proofs.Ytffimkpllchfcaa
open Go.RowKit

/-- The document's arena. -/
structure RA where
  a : Option Addr
  cap : Nat
  bs : List Int
  steps : Int
def raL (r : RA) : List Value := [.slice r.a r.bs.length r.cap, .int .i64 r.steps]
structure RaOk (w : World) (r : RA) : Prop where
  rd : Rd .u8 w r.a r.bs
  len : r.bs.length ≤ 4194304
  lc : r.bs.length ≤ r.cap
  rng : InB r.bs
theorem RaOk.grow {w w' : World} {r : RA} (h : RaOk w r) (hc : Chg None' w w') : RaOk w' r := ⟨h.rd.chg hc, h.len, h.lc, h.rng⟩
theorem RdU.of {w : World} {b : Nat} {c : Array Value} {t : TypeId} {fz : Nat × Nat} {zs : List Int} (h : w.heap[b]? = some (.cells c t fz)) (hc : c = (zs.map (Value.int .u8)).toArray) : Rd .u8 w (some ⟨b, 0, none⟩) zs := fun i hi =>
  ⟨b, 0, rfl, by rw [cell_of h, hc]; simp [hi]⟩
theorem ref06_New (p s : Int) (w : World) (ht : arMay p s = true) : Does Try.prog 36 #[.int .i64 p, .int .i64 s] w
    (fun v w' => ∃ b, v = .tuple #[.agg (raL ⟨some ⟨b, 0, none⟩, (p * s).toNat, zeros (p * s).toNat, 0⟩).toArray, .int .i64 0] ∧ w.heap.size ≤ b ∧ RaOk w' ⟨some ⟨b, 0, none⟩, (p * s).toNat, zeros (p * s).toNat, 0⟩ ∧ Chg None' w w') := by
  have g := arMay_iff.1 ht
  have h0 : 0 ≤ p * s := Int.mul_nonneg (by omega) (by omega)
  have h1 : p * s ≤ 1024 * 4096 := Int.mul_le_mul (by omega) (by omega) (by omega) (by omega)
  have hlen : (zeros (p * s).toNat).length = (p * s).toNat := List.length_replicate
  refine Does.enter Try.func36 rfl Try.ntmps36 rfl rfl ?_
  refine Goes.adv hTT 400 rfl ?_
  refine Goes.alloc hTT rfl ?_
  intro rb w1 e1 hrb hw1 hz1
  refine Goes.adv hTT 400 rfl ?_
  refine Goes.no hTT rfl (decide_eq_false (by omega)) rfl ?_
  refine Goes.no hTT rfl (decide_eq_false (by omega)) rfl ?_
  refine Goes.no hTT rfl (decide_eq_false (by omega)) rfl ?_
  refine Goes.no hTT rfl (decide_eq_false (by omega)) rfl ?_
  refine Goes.div hTT rfl (by omega) (rem_ (by omega)) rfl ?_
  refine Goes.no hTT rfl (by simp; omega) rfl ?_
  refine Goes.arith hTT rfl (w64 (by omega)) rfl ?_
  refine Goes.make hTT (m := (p * s).toNat) (k := (p * s).toNat) rfl (by omega) (by omega) (Nat.le_refl _) (by simp only; omega) (by omega) ?_
  intro b w2 e2 hb hw2 hz2
  refine Goes.adv hTT 400 rfl ?_
  refine Goes.build hTT rfl rfl ?_
  refine Goes.store hTT rfl (hw2.heap' hrb) rfl rfl ?_
  intro w3 hr3 hs3 hz3
  refine Goes.adv hTT 400 rfl ?_
  have hc3 : Chg None' w w3 := (hw1.trans hw2).since hs3 (fun x hx hx' => by omega)
  have hzz : (zeroRow (cellsL (Value.int .u8 0)) (p * s).toNat) = (zeros (p * s).toNat).map (Value.int .u8) := zeroRow_zeros _
  rw [hzz] at hb
  have hb3 := hs3.heap hb (by omega)
  have hok : RaOk w3 ⟨some ⟨b, 0, none⟩, (p * s).toNat, zeros (p * s).toNat, 0⟩ := ⟨RdU.of hb3 rfl, by simp only [hlen]; omega, by simp only [hlen]; omega, fun x hx => by rw [List.eq_of_mem_replicate hx]; omega⟩
  exact Goes.ret hTT rfl Try.func36 (ResOk.cell rfl rfl rfl hr3 rfl (.tmp rfl .nil)) ⟨b, by unfold raL; simp only [hlen]; rfl, by omega, hok, hc3⟩
theorem ref06_New_no (p s : Int) (w : World) (ht : arMay p s = false) : Does Try.prog 36 #[.int .i64 p, .int .i64 s] w (Grow (.tuple #[.agg (raL ⟨none, 0, [], 0⟩).toArray, .int .i64 1]) w) := by
  have hno : ¬ (1 ≤ p ∧ p ≤ 1024 ∧ 64 ≤ s ∧ s ≤ 4096 ∧ s % 8 = 0) := fun hh => by rw [arMay_iff.2 hh] at ht; cases ht
  refine Does.enter Try.func36 rfl Try.ntmps36 rfl rfl ?_
  refine Goes.adv hTT 400 rfl ?_
  refine Goes.alloc hTT rfl ?_
  intro rb w1 e1 hrb hw1 hz1
  refine Goes.adv hTT 400 rfl ?_
  refine Goes.fork hTT rfl rfl rfl (fun h1 => ?_) (fun h1 => ?_)
  · refine Goes.build hTT rfl rfl ?_
    refine Goes.store hTT rfl hrb rfl rfl ?_
    intro w3 hr3 hs3 hz3
    refine Goes.adv hTT 400 rfl ?_
    have hc3 : Chg None' w w3 := hw1.since hs3 (fun x hx hx' => by omega)
    exact Goes.ret hTT rfl Try.func36 (ResOk.cell rfl rfl rfl hr3 rfl (.tmp rfl .nil)) ⟨rfl, hc3⟩
  have g1 := of_decide_eq_false h1
  refine Goes.fork hTT rfl rfl rfl (fun h2 => ?_) (fun h2 => ?_)
  · refine Goes.build hTT rfl rfl ?_
    refine Goes.store hTT rfl hrb rfl rfl ?_
    intro w3 hr3 hs3 hz3
    refine Goes.adv hTT 400 rfl ?_
    have hc3 : Chg None' w w3 := hw1.since hs3 (fun x hx hx' => by omega)
    exact Goes.ret hTT rfl Try.func36 (ResOk.cell rfl rfl rfl hr3 rfl (.tmp rfl .nil)) ⟨rfl, hc3⟩
  have g2 := of_decide_eq_false h2
  refine Goes.fork hTT rfl rfl rfl (fun h3 => ?_) (fun h3 => ?_)
  · refine Goes.build hTT rfl rfl ?_
    refine Goes.store hTT rfl hrb rfl rfl ?_
    intro w3 hr3 hs3 hz3
    refine Goes.adv hTT 400 rfl ?_
    have hc3 : Chg None' w w3 := hw1.since hs3 (fun x hx hx' => by omega)
    exact Goes.ret hTT rfl Try.func36 (ResOk.cell rfl rfl rfl hr3 rfl (.tmp rfl .nil)) ⟨rfl, hc3⟩
  have g3 := of_decide_eq_false h3
  refine Goes.fork hTT rfl rfl rfl (fun h4 => ?_) (fun h4 => ?_)
  · refine Goes.build hTT rfl rfl ?_
    refine Goes.store hTT rfl hrb rfl rfl ?_
    intro w3 hr3 hs3 hz3
    refine Goes.adv hTT 400 rfl ?_
    have hc3 : Chg None' w w3 := hw1.since hs3 (fun x hx hx' => by omega)
    exact Goes.ret hTT rfl Try.func36 (ResOk.cell rfl rfl rfl hr3 rfl (.tmp rfl .nil)) ⟨rfl, hc3⟩
  have g4 := of_decide_eq_false h4
  refine Goes.div hTT rfl (by omega) (rem_ (by omega)) rfl ?_
  refine Goes.yes hTT rfl (by simp; omega) rfl ?_
  refine Goes.build hTT rfl rfl ?_
  refine Goes.store hTT rfl hrb rfl rfl ?_
  intro w3 hr3 hs3 hz3
  refine Goes.adv hTT 400 rfl ?_
  have hc3 : Chg None' w w3 := hw1.since hs3 (fun x hx hx' => by omega)
  exact Goes.ret hTT rfl Try.func36 (ResOk.cell rfl rfl rfl hr3 rfl (.tmp rfl .nil)) ⟨rfl, hc3⟩
end Go.Proofs.Ytffimkpllchfcaa
