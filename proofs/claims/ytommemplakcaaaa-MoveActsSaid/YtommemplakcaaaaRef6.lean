/-
  Layer 6: what the document's functions answer; the statements' own small ones.
-/
import Derived.Test.YtommemplakcaaaaArena2
namespace Go.Proofs.Ytommemplakcaaaa
open Go.RowKit

/-- The document's arena. -/
structure RA where
  a : Option Addr
  cap : Nat
  bs : List Int
  steps : Int
def raL (r : RA) : List Value := [.slice r.a r.bs.length r.cap, .int .i64 r.steps]
structure RaOk (w : World) (r : RA) : Prop where
  rd : Rd .u8 w r.a r.bs
  len : r.bs.length ≤ 4194304
  lc : r.bs.length ≤ r.cap
  rng : InB r.bs
theorem RaOk.grow {w w' : World} {r : RA} (h : RaOk w r) (hc : Chg None' w w') : RaOk w' r := ⟨h.rd.chg hc, h.len, h.lc, h.rng⟩
theorem RdU.of {w : World} {b : Nat} {c : Array Value} {t : TypeId} {fz : Nat × Nat} {zs : List Int} (h : w.heap[b]? = some (.cells c t fz)) (hc : c = (zs.map (Value.int .u8)).toArray) : Rd .u8 w (some ⟨b, 0, none⟩) zs := fun i hi =>
  ⟨b, 0, rfl, by rw [cell_of h, hc]; simp [hi]⟩
theorem ref06_New (p s : Int) (w : World) (ht : arMay p s = true) : Does Try.prog 14 #[.int .i64 p, .int .i64 s] w
    (fun v w' => ∃ b, v = .tuple #[.agg (raL ⟨some ⟨b, 0, none⟩, (p * s).toNat, zeros (p * s).toNat, 0⟩).toArray, .int .i64 0] ∧ w.heap.size ≤ b ∧ RaOk w' ⟨some ⟨b, 0, none⟩, (p * s).toNat, zeros (p * s).toNat, 0⟩ ∧ Chg None' w w') := by
  have g := arMay_iff.1 ht
  have h0 : 0 ≤ p * s := Int.mul_nonneg (by omega) (by omega)
  have h1 : p * s ≤ 1024 * 4096 := Int.mul_le_mul (by omega) (by omega) (by omega) (by omega)
  have hlen : (zeros (p * s).toNat).length = (p * s).toNat := List.length_replicate
  refine Does.enter Try.func14 rfl Try.ntmps14 rfl rfl ?_
  refine Goes.adv hTT 400 rfl ?_
  refine Goes.alloc hTT rfl ?_
  intro rb w1 e1 hrb hw1 hz1
  refine Goes.adv hTT 400 rfl ?_
  refine Goes.no hTT rfl (decide_eq_false (by omega)) rfl ?_
  refine Goes.no hTT rfl (decide_eq_false (by omega)) rfl ?_
  refine Goes.no hTT rfl (decide_eq_false (by omega)) rfl ?_
  refine Goes.no hTT rfl (decide_eq_false (by omega)) rfl ?_
  refine Goes.div hTT rfl (by omega) (rem_ (by omega)) rfl ?_
  refine Goes.no hTT rfl (by simp; omega) rfl ?_
  refine Goes.arith hTT rfl (w64 (by omega)) rfl ?_
  refine Goes.make hTT (m := (p * s).toNat) (k := (p * s).toNat) rfl (by omega) (by omega) (Nat.le_refl _) (by simp only; omega) (by omega) ?_
  intro b w2 e2 hb hw2 hz2
  refine Goes.adv hTT 400 rfl ?_
  refine Goes.build hTT rfl rfl ?_
  refine Goes.store hTT rfl (hw2.heap' hrb) rfl rfl ?_
  intro w3 hr3 hs3 hz3
  refine Goes.adv hTT 400 rfl ?_
  have hc3 : Chg None' w w3 := (hw1.trans hw2).since hs3 (fun x hx hx' => by omega)
  have hzz : (zeroRow (cellsL (Value.int .u8 0)) (p * s).toNat) = (zeros (p * s).toNat).map (Value.int .u8) := zeroRow_zeros _
  rw [hzz] at hb
  have hb3 := hs3.heap hb (by omega)
  have hok : RaOk w3 ⟨some ⟨b, 0, none⟩, (p * s).toNat, zeros (p * s).toNat, 0⟩ := ⟨RdU.of hb3 rfl, by simp only [hlen]; omega, by simp only [hlen]; omega, fun x hx => by rw [List.eq_of_mem_replicate hx]; omega⟩
  exact Goes.ret hTT rfl Try.func14 (ResOk.cell rfl rfl rfl hr3 rfl (.tmp rfl .nil)) ⟨b, by unfold raL; simp only [hlen]; rfl, by omega, hok, hc3⟩
theorem ref06_New_no (p s : Int) (w : World) (ht : arMay p s = false) : Does Try.prog 14 #[.int .i64 p, .int .i64 s] w (Grow (.tuple #[.agg (raL ⟨none, 0, [], 0⟩).toArray, .int .i64 1]) w) := by
  have hno : ¬ (1 ≤ p ∧ p ≤ 1024 ∧ 64 ≤ s ∧ s ≤ 4096 ∧ s % 8 = 0) := fun hh => by rw [arMay_iff.2 hh] at ht; cases ht
  refine Does.enter Try.func14 rfl Try.ntmps14 rfl rfl ?_
  refine Goes.adv hTT 400 rfl ?_
  refine Goes.alloc hTT rfl ?_
  intro rb w1 e1 hrb hw1 hz1
  refine Goes.adv hTT 400 rfl ?_
  refine Goes.fork hTT rfl rfl rfl (fun h1 => ?_) (fun h1 => ?_)
  · refine Goes.build hTT rfl rfl ?_
    refine Goes.store hTT rfl hrb rfl rfl ?_
    intro w3 hr3 hs3 hz3
    refine Goes.adv hTT 400 rfl ?_
    have hc3 : Chg None' w w3 := hw1.since hs3 (fun x hx hx' => by omega)
    exact Goes.ret hTT rfl Try.func14 (ResOk.cell rfl rfl rfl hr3 rfl (.tmp rfl .nil)) ⟨rfl, hc3⟩
  have g1 := of_decide_eq_false h1
  refine Goes.fork hTT rfl rfl rfl (fun h2 => ?_) (fun h2 => ?_)
  · refine Goes.build hTT rfl rfl ?_
    refine Goes.store hTT rfl hrb rfl rfl ?_
    intro w3 hr3 hs3 hz3
    refine Goes.adv hTT 400 rfl ?_
    have hc3 : Chg None' w w3 := hw1.since hs3 (fun x hx hx' => by omega)
    exact Goes.ret hTT rfl Try.func14 (ResOk.cell rfl rfl rfl hr3 rfl (.tmp rfl .nil)) ⟨rfl, hc3⟩
  have g2 := of_decide_eq_false h2
  refine Goes.fork hTT rfl rfl rfl (fun h3 => ?_) (fun h3 => ?_)
  · refine Goes.build hTT rfl rfl ?_
    refine Goes.store hTT rfl hrb rfl rfl ?_
    intro w3 hr3 hs3 hz3
    refine Goes.adv hTT 400 rfl ?_
    have hc3 : Chg None' w w3 := hw1.since hs3 (fun x hx hx' => by omega)
    exact Goes.ret hTT rfl Try.func14 (ResOk.cell rfl rfl rfl hr3 rfl (.tmp rfl .nil)) ⟨rfl, hc3⟩
  have g3 := of_decide_eq_false h3
  refine Goes.fork hTT rfl rfl rfl (fun h4 => ?_) (fun h4 => ?_)
  · refine Goes.build hTT rfl rfl ?_
    refine Goes.store hTT rfl hrb rfl rfl ?_
    intro w3 hr3 hs3 hz3
    refine Goes.adv hTT 400 rfl ?_
    have hc3 : Chg None' w w3 := hw1.since hs3 (fun x hx hx' => by omega)
    exact Goes.ret hTT rfl Try.func14 (ResOk.cell rfl rfl rfl hr3 rfl (.tmp rfl .nil)) ⟨rfl, hc3⟩
  have g4 := of_decide_eq_false h4
  refine Goes.div hTT rfl (by omega) (rem_ (by omega)) rfl ?_
  refine Goes.yes hTT rfl (by simp; omega) rfl ?_
  refine Goes.build hTT rfl rfl ?_
  refine Goes.store hTT rfl hrb rfl rfl ?_
  intro w3 hr3 hs3 hz3
  refine Goes.adv hTT 400 rfl ?_
  have hc3 : Chg None' w w3 := hw1.since hs3 (fun x hx hx' => by omega)
  exact Goes.ret hTT rfl Try.func14 (ResOk.cell rfl rfl rfl hr3 rfl (.tmp rfl .nil)) ⟨rfl, hc3⟩
theorem law06_awake (w : World) : Does Try.prog 13 #[] w (Grow (.bool true) w) := by
  refine Does.enter Try.func13 rfl Try.ntmps13 rfl rfl ?_
  refine Goes.adv hTT 400 rfl ?_
  refine Goes.call rfl (meter_New w) ?_
  rintro _ w1 ⟨rfl, hm1, hw1, hz1⟩
  refine Goes.adv hTT 400 rfl ?_
  refine Goes.call rfl (arena_New (some w.heap.size) 0 0 1 64 w1 (fun b hb => by cases hb; exact hm1) (by decide)) ?_
  rintro _ w2 ⟨A, rfl, hmb, ha1, ha2, ha3, hA2, hw2⟩
  refine Goes.adv hTT 400 rfl ?_
  refine Goes.buildSlice hTT rfl ?_
  intro b3 w3 e3 hb3 hw3 hz3
  refine Goes.adv hTT 400 rfl ?_
  have hA3 := hA2.grow hw3
  refine Goes.call rfl (arena_Write A _ 8 (some ⟨b3, 0, none⟩) 2 [1, 2] w3 hA3 (RdU.of hb3 rfl) (by unfold InB; decide) (by decide)) ?_
  rintro _ w4 ⟨rfl, hA4, hs4⟩
  refine Goes.adv hTT 400 rfl ?_
  have ev : ∀ (bs : List Int) (t t' : Int) (m : Int), charged t m = t' → ArV.charge ⟨bs, t, 0⟩ A m = ⟨bs, t', 0⟩ := fun bs t t' m h => by unfold ArV.charge; rw [hmb]; simp only [h]
  have hA4' : ArOk w4 A ⟨wrB (zeros 64) 8 [1, 2], 2, 0⟩ := by
    have h := hA4
    rw [ev _ 0 2 _ (by decide)] at h
    exact h
  refine Goes.call rfl (arena_Load A ⟨wrB (zeros 64) 8 [1, 2], 2, 0⟩ 8 w4 hA4' (by decide) (by decide)) ?_
  rintro _ w5 ⟨rfl, hA5, hs5⟩
  refine Goes.adv hTT 400 rfl ?_
  rw [ev _ 2 3 _ (by decide)] at hA5
  refine Goes.call rfl (arena_Load_off A ⟨wrB (zeros 64) 8 [1, 2], 3, 0⟩ 9 w5 hA5 (by decide) (by decide)) ?_
  rintro _ _ ⟨rfl, rfl⟩
  refine Goes.adv hTT 400 rfl ?_
  refine Goes.call rfl (arena_Read_no A ⟨wrB (zeros 64) 8 [1, 2], 3, 0⟩ 60 5 w5 hA5 (by decide)) ?_
  rintro _ _ ⟨rfl, rfl⟩
  refine Goes.adv hTT 400 rfl ?_
  refine Goes.yes hTT rfl rfl rfl ?_
  refine Goes.call rfl (arena_Len A _ w5 hA5) ?_
  rintro _ _ ⟨rfl, rfl⟩
  refine Goes.adv hTT 400 rfl ?_
  refine Goes.yes hTT rfl (by decide) rfl ?_
  refine Goes.yes hTT rfl rfl rfl ?_
  refine Goes.yes hTT rfl rfl rfl ?_
  refine Goes.yes hTT rfl (by decide) rfl ?_
  refine Goes.yes hTT rfl rfl rfl ?_
  refine Goes.yes hTT rfl rfl rfl ?_
  refine Goes.call rfl (meter_Total w.heap.size 3 0 w5 (hA5.met _ hmb)) ?_
  rintro _ _ ⟨rfl, rfl⟩
  refine Goes.adv hTT 400 rfl ?_
  have hf : ∀ x, x < w.heap.size → ¬ foot A x := fun x hx h => by
    rcases h with h | h
    · omega
    · rw [hmb] at h; cases h; omega
  have hc : Chg None' w w5 := (((hw1.trans hw2).trans hw3).since hs4 (fun x hx h => hf x hx h)).since hs5 (fun x hx h => hf x hx (.inr h))
  exact Goes.ret1 hTT rfl Try.func13 rfl rfl ⟨rfl, hc⟩
end Go.Proofs.Ytommemplakcaaaa
