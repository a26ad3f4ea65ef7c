/-
  Layer 15: by steps all are gone as soon as these are together as many.
-/
import Derived.Test.YtommemplakcaaaaLaws15
namespace Go.Proofs.Ytommemplakcaaaa
open Go.RowKit

theorem law_MoveSteps (x y : Int) (w : World) (hx : 0 ≤ x ∧ x < 256) (hy : 0 ≤ y ∧ y < 256) : Does Try.prog 10 #[.int .u8 x, .int .u8 y] w (Grow (.bool true) w) := by
  refine Does.enter Try.func10 rfl Try.ntmps10 rfl rfl ?_
  refine Goes.adv hTT 400 rfl ?_
  refine Goes.call rfl (law15_awake w) ?_
  rintro _ w2 ⟨rfl, hw02⟩
  refine Goes.adv hTT 400 rfl ?_
  refine Goes.arith hTT rfl (w64 (by omega)) rfl ?_
  refine Goes.div hTT rfl (by omega) (rem_ (by omega)) rfl ?_
  refine Goes.arith hTT rfl (w64 (by omega)) rfl ?_
  obtain ⟨k, hk⟩ := Int.eq_ofNat_of_zero_le (show 0 ≤ 1 + x % 64 by omega)
  have hk1 : 1 ≤ k ∧ k ≤ 64 := by omega
  rw [hk]
  refine Goes.arith hTT rfl (w64 (by omega)) rfl ?_
  refine Goes.div hTT rfl (by omega) (rem_ (by omega)) rfl ?_
  refine Goes.arith hTT rfl (w64 (by omega)) rfl ?_
  obtain ⟨n, hn⟩ := Int.eq_ofNat_of_zero_le (show 0 ≤ 1 + y % 70 by omega)
  have hn1 : 1 ≤ n ∧ n ≤ 70 := by omega
  rw [hn]
  refine Goes.call rfl (meter_New w2) ?_
  rintro _ w3 ⟨rfl, hm3, hw3, hz3⟩
  refine Goes.adv hTT 400 rfl ?_
  refine Goes.call rfl (arena_New (some w2.heap.size) 0 0 2 64 w3 (fun b hb => by cases hb; exact hm3) (by decide)) ?_
  rintro _ w4 ⟨A, rfl, hmb, ha1, ha2, ha3, hA4, hw4⟩
  refine Goes.adv hTT 400 rfl ?_
  have hz : (zeros (2 * 64 : Int).toNat).length = 128 := rfl
  refine Goes.call rfl (move_New A _ 0 64 k w4 hA4 (mvMay_iff.2 (by simp only [hz]; omega))) ?_
  rintro _ w5 ⟨M, rfl, hMf, hMt, hMs, hM0, hM5, hw5⟩
  refine Goes.adv hTT 400 rfl ?_
  have hw05 := ((hw02.trans hw3).trans hw4).trans hw5
  have hf : ∀ z, z < w.heap.size → mFt A M z → False := fun z hz h => by
    have := hw02.size
    have := hw3.size
    have := hw4.size
    rcases h with (h | h) | h
    · omega
    · rw [hmb] at h; cases h; omega
    · omega
  refine Goes.loop (α := Nat) (fun i => [(5, false, .bool true), (6, false, .int .i64 k), (7, false, .int .i64 n), (8, false, .pointer (some ⟨w2.heap.size, 0, none⟩)), (11, false, .pointer (some ⟨M.mv, 0, none⟩)), (12, false, .int .i64 0), (13, false, .int .i64 i), (14, false, .int .i64 i)])
    (fun i w' => ∃ V, MvOk w' A V M (min k (i * n)) ∧ V.total = (min k (i * n) : Nat) ∧ V.lap = V.total ∧ Chg None' w w' ∧ i ≤ 65 ∧ (i = 0 ∨ i * n - n < k)) (fun i => 65 - i) 0 ⟨rfl, rfl, rfl, rfl, rfl, rfl, rfl, rfl, trivial⟩ ⟨_, by rw [Nat.zero_mul, Nat.min_zero]; exact hM5, by simp, rfl, hw05, by omega, .inl rfl⟩ ?_
  rintro i w6 ⟨V, hM6, ht6, hl6, hw06, hi65, hin⟩ ih
  obtain ⟨p, hp⟩ : ∃ p, p = i * n := ⟨_, rfl⟩
  have hp1 : (i + 1) * n = p + n := by rw [Nat.succ_mul, hp]
  have hip : i ≤ p := by rw [hp]; exact Nat.le_mul_of_pos_right i (by omega)
  rw [← hp] at hM6 ht6 hin
  have hi0 : i = 0 → p = 0 := fun h => by rw [hp, h, Nat.zero_mul]
  refine Goes.adv hTT 400 rfl ?_
  refine Goes.fork hTT rfl rfl rfl (fun h65 => ?_) (fun h65 => ?_)
  · have g65 := of_decide_eq_true h65
    refine Goes.call rfl (move_Left A _ M _ w6 hM6) ?_
    rintro _ w7 ⟨rfl, hw7⟩
    refine Goes.adv hTT 400 rfl ?_
    have hM7 := hM6.grow hw7
    rw [hMs]
    refine Goes.fork hTT rfl rfl rfl (fun hl => ?_) (fun hl => ?_)
    · have gl := of_decide_eq_true hl
      have hpk : p < k := by omega
      rw [show min k p = p from by omega] at hM7 ht6
      refine Goes.call rfl (move_Left A _ M _ w7 hM7) ?_
      rintro _ w8 ⟨rfl, hw8⟩
      refine Goes.adv hTT 400 rfl ?_
      have hM8 := hM7.grow hw8
      rw [hMs]
      refine Goes.call rfl (move_Step A _ M p n w8 hM8) ?_
      rintro _ w9 ⟨rfl, hM9, hs9⟩
      refine Goes.adv hTT 400 rfl ?_
      have hw09 : Chg None' w w9 := ((hw06.trans hw7).trans hw8).since hs9 hf
      rw [hMs] at hM9 ⊢
      obtain ⟨s, hs⟩ : ∃ s, s = stepK n (k - p) := ⟨_, rfl⟩
      rw [← hs] at hM9 ⊢
      have hsv : (s : Int) = min (n : Int) ((k - p : Nat) : Int) := by rw [hs]; unfold stepK; omega
      have ht9 : (stepV A V M p s).total = (p + s : Nat) := by rw [stepV_total hmb, ht6]; unfold charged; split <;> omega
      have hl9 : (stepV A V M p s).lap = p := by rw [stepV_lap, hl6, ht6]
      refine Goes.no hTT rfl (by rw [hsv]; simp; split <;> omega) rfl ?_
      refine Goes.call rfl (meter_Lap w2.heap.size _ _ w9 (hM9.ar.met _ hmb)) ?_
      rintro _ w10 ⟨rfl, hm10, hs10⟩
      refine Goes.adv hTT 400 rfl ?_
      have hM10 := hM9.lapped hmb hm10 hs10
      have hw010 : Chg None' w w10 := hw09.since hs10 (fun z hz h => by have := hw02.size; omega)
      rw [ht9, hl9]
      refine Goes.no hTT rfl (by rw [show ((p + s : Nat) : Int) - (p : Int) = s from by omega, hsv]; simp; split <;> omega) rfl ?_
      refine Goes.arith hTT rfl (w64 (by omega)) rfl ?_
      refine Goes.arith hTT rfl (w64 (by omega)) rfl ?_
      have hpm : p + s = min k (p + n) := by omega
      rw [hpm] at hM10 ht9
      exact ih (i + 1) _ _ ⟨_, by rw [hp1]; exact hM10, by rw [hp1]; exact ht9, rfl, hw010, by omega, .inr (by rw [hp1]; omega)⟩ (by omega) ⟨rfl, rfl, rfl, rfl, rfl, rfl, rfl, rfl, trivial⟩
    · have gl := of_decide_eq_false hl
      have hpk : k ≤ p := by omega
      rw [show min k p = k from by omega] at hM7
      have hq : ((k : Int) + n - 1) / n = i := by
        have e : (p : Int) = i * n := by rw [hp]; omega
        rw [show (k : Int) + n - 1 = (k + n - 1 - p) + i * n from by rw [← e]; omega, Int.add_mul_ediv_right _ _ (by omega), Int.ediv_eq_zero_of_lt (by omega) (by omega)]
        omega
      refine Goes.yes hTT rfl rfl rfl ?_
      refine Goes.yes hTT rfl rfl rfl ?_
      refine Goes.arith hTT rfl (w64 (by omega)) rfl ?_
      refine Goes.arith hTT rfl (w64 (by omega)) rfl ?_
      refine Goes.div hTT rfl (by omega) (quo64 (by omega) (by omega)) rfl ?_
      rw [hq]
      refine Goes.yes hTT rfl (by simp) rfl ?_
      refine Goes.call rfl (move_Step A _ M k n w7 hM7) ?_
      rintro _ w8 ⟨rfl, hM8, hs8⟩
      refine Goes.adv hTT 400 rfl ?_
      have hk0 : stepK n (M.size - k) = 0 := by rw [hMs]; unfold stepK; omega
      rw [hk0] at hM8 ⊢
      refine Goes.yes hTT rfl rfl rfl ?_
      refine Goes.call rfl (move_Step A _ M k (-1) w8 hM8) ?_
      rintro _ w9 ⟨rfl, hM9, hs9⟩
      refine Goes.adv hTT 400 rfl ?_
      have hk1 : stepK (-1) (M.size - k) = 0 := by rw [hMs]; unfold stepK; omega
      rw [hk1]
      exact Goes.ret1 hTT rfl Try.func10 rfl rfl ⟨rfl, ((hw06.trans hw7).since hs8 hf).since hs9 hf⟩
  · have g65 := of_decide_eq_false h65
    have hpk : k ≤ p := by omega
    rw [show min k p = k from by omega] at hM6
    have hq : ((k : Int) + n - 1) / n = i := by
      have e : (p : Int) = i * n := by rw [hp]; omega
      rw [show (k : Int) + n - 1 = (k + n - 1 - p) + i * n from by rw [← e]; omega, Int.add_mul_ediv_right _ _ (by omega), Int.ediv_eq_zero_of_lt (by omega) (by omega)]
      omega
    refine Goes.yes hTT rfl rfl rfl ?_
    refine Goes.yes hTT rfl rfl rfl ?_
    refine Goes.arith hTT rfl (w64 (by omega)) rfl ?_
    refine Goes.arith hTT rfl (w64 (by omega)) rfl ?_
    refine Goes.div hTT rfl (by omega) (quo64 (by omega) (by omega)) rfl ?_
    rw [hq]
    refine Goes.yes hTT rfl (by simp) rfl ?_
    refine Goes.call rfl (move_Step A _ M k n w6 hM6) ?_
    rintro _ w8 ⟨rfl, hM8, hs8⟩
    refine Goes.adv hTT 400 rfl ?_
    have hk0 : stepK n (M.size - k) = 0 := by rw [hMs]; unfold stepK; omega
    rw [hk0] at hM8 ⊢
    refine Goes.yes hTT rfl rfl rfl ?_
    refine Goes.call rfl (move_Step A _ M k (-1) w8 hM8) ?_
    rintro _ w9 ⟨rfl, hM9, hs9⟩
    refine Goes.adv hTT 400 rfl ?_
    have hk1 : stepK (-1) (M.size - k) = 0 := by rw [hMs]; unfold stepK; omega
    rw [hk1]
    exact Goes.ret1 hTT rfl Try.func10 rfl rfl ⟨rfl, (hw06.since hs8 hf).since hs9 hf⟩
end Go.Proofs.Ytommemplakcaaaa
