/-
  Layer 15: what steps and writes charge.
-/
import Derived.Test.YtommemplakcaaaaMove2
import Derived.Test.YtommemplakcaaaaLap
namespace Go.Proofs.Ytommemplakcaaaa
open Go.RowKit

theorem MvOk.lapped {w w' : World} {A : Ar} {V : ArV} {M : Mv} {g b : Nat} (h : MvOk w A V M g) (hmb : A.mb = some b) (hm : MeterAt w' b V.total V.total) (hc : Chg (fun x => x = b) w w') : MvOk w' A { V with lap := V.total } M g := by
  have h0 := (h.ar.met b hmb).1
  have n1 := blk_ne h.ar.obj h0 (by decide)
  have n2 := blk_ne h.ar.dat h0 (by decide)
  have n3 := blk_ne h.ar.cap h0 (by decide)
  have n4 := blk_ne h.obj h0 (by decide)
  exact ⟨⟨hc.heap h.ar.obj n1, hc.heap h.ar.dat n2, hc.heap h.ar.cap n3, fun b' hb' => by rw [hmb] at hb'; cases hb'; exact hm, h.ar.len, h.ar.rng⟩, hc.heap h.obj n4, h.pos, h.gone, h.f, h.t⟩
theorem stepV_total {A : Ar} {V : ArV} {M : Mv} {g k b : Nat} (hmb : A.mb = some b) : (stepV A V M g k).total = charged V.total k := by
  unfold stepV
  split
  · rename_i h; subst h; unfold charged; rw [if_pos (by decide)]
  · unfold ArV.charge; rw [hmb]
theorem wroteV_total {A : Ar} {V : ArV} {M : Mv} {g i n b : Nat} (hmb : A.mb = some b) : (wroteV A V M g i n).total = charged V.total (wroteK i n g) := by
  unfold wroteV
  split
  · rename_i h; rw [h]; unfold charged; rw [if_pos (by decide)]
  · unfold ArV.charge; rw [hmb]
theorem stepV_lap {A : Ar} {V : ArV} {M : Mv} {g k : Nat} : (stepV A V M g k).lap = V.lap := by
  unfold stepV
  split
  · rfl
  · exact V.charge_lap A k
theorem wroteV_lap {A : Ar} {V : ArV} {M : Mv} {g i n : Nat} : (wroteV A V M g i n).lap = V.lap := by
  unfold wroteV
  split
  · rfl
  · exact V.charge_lap A _
theorem law_MoveWrote (x y i n : Int) (w : World) (hx : 0 ≤ x ∧ x < 256) (hy : 0 ≤ y ∧ y < 256) : Does Try.prog 11 #[.agg #[.int .u8 x, .int .u8 y], .int .i64 i, .int .i64 n] w (Grow (.bool true) w) := by
  refine Does.enter Try.func11 rfl Try.ntmps11 rfl rfl ?_
  refine Goes.adv hTT 400 rfl ?_
  refine Goes.alloc hTT rfl ?_
  intro lb w1 e1 hlb hw1 hz1
  refine Goes.adv hTT 400 rfl ?_
  refine Goes.call rfl (law15_awake w1) ?_
  rintro _ w2 ⟨rfl, hw2⟩
  refine Goes.adv hTT 400 rfl ?_
  have hw02 := hw1.trans hw2
  have hb2 := hw2.heap' hlb
  refine Goes.index hTT rfl (j := 0) (by omega) (by omega) (by first | rfl | omega | (simp; done) | (simp; omega)) rfl ?_
  refine Goes.loadb hTT rfl hb2 rfl rfl ?_
  refine Goes.arith hTT rfl (w64 (by omega)) rfl ?_
  refine Goes.div hTT rfl (by omega) (rem_ (by omega)) rfl ?_
  refine Goes.arith hTT rfl (w64 (by omega)) rfl ?_
  obtain ⟨k, hk⟩ := Int.eq_ofNat_of_zero_le (show 0 ≤ 1 + x % 64 by omega)
  have hk1 : 1 ≤ k ∧ k ≤ 64 := by omega
  rw [hk]
  refine Goes.call rfl (meter_New w2) ?_
  rintro _ w3 ⟨rfl, hm3, hw3, hz3⟩
  refine Goes.adv hTT 400 rfl ?_
  refine Goes.call rfl (arena_New (some w2.heap.size) 0 0 2 64 w3 (fun b hb => by cases hb; exact hm3) (by decide)) ?_
  rintro _ w4 ⟨A, rfl, hmb, ha1, ha2, ha3, hA4, hw4⟩
  refine Goes.adv hTT 400 rfl ?_
  have hz : (zeros (2 * 64 : Int).toNat).length = 128 := rfl
  refine Goes.call rfl (move_New A _ 0 64 k w4 hA4 (mvMay_iff.2 (by simp only [hz]; omega))) ?_
  rintro _ w5 ⟨M, rfl, hMf, hMt, hMs, hM0, hM5, hw5⟩
  refine Goes.adv hTT 400 rfl ?_
  have hw05 := ((hw02.trans hw3).trans hw4).trans hw5
  have hf : ∀ z, z < w.heap.size → mFt A M z → False := fun z hz h => by
    have := hw02.size
    have := hw3.size
    have := hw4.size
    rcases h with (h | h) | h
    · omega
    · rw [hmb] at h; cases h; omega
    · omega
  have hb5 := hw5.heap' (hw4.heap' (hw3.heap' hb2))
  refine Goes.index hTT rfl (j := 1) (by omega) (by omega) (by first | rfl | omega | (simp; done) | (simp; omega)) rfl ?_
  refine Goes.loadb hTT rfl hb5 rfl rfl ?_
  refine Goes.arith hTT rfl (w64 (by omega)) rfl ?_
  refine Goes.div hTT rfl (by omega) (rem_ (by omega)) rfl ?_
  refine Goes.call rfl (move_Step A _ M 0 (y % 65) w5 hM5) ?_
  rintro _ w6 ⟨rfl, hM6, hs6⟩
  refine Goes.adv hTT 400 rfl ?_
  obtain ⟨g, hg⟩ : ∃ g, g = stepK (y % 65) (M.size - 0) := ⟨_, rfl⟩
  rw [← hg] at hM6 ⊢
  rw [Nat.zero_add] at hM6
  have hgs : g ≤ k := by rw [hg]; unfold stepK; omega
  have hw06 : Chg None' w w6 := hw05.since hs6 (fun z hz h => hf z hz h)
  refine Goes.call rfl (move_Left A _ M g w6 hM6) ?_
  rintro _ w7 ⟨rfl, hw7⟩
  refine Goes.adv hTT 400 rfl ?_
  have hM7 := hM6.grow hw7
  rw [hMs]
  refine Goes.arith hTT rfl (w64 (by omega)) rfl ?_
  rw [show ((k : Int) - ((k - g : Nat) : Int)) = (g : Int) from by omega]
  have ht7 : (stepV A ⟨zeros (2 * 64 : Int).toNat, 0, 0⟩ M 0 g).total = g := by rw [stepV_total hmb]; show charged 0 (g : Int) = g; unfold charged; split <;> omega
  have hl7 : (stepV A ⟨zeros (2 * 64 : Int).toNat, 0, 0⟩ M 0 g).lap = 0 := stepV_lap
  refine Goes.call rfl (meter_Lap w2.heap.size _ _ w7 (hM7.ar.met _ hmb)) ?_
  rintro _ w8 ⟨rfl, hm8, hs8⟩
  refine Goes.adv hTT 400 rfl ?_
  have hM8 := hM7.lapped hmb hm8 hs8
  have hw08 : Chg None' w w8 := (hw06.trans hw7).since hs8 (fun z hz h => by have := hw02.size; omega)
  obtain ⟨V8, hV8⟩ : ∃ V8 : ArV, V8 = { stepV A ⟨zeros (2 * 64 : Int).toNat, 0, 0⟩ M 0 g with lap := (stepV A ⟨zeros (2 * 64 : Int).toNat, 0, 0⟩ M 0 g).total } := ⟨_, rfl⟩
  rw [← hV8] at hM8
  have ht8 : V8.total = g := by rw [hV8]; exact ht7
  have hl8 : V8.lap = g := by rw [hV8]; exact ht7
  by_cases hin : 0 ≤ i ∧ 0 ≤ n ∧ n ≤ (k : Int) ∧ i ≤ (k : Int) - n
  · obtain ⟨i, rfl⟩ := Int.eq_ofNat_of_zero_le hin.1
    obtain ⟨n, rfl⟩ := Int.eq_ofNat_of_zero_le hin.2.1
    refine Goes.call rfl (move_Wrote A V8 M g i n w8 hM8 (by rw [hMs]; omega)) ?_
    rintro _ w9 ⟨rfl, hM9, hs9⟩
    refine Goes.adv hTT 400 rfl ?_
    have hw09 : Chg None' w w9 := hw08.since hs9 (fun z hz h => hf z hz (.inl h))
    have ht9 : (wroteV A V8 M g i n).total - (wroteV A V8 M g i n).lap = wroteK i n g := by
      rw [wroteV_total hmb, wroteV_lap, ht8, hl8]
      unfold charged wroteK
      split <;> omega
    refine Goes.call rfl (meter_Lap w2.heap.size _ _ w9 (hM9.ar.met _ hmb)) ?_
    rintro _ w10 ⟨rfl, hm10, hs10⟩
    refine Goes.adv hTT 400 rfl ?_
    have hw010 : Chg None' w w10 := hw09.since hs10 (fun z hz h => by have := hw02.size; omega)
    rw [ht9]
    refine Goes.yes hTT rfl (decide_eq_true (by omega)) rfl ?_
    refine Goes.yes hTT rfl (decide_eq_true (by omega)) rfl ?_
    refine Goes.yes hTT rfl (decide_eq_true (by omega)) rfl ?_
    refine Goes.arith hTT rfl (w64 (by omega)) rfl ?_
    refine Goes.no hTT rfl (by simp; omega) rfl ?_
    refine Goes.yes hTT rfl rfl rfl ?_
    refine Goes.yes hTT rfl rfl rfl ?_
    refine Goes.yes hTT rfl rfl rfl ?_
    refine Goes.arith hTT rfl (w64 (by omega)) rfl ?_
    refine Goes.arith hTT rfl (w64 (by split <;> omega)) rfl ?_
    exact Goes.ret1 hTT rfl Try.func11 rfl rfl ⟨bool_v (by unfold wroteK; rw [beq_iff_eq]; split <;> split <;> omega), hw010⟩
  · have hin' : ¬ (0 ≤ i ∧ 0 ≤ n ∧ n ≤ M.size ∧ i ≤ M.size - n) := by rw [hMs]; exact hin
    refine Goes.call rfl (move_Wrote_no A V8 M g i n w8 hM8 hin') ?_
    rintro _ _ ⟨rfl, rfl⟩
    refine Goes.adv hTT 400 rfl ?_
    refine Goes.call rfl (meter_Lap w2.heap.size _ _ w8 (hM8.ar.met _ hmb)) ?_
    rintro _ w10 ⟨rfl, hm10, hs10⟩
    refine Goes.adv hTT 400 rfl ?_
    have hw010 : Chg None' w w10 := hw08.since hs10 (fun z hz h => by have := hw02.size; omega)
    rw [show V8.total - V8.lap = 0 from by omega]
    refine Goes.fork hTT rfl rfl rfl (fun h1 => ?_) (fun h1 => ?_)
    · have g1 : 0 ≤ i := of_decide_eq_true h1
      refine Goes.fork hTT rfl rfl rfl (fun h2 => ?_) (fun h2 => ?_)
      · have g2 : 0 ≤ n := of_decide_eq_true h2
        refine Goes.fork hTT rfl rfl rfl (fun h3 => ?_) (fun h3 => ?_)
        · have g3 : n ≤ (k : Int) := of_decide_eq_true h3
          refine Goes.arith hTT rfl (w64 (by omega)) rfl ?_
          refine Goes.yes hTT rfl (by simp; omega) rfl ?_
          refine Goes.yes hTT rfl rfl rfl ?_
          refine Goes.yes hTT rfl rfl rfl ?_
          exact Goes.ret1 hTT rfl Try.func11 rfl rfl ⟨rfl, hw010⟩
        · refine Goes.yes hTT rfl rfl rfl ?_
          refine Goes.yes hTT rfl rfl rfl ?_
          exact Goes.ret1 hTT rfl Try.func11 rfl rfl ⟨rfl, hw010⟩
      · refine Goes.yes hTT rfl rfl rfl ?_
        refine Goes.yes hTT rfl rfl rfl ?_
        exact Goes.ret1 hTT rfl Try.func11 rfl rfl ⟨rfl, hw010⟩
    · refine Goes.yes hTT rfl rfl rfl ?_
      refine Goes.yes hTT rfl rfl rfl ?_
      exact Goes.ret1 hTT rfl Try.func11 rfl rfl ⟨rfl, hw010⟩
end Go.Proofs.Ytommemplakcaaaa
