/-
  Layer 11: the least place that isn't set, the greatest one that is.
-/
import Derived.Test.YtoileikhfgehcaaDoorBits2
namespace Go.Proofs.YtoileikhfgehcaaDoor
open Go.RowKit

theorem least_bit {y : Nat} (h : y ≠ 0) : ∃ t, y.testBit t = true ∧ ∀ j, j < t → y.testBit j = false := by
  obtain ⟨i, hi⟩ := Nat.exists_testBit_of_ne_zero h
  have key : ∀ n, ∀ i, i ≤ n → y.testBit i = true → ∃ t, y.testBit t = true ∧ ∀ j, j < t → y.testBit j = false := by
    intro n
    induction n with
    | zero => intro i hi hb; exact ⟨i, hb, fun j hj => by omega⟩
    | succ n ih =>
      intro i hi hb
      by_cases hall : ∀ j, j < i → y.testBit j = false
      · exact ⟨i, hb, hall⟩
      · have : ∃ j, j < i ∧ y.testBit j = true := by
          apply Classical.byContradiction
          intro hno
          apply hall
          intro j hj
          cases hh : y.testBit j with
          | false => rfl
          | true => exact (hno ⟨j, hj, hh⟩).elim
        obtain ⟨j, hj, hjb⟩ := this
        exact ih j (by omega) hjb
  exact key i i (Nat.le_refl _) hi
theorem words_get {ws : List Nat} {k : Nat} (hk : k < ws.length) : (ws.map (fun n : Nat => Value.int .u64 (n : Int)))[((k : Nat) : Int).toNat]? = some (.int .u64 (ws.getD k 0 : Nat)) := by
  rw [Int.toNat_natCast, List.getElem?_map, List.getElem?_eq_getElem hk, List.getD_eq_getElem?_getD, List.getElem?_eq_getElem hk]
  rfl
theorem bits_words {w : World} {b : Nat} {x : List Bool} {ws : List Nat} (h1 : ws.length = 8) (h : w.heap[b]? = some (.cells (bitsL ws x).toArray 66 (0, 0))) : ∀ j v, (ws.map (fun n : Nat => Value.int .u64 (n : Int)))[j]? = some v → w.cell? ⟨b, 0 + j, none⟩ = some v := fun j v hv => by
  have hj : j < ws.length := by have := (List.getElem?_eq_some_iff.1 hv).1; simpa using this
  rw [cell_of h, Nat.zero_add, List.getElem?_toArray]
  unfold bitsL
  rw [List.getElem?_append_left (by simpa using hj)]
  exact hv
theorem getD_true {x : List Bool} {j : Nat} (h : x.getD j false = true) : j < x.length := by
  rcases Nat.lt_or_ge j x.length with h2 | h2
  · exact h2
  · rw [List.getD_eq_getElem?_getD, List.getElem?_eq_none h2] at h; cases h
theorem getD_is {x : List Bool} {j : Nat} (h : j < x.length) : x[j] = x.getD j false := by simp [List.getD, h]
theorem bits_Low (b : Nat) (x : List Bool) (w : World) (h : BitsOk w b x) : Does Tryd.prog 21 #[.pointer (some ⟨b, 0, none⟩)] w (Grow (.int .i64 (lowM x)) w) := by
  have hl := h.len
  refine Does.enter Tryd.func21 rfl Tryd.ntmps21 rfl rfl ?_
  refine Goes.adv hTT 400 rfl ?_
  refine Goes.quiet mixed (by kernel_rfl) ?_
  refine Quiet.adv hTT rfl ?_
  refine Quiet.load hTT rfl h.cnt rfl ?_
  refine Quiet.load hTT rfl h.many rfl ?_
  refine Quiet.nil ?_
  intro w1 hw1
  refine Goes.adv hTT 400 rfl ?_
  have h0 := h.grow hw1
  obtain ⟨ws, h1, h2, h3, h4⟩ := h0.ws
  by_cases hfull : cnt x = x.length
  · refine Goes.yes hTT rfl (by rw [hfull]; exact beq_self_eq_true _) rfl ?_
    exact Goes.ret1 hTT rfl Tryd.func21 rfl rfl ⟨int_v (idx_none (p := fun b => !b) (fun j hj => by rw [cnt_full hfull j hj]; rfl)).symm, hw1⟩
  · obtain ⟨j0, hj0, hjf⟩ := cnt_not_full hfull
    rw [getD_is hj0] at hjf
    refine Goes.no hTT rfl (by simp; omega) rfl ?_
    refine Goes.loadC hTT (ws.map (fun n : Nat => Value.int .u64 (n : Int))) rfl (by first | rfl | (simp; done) | (simp [*]; done) | (simp; omega)) (bits_words h1 h4) rfl ?_
    refine Goes.loop (α := Nat) (fun k => [(3, false, .int .i64 (-1)), (23, false, .agg (ws.map (fun n : Nat => Value.int .u64 (n : Int))).toArray), (24, false, .int .i64 k)])
      (fun k w' => w' = w1 ∧ k ≤ 8 ∧ ∀ j, j < 64 * k → x.getD j false = true) (fun k => 8 - k) 0 ⟨rfl, rfl, rfl, trivial⟩ ⟨rfl, by omega, fun j hj => by omega⟩ ?_
    rintro k w2 ⟨hw, hk, hall⟩ ih
    subst hw
    refine Goes.adv hTT 400 rfl ?_
    refine Goes.fork hTT rfl rfl rfl (fun hc => ?_) (fun hc => ?_)
    · have hk8 : k < 8 := by have := of_decide_eq_true hc; omega
      refine Goes.aidx hTT rfl (by first | rfl | (simp; done) | (simp [*]; done) | (simp; omega)) (by omega) (words_get (by omega)) rfl ?_
      refine Goes.un hTT rfl (un_cpl (h2 k)) rfl ?_
      by_cases hz : cpl (ws.getD k 0) = 0
      · rw [hz]
        refine Goes.call rfl (bits_TZ0 w2) ?_
        rintro _ _ ⟨rfl, rfl⟩
        refine Goes.adv hTT 400 rfl ?_
        refine Goes.no hTT rfl rfl rfl ?_
        refine Goes.arith hTT rfl (w64 (by omega)) rfl ?_
        exact ih (k + 1) _ _ ⟨rfl, by omega, fun j hj => by
          by_cases hjk : j < 64 * k
          · exact hall j hjk
          · have hb := cpl_bit (x := ws.getD k 0) (j := j - 64 * k) (by omega)
            rw [hz, Nat.zero_testBit, h3 k _ (by omega), show 64 * k + (j - 64 * k) = j from by omega] at hb
            simpa using hb.symm⟩ (by omega) ⟨rfl, rfl, rfl, trivial⟩
      · obtain ⟨t, ht1, ht0⟩ := least_bit hz
        have ht64 : t < 64 := by
          rcases Nat.lt_or_ge t 64 with h' | h'
          · exact h'
          · rw [Nat.testBit_lt_two_pow (Nat.lt_of_lt_of_le (cpl_lt (h2 k)) (Nat.pow_le_pow_right (by decide) h'))] at ht1; cases ht1
        refine Goes.call rfl (bits_TZ (cpl (ws.getD k 0)) t w2 h0.tab (cpl_lt (h2 k)) ht64 ht1 ht0) ?_
        rintro _ _ ⟨rfl, rfl⟩
        refine Goes.adv hTT 400 rfl ?_
        refine Goes.yes hTT rfl (decide_eq_true (by omega)) rfl ?_
        refine Goes.arith hTT rfl (w64 (by omega)) rfl ?_
        refine Goes.arith hTT rfl (w64 (by omega)) rfl ?_
        have hbt : x.getD (64 * k + t) false = false := by
          rw [← h3 k t ht64]
          have := cpl_bit (x := ws.getD k 0) ht64
          rw [ht1] at this
          simpa using this.symm
        have hpre : ∀ j, j < 64 * k + t → x.getD j false = true := fun j hj => by
          by_cases hjk : j < 64 * k
          · exact hall j hjk
          · have hb := cpl_bit (x := ws.getD k 0) (j := j - 64 * k) (by omega)
            rw [ht0 _ (by omega), h3 k _ (by omega), show 64 * k + (j - 64 * k) = j from by omega] at hb
            simpa using hb.symm
        have hlt : 64 * k + t < x.length := by
          rcases Nat.lt_or_ge (64 * k + t) x.length with h' | h'
          · exact h'
          · rw [hpre j0 (by omega)] at hjf; cases hjf
        exact Goes.ret1 hTT rfl Tryd.func21 rfl rfl ⟨int_v (by have := idx_at (p := fun b => !b) hlt (fun j hj hjk => by rw [getD_is hj, hpre j hjk]; rfl) (by rw [getD_is hlt, hbt]; rfl); unfold lowM; rw [this]; omega), hw1⟩
    · exfalso
      have hk8 : k = 8 := by have := of_decide_eq_false hc; omega
      rw [hall j0 (by omega)] at hjf; cases hjf
theorem bits_Low_nil (w : World) : Does Tryd.prog 21 #[.pointer none] w (Grow (.int .i64 (-1)) w) := by
  refine Does.enter Tryd.func21 rfl Tryd.ntmps21 rfl rfl ?_
  refine Goes.adv hTT 400 rfl ?_
  refine Goes.quiet mixed (by kernel_rfl) ?_
  refine Quiet.adv hTT rfl ?_
  refine Quiet.nil ?_
  intro w1 hw1
  refine Goes.adv hTT 400 rfl ?_
  exact Goes.ret1 hTT rfl Tryd.func21 rfl rfl ⟨rfl, hw1⟩
theorem bits_High (b : Nat) (x : List Bool) (w : World) (h : BitsOk w b x) : Does Tryd.prog 22 #[.pointer (some ⟨b, 0, none⟩)] w (Same (.int .i64 (highM x)) w) := by
  have hl := h.len
  obtain ⟨ws, h1, h2, h3, h4⟩ := h.ws
  refine Does.enter Tryd.func22 rfl Tryd.ntmps22 rfl rfl ?_
  refine Goes.adv hTT 400 rfl ?_
  refine Goes.loadC hTT (ws.map (fun n : Nat => Value.int .u64 (n : Int))) rfl (by first | rfl | (simp; done) | (simp [*]; done) | (simp; omega)) (bits_words h1 h4) rfl ?_
  refine Goes.loop (α := Nat × Int) (fun p => [(3, false, .int .i64 p.2), (11, false, .agg (ws.map (fun n : Nat => Value.int .u64 (n : Int))).toArray), (12, false, .int .i64 p.1)])
    (fun p w' => w' = w ∧ p.1 ≤ 8 ∧ ((p.2 = -1 ∧ ∀ j, j < 64 * p.1 → x.getD j false = false) ∨ (∃ i : Nat, i < 64 * p.1 ∧ p.2 = i ∧ x.getD i false = true ∧ ∀ j, i < j → j < 64 * p.1 → x.getD j false = false))) (fun p => 8 - p.1) (0, -1) ⟨rfl, rfl, rfl, trivial⟩ ⟨rfl, by omega, .inl ⟨rfl, fun j hj => by omega⟩⟩ ?_
  rintro ⟨k, at'⟩ w2 ⟨hw, hk, hat⟩ ih
  simp only at hk hat
  subst hw
  refine Goes.adv hTT 400 rfl ?_
  refine Goes.fork hTT rfl rfl rfl (fun hc => ?_) (fun hc => ?_)
  · have hk8 : k < 8 := by have := of_decide_eq_true hc; omega
    refine Goes.aidx hTT rfl (by first | rfl | (simp; done) | (simp [*]; done) | (simp; omega)) (by omega) (words_get (by omega)) rfl ?_
    by_cases hz : ws.getD k 0 = 0
    · refine Goes.no hTT rfl (by rw [hz]; rfl) rfl ?_
      refine Goes.arith hTT rfl (w64 (by omega)) rfl ?_
      have hzb : ∀ j, 64 * k ≤ j → j < 64 * (k + 1) → x.getD j false = false := fun j hj hj' => by
        have hb := h3 k (j - 64 * k) (by omega)
        rw [hz, Nat.zero_testBit, show 64 * k + (j - 64 * k) = j from by omega] at hb
        exact hb.symm
      refine ih (k + 1, at') _ _ ⟨rfl, by simp only; omega, ?_⟩ (by simp only; omega) ⟨rfl, rfl, rfl, trivial⟩
      rcases hat with ⟨g1, g2⟩ | ⟨i, g1, g2, g3, g4⟩
      · exact .inl ⟨g1, fun j hj => by by_cases hjk : j < 64 * k; exact g2 j hjk; exact hzb j (by omega) hj⟩
      · exact .inr ⟨i, by simp only; omega, g2, g3, fun j hj hj' => by by_cases hjk : j < 64 * k; exact g4 j hj hjk; exact hzb j (by omega) hj'⟩
    · refine Goes.yes hTT rfl (by simpa using hz) rfl ?_
      refine Goes.arith hTT rfl (w64 (by omega)) rfl ?_
      refine Goes.call rfl (bits_Len64 (ws.getD k 0) w2 (h2 k)) ?_
      rintro _ w3 ⟨n, hn, rfl, rfl⟩
      refine Goes.adv hTT 400 rfl ?_
      have hn0 := hn.pos (by omega)
      have hn64 := hn.le (h2 k)
      refine Goes.arith hTT rfl (w64 (by omega)) rfl ?_
      refine Goes.arith hTT rfl (w64 (by omega)) rfl ?_
      refine Goes.arith hTT rfl (w64 (by omega)) rfl ?_
      obtain ⟨ht1, ht2⟩ := hn.top hn0
      refine ih (k + 1, (k : Int) * 64 + n - 1) _ _ ⟨rfl, by simp only; omega, .inr ⟨64 * k + (n - 1), by simp only; omega, by simp only; omega, ?_, fun j hj hj' => ?_⟩⟩ (by simp only; omega) ⟨rfl, rfl, rfl, trivial⟩
      · rw [← h3 k (n - 1) (by omega)]; exact ht1
      · have := h3 k (j - 64 * k) (by simp only at hj'; omega)
        rw [show 64 * k + (j - 64 * k) = j from by omega] at this
        rw [← this]
        exact ht2 _ (by omega)
  · have hk8 : k = 8 := by have := of_decide_eq_false hc; omega
    subst hk8
    have hv : at' = highM x := by
      unfold highM
      rcases hat with ⟨g1, g2⟩ | ⟨i, g1, g2, g3, g4⟩
      · rw [g1, ridx_none (fun j hj => by rw [getD_is hj]; exact g2 j (by omega))]
      · rw [g2, ridx_at (getD_true g3) (fun j hj hij => by rw [getD_is hj]; exact g4 j hij (by omega)) (by rw [getD_is (getD_true g3)]; exact g3)]
    exact Goes.ret1 hTT rfl Tryd.func22 rfl rfl ⟨int_v hv, rfl⟩
theorem bits_High_nil (w : World) : Does Tryd.prog 22 #[.pointer none] w (Same (.int .i64 (-1)) w) := by
  refine Does.enter Tryd.func22 rfl Tryd.ntmps22 rfl rfl ?_
  refine Goes.adv hTT 400 rfl ?_
  exact Goes.ret1 hTT rfl Tryd.func22 rfl rfl ⟨rfl, rfl⟩
end Go.Proofs.YtoileikhfgehcaaDoor
