/-
  Whole numbers of 64 bits: the least bit that is set, the greatest one; no program in sight.
-/
import Derived.Test.YtoileikhfgehcaaDoorRule10
namespace Go.Proofs.YtoileikhfgehcaaDoor
open Go.RowKit

theorem toNat_of64 {x : Nat} (h : x < 2 ^ 64) : (BitVec.ofInt 64 (x : Int)).toNat = x := by
  rw [BitVec.toNat_ofInt]
  omega
theorem wrap_u64n {x : Nat} (h : x < 2 ^ 64) : IntKind.u64.wrap (x : Int) = x := by
  simp only [IntKind.wrap, IntKind.signed, IntKind.bits]
  simp
  omega
theorem bit_and {x y : Nat} (hx : x < 2 ^ 64) (hy : y < 2 ^ 64) : bitV .and .u64 x y = ((x &&& y : Nat) : Int) := by
  have h : (BitVec.ofInt 64 (x : Int) &&& BitVec.ofInt 64 (y : Int)).toNat = x &&& y := by rw [BitVec.toNat_and, toNat_of64 hx, toNat_of64 hy]
  show IntKind.u64.wrap ((BitVec.ofInt 64 (x : Int) &&& BitVec.ofInt 64 (y : Int)).toNat : Int) = _
  rw [h, wrap_u64n (Nat.and_lt_two_pow x hy)]
theorem bit_xor {x y : Nat} (hx : x < 2 ^ 64) (hy : y < 2 ^ 64) : bitV .xor .u64 x y = ((x ^^^ y : Nat) : Int) := by
  have h : (BitVec.ofInt 64 (x : Int) ^^^ BitVec.ofInt 64 (y : Int)).toNat = x ^^^ y := by rw [BitVec.toNat_xor, toNat_of64 hx, toNat_of64 hy]
  show IntKind.u64.wrap ((BitVec.ofInt 64 (x : Int) ^^^ BitVec.ofInt 64 (y : Int)).toNat : Int) = _
  rw [h, wrap_u64n (Nat.xor_lt_two_pow hx hy)]
/-- All bits turned. -/
def cpl (x : Nat) : Nat := (2 ^ 64 - 1) ^^^ x
theorem cpl_lt {x : Nat} (h : x < 2 ^ 64) : cpl x < 2 ^ 64 := Nat.xor_lt_two_pow (by decide) h
theorem cpl_bit {x j : Nat} (hj : j < 64) : (cpl x).testBit j = !x.testBit j := by
  unfold cpl
  rw [Nat.testBit_xor, Nat.testBit_two_pow_sub_one]
  simp [hj]
theorem un_cpl {x : Nat} (h : x < 2 ^ 64) : unZ .xor .u64 x = some ((cpl x : Nat) : Int) := by
  unfold unZ cpl
  rw [← bit_xor (by decide) h]
  rfl
theorem un_neg {x : Nat} (h : x < 2 ^ 64) (h0 : 0 < x) : unZ .neg .u64 x = some ((2 ^ 64 - x : Nat) : Int) := by
  unfold unZ
  congr 1
  simp only [IntKind.wrap, IntKind.signed, IntKind.bits]
  simp
  omega
theorem sh_one {j : Nat} (h : j < 64) : shV true .u64 1 j = ((2 ^ j : Nat) : Int) := by
  unfold shV
  rw [if_pos rfl, show min (j : Int).toNat (IntKind.bits .u64) = j from Nat.min_eq_left (by simp only [IntKind.bits]; omega)]
  rw [show (1 : Int) * 2 ^ j = ((2 ^ j : Nat) : Int) from by simp]
  exact wrap_u64n (Nat.pow_lt_pow_right (by decide) h)
theorem sh_right {x j : Nat} (h : j < 64) : shV false .u64 x j = ((x / 2 ^ j : Nat) : Int) := by
  unfold shV
  rw [if_neg (by simp), show min (j : Int).toNat (IntKind.bits .u64) = j from Nat.min_eq_left (by simp only [IntKind.bits]; omega)]
  rw [Int.fdiv_eq_ediv_of_nonneg _ (Int.le_of_lt (Int.pow_pos (by decide)))]
  simp
theorem and_one {x : Nat} : x &&& 1 = x % 2 := Nat.and_one_is_mod x
theorem bit_odd {x j : Nat} : (((x / 2 ^ j % 2 : Nat) : Int) == 1) = x.testBit j := by
  rw [Nat.testBit_eq_decide_div_mod_eq, Bool.eq_iff_iff, beq_iff_eq, decide_eq_true_eq]
  omega
/-- x and -x have just the least bit in common. -/
theorem and_neg {x t : Nat} (hx : x < 2 ^ 64) (ht : t < 64) (h1 : x.testBit t = true) (h0 : ∀ j, j < t → x.testBit j = false) : x &&& (2 ^ 64 - x) = 2 ^ t := by
  have hz : x % 2 ^ t = 0 := by
    apply Nat.eq_of_testBit_eq
    intro i
    rw [Nat.testBit_mod_two_pow, Nat.zero_testBit]
    by_cases hi : i < t
    · rw [h0 i hi]; simp
    · simp [hi]
  have hodd : x / 2 ^ t % 2 = 1 := by
    rw [Nat.testBit_eq_decide_div_mod_eq] at h1
    exact of_decide_eq_true h1
  obtain ⟨m, hm⟩ : ∃ m, m = x / 2 ^ t := ⟨_, rfl⟩
  have hx2 : x = 2 ^ t * m := by have := Nat.div_add_mod x (2 ^ t); rw [hz, ← hm] at this; omega
  rw [← hm] at hodd
  have hp : 0 < 2 ^ t := Nat.pow_pos (by decide)
  obtain ⟨q, hq⟩ : ∃ q, m = 2 * q + 1 := ⟨m / 2, by omega⟩
  have hxm : x - 1 = 2 ^ t * (2 * q) + (2 ^ t - 1) := by
    rw [hx2, hq, Nat.mul_add, Nat.mul_one]
    omega
  have hx1 : x = (x - 1) + 1 := by have : 0 < x := by rw [hx2, hq]; exact Nat.mul_pos hp (by omega)
                                   omega
  apply Nat.eq_of_testBit_eq
  intro j
  rw [Nat.testBit_and, Nat.testBit_two_pow]
  have hneg : (2 ^ 64 - x).testBit j = (decide (j < 64) && !(x - 1).testBit j) := by
    rw [hx1]
    exact Nat.testBit_two_pow_sub_succ (by omega) j
  rw [hneg]
  rcases Nat.lt_trichotomy j t with h | h | h
  · rw [h0 j h]; simp; omega
  · subst h
    rw [h1, hxm, Nat.testBit_two_pow_mul_add _ (by omega)]
    simp [ht]
  · obtain ⟨i, hi⟩ : ∃ i, j - t = i + 1 := ⟨j - t - 1, by omega⟩
    have e1 : x.testBit j = m.testBit (i + 1) := by
      rw [hx2, Nat.testBit_two_pow_mul]
      rw [hi]
      simp
      omega
    have e2 : (x - 1).testBit j = (2 * q).testBit (i + 1) := by
      rw [hxm, Nat.testBit_two_pow_mul_add _ (by omega), if_neg (by omega), hi]
    rw [e1, e2, Nat.testBit_add_one, Nat.testBit_add_one, show m / 2 = q from by omega, show 2 * q / 2 = q from by omega]
    have : (decide (t = j)) = false := decide_eq_false (by omega)
    rw [this]
    cases q.testBit i <;> simp
def deB : List Nat := [0, 1, 56, 2, 57, 49, 28, 3, 61, 58, 42, 50, 38, 29, 17, 4, 62, 47, 59, 36, 45, 43, 51, 22, 53, 39, 33, 30, 24, 18, 12, 5, 63, 55, 48, 27, 60, 41, 37, 16, 46, 35, 44, 21, 52, 32, 23, 11, 54, 26, 40, 15, 34, 20, 31, 10, 25, 14, 19, 9, 13, 8, 7, 6]
theorem deB_at : ∀ t, t < 64 → deB[(2 ^ t * 285870213051353865) % 2 ^ 64 / 2 ^ 58]? = some t := by decide +kernel
theorem deB_len : deB.length = 64 := rfl
/-- How many bits a number has. -/
def IsLen (x n : Nat) : Prop := x < 2 ^ n ∧ (0 < n → 2 ^ (n - 1) ≤ x)
theorem IsLen.zero : IsLen 0 0 := ⟨by decide, fun h => by omega⟩
theorem IsLen.shift {x m k : Nat} (h : IsLen (x / 2 ^ k) m) (hm : 0 < m) : IsLen x (m + k) := by
  obtain ⟨h1, h2⟩ := h
  have hp : 0 < 2 ^ k := Nat.pow_pos (by decide)
  refine ⟨?_, fun _ => ?_⟩
  · rw [Nat.pow_add]
    exact (Nat.div_lt_iff_lt_mul hp).1 h1
  · rw [show m + k - 1 = (m - 1) + k from by omega, Nat.pow_add]
    exact (Nat.le_div_iff_mul_le hp).1 (h2 hm)
theorem IsLen.pos {x n : Nat} (h : IsLen x n) (hx : 0 < x) : 0 < n := by
  rcases Nat.eq_zero_or_pos n with h0 | h0
  · subst h0; have := h.1; simp at this; omega
  · exact h0
theorem IsLen.top {x n : Nat} (h : IsLen x n) (hn : 0 < n) : x.testBit (n - 1) = true ∧ ∀ j, n ≤ j → x.testBit j = false := by
  refine ⟨?_, fun j hj => Nat.testBit_lt_two_pow (Nat.lt_of_lt_of_le h.1 (Nat.pow_le_pow_right (by decide) hj))⟩
  apply Nat.testBit_of_two_pow_le_and_two_pow_add_one_gt (h.2 hn)
  rw [show n - 1 + 1 = n from by omega]
  exact h.1
theorem IsLen.le {x n k : Nat} (h : IsLen x n) (hx : x < 2 ^ k) : n ≤ k := by
  rcases Nat.lt_or_ge k n with hk | hk
  · have h1 := h.2 (by omega)
    have h2 : 2 ^ k ≤ 2 ^ (n - 1) := Nat.pow_le_pow_right (by decide) (by omega)
    omega
  · exact hk
def len8 (x : Nat) : Nat := if x = 0 then 0 else Nat.log2 x + 1
theorem len8_is {x : Nat} (h : x < 256) : IsLen x (len8 x) := by
  unfold len8
  by_cases h0 : x = 0
  · subst h0; rw [if_pos rfl]; exact IsLen.zero
  · rw [if_neg h0]
    exact ⟨Nat.lt_log2_self, fun _ => Nat.log2_self_le h0⟩
end Go.Proofs.YtoileikhfgehcaaDoor
