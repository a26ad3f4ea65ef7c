/-
  Functions of package slices, at the types at which they are used.
-/
import Derived.Test.YtffimkpllchfcaaUnit
import Derived.Test.YtffimkpllchfcaaIdx
namespace Go.Proofs.Ytffimkpllchfcaa
open Go.RowKit

theorem slices_IndexFunc_int (a : Option Addr) (cap fk : Nat) (zs : List Int) (caps : List Value) (p : Int → Bool) (w : World) (hr : Rd .i64 w a zs) (hl : zs.length ≤ 9223372036854775807)
    (hf : ∀ x, x ∈ zs → Does Try.prog fk (.int .i64 x :: caps).toArray w (Same (.bool (p x)) w)) :
    Does Try.prog 67 #[.slice a zs.length cap, .func (.func fk) #[] caps.toArray] w (Same (.int .i64 (idx p zs)) w) := by
  refine Does.enter Try.func67 rfl Try.ntmps67 rfl rfl ?_
  refine Goes.adv hTT 400 rfl ?_
  refine Goes.loop (α := Nat) (fun k => [(0, false, .slice a zs.length cap), (1, false, .func (.func fk) #[] caps.toArray), (7, false, .int .i64 zs.length), (8, false, .int .i64 k)])
    (fun k w' => w' = w ∧ k ≤ zs.length ∧ ∀ j (h : j < zs.length), j < k → p zs[j] = false) (fun k => zs.length - k) 0 ⟨rfl, rfl, rfl, rfl, trivial⟩ ⟨rfl, Nat.zero_le _, fun _ _ h => by omega⟩ ?_
  rintro k w1 ⟨hw, hk, hpre⟩ ih
  refine Goes.adv hTT 400 rfl ?_
  refine Goes.fork hTT rfl rfl rfl (fun h => ?_) (fun h => ?_)
  · have hlt : k < zs.length := by simpa using h
    obtain ⟨b, off, rfl, hc⟩ := hr k hlt
    rw [getD_at hlt] at hc
    subst hw
    refine Goes.index hTT rfl (j := k) (by omega) (by omega) (by first | rfl | omega | (simp; done) | (simp; omega)) rfl ?_
    refine Goes.load hTT rfl hc rfl ?_
    refine Goes.call rfl (hf _ (List.getElem_mem hlt)) ?_
    rintro _ _ ⟨rfl, rfl⟩
    refine Goes.adv hTT 400 rfl ?_
    refine Goes.fork hTT rfl rfl rfl (fun hp => ?_) (fun hp => ?_)
    · exact Goes.ret1 hTT rfl Try.func67 rfl rfl ⟨int_v (idx_at hlt hpre hp).symm, rfl⟩
    · refine Goes.arith hTT rfl (w64 (by omega)) rfl ?_
      exact ih (k + 1) _ _ ⟨rfl, hlt, fun j hj hjk => by
        by_cases e : j = k
        · subst e; exact hp
        · exact hpre j hj (by omega)⟩ (by omega) ⟨rfl, rfl, rfl, rfl, trivial⟩
  · have hge : k = zs.length := by simp at h; omega
    subst hw
    exact Goes.ret1 hTT rfl Try.func67 rfl rfl ⟨int_v (idx_none (fun j hj => hpre j hj (by omega))).symm, rfl⟩
theorem slices_ContainsFunc_int (a : Option Addr) (cap fk : Nat) (zs : List Int) (caps : List Value) (p : Int → Bool) (w : World) (hr : Rd .i64 w a zs) (hl : zs.length ≤ 9223372036854775807)
    (hf : ∀ x, x ∈ zs → Does Try.prog fk (.int .i64 x :: caps).toArray w (Same (.bool (p x)) w)) :
    Does Try.prog 56 #[.slice a zs.length cap, .func (.func fk) #[] caps.toArray] w (Same (.bool (zs.any p)) w) := by
  refine Does.enter Try.func56 rfl Try.ntmps56 rfl rfl ?_
  refine Goes.adv hTT 400 rfl ?_
  refine Goes.call rfl (slices_IndexFunc_int a cap fk zs caps p w hr hl hf) ?_
  rintro _ _ ⟨rfl, rfl⟩
  refine Goes.adv hTT 400 rfl ?_
  exact Goes.ret1 hTT rfl Try.func56 rfl rfl ⟨bool_v (by rw [Bool.eq_iff_iff]; simp only [decide_eq_true_eq]; exact idx_nonneg), rfl⟩
theorem slices_Index_bool (a : Option Addr) (cap : Nat) (bs : List Bool) (x : Bool) (w : World) (hr : RdB w a bs) (hl : bs.length ≤ 9223372036854775807) :
    Does Try.prog 68 #[.slice a bs.length cap, .bool x] w (Same (.int .i64 (idx (fun y => x == y) bs)) w) := by
  refine Does.enter Try.func68 rfl Try.ntmps68 rfl rfl ?_
  refine Goes.adv hTT 400 rfl ?_
  refine Goes.loop (α := Nat) (fun k => [(0, false, .slice a bs.length cap), (1, false, .bool x), (7, false, .int .i64 bs.length), (8, false, .int .i64 k)])
    (fun k w' => w' = w ∧ k ≤ bs.length ∧ ∀ j (h : j < bs.length), j < k → (x == bs[j]) = false) (fun k => bs.length - k) 0 ⟨rfl, rfl, rfl, rfl, trivial⟩ ⟨rfl, Nat.zero_le _, fun _ _ h => by omega⟩ ?_
  rintro k w1 ⟨hw, hk, hpre⟩ ih
  refine Goes.adv hTT 400 rfl ?_
  refine Goes.fork hTT rfl rfl rfl (fun h => ?_) (fun h => ?_)
  · have hlt : k < bs.length := by simpa using h
    obtain ⟨b, off, rfl, hc⟩ := hr k hlt
    subst hw
    refine Goes.index hTT rfl (j := k) (by omega) (by omega) (by first | rfl | omega | (simp; done) | (simp; omega)) rfl ?_
    refine Goes.load hTT rfl hc rfl ?_
    refine Goes.fork hTT rfl rfl rfl (fun hp => ?_) (fun hp => ?_)
    · exact Goes.ret1 hTT rfl Try.func68 rfl rfl ⟨int_v (idx_at (p := fun y => x == y) hlt hpre hp).symm, rfl⟩
    · refine Goes.arith hTT rfl (w64 (by omega)) rfl ?_
      exact ih (k + 1) _ _ ⟨rfl, hlt, fun j hj hjk => by
        by_cases e : j = k
        · subst e; exact hp
        · exact hpre j hj (by omega)⟩ (by omega) ⟨rfl, rfl, rfl, rfl, trivial⟩
  · have hge : k = bs.length := by simp at h; omega
    subst hw
    exact Goes.ret1 hTT rfl Try.func68 rfl rfl ⟨int_v (idx_none (p := fun y => x == y) (fun j hj => hpre j hj (by omega))).symm, rfl⟩
theorem slices_Contains_bool (a : Option Addr) (cap : Nat) (bs : List Bool) (x : Bool) (w : World) (hr : RdB w a bs) (hl : bs.length ≤ 9223372036854775807) :
    Does Try.prog 58 #[.slice a bs.length cap, .bool x] w (Same (.bool (bs.any fun y => x == y)) w) := by
  refine Does.enter Try.func58 rfl Try.ntmps58 rfl rfl ?_
  refine Goes.adv hTT 400 rfl ?_
  refine Goes.call rfl (slices_Index_bool a cap bs x w hr hl) ?_
  rintro _ _ ⟨rfl, rfl⟩
  refine Goes.adv hTT 400 rfl ?_
  exact Goes.ret1 hTT rfl Try.func58 rfl rfl ⟨bool_v (by rw [Bool.eq_iff_iff]; simp only [decide_eq_true_eq]; exact idx_nonneg), rfl⟩
end Go.Proofs.Ytffimkpllchfcaa
