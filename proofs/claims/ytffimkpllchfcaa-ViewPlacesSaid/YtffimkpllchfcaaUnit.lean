/-
  Layer 1's functions: what they answer.
-/
import Derived.Test.YtffimkpllchfcaaPost
namespace Go.Proofs.Ytffimkpllchfcaa
open Go.RowKit

/-- How many parts go into a number. -/
def whole (n q : Int) : Int := if n < 1 ∨ q < 1 then 0 else n / q
theorem whole_yes {n q : Int} (h : 1 ≤ n) (h' : 1 ≤ q) : whole n q = n / q := by unfold whole; rw [if_neg (by omega)]
theorem whole_no {n q : Int} (h : n < 1 ∨ q < 1) : whole n q = 0 := by unfold whole; rw [if_pos h]

theorem unit_none1 (x : Int) (w : World) : Does Try.prog 77 #[.int .i64 x] w (Same (.bool (decide (x < 1))) w) := by
  refine Does.enter Try.func77 rfl Try.ntmps77 rfl rfl ?_
  refine Goes.adv hTT 400 rfl ?_
  exact Goes.ret1 hTT rfl Try.func77 rfl rfl ⟨rfl, rfl⟩
theorem unit_either (x y : Int) (w : World) : Does Try.prog 76 #[.int .i64 x, .int .i64 y, .func (.func 77) #[] #[]] w (Same (.bool (decide (x < 1 ∨ y < 1))) w) := by
  refine Does.enter Try.func76 rfl Try.ntmps76 rfl rfl ?_
  refine Goes.adv hTT 400 rfl ?_
  refine Goes.call rfl (unit_none1 x w) ?_
  rintro _ _ ⟨rfl, rfl⟩
  refine Goes.adv hTT 400 rfl ?_
  refine Goes.fork hTT rfl rfl rfl (fun h => ?_) (fun h => ?_)
  · exact Goes.ret1 hTT rfl Try.func76 rfl rfl ⟨bool_v (by simp at h; simp [h]), rfl⟩
  · refine Goes.call rfl (unit_none1 y w) ?_
    rintro _ _ ⟨rfl, rfl⟩
    refine Goes.adv hTT 400 rfl ?_
    exact Goes.ret1 hTT rfl Try.func76 rfl rfl ⟨bool_v (by simp at h; simp [show ¬ x < 1 from by omega]), rfl⟩
theorem unit_none (x y : Int) (w : World) : Does Try.prog 74 #[.int .i64 x, .int .i64 y] w (Same (.bool (decide (x < 1 ∨ y < 1))) w) := by
  refine Does.enter Try.func74 rfl Try.ntmps74 rfl rfl ?_
  refine Goes.adv hTT 400 rfl ?_
  refine Goes.call rfl (unit_either x y w) ?_
  rintro _ _ ⟨rfl, rfl⟩
  refine Goes.adv hTT 400 rfl ?_
  exact Goes.ret1 hTT rfl Try.func74 rfl rfl ⟨rfl, rfl⟩
theorem unit_Whole (n q : Int) (w : World) (hn : n ≤ 9223372036854775807) : Does Try.prog 69 #[.int .i64 n, .int .i64 q] w (Same (.int .i64 (whole n q)) w) := by
  refine Does.enter Try.func69 rfl Try.ntmps69 rfl rfl ?_
  refine Goes.adv hTT 400 rfl ?_
  refine Goes.call rfl (unit_none n q w) ?_
  rintro _ _ ⟨rfl, rfl⟩
  refine Goes.adv hTT 400 rfl ?_
  refine Goes.fork hTT rfl rfl rfl (fun h => ?_) (fun h => ?_)
  · exact Goes.ret1 hTT rfl Try.func69 rfl rfl ⟨int_v (whole_no (by simpa using h)).symm, rfl⟩
  · have h' : 1 ≤ n ∧ 1 ≤ q := by simp at h; omega
    refine Goes.div hTT rfl (by omega) (quo64 (by omega) (by omega)) rfl ?_
    exact Goes.ret1 hTT rfl Try.func69 rfl rfl ⟨int_v (whole_yes h'.1 h'.2).symm, rfl⟩
theorem ref01_Whole (n q : Int) (w : World) (hn : n ≤ 9223372036854775807) : Does Try.prog 70 #[.int .i64 n, .int .i64 q] w (Same (.int .i64 (whole n q)) w) := by
  refine Does.enter Try.func70 rfl Try.ntmps70 rfl rfl ?_
  refine Goes.adv hTT 400 rfl ?_
  refine Goes.fork hTT rfl rfl rfl (fun h => ?_) (fun h => ?_)
  · exact Goes.ret1 hTT rfl Try.func70 rfl rfl ⟨int_v (whole_no (.inl (by simpa using h))).symm, rfl⟩
  · refine Goes.fork hTT rfl rfl rfl (fun h' => ?_) (fun h' => ?_)
    · exact Goes.ret1 hTT rfl Try.func70 rfl rfl ⟨int_v (whole_no (.inr (by simpa using h'))).symm, rfl⟩
    · have h1 : 1 ≤ n ∧ 1 ≤ q := by simp at h h'; omega
      refine Goes.div hTT rfl (by omega) (quo64 (by omega) (by omega)) rfl ?_
      exact Goes.ret1 hTT rfl Try.func70 rfl rfl ⟨int_v (whole_yes h1.1 h1.2).symm, rfl⟩
end Go.Proofs.Ytffimkpllchfcaa
