/-
  Layer 1's functions: what they answer.
-/
import Derived.Test.YteklfgglcbdpnaaTab
namespace Go.Proofs.Yteklfgglcbdpnaa
open Go.RowKit

/-- It answers v, and leaves the world as it was. -/
def Same (v : Value) (w : World) : Value → World → Prop := fun u w' => u = v ∧ w = w'
/-- It answers v; blocks may have come. -/
def Grow (v : Value) (w : World) : Value → World → Prop := fun u w' => u = v ∧ Chg None' w w'
theorem Does.grow {P : Program} {k : FuncId} {args : Array Value} {w : World} {v : Value} (h : Does P k args w (Same v w)) : Does P k args w (Grow v w) :=
  h.mono fun _ _ ⟨h1, h2⟩ => ⟨h1, h2 ▸ Chg.refl _ _⟩
/-- How many parts go into a number. -/
def whole (n q : Int) : Int := if n < 1 ∨ q < 1 then 0 else n / q
theorem whole_yes {n q : Int} (h : 1 ≤ n) (h' : 1 ≤ q) : whole n q = n / q := by unfold whole; rw [if_neg (by omega)]
theorem whole_no {n q : Int} (h : n < 1 ∨ q < 1) : whole n q = 0 := by unfold whole; rw [if_pos h]
theorem bool_v {a b : Bool} (h : a = b) : Value.bool a = .bool b := by rw [h]
theorem bool_s {a b : Bool} (h : a = b) : some (Value.bool a) = some (.bool b) := by rw [h]
theorem int_s {k : IntKind} {a b : Int} (h : a = b) : some (Value.int k a) = some (.int k b) := by rw [h]
theorem int_v {k : IntKind} {a b : Int} (h : a = b) : Value.int k a = .int k b := by rw [h]

theorem unit_none1 (x : Int) (w : World) : Does Try.prog 32 #[.int .i64 x] w (Same (.bool (decide (x < 1))) w) := by
  refine Does.enter Try.func32 rfl Try.ntmps32 rfl rfl ?_
  refine Goes.adv hTT 400 rfl ?_
  exact Goes.ret1 hTT rfl Try.func32 rfl rfl ⟨rfl, rfl⟩
theorem unit_either (x y : Int) (w : World) : Does Try.prog 31 #[.int .i64 x, .int .i64 y, .func (.func 32) #[] #[]] w (Same (.bool (decide (x < 1 ∨ y < 1))) w) := by
  refine Does.enter Try.func31 rfl Try.ntmps31 rfl rfl ?_
  refine Goes.adv hTT 400 rfl ?_
  refine Goes.call rfl (unit_none1 x w) ?_
  rintro _ _ ⟨rfl, rfl⟩
  refine Goes.adv hTT 400 rfl ?_
  refine Goes.fork hTT rfl rfl rfl (fun h => ?_) (fun h => ?_)
  · exact Goes.ret1 hTT rfl Try.func31 rfl rfl ⟨bool_v (by simp at h; simp [h]), rfl⟩
  · refine Goes.call rfl (unit_none1 y w) ?_
    rintro _ _ ⟨rfl, rfl⟩
    refine Goes.adv hTT 400 rfl ?_
    exact Goes.ret1 hTT rfl Try.func31 rfl rfl ⟨bool_v (by simp at h; simp [show ¬ x < 1 from by omega]), rfl⟩
theorem unit_none (x y : Int) (w : World) : Does Try.prog 30 #[.int .i64 x, .int .i64 y] w (Same (.bool (decide (x < 1 ∨ y < 1))) w) := by
  refine Does.enter Try.func30 rfl Try.ntmps30 rfl rfl ?_
  refine Goes.adv hTT 400 rfl ?_
  refine Goes.call rfl (unit_either x y w) ?_
  rintro _ _ ⟨rfl, rfl⟩
  refine Goes.adv hTT 400 rfl ?_
  exact Goes.ret1 hTT rfl Try.func30 rfl rfl ⟨rfl, rfl⟩
theorem unit_Whole (n q : Int) (w : World) (hn : n ≤ 9223372036854775807) : Does Try.prog 26 #[.int .i64 n, .int .i64 q] w (Same (.int .i64 (whole n q)) w) := by
  refine Does.enter Try.func26 rfl Try.ntmps26 rfl rfl ?_
  refine Goes.adv hTT 400 rfl ?_
  refine Goes.call rfl (unit_none n q w) ?_
  rintro _ _ ⟨rfl, rfl⟩
  refine Goes.adv hTT 400 rfl ?_
  refine Goes.fork hTT rfl rfl rfl (fun h => ?_) (fun h => ?_)
  · exact Goes.ret1 hTT rfl Try.func26 rfl rfl ⟨int_v (whole_no (by simpa using h)).symm, rfl⟩
  · have h' : 1 ≤ n ∧ 1 ≤ q := by simp at h; omega
    refine Goes.div hTT rfl (by omega) (quo64 (by omega) (by omega)) rfl ?_
    exact Goes.ret1 hTT rfl Try.func26 rfl rfl ⟨int_v (whole_yes h'.1 h'.2).symm, rfl⟩
theorem ref01_Whole (n q : Int) (w : World) (hn : n ≤ 9223372036854775807) : Does Try.prog 27 #[.int .i64 n, .int .i64 q] w (Same (.int .i64 (whole n q)) w) := by
  refine Does.enter Try.func27 rfl Try.ntmps27 rfl rfl ?_
  refine Goes.adv hTT 400 rfl ?_
  refine Goes.fork hTT rfl rfl rfl (fun h => ?_) (fun h => ?_)
  · exact Goes.ret1 hTT rfl Try.func27 rfl rfl ⟨int_v (whole_no (.inl (by simpa using h))).symm, rfl⟩
  · refine Goes.fork hTT rfl rfl rfl (fun h' => ?_) (fun h' => ?_)
    · exact Goes.ret1 hTT rfl Try.func27 rfl rfl ⟨int_v (whole_no (.inr (by simpa using h'))).symm, rfl⟩
    · have h1 : 1 ≤ n ∧ 1 ≤ q := by simp at h h'; omega
      refine Goes.div hTT rfl (by omega) (quo64 (by omega) (by omega)) rfl ?_
      exact Goes.ret1 hTT rfl Try.func27 rfl rfl ⟨int_v (whole_yes h1.1 h1.2).symm, rfl⟩
end Go.Proofs.Yteklfgglcbdpnaa
