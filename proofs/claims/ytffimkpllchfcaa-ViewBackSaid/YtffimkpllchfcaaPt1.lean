/-
  Texts put together: Unit, Idx, Slices, Class, Conf, Meter, Arena, Arena2, View, Ref3, View2, RowsD, Chain, Chain2, View3, View4, Arena3, View5, View6, View7, View8, View9, Laws21, Ref6.
-/
import Derived.Test.YtffimkpllchfcaaPost
import Derived.Test.YtffimkpllchfcaaRule10
import Derived.Test.YtffimkpllchfcaaRule6
import Derived.Test.YtffimkpllchfcaaRule7
import Derived.Test.YtffimkpllchfcaaRule11
import Derived.Test.YtffimkpllchfcaaRule9
import Derived.Lib.SliceRun
/-
  Layer 1's functions: what they answer.
-/
namespace Go.Proofs.Ytffimkpllchfcaa
open Go.RowKit

/-- How many parts go into a number. -/
def whole (n q : Int) : Int := if n < 1 ∨ q < 1 then 0 else n / q
theorem whole_yes {n q : Int} (h : 1 ≤ n) (h' : 1 ≤ q) : whole n q = n / q := by unfold whole; rw [if_neg (by omega)]
theorem whole_no {n q : Int} (h : n < 1 ∨ q < 1) : whole n q = 0 := by unfold whole; rw [if_pos h]

theorem unit_none1 (x : Int) (w : World) : Does Try.prog 77 #[.int .i64 x] w (Same (.bool (decide (x < 1))) w) := by
  refine Does.enter Try.func77 rfl Try.ntmps77 rfl rfl ?_
  refine Goes.adv hTT 400 rfl ?_
  exact Goes.ret1 hTT rfl Try.func77 rfl rfl ⟨rfl, rfl⟩
theorem unit_either (x y : Int) (w : World) : Does Try.prog 76 #[.int .i64 x, .int .i64 y, .func (.func 77) #[] #[]] w (Same (.bool (decide (x < 1 ∨ y < 1))) w) := by
  refine Does.enter Try.func76 rfl Try.ntmps76 rfl rfl ?_
  refine Goes.adv hTT 400 rfl ?_
  refine Goes.call rfl (unit_none1 x w) ?_
  rintro _ _ ⟨rfl, rfl⟩
  refine Goes.adv hTT 400 rfl ?_
  refine Goes.fork hTT rfl rfl rfl (fun h => ?_) (fun h => ?_)
  · exact Goes.ret1 hTT rfl Try.func76 rfl rfl ⟨bool_v (by simp at h; simp [h]), rfl⟩
  · refine Goes.call rfl (unit_none1 y w) ?_
    rintro _ _ ⟨rfl, rfl⟩
    refine Goes.adv hTT 400 rfl ?_
    exact Goes.ret1 hTT rfl Try.func76 rfl rfl ⟨bool_v (by simp at h; simp [show ¬ x < 1 from by omega]), rfl⟩
theorem unit_none (x y : Int) (w : World) : Does Try.prog 74 #[.int .i64 x, .int .i64 y] w (Same (.bool (decide (x < 1 ∨ y < 1))) w) := by
  refine Does.enter Try.func74 rfl Try.ntmps74 rfl rfl ?_
  refine Goes.adv hTT 400 rfl ?_
  refine Goes.call rfl (unit_either x y w) ?_
  rintro _ _ ⟨rfl, rfl⟩
  refine Goes.adv hTT 400 rfl ?_
  exact Goes.ret1 hTT rfl Try.func74 rfl rfl ⟨rfl, rfl⟩
theorem unit_Whole (n q : Int) (w : World) (hn : n ≤ 9223372036854775807) : Does Try.prog 69 #[.int .i64 n, .int .i64 q] w (Same (.int .i64 (whole n q)) w) := by
  refine Does.enter Try.func69 rfl Try.ntmps69 rfl rfl ?_
  refine Goes.adv hTT 400 rfl ?_
  refine Goes.call rfl (unit_none n q w) ?_
  rintro _ _ ⟨rfl, rfl⟩
  refine Goes.adv hTT 400 rfl ?_
  refine Goes.fork hTT rfl rfl rfl (fun h => ?_) (fun h => ?_)
  · exact Goes.ret1 hTT rfl Try.func69 rfl rfl ⟨int_v (whole_no (by simpa using h)).symm, rfl⟩
  · have h' : 1 ≤ n ∧ 1 ≤ q := by simp at h; omega
    refine Goes.div hTT rfl (by omega) (quo64 (by omega) (by omega)) rfl ?_
    exact Goes.ret1 hTT rfl Try.func69 rfl rfl ⟨int_v (whole_yes h'.1 h'.2).symm, rfl⟩
theorem ref01_Whole (n q : Int) (w : World) (hn : n ≤ 9223372036854775807) : Does Try.prog 70 #[.int .i64 n, .int .i64 q] w (Same (.int .i64 (whole n q)) w) := by
  refine Does.enter Try.func70 rfl Try.ntmps70 rfl rfl ?_
  refine Goes.adv hTT 400 rfl ?_
  refine Goes.fork hTT rfl rfl rfl (fun h => ?_) (fun h => ?_)
  · exact Goes.ret1 hTT rfl Try.func70 rfl rfl ⟨int_v (whole_no (.inl (by simpa using h))).symm, rfl⟩
  · refine Goes.fork hTT rfl rfl rfl (fun h' => ?_) (fun h' => ?_)
    · exact Goes.ret1 hTT rfl Try.func70 rfl rfl ⟨int_v (whole_no (.inr (by simpa using h'))).symm, rfl⟩
    · have h1 : 1 ≤ n ∧ 1 ≤ q := by simp at h h'; omega
      refine Goes.div hTT rfl (by omega) (quo64 (by omega) (by omega)) rfl ?_
      exact Goes.ret1 hTT rfl Try.func70 rfl rfl ⟨int_v (whole_yes h1.1 h1.2).symm, rfl⟩
end Go.Proofs.Ytffimkpllchfcaa
/-
  The first place, and the last one, where something holds. No program in sight.
-/
namespace Go.Proofs.Ytffimkpllchfcaa
open Go.RowKit

/-- The first place where p holds; -1 if there is none. -/
def idx {α : Type} (p : α → Bool) (l : List α) : Int := match l.findIdx? p with | some i => i | none => -1
theorem idx_at {α : Type} {p : α → Bool} {l : List α} {k : Nat} (hk : k < l.length) (hpre : ∀ j (h : j < l.length), j < k → p l[j] = false) (h : p l[k] = true) : idx p l = k := by
  unfold idx
  have : l.findIdx? p = some k := by
    rw [List.findIdx?_eq_some_iff_getElem]
    exact ⟨hk, h, fun j hj => by simpa using hpre j (by omega) hj⟩
  rw [this]
theorem idx_none {α : Type} {p : α → Bool} {l : List α} (hpre : ∀ j (h : j < l.length), p l[j] = false) : idx p l = -1 := by
  unfold idx
  have : l.findIdx? p = none := by
    rw [List.findIdx?_eq_none_iff]
    intro x hx
    obtain ⟨j, hj, rfl⟩ := List.mem_iff_getElem.1 hx
    exact hpre j hj
  rw [this]
theorem idx_nonneg {α : Type} {p : α → Bool} {l : List α} : (0 ≤ idx p l) ↔ l.any p = true := by
  unfold idx
  cases h : l.findIdx? p with
  | none =>
    rw [List.findIdx?_eq_none_iff] at h
    simp only [List.any_eq_true]
    constructor
    · intro h0; omega
    · rintro ⟨x, hx, hp⟩; rw [h x hx] at hp; cases hp
  | some i =>
    rw [List.findIdx?_eq_some_iff_getElem] at h
    obtain ⟨hi, hp, _⟩ := h
    simp only [List.any_eq_true]
    exact ⟨fun _ => ⟨_, List.getElem_mem hi, hp⟩, fun _ => by omega⟩
theorem getD_at {zs : List Int} {k : Nat} (h : k < zs.length) : zs.getD k 0 = zs[k] := by simp [h]

/-- The last place where p holds; -1 if there is none. -/
def ridx {α : Type} (p : α → Bool) (l : List α) : Int := match l.reverse.findIdx? p with | some i => (l.length : Int) - 1 - i | none => -1
theorem ridx_at {α : Type} {p : α → Bool} {l : List α} {k : Nat} (hk : k < l.length) (hpost : ∀ j (h : j < l.length), k < j → p l[j] = false) (h : p l[k] = true) : ridx p l = k := by
  unfold ridx
  have : l.reverse.findIdx? p = some (l.length - 1 - k) := by
    rw [List.findIdx?_eq_some_iff_getElem]
    refine ⟨by simp; omega, ?_, fun j hj => ?_⟩
    · rw [List.getElem_reverse]; simp only [show l.length - 1 - (l.length - 1 - k) = k from by omega]; exact h
    · rw [List.getElem_reverse]; simpa using hpost _ (by omega) (by omega)
  rw [this]
  simp only
  omega
theorem ridx_none {α : Type} {p : α → Bool} {l : List α} (hall : ∀ j (h : j < l.length), p l[j] = false) : ridx p l = -1 := by
  unfold ridx
  have : l.reverse.findIdx? p = none := by
    rw [List.findIdx?_eq_none_iff]
    intro x hx
    rw [List.mem_reverse] at hx
    obtain ⟨j, hj, rfl⟩ := List.mem_iff_getElem.1 hx
    exact hall j hj
  rw [this]
/-- The slice of address a reads asV bools. -/
def RdB (w : World) (a : Option Addr) (bs : List Bool) : Prop := ∀ i (h : i < bs.length), ∃ b off, a = some ⟨b, off, none⟩ ∧ w.cell? ⟨b, off + i, none⟩ = some (.bool bs[i])
theorem RdB.of {w : World} {b : Nat} {c : Array Value} {t : TypeId} {fz : Nat × Nat} {bs : List Bool} (h : w.heap[b]? = some (.cells c t fz)) (hc : c = (bs.map Value.bool).toArray) : RdB w (some ⟨b, 0, none⟩) bs := fun i hi =>
  ⟨b, 0, rfl, by rw [cell_of h, hc]; simp [hi]⟩
theorem RdB.chg {w w' : World} {a : Option Addr} {bs : List Bool} (h : RdB w a bs) (hc : Chg None' w w') : RdB w' a bs := fun i hi => by
  obtain ⟨b, off, e, hcell⟩ := h i hi
  exact ⟨b, off, e, below_cell hc.below hcell⟩
theorem RdB.keep {w w' : World} {a : Option Addr} {bs : List Bool} {q t : Nat} {c : Array Value} {fz : Nat × Nat} (hr : RdB w a bs) (hq : w.heap[q]? = some (.cells c t fz)) (hc : ∀ x ∈ c.toList, ∀ z, x ≠ .bool z) (hs : Chg (fun b => b = q) w w') : RdB w' a bs := fun j hj => by
  obtain ⟨b, off, e, hcell⟩ := hr j hj
  refine ⟨b, off, e, hs.cell hcell (fun hx => ?_)⟩
  subst hx
  rw [cell_of hq] at hcell
  exact hc _ (Array.mem_toList_iff.2 (Array.mem_of_getElem? hcell)) _ rfl
theorem RdB.cells {w : World} {a : Addr} {bs : List Bool} (h : RdB w (some a) bs) : ∀ i u, (bs.map Value.bool)[i]? = some u → w.cell? (a.add i) = some u := by
  intro i u hu
  rw [List.getElem?_map, Option.map_eq_some_iff] at hu
  obtain ⟨z, hz, rfl⟩ := hu
  have hi : i < bs.length := (List.getElem?_eq_some_iff.1 hz).1
  obtain ⟨b, off, e, hc⟩ := h i hi
  cases e
  rw [add_off, hc]
  rw [List.getElem?_eq_getElem hi] at hz
  cases hz; rfl
theorem RdB.of_take {w : World} {g t : Nat} {fz : Nat × Nat} {cur : Array Value} {bs : List Bool} (h : w.heap[g]? = some (.cells cur t fz)) (hc : cur.toList.take bs.length = bs.map Value.bool) : RdB w (some ⟨g, 0, none⟩) bs := fun i hi => by
  refine ⟨g, 0, rfl, ?_⟩
  have h1 : (cur.toList.take bs.length)[i]? = (bs.map Value.bool)[i]? := by rw [hc]
  rw [List.getElem?_take, if_pos hi] at h1
  rw [cell_of h]
  simp only [Nat.zero_add]
  rw [← Array.getElem?_toList, h1]
  simp [hi]
end Go.Proofs.Ytffimkpllchfcaa
/-
  Functions of package slices, at the types at which they are used.
-/
namespace Go.Proofs.Ytffimkpllchfcaa
open Go.RowKit

theorem slices_IndexFunc_int (a : Option Addr) (cap fk : Nat) (zs : List Int) (caps : List Value) (p : Int → Bool) (w : World) (hr : Rd .i64 w a zs) (hl : zs.length ≤ 9223372036854775807)
    (hf : ∀ x, x ∈ zs → Does Try.prog fk (.int .i64 x :: caps).toArray w (Same (.bool (p x)) w)) :
    Does Try.prog 67 #[.slice a zs.length cap, .func (.func fk) #[] caps.toArray] w (Same (.int .i64 (idx p zs)) w) := by
  refine Does.enter Try.func67 rfl Try.ntmps67 rfl rfl ?_
  refine Goes.adv hTT 400 rfl ?_
  refine Goes.loop (α := Nat) (fun k => [(0, false, .slice a zs.length cap), (1, false, .func (.func fk) #[] caps.toArray), (7, false, .int .i64 zs.length), (8, false, .int .i64 k)])
    (fun k w' => w' = w ∧ k ≤ zs.length ∧ ∀ j (h : j < zs.length), j < k → p zs[j] = false) (fun k => zs.length - k) 0 ⟨rfl, rfl, rfl, rfl, trivial⟩ ⟨rfl, Nat.zero_le _, fun _ _ h => by omega⟩ ?_
  rintro k w1 ⟨hw, hk, hpre⟩ ih
  refine Goes.adv hTT 400 rfl ?_
  refine Goes.fork hTT rfl rfl rfl (fun h => ?_) (fun h => ?_)
  · have hlt : k < zs.length := by simpa using h
    obtain ⟨b, off, rfl, hc⟩ := hr k hlt
    rw [getD_at hlt] at hc
    subst hw
    refine Goes.index hTT rfl (j := k) (by omega) (by omega) (by first | rfl | omega | (simp; done) | (simp; omega)) rfl ?_
    refine Goes.load hTT rfl hc rfl ?_
    refine Goes.call rfl (hf _ (List.getElem_mem hlt)) ?_
    rintro _ _ ⟨rfl, rfl⟩
    refine Goes.adv hTT 400 rfl ?_
    refine Goes.fork hTT rfl rfl rfl (fun hp => ?_) (fun hp => ?_)
    · exact Goes.ret1 hTT rfl Try.func67 rfl rfl ⟨int_v (idx_at hlt hpre hp).symm, rfl⟩
    · refine Goes.arith hTT rfl (w64 (by omega)) rfl ?_
      exact ih (k + 1) _ _ ⟨rfl, hlt, fun j hj hjk => by
        by_cases e : j = k
        · subst e; exact hp
        · exact hpre j hj (by omega)⟩ (by omega) ⟨rfl, rfl, rfl, rfl, trivial⟩
  · have hge : k = zs.length := by simp at h; omega
    subst hw
    exact Goes.ret1 hTT rfl Try.func67 rfl rfl ⟨int_v (idx_none (fun j hj => hpre j hj (by omega))).symm, rfl⟩
theorem slices_ContainsFunc_int (a : Option Addr) (cap fk : Nat) (zs : List Int) (caps : List Value) (p : Int → Bool) (w : World) (hr : Rd .i64 w a zs) (hl : zs.length ≤ 9223372036854775807)
    (hf : ∀ x, x ∈ zs → Does Try.prog fk (.int .i64 x :: caps).toArray w (Same (.bool (p x)) w)) :
    Does Try.prog 56 #[.slice a zs.length cap, .func (.func fk) #[] caps.toArray] w (Same (.bool (zs.any p)) w) := by
  refine Does.enter Try.func56 rfl Try.ntmps56 rfl rfl ?_
  refine Goes.adv hTT 400 rfl ?_
  refine Goes.call rfl (slices_IndexFunc_int a cap fk zs caps p w hr hl hf) ?_
  rintro _ _ ⟨rfl, rfl⟩
  refine Goes.adv hTT 400 rfl ?_
  exact Goes.ret1 hTT rfl Try.func56 rfl rfl ⟨bool_v (by rw [Bool.eq_iff_iff]; simp only [decide_eq_true_eq]; exact idx_nonneg), rfl⟩
theorem slices_Index_bool (a : Option Addr) (cap : Nat) (bs : List Bool) (x : Bool) (w : World) (hr : RdB w a bs) (hl : bs.length ≤ 9223372036854775807) :
    Does Try.prog 68 #[.slice a bs.length cap, .bool x] w (Same (.int .i64 (idx (fun y => x == y) bs)) w) := by
  refine Does.enter Try.func68 rfl Try.ntmps68 rfl rfl ?_
  refine Goes.adv hTT 400 rfl ?_
  refine Goes.loop (α := Nat) (fun k => [(0, false, .slice a bs.length cap), (1, false, .bool x), (7, false, .int .i64 bs.length), (8, false, .int .i64 k)])
    (fun k w' => w' = w ∧ k ≤ bs.length ∧ ∀ j (h : j < bs.length), j < k → (x == bs[j]) = false) (fun k => bs.length - k) 0 ⟨rfl, rfl, rfl, rfl, trivial⟩ ⟨rfl, Nat.zero_le _, fun _ _ h => by omega⟩ ?_
  rintro k w1 ⟨hw, hk, hpre⟩ ih
  refine Goes.adv hTT 400 rfl ?_
  refine Goes.fork hTT rfl rfl rfl (fun h => ?_) (fun h => ?_)
  · have hlt : k < bs.length := by simpa using h
    obtain ⟨b, off, rfl, hc⟩ := hr k hlt
    subst hw
    refine Goes.index hTT rfl (j := k) (by omega) (by omega) (by first | rfl | omega | (simp; done) | (simp; omega)) rfl ?_
    refine Goes.load hTT rfl hc rfl ?_
    refine Goes.fork hTT rfl rfl rfl (fun hp => ?_) (fun hp => ?_)
    · exact Goes.ret1 hTT rfl Try.func68 rfl rfl ⟨int_v (idx_at (p := fun y => x == y) hlt hpre hp).symm, rfl⟩
    · refine Goes.arith hTT rfl (w64 (by omega)) rfl ?_
      exact ih (k + 1) _ _ ⟨rfl, hlt, fun j hj hjk => by
        by_cases e : j = k
        · subst e; exact hp
        · exact hpre j hj (by omega)⟩ (by omega) ⟨rfl, rfl, rfl, rfl, trivial⟩
  · have hge : k = bs.length := by simp at h; omega
    subst hw
    exact Goes.ret1 hTT rfl Try.func68 rfl rfl ⟨int_v (idx_none (p := fun y => x == y) (fun j hj => hpre j hj (by omega))).symm, rfl⟩
theorem slices_Contains_bool (a : Option Addr) (cap : Nat) (bs : List Bool) (x : Bool) (w : World) (hr : RdB w a bs) (hl : bs.length ≤ 9223372036854775807) :
    Does Try.prog 58 #[.slice a bs.length cap, .bool x] w (Same (.bool (bs.any fun y => x == y)) w) := by
  refine Does.enter Try.func58 rfl Try.ntmps58 rfl rfl ?_
  refine Goes.adv hTT 400 rfl ?_
  refine Goes.call rfl (slices_Index_bool a cap bs x w hr hl) ?_
  rintro _ _ ⟨rfl, rfl⟩
  refine Goes.adv hTT 400 rfl ?_
  exact Goes.ret1 hTT rfl Try.func58 rfl rfl ⟨bool_v (by rw [Bool.eq_iff_iff]; simp only [decide_eq_true_eq]; exact idx_nonneg), rfl⟩
end Go.Proofs.Ytffimkpllchfcaa
/-
  Layer 2: what classes may be.
-/
namespace Go.Proofs.Ytffimkpllchfcaa
open Go.RowKit

def okL (page : Int) : Int → List Int → Bool
  | _, [] => true
  | ahead, n :: r => decide (8 ≤ n) && (n % 8 == 0) && decide (n ≤ page) && decide (ahead < n) && okL page n r
def classOk (zs : List Int) (page : Int) : Bool := decide (0 < zs.length) && decide (zs.length ≤ 16) && okL page 0 zs
/-- class.May's answer: 0 is OK, 1 ErrArg. -/
def classMay (zs : List Int) (page : Int) : Int := if classOk zs page then 0 else 1
theorem okL_drop {page ahead : Int} {zs : List Int} {k : Nat} (h : k < zs.length) : okL page ahead (zs.drop k) = (decide (8 ≤ zs[k]) && (zs[k] % 8 == 0) && decide (zs[k] ≤ page) && decide (ahead < zs[k]) && okL page zs[k] (zs.drop (k + 1))) := by
  rw [List.drop_eq_getElem_cons h]; rfl
theorem okL_end {page ahead : Int} {zs : List Int} {k : Nat} (h : zs.length ≤ k) : okL page ahead (zs.drop k) = true := by
  rw [List.drop_eq_nil_of_le h]; rfl
theorem classMay_no {zs : List Int} {page : Int} (h : classOk zs page = false) : classMay zs page = 1 := by unfold classMay; rw [h]; rfl
theorem classMay_yes {zs : List Int} {page : Int} (h : classOk zs page = true) : classMay zs page = 0 := by unfold classMay; rw [h]; rfl

theorem okL_get {page : Int} : ∀ {zs : List Int} {ahead : Int}, okL page ahead zs = true → ∀ i (h : i < zs.length), 8 ≤ zs[i] ∧ zs[i] % 8 = 0 ∧ zs[i] ≤ page ∧ ahead < zs[i] ∧ ∀ j (hj : j < i), zs[j] < zs[i]
  | n :: r, ahead, h, i, hi => by
    simp only [okL, Bool.and_eq_true, decide_eq_true_eq, beq_iff_eq] at h
    obtain ⟨⟨⟨⟨h1, h2⟩, h3⟩, h4⟩, h5⟩ := h
    cases i with
    | zero => exact ⟨h1, h2, h3, h4, fun j hj => by omega⟩
    | succ i =>
      obtain ⟨g1, g2, g3, g4, g5⟩ := okL_get h5 i (by simpa using hi)
      refine ⟨g1, g2, g3, by simp only [List.getElem_cons_succ]; omega, fun j hj => ?_⟩
      cases j with
      | zero => exact g4
      | succ j => exact g5 j (by omega)
theorem classOk_len {zs : List Int} {page : Int} (h : classOk zs page = true) : 0 < zs.length ∧ zs.length ≤ 16 := by
  unfold classOk at h; simp only [Bool.and_eq_true, decide_eq_true_eq] at h; exact h.1
theorem classOk_get {zs : List Int} {page : Int} (h : classOk zs page = true) (i : Nat) (hi : i < zs.length) : 8 ≤ zs.getD i 0 ∧ zs.getD i 0 % 8 = 0 ∧ zs.getD i 0 ≤ page := by
  unfold classOk at h; simp only [Bool.and_eq_true, decide_eq_true_eq] at h
  obtain ⟨g1, g2, g3, _⟩ := okL_get h.2 i hi
  rw [getD_at hi]; exact ⟨g1, g2, g3⟩
theorem classOk_up {zs : List Int} {page : Int} (h : classOk zs page = true) (i : Nat) (hi : i + 1 < zs.length) : zs.getD i 0 < zs.getD (i + 1) 0 := by
  unfold classOk at h; simp only [Bool.and_eq_true, decide_eq_true_eq] at h
  obtain ⟨_, _, _, _, g⟩ := okL_get h.2 (i + 1) hi
  rw [getD_at hi, getD_at (show i < zs.length by omega)]; exact g i (by omega)
theorem class_May (a : Option Addr) (cap : Nat) (zs : List Int) (page : Int) (w : World) (hr : Rd .i64 w a zs) (hl : zs.length ≤ 9223372036854775807) :
    Does Try.prog 55 #[.slice a zs.length cap, .int .i64 page] w (Same (.int .i64 (classMay zs page)) w) := by
  refine Does.enter Try.func55 rfl Try.ntmps55 rfl rfl ?_
  refine Goes.adv hTT 400 rfl ?_
  refine Goes.fork hTT rfl rfl rfl (fun h0 => ?_) (fun h0 => ?_)
  · have hlen : 0 < zs.length := by simpa using h0
    by_cases hlen' : zs.length ≤ 16
    · refine Goes.knowB (t := 5) rfl (decide_eq_true (by omega)) ?_
      have hok : classOk zs page = okL page 0 (zs.drop 0) := by unfold classOk; rw [decide_eq_true hlen, decide_eq_true hlen']; simp
      refine Goes.loop (α := Nat × Int) (fun x => [(0, false, .slice a zs.length cap), (1, false, .int .i64 page), (5, true, .bool true), (6, false, .int .i64 x.2), (17, false, .slice a zs.length cap), (18, false, .int .i64 zs.length), (19, false, .int .i64 x.1)])
        (fun x w' => w' = w ∧ x.1 ≤ zs.length ∧ classOk zs page = okL page x.2 (zs.drop x.1)) (fun x => zs.length - x.1) (0, 0) ⟨rfl, rfl, rfl, rfl, rfl, rfl, rfl, trivial⟩ ⟨rfl, Nat.zero_le _, hok⟩ ?_
      rintro ⟨k, ahead⟩ w1 ⟨hw, hk, hc⟩ ih
      simp only at hk hc
      subst hw
      refine Goes.adv hTT 400 rfl ?_
      refine Goes.fork hTT rfl rfl rfl (fun h => ?_) (fun h => ?_)
      · have hlt : k < zs.length := by simpa using h
        rw [okL_drop hlt] at hc
        obtain ⟨b, off, rfl, hcell⟩ := hr k hlt
        rw [getD_at hlt] at hcell
        refine Goes.index hTT rfl (j := k) (by omega) (by omega) (by first | rfl | omega | (simp; done) | (simp; omega)) rfl ?_
        refine Goes.load hTT rfl hcell rfl ?_
        refine Goes.fork hTT rfl rfl rfl (fun h2 => ?_) (fun h2 => ?_)
        · have g2 : 8 ≤ zs[k] := of_decide_eq_true h2
          refine Goes.div hTT rfl (by omega) (rem_ (by omega)) rfl ?_
          refine Goes.fork hTT rfl rfl rfl (fun h3 => ?_) (fun h3 => ?_)
          · refine Goes.fork hTT rfl rfl rfl (fun h4 => ?_) (fun h4 => ?_)
            · refine Goes.fork hTT rfl rfl rfl (fun h5 => ?_) (fun h5 => ?_)
              · have g5 : ¬ ahead < zs[k] := by simpa using h5
                refine Goes.yes hTT rfl h5 rfl ?_
                exact Goes.ret1 hTT rfl Try.func55 rfl rfl ⟨int_v (classMay_no (by rw [hc, decide_eq_false g5]; simp)).symm, rfl⟩
              · have g5 : ahead < zs[k] := by simpa using h5
                refine Goes.arith hTT rfl (w64 (by omega)) rfl ?_
                exact ih (k + 1, zs[k]) _ _ ⟨rfl, hlt, by rw [hc, decide_eq_true g5, show decide (zs[k] ≤ page) = true from h4, h3, decide_eq_true g2]; rfl⟩ (by simp only; omega) ⟨rfl, rfl, bool_s (decide_eq_true g5), rfl, rfl, rfl, rfl, trivial⟩
            · exact Goes.ret1 hTT rfl Try.func55 rfl rfl ⟨int_v (classMay_no (by rw [hc, show decide (zs[k] ≤ page) = false from h4]; simp)).symm, rfl⟩
          · exact Goes.ret1 hTT rfl Try.func55 rfl rfl ⟨int_v (classMay_no (by rw [hc, h3]; simp)).symm, rfl⟩
        · exact Goes.ret1 hTT rfl Try.func55 rfl rfl ⟨int_v (classMay_no (by rw [hc, show decide (8 ≤ zs[k]) = false from h2]; simp)).symm, rfl⟩
      · have hge : zs.length ≤ k := by have := of_decide_eq_false h; omega
        exact Goes.ret1 hTT rfl Try.func55 rfl rfl ⟨int_v (classMay_yes (by rw [hc, okL_end hge])).symm, rfl⟩
    · refine Goes.knowB (t := 5) rfl (decide_eq_false (by omega)) ?_
      refine Goes.unroll hTT rfl ?_
      refine Goes.yes hTT rfl (decide_eq_true (by omega)) rfl ?_
      obtain ⟨b, off, rfl, hcell⟩ := hr 0 hlen
      rw [getD_at hlen] at hcell
      refine Goes.index hTT rfl (j := 0) (by omega) (by omega) (by first | rfl | omega | (simp; done) | (simp; omega)) rfl ?_
      refine Goes.load hTT rfl hcell rfl ?_
      exact Goes.ret1 hTT rfl Try.func55 rfl rfl ⟨int_v (classMay_no (by unfold classOk; rw [decide_eq_false hlen']; simp)).symm, rfl⟩
  · have hlen : ¬ 0 < zs.length := by have h2 := of_decide_eq_false h0; omega
    refine Goes.unroll hTT rfl ?_
    refine Goes.no hTT rfl (decide_eq_false (by omega)) rfl ?_
    exact Goes.ret1 hTT rfl Try.func55 rfl rfl ⟨int_v (classMay_no (by unfold classOk; rw [decide_eq_false hlen]; simp)).symm, rfl⟩
def prevOf (zs : List Int) (k : Nat) : Int := if k = 0 then 0 else zs.getD (k - 1) 0
theorem prevOf_succ {zs : List Int} {k : Nat} (h : k < zs.length) : prevOf zs (k + 1) = zs[k] := by simp [prevOf, h]
theorem okL_step {page ahead n : Int} {r : List Int} (h1 : 8 ≤ n) (h2 : n % 8 = 0) (h3 : n ≤ page) (h4 : ahead < n) : (decide (8 ≤ n) && (n % 8 == 0) && decide (n ≤ page) && decide (ahead < n) && okL page n r) = okL page n r := by
  rw [decide_eq_true h1, decide_eq_true h3, decide_eq_true h4, show (n % 8 == 0) = true from by simpa using h2]; rfl
theorem ref02_May (a : Option Addr) (cap : Nat) (zs : List Int) (page : Int) (w : World) (hr : Rd .i64 w a zs) (hl : zs.length ≤ 9223372036854775807) :
    Does Try.prog 50 #[.slice a zs.length cap, .int .i64 page] w (Grow (.int .i64 (classMay zs page)) w) := by
  refine Does.enter Try.func50 rfl Try.ntmps50 rfl rfl ?_
  refine Goes.adv hTT 400 rfl ?_
  refine Goes.fork hTT rfl rfl rfl (fun h0 => ?_) (fun h0 => ?_)
  · have g0 : zs.length = 0 := by have := of_decide_eq_true h0; omega
    exact Goes.ret1 hTT rfl Try.func50 rfl rfl ⟨int_v (classMay_no (by unfold classOk; rw [decide_eq_false (by omega)]; simp)).symm, Chg.refl _ _⟩
  · have g0 : ¬ zs.length = 0 := by have := of_decide_eq_false h0; omega
    refine Goes.fork hTT rfl rfl rfl (fun h1 => ?_) (fun h1 => ?_)
    · have g1 := of_decide_eq_true h1
      exact Goes.ret1 hTT rfl Try.func50 rfl rfl ⟨int_v (classMay_no (by unfold classOk; rw [decide_eq_false (show ¬ zs.length ≤ 16 from by omega)]; simp)).symm, Chg.refl _ _⟩
    · have g1 := of_decide_eq_false h1
      have hok : classOk zs page = okL page (prevOf zs 0) (zs.drop 0) := by unfold classOk; rw [decide_eq_true (by omega), decide_eq_true (by omega)]; simp [prevOf]
      refine Goes.loop (α := Nat) (fun k => [(0, false, .slice a zs.length cap), (1, false, .int .i64 page), (5, false, .int .i64 k)])
        (fun k w' => Chg None' w w' ∧ k ≤ zs.length ∧ classOk zs page = okL page (prevOf zs k) (zs.drop k)) (fun k => zs.length - k) 0 ⟨rfl, rfl, rfl, trivial⟩ ⟨Chg.refl _ _, Nat.zero_le _, hok⟩ ?_
      rintro k w1 ⟨hw, hk, hc⟩ ih
      refine Goes.adv hTT 400 rfl ?_
      refine Goes.fork hTT rfl rfl rfl (fun h => ?_) (fun h => ?_)
      · have hlt : k < zs.length := by simpa using h
        rw [okL_drop hlt] at hc
        have hr1 := hr.chg hw
        obtain ⟨b, off, rfl, hcell⟩ := hr1 k hlt
        rw [getD_at hlt] at hcell
        refine Goes.quiet rfl mixed (by kernel_rfl) ?_
        refine Quiet.adv hTT rfl ?_
        refine Quiet.index hTT rfl (j := k) (by omega) (by omega) (by first | rfl | omega | (simp; done) | (simp; omega)) rfl ?_
        refine Quiet.load hTT rfl hcell rfl ?_
        refine Quiet.fork hTT rfl rfl rfl (fun h2 => ?_) (fun h2 => ?_)
        · refine Quiet.nil ?_
          intro w2 hw2
          refine Goes.adv hTT 400 rfl ?_
          exact Goes.ret1 hTT rfl Try.func50 rfl rfl ⟨int_v (classMay_no (by rw [hc, decide_eq_false (show ¬ 8 ≤ zs[k] from by have := of_decide_eq_true h2; omega)]; simp)).symm, hw.trans hw2⟩
        · have g2 := of_decide_eq_false h2
          refine Quiet.index hTT rfl (j := k) (by omega) (by omega) (by first | rfl | omega | (simp; done) | (simp; omega)) rfl ?_
          refine Quiet.load hTT rfl hcell rfl ?_
          refine Quiet.div hTT rfl (by omega) (rem_ (by omega)) rfl ?_
          refine Quiet.fork hTT rfl rfl rfl (fun h3 => ?_) (fun h3 => ?_)
          · refine Quiet.nil ?_
            intro w2 hw2
            refine Goes.adv hTT 400 rfl ?_
            exact Goes.ret1 hTT rfl Try.func50 rfl rfl ⟨int_v (classMay_no (by rw [hc, show (zs[k] % 8 == 0) = false from by simpa using h3]; simp)).symm, hw.trans hw2⟩
          · refine Quiet.index hTT rfl (j := k) (by omega) (by omega) (by first | rfl | omega | (simp; done) | (simp; omega)) rfl ?_
            refine Quiet.load hTT rfl hcell rfl ?_
            refine Quiet.fork hTT rfl rfl rfl (fun h4 => ?_) (fun h4 => ?_)
            · refine Quiet.nil ?_
              intro w2 hw2
              refine Goes.adv hTT 400 rfl ?_
              exact Goes.ret1 hTT rfl Try.func50 rfl rfl ⟨int_v (classMay_no (by rw [hc, decide_eq_false (show ¬ zs[k] ≤ page from by have := of_decide_eq_true h4; omega)]; simp)).symm, hw.trans hw2⟩
            · have g4 := of_decide_eq_false h4
              refine Quiet.fork hTT rfl rfl rfl (fun h5 => ?_) (fun h5 => ?_)
              · have g5 := of_decide_eq_true h5
                obtain ⟨b', off', e', hcell'⟩ := hr1 (k - 1) (by omega)
                simp only [Option.some.injEq, Addr.mk.injEq] at e'
                obtain ⟨rfl, rfl, _⟩ := e'
                refine Quiet.index hTT rfl (j := k) (by omega) (by omega) (by first | rfl | omega | (simp; done) | (simp; omega)) rfl ?_
                refine Quiet.load hTT rfl hcell rfl ?_
                refine Quiet.arith hTT rfl (w64 (by omega)) rfl ?_
                refine Quiet.index hTT rfl (j := (k - 1)) (by omega) (by omega) (by first | rfl | omega | (simp; done) | (simp; omega)) rfl ?_
                refine Quiet.load hTT rfl hcell' rfl ?_
                refine Quiet.nil ?_
                intro w2 hw2
                refine Goes.adv hTT 400 rfl ?_
                have hp : prevOf zs k = zs.getD (k - 1) 0 := by unfold prevOf; rw [if_neg (by omega)]
                refine Goes.fork hTT rfl rfl rfl (fun h6 => ?_) (fun h6 => ?_)
                · have g6 := of_decide_eq_true h6
                  exact Goes.ret1 hTT rfl Try.func50 rfl rfl ⟨int_v (classMay_no (by rw [hc, hp, decide_eq_false (show ¬ zs.getD (k - 1) 0 < zs[k] from by omega)]; simp)).symm, hw.trans hw2⟩
                · have g6 := of_decide_eq_false h6
                  refine Goes.arith hTT rfl (w64 (by omega)) rfl ?_
                  exact ih (k + 1) _ _ ⟨hw.trans hw2, hlt, by rw [hc, okL_step (by omega) (by simpa using h3) (by omega) (by omega), prevOf_succ hlt]⟩ (by omega) ⟨rfl, rfl, rfl, trivial⟩
              · have g5 : k = 0 := by have := of_decide_eq_false h5; omega
                subst g5
                refine Quiet.nil ?_
                intro w2 hw2
                refine Goes.adv hTT 400 rfl ?_
                refine Goes.arith hTT rfl (w64 (by omega)) rfl ?_
                exact ih 1 _ _ ⟨hw.trans hw2, hlt, by rw [hc, okL_step (by omega) (by simpa using h3) (by omega) (by simp [prevOf]; omega), prevOf_succ hlt]⟩ (by omega) ⟨rfl, rfl, rfl, trivial⟩
      · have hge : zs.length ≤ k := by have := of_decide_eq_false h; omega
        exact Goes.ret1 hTT rfl Try.func50 rfl rfl ⟨int_v (classMay_yes (by rw [hc, okL_end hge])).symm, hw⟩
end Go.Proofs.Ytffimkpllchfcaa
/-
  Layer 3: how a heap is laid out: what its functions answer, and what the document's functions answer.
-/
namespace Go.Proofs.Ytffimkpllchfcaa
open Go.RowKit

/-- A layout. -/
structure Conf where
  size : Int
  pages : Int
  classes : List Int
  keep : List Int
  step : Int
  slots : Int
  gens : Int
  most : Int
/-- Where a layout's lists lie. -/
structure ConfAt where
  ca : Option Addr
  cc : Nat
  ka : Option Addr
  kc : Nat
def confL (c : Conf) (p : ConfAt) : List Value :=
  [.int .i64 c.size, .int .i64 c.pages, .slice p.ca c.classes.length p.cc, .slice p.ka c.keep.length p.kc, .int .i64 c.step, .int .i64 c.slots, .int .i64 c.gens, .int .i64 c.most]
def In64 (x : Int) : Prop := -9223372036854775808 ≤ x ∧ x ≤ 9223372036854775807
structure ConfOk (w : World) (c : Conf) (p : ConfAt) : Prop where
  classes : Rd .i64 w p.ca c.classes
  keep : Rd .i64 w p.ka c.keep
  lc : c.classes.length ≤ 9223372036854775807
  lk : c.keep.length ≤ 9223372036854775807
  size : In64 c.size
theorem ConfOk.chg {w w' : World} {c : Conf} {p : ConfAt} (h : ConfOk w c p) (hw : Chg None' w w') : ConfOk w' c p :=
  ⟨h.classes.chg hw, h.keep.chg hw, h.lc, h.lk, h.size⟩

def sizedM (n : Int) : Bool := decide (64 ≤ n) && decide (n ≤ 4096) && (n % 8 == 0)
def largeM (c : Conf) : Int := if sizedM c.size then c.size * (c.size / 8) else 0
def blocksM (c : Conf) (k : Int) : Int := if 0 ≤ k ∧ k < c.classes.length then whole c.size (c.classes.getD k.toNat 0) else 0
def smallM (c : Conf) : Int := if c.classes.length = 0 then 0 else c.classes.getD (c.classes.length - 1) 0
def withinM (n a b : Int) : Bool := decide (a ≤ n) && decide (n ≤ b)
def keepBad (k : Int) : Bool := !withinM k 0 1024
def mayB (c : Conf) : Bool :=
  sizedM c.size && withinM c.pages 1 1024 && classOk c.classes c.size && (decide (c.keep.length = c.classes.length) && !c.keep.any keepBad) && withinM c.step 1 65536 && withinM c.slots 1 4096 && withinM c.gens 1 1023 && withinM c.most 1 (largeM c)
def mayM (c : Conf) : Int := if mayB c then 0 else 1
theorem sizedM_iff {n : Int} : sizedM n = true ↔ 64 ≤ n ∧ n ≤ 4096 ∧ n % 8 = 0 := by
  unfold sizedM; simp [and_assoc]

theorem conf_within (n a b : Int) (w : World) : Does Try.prog 53 #[.int .i64 n, .int .i64 a, .int .i64 b] w (Same (.bool (withinM n a b)) w) := by
  refine Does.enter Try.func53 rfl Try.ntmps53 rfl rfl ?_
  refine Goes.adv hTT 400 rfl ?_
  refine Goes.fork hTT rfl rfl rfl (fun h => ?_) (fun h => ?_)
  · exact Goes.ret1 hTT rfl Try.func53 rfl rfl ⟨bool_v (by unfold withinM; rw [show decide (a ≤ n) = true from h]; rfl), rfl⟩
  · exact Goes.ret1 hTT rfl Try.func53 rfl rfl ⟨bool_v (by unfold withinM; rw [show decide (a ≤ n) = false from h]; rfl), rfl⟩
theorem conf_sized (n : Int) (w : World) : Does Try.prog 54 #[.int .i64 n] w (Same (.bool (sizedM n)) w) := by
  refine Does.enter Try.func54 rfl Try.ntmps54 rfl rfl ?_
  refine Goes.adv hTT 400 rfl ?_
  refine Goes.call rfl (conf_within n 64 4096 w) ?_
  rintro _ _ ⟨rfl, rfl⟩
  refine Goes.adv hTT 400 rfl ?_
  refine Goes.fork hTT rfl rfl rfl (fun h => ?_) (fun h => ?_)
  · have h' : 0 ≤ n := by unfold withinM at h; simp at h; omega
    refine Goes.div hTT rfl (by omega) (rem_ (by omega)) rfl ?_
    exact Goes.ret1 hTT rfl Try.func54 rfl rfl ⟨bool_v (by unfold sizedM; rw [show (decide (64 ≤ n) && decide (n ≤ 4096)) = true from h]; rfl), rfl⟩
  · exact Goes.ret1 hTT rfl Try.func54 rfl rfl ⟨bool_v (by unfold sizedM; rw [show (decide (64 ≤ n) && decide (n ≤ 4096)) = false from h]; rfl), rfl⟩
theorem conf_Large (c : Conf) (p : ConfAt) (w : World) : Does Try.prog 57 #[.agg (confL c p).toArray] w (Grow (.int .i64 (largeM c)) w) := by
  refine Does.enter Try.func57 rfl Try.ntmps57 rfl rfl ?_
  refine Goes.adv hTT 400 rfl ?_
  refine Goes.alloc hTT rfl ?_
  intro b w1 e1 hb hw1 hz1
  refine Goes.adv hTT 400 rfl ?_
  refine Goes.loadb hTT rfl hb rfl rfl ?_
  refine Goes.call rfl (conf_sized c.size w1) ?_
  rintro _ _ ⟨rfl, rfl⟩
  refine Goes.adv hTT 400 rfl ?_
  refine Goes.fork hTT rfl rfl rfl (fun h => ?_) (fun h => ?_)
  · have h' : sizedM c.size = false := by simpa using h
    exact Goes.ret1 hTT rfl Try.func57 rfl rfl ⟨int_v (by unfold largeM; rw [h']; rfl), hw1⟩
  · have h' : sizedM c.size = true := by simpa using h
    have h2 := sizedM_iff.1 h'
    have h3 : 0 ≤ c.size / 8 ∧ c.size / 8 ≤ 512 := by omega
    have h4 : 0 ≤ c.size * (c.size / 8) := Int.mul_nonneg (by omega) h3.1
    have h5 : c.size * (c.size / 8) ≤ 4096 * 512 := Int.mul_le_mul h2.2.1 h3.2 h3.1 (by omega)
    refine Goes.loadb hTT rfl hb rfl rfl ?_
    refine Goes.loadb hTT rfl hb rfl rfl ?_
    refine Goes.div hTT rfl (by omega) (quo64 (by omega) (by omega)) rfl ?_
    refine Goes.arith hTT rfl (w64 (by omega)) rfl ?_
    exact Goes.ret1 hTT rfl Try.func57 rfl rfl ⟨int_v (by unfold largeM; rw [h']; rfl), hw1⟩
theorem conf_Blocks (c : Conf) (p : ConfAt) (k : Int) (w : World) (hc : ConfOk w c p) : Does Try.prog 61 #[.agg (confL c p).toArray, .int .i64 k] w (Grow (.int .i64 (blocksM c k)) w) := by
  have hl := hc.lc
  have hs := hc.size
  unfold In64 at hs
  refine Does.enter Try.func61 rfl Try.ntmps61 rfl rfl ?_
  refine Goes.adv hTT 400 rfl ?_
  refine Goes.alloc hTT rfl ?_
  intro b w1 e1 hb hw1 hz1
  refine Goes.adv hTT 400 rfl ?_
  refine Goes.fork hTT rfl rfl rfl (fun h => ?_) (fun h => ?_)
  · have h' : k < 0 := of_decide_eq_true h
    exact Goes.ret1 hTT rfl Try.func61 rfl rfl ⟨int_v (by unfold blocksM; rw [if_neg (by omega)]), hw1⟩
  · have h' : ¬ k < 0 := of_decide_eq_false h
    refine Goes.loadb hTT rfl hb rfl rfl ?_
    refine Goes.fork hTT rfl rfl rfl (fun h2 => ?_) (fun h2 => ?_)
    · have h3 := of_decide_eq_true h2
      exact Goes.ret1 hTT rfl Try.func61 rfl rfl ⟨int_v (by unfold blocksM; rw [if_neg (by omega)]), hw1⟩
    · have h3 := of_decide_eq_false h2
      obtain ⟨b1, off, ea, hcell⟩ := (hc.chg hw1).classes k.toNat (by omega)
      obtain ⟨ca, cc, ka, kc⟩ := p
      simp only at ea
      subst ea
      refine Goes.quiet rfl mixed (by kernel_rfl) ?_
      refine Quiet.adv hTT rfl ?_
      refine Quiet.loadb hTT rfl hb rfl rfl ?_
      refine Quiet.loadb hTT rfl hb rfl rfl ?_
      refine Quiet.index hTT rfl (j := k.toNat) (by omega) (by omega) (by first | rfl | omega | (simp; done) | (simp; omega)) rfl ?_
      refine Quiet.load hTT rfl hcell rfl ?_
      refine Quiet.call hTT rfl (fun w' hw' => (unit_Whole c.size (c.classes.getD k.toNat 0) w' hs.2).grow) rfl ?_
      refine Quiet.nil ?_
      intro w2 hw2
      refine Goes.adv hTT 400 rfl ?_
      exact Goes.ret1 hTT rfl Try.func61 rfl rfl ⟨int_v (by unfold blocksM; rw [if_pos (by omega)]), hw1.trans hw2⟩
theorem conf_May1 (k : Int) (w : World) : Does Try.prog 52 #[.int .i64 k] w (Same (.bool (keepBad k)) w) := by
  refine Does.enter Try.func52 rfl Try.ntmps52 rfl rfl ?_
  refine Goes.adv hTT 400 rfl ?_
  refine Goes.call rfl (conf_within k 0 1024 w) ?_
  rintro _ _ ⟨rfl, rfl⟩
  refine Goes.adv hTT 400 rfl ?_
  exact Goes.ret1 hTT rfl Try.func52 rfl rfl ⟨rfl, rfl⟩
theorem conf_May (c : Conf) (p : ConfAt) (w : World) (hc : ConfOk w c p) : Does Try.prog 33 #[.agg (confL c p).toArray] w (Grow (.int .i64 (mayM c)) w) := by
  have hl := hc.lc
  have hlk := hc.lk
  refine Does.enter Try.func33 rfl Try.ntmps33 rfl rfl ?_
  refine Goes.adv hTT 400 rfl ?_
  refine Goes.alloc hTT rfl ?_
  intro b w1 e1 hb hw1 hz1
  refine Goes.adv hTT 400 rfl ?_
  have hc1 := hc.chg hw1
  refine Goes.quietF (q := 41) hTT mixed (by kernel_rfl) rfl rfl rfl rfl ?_
  refine Quiet.adv hTT rfl ?_
  refine Quiet.loadb hTT rfl hb rfl rfl ?_
  refine Quiet.call hTT rfl (fun w' hw' => (conf_sized c.size w').grow) rfl ?_
  refine Quiet.loadb hTT rfl hb rfl rfl ?_
  refine Quiet.call hTT rfl (fun w' hw' => (conf_within c.pages 1 1024 w').grow) rfl ?_
  refine Quiet.loadb hTT rfl hb rfl rfl ?_
  refine Quiet.loadb hTT rfl hb rfl rfl ?_
  refine Quiet.call hTT rfl (fun w' hw' => (class_May p.ca p.cc c.classes c.size w' (hc1.classes.chg hw') hl).grow) rfl ?_
  refine Quiet.loadb hTT rfl hb rfl rfl ?_
  refine Quiet.loadb hTT rfl hb rfl rfl ?_
  have fin : ∀ (kk : Bool), (decide (c.keep.length = c.classes.length) && !c.keep.any keepBad) = kk → 
      ([sizedM c.size, withinM c.pages 1 1024, (classMay c.classes c.size == 0), kk, withinM c.step 1 65536, withinM c.slots 1 4096, withinM c.gens 1 1023, withinM c.most 1 (largeM c)].any fun y => false == y) = !mayB c := by
    intro kk hk
    unfold mayB
    rw [hk]
    have : (classMay c.classes c.size == 0) = classOk c.classes c.size := by unfold classMay; cases classOk c.classes c.size <;> rfl
    rw [this]
    cases sizedM c.size <;> cases withinM c.pages 1 1024 <;> cases classOk c.classes c.size <;> cases kk <;> cases withinM c.step 1 65536 <;> cases withinM c.slots 1 4096 <;> cases withinM c.gens 1 1023 <;> cases withinM c.most 1 (largeM c) <;> rfl
  refine Quiet.fork hTT rfl rfl rfl (fun h => ?_) (fun h => ?_)
  case' refine_1 =>
    refine Quiet.loadb hTT rfl hb rfl rfl ?_
    refine Quiet.call hTT rfl (fun w' hw' => (slices_ContainsFunc_int p.ka p.kc 52 c.keep [] keepBad w' (hc1.keep.chg hw') hlk (fun x _ => conf_May1 x w')).grow) rfl ?_
  all_goals
    refine Quiet.loadb hTT rfl hb rfl rfl ?_
    refine Quiet.call hTT rfl (fun w' hw' => (conf_within c.step 1 65536 w').grow) rfl ?_
    refine Quiet.loadb hTT rfl hb rfl rfl ?_
    refine Quiet.call hTT rfl (fun w' hw' => (conf_within c.slots 1 4096 w').grow) rfl ?_
    refine Quiet.loadb hTT rfl hb rfl rfl ?_
    refine Quiet.call hTT rfl (fun w' hw' => (conf_within c.gens 1 1023 w').grow) rfl ?_
    refine Quiet.loadb hTT rfl hb rfl rfl ?_
    refine Quiet.loads hTT rfl hb rfl rfl ?_
    refine Quiet.call hTT rfl (fun w' hw' => conf_Large c p w') rfl ?_
    refine Quiet.call hTT rfl (fun w' hw' => (conf_within c.most 1 (largeM c) w').grow) rfl ?_
    refine Quiet.build hTT rfl rfl ?_
    refine Quiet.nil ?_
    intro b2 w2 hw2 hb2 hz2
    refine Goes.adv hTT 400 rfl ?_
    refine Goes.store hTT rfl hz2 rfl rfl ?_
    intro w3 hb3 hw3 hz3
    refine Goes.adv hTT 400 rfl ?_
    refine Goes.slice hTT rfl (l := 0) (h := 8) (by first | rfl | omega | simp [loV]) (by first | rfl | omega | simp [hiV]) (by omega) (by omega) rfl ?_
    have hr3 : RdB w3 (some ⟨b2, 0, none⟩) [sizedM c.size, withinM c.pages 1 1024, (classMay c.classes c.size == 0), (decide (c.keep.length = c.classes.length) && !c.keep.any keepBad), withinM c.step 1 65536, withinM c.slots 1 4096, withinM c.gens 1 1023, withinM c.most 1 (largeM c)] := by
      have hkk : (c.keep.length : Int) = c.classes.length ↔ c.keep.length = c.classes.length := by omega
      refine RdB.of hb3 ?_
      simp only [hkk, beq_iff_eq, beq_eq_false_iff_ne, ne_eq] at h
      simp [h]
    refine Goes.call rfl (slices_Contains_bool (some ⟨b2, 0, none⟩) 8 _ false w3 hr3 (by simp)) ?_
    rintro _ _ ⟨rfl, rfl⟩
    refine Goes.adv hTT 400 rfl ?_
    have hf := fin _ rfl
    have hw : Chg None' w w3 := (hw1.trans hw2).since hw3 (fun k hk hk' => by have := hw1.size; subst hk'; omega)
    refine Goes.fork hTT rfl rfl rfl (fun hh => ?_) (fun hh => ?_)
    · exact Goes.ret1 hTT rfl Try.func33 rfl rfl ⟨int_v (by rw [fin _ rfl] at hh; unfold mayM; rw [if_neg (by simpa using hh)]), hw⟩
    · exact Goes.ret1 hTT rfl Try.func33 rfl rfl ⟨int_v (by rw [fin _ rfl] at hh; unfold mayM; rw [if_pos (by simpa using hh)]), hw⟩
end Go.Proofs.Ytffimkpllchfcaa
/-
  Layer 5: the meter.
-/
namespace Go.Proofs.Ytffimkpllchfcaa
open Go.RowKit

/-- A meter's block. -/
def MeterAt (w : World) (b : Nat) (total lap : Int) : Prop := w.heap[b]? = some (.cells #[.int .i64 total, .int .i64 lap] 83 (0, 0)) ∧ 0 ≤ lap ∧ lap ≤ total ∧ total ≤ 4611686018427387904
def charged (total n : Int) : Int := if n < 1 then total else total + min n (4611686018427387904 - total)
theorem charged_le {total n : Int} (h : 0 ≤ total ∧ total ≤ 4611686018427387904) : total ≤ charged total n ∧ charged total n ≤ 4611686018427387904 := by
  unfold charged; split <;> omega
/-- A meter, or none. -/
abbrev ptr (b : Option Nat) : Value := .pointer (b.map fun b => ⟨b, 0, none⟩)

theorem meter_New (w : World) : Does Try.prog 22 #[] w (fun v w' => v = .pointer (some ⟨w.heap.size, 0, none⟩) ∧ MeterAt w' w.heap.size 0 0 ∧ Chg None' w w' ∧ w'.heap.size = w.heap.size + 1) := by
  refine Does.enter Try.func22 rfl Try.ntmps22 rfl rfl ?_
  refine Goes.adv hTT 400 rfl ?_
  refine Goes.build hTT rfl rfl ?_
  refine Goes.alloc hTT rfl ?_
  intro b w1 e1 hb hw1 hz1
  refine Goes.adv hTT 400 rfl ?_
  subst e1
  exact Goes.ret1 hTT rfl Try.func22 rfl rfl ⟨rfl, ⟨hb, by omega, by omega, by omega⟩, hw1, hz1⟩
theorem meter_Total (b : Nat) (total lap : Int) (w : World) (h : MeterAt w b total lap) : Does Try.prog 25 #[.pointer (some ⟨b, 0, none⟩)] w (Same (.int .i64 total) w) := by
  obtain ⟨hb, _⟩ := h
  refine Does.enter Try.func25 rfl Try.ntmps25 rfl rfl ?_
  refine Goes.adv hTT 400 rfl ?_
  refine Goes.loadb hTT rfl hb rfl rfl ?_
  exact Goes.ret1 hTT rfl Try.func25 rfl rfl ⟨rfl, rfl⟩
theorem meter_room (b : Nat) (total lap : Int) (w : World) (h : MeterAt w b total lap) : Does Try.prog 51 #[.pointer (some ⟨b, 0, none⟩)] w (Same (.int .i64 (4611686018427387904 - total)) w) := by
  obtain ⟨hb, h1, h2, h3⟩ := h
  refine Does.enter Try.func51 rfl Try.ntmps51 rfl rfl ?_
  refine Goes.adv hTT 400 rfl ?_
  refine Goes.loadb hTT rfl hb rfl rfl ?_
  refine Goes.arith hTT rfl (w64 (by omega)) rfl ?_
  exact Goes.ret1 hTT rfl Try.func51 rfl rfl ⟨rfl, rfl⟩
theorem MeterAt.chg {w w' : World} {b : Nat} {total lap : Int} (h : MeterAt w b total lap) (hc : Chg None' w w') : MeterAt w' b total lap := ⟨hc.heap' h.1, h.2⟩
theorem meter_Charge (b : Nat) (total lap n : Int) (w : World) (h : MeterAt w b total lap) : Does Try.prog 32 #[.pointer (some ⟨b, 0, none⟩), .int .i64 n] w (fun _ w' => MeterAt w' b (charged total n) lap ∧ Chg (fun x => x = b) w w') := by
  have h' := h
  obtain ⟨hb, h1, h2, h3⟩ := h
  refine Does.enter Try.func32 rfl Try.ntmps32 rfl rfl ?_
  refine Goes.adv hTT 400 rfl ?_
  refine Goes.fork hTT rfl rfl rfl (fun h0 => ?_) (fun h0 => ?_)
  · exact Goes.ret0 hTT rfl Try.func32 rfl ⟨by unfold charged; rw [if_pos (of_decide_eq_true h0)]; exact h', Chg.refl _ _⟩
  · have h0' := of_decide_eq_false h0
    refine Goes.drawn (q := 9) None' hTT mixed (by kernel_rfl) rfl ?_
    intro hB
    refine Drawn.loadb hTT hB rfl hb (by first | exact fun h => h | (intro h; omega) | assumption) rfl rfl ?_
    refine Drawn.call hTT hB rfl (fun w' hw' => (meter_room b total lap w' ((show MeterAt w b total lap from h').chg hw')).grow) rfl ?_
    refine Drawn.arith hTT hB rfl (w64 (by omega)) rfl ?_
    refine Drawn.nil hB ?_
    intro w1 hw1
    refine Goes.adv hTT 400 rfl ?_
    refine Goes.store hTT rfl (hw1.heap' hb) rfl rfl ?_
    intro w2 hb2 hw2 hz2
    refine Goes.adv hTT 400 rfl ?_
    have e : total + (if 4611686018427387904 - total < n then 4611686018427387904 - total else n) = charged total n := by unfold charged; rw [if_neg h0']; split <;> omega
    rw [e] at hb2
    have := charged_le (n := n) ⟨by omega, h3⟩
    exact Goes.ret0 hTT rfl Try.func32 rfl ⟨⟨hb2, h1, by omega, by omega⟩, (Chg.refl _ w).trans ((hw1.mono (fun _ _ h => h.elim)).trans hw2)⟩
theorem meter_Charge0 (n : Int) (w : World) : Does Try.prog 32 #[.pointer none, .int .i64 n] w (fun _ w' => w = w') := by
  refine Does.enter Try.func32 rfl Try.ntmps32 rfl rfl ?_
  refine Goes.adv hTT 400 rfl ?_
  exact Goes.ret0 hTT rfl Try.func32 rfl rfl
end Go.Proofs.Ytffimkpllchfcaa
/-
  Layer 6: the arena: how it lies, what its inner functions answer.
-/
namespace Go.Proofs.Ytffimkpllchfcaa
open Go.RowKit

/-- Where an arena lies: itself, its bytes, the variable that holds its meter, its meter. -/
structure Ar where
  ab : Nat
  db : Nat
  mc : Nat
  mb : Option Nat
structure ArV where
  bs : List Int
  total : Int
  lap : Int
abbrev usedV (A : Ar) : Value := .func (.func 31) #[] #[.pointer (some ⟨A.mc, 0, none⟩)]
structure ArOk (w : World) (A : Ar) (V : ArV) : Prop where
  obj : w.heap[A.ab]? = some (.cells #[.slice (some ⟨A.db, 0, none⟩) V.bs.length V.bs.length, usedV A] 72 (0, 0))
  dat : w.heap[A.db]? = some (.cells (V.bs.map (Value.int .u8)).toArray 5 (0, 0))
  cap : w.heap[A.mc]? = some (.cells #[ptr A.mb] 58 (0, 0))
  met : ∀ b, A.mb = some b → MeterAt w b V.total V.lap
  len : V.bs.length ≤ 4194304
  rng : ∀ x ∈ V.bs, 0 ≤ x ∧ x < 256
theorem blk_ne {w : World} {a b t t' : Nat} {c c' : Array Value} {f f' : Nat × Nat} (h : w.heap[a]? = some (.cells c t f)) (h' : w.heap[b]? = some (.cells c' t' f')) (ht : t ≠ t') : a ≠ b := by
  intro e; subst e; rw [h] at h'; cases h'; exact ht rfl
/-- The meter's block. -/
def mFoot (A : Ar) : Nat → Prop := fun b => A.mb = some b
/-- What an arena's operations write. -/
def foot (A : Ar) : Nat → Prop := fun b => b = A.db ∨ A.mb = some b
def ArV.charge (V : ArV) (A : Ar) (n : Int) : ArV := match A.mb with
  | none => V
  | some _ => { V with total := charged V.total n }
theorem ArV.charge_bs (V : ArV) (A : Ar) (n : Int) : (V.charge A n).bs = V.bs := by unfold ArV.charge; split <;> rfl
theorem ArV.charge_lap (V : ArV) (A : Ar) (n : Int) : (V.charge A n).lap = V.lap := by unfold ArV.charge; split <;> rfl
theorem ArOk.chg {w w' : World} {A : Ar} {V : ArV} {S : Nat → Prop} (h : ArOk w A V) (hc : Chg S w w') (hs : ∀ b, b = A.ab ∨ b = A.db ∨ b = A.mc ∨ A.mb = some b → ¬ S b) : ArOk w' A V :=
  ⟨hc.heap h.obj (hs _ (.inl rfl)), hc.heap h.dat (hs _ (.inr (.inl rfl))), hc.heap h.cap (hs _ (.inr (.inr (.inl rfl)))), fun b hb => ⟨hc.heap (h.met b hb).1 (hs _ (.inr (.inr (.inr hb)))), (h.met b hb).2⟩, h.len, h.rng⟩
theorem ArOk.grow {w w' : World} {A : Ar} {V : ArV} (h : ArOk w A V) (hc : Chg None' w w') : ArOk w' A V := h.chg hc fun _ _ h => h
theorem ArOk.metered {w w' : World} {A : Ar} {V : ArV} {b : Nat} {t : Int} (h : ArOk w A V) (hb : A.mb = some b) (hm : MeterAt w' b t V.lap) (hc : Chg (fun x => x = b) w w') : ArOk w' A { V with total := t } := by
  have h0 := (h.met b hb).1
  refine ⟨hc.heap h.obj (fun e => blk_ne h.obj h0 (by decide) e), hc.heap h.dat (fun e => blk_ne h.dat h0 (by decide) e), hc.heap h.cap (fun e => blk_ne h.cap h0 (by decide) e), fun b' hb' => ?_, h.len, h.rng⟩
  rw [hb] at hb'; cases hb'; exact hm
/-- Are the bytes there? -/
def thereB (N : Nat) (at' n : Int) : Bool := decide (0 ≤ at') && decide (0 ≤ n) && decide (n ≤ N) && decide (at' ≤ N - n)
theorem thereB_iff {N : Nat} {at' n : Int} : thereB N at' n = true ↔ 0 ≤ at' ∧ 0 ≤ n ∧ n ≤ N ∧ at' ≤ N - n := by unfold thereB; simp [and_assoc]
theorem thereB_no {N : Nat} {at' n : Int} (h : (0 ≤ at' ∧ 0 ≤ n ∧ n ≤ N ∧ at' ≤ N - n) → False) : thereB N at' n = false := by cases hh : thereB N at' n; rfl; exact (h (thereB_iff.1 hh)).elim
/-- The bytes, asV a slice. -/
abbrev spanV (A : Ar) (N at' n : Nat) : Value := .slice (shiftA (some ⟨A.db, 0, none⟩) N at' 1) n (N - at')

theorem arena_span (A : Ar) (V : ArV) (i n : Nat) (w : World) (h : ArOk w A V) (ht : i + n ≤ V.bs.length) : Does Try.prog 66 #[.pointer (some ⟨A.ab, 0, none⟩), .int .i64 i, .int .i64 n] w (Same (.tuple #[spanV A V.bs.length i n, .int .i64 0]) w) := by
  have hl := h.len
  refine Does.enter Try.func66 rfl Try.ntmps66 rfl rfl ?_
  refine Goes.adv hTT 400 rfl ?_
  refine Goes.no hTT rfl (decide_eq_false (by omega)) rfl ?_
  refine Goes.no hTT rfl (decide_eq_false (by omega)) rfl ?_
  refine Goes.loadb hTT rfl h.obj rfl rfl ?_
  refine Goes.no hTT rfl (decide_eq_false (by omega)) rfl ?_
  refine Goes.loadb hTT rfl h.obj rfl rfl ?_
  refine Goes.arith hTT rfl (w64 (by omega)) rfl ?_
  refine Goes.no hTT rfl (decide_eq_false (by omega)) rfl ?_
  refine Goes.loadb hTT rfl h.obj rfl rfl ?_
  refine Goes.arith hTT rfl (w64 (by omega)) rfl ?_
  refine Goes.slice hTT rfl (l := i) (h := (i+n)) (by first | rfl | omega | simp [loV]) (by first | rfl | omega | simp [hiV]) (by omega) (by omega) rfl ?_
  exact Goes.ret2 hTT rfl Try.func66 rfl rfl rfl ⟨by rw [show i + n - i = n from by omega], rfl⟩
theorem arena_span_no (A : Ar) (V : ArV) (i n : Int) (w : World) (h : ArOk w A V) (ht : thereB V.bs.length i n = false) : Does Try.prog 66 #[.pointer (some ⟨A.ab, 0, none⟩), .int .i64 i, .int .i64 n] w (Same (.tuple #[.slice none 0 0, .int .i64 8]) w) := by
  have hl := h.len
  have hno : ¬ (0 ≤ i ∧ 0 ≤ n ∧ n ≤ V.bs.length ∧ i ≤ V.bs.length - n) := fun hh => by rw [thereB_iff.2 hh] at ht; cases ht
  refine Does.enter Try.func66 rfl Try.ntmps66 rfl rfl ?_
  refine Goes.adv hTT 400 rfl ?_
  refine Goes.fork hTT rfl rfl rfl (fun h1 => ?_) (fun h1 => ?_)
  · exact Goes.ret2 hTT rfl Try.func66 rfl rfl rfl ⟨rfl, rfl⟩
  have g1 := of_decide_eq_false h1
  refine Goes.fork hTT rfl rfl rfl (fun h2 => ?_) (fun h2 => ?_)
  · exact Goes.ret2 hTT rfl Try.func66 rfl rfl rfl ⟨rfl, rfl⟩
  have g2 := of_decide_eq_false h2
  refine Goes.loadb hTT rfl h.obj rfl rfl ?_
  refine Goes.fork hTT rfl rfl rfl (fun h3 => ?_) (fun h3 => ?_)
  · exact Goes.ret2 hTT rfl Try.func66 rfl rfl rfl ⟨rfl, rfl⟩
  have g3 := of_decide_eq_false h3
  refine Goes.loadb hTT rfl h.obj rfl rfl ?_
  refine Goes.arith hTT rfl (w64 (by omega)) rfl ?_
  refine Goes.yes hTT rfl (decide_eq_true (by omega)) rfl ?_
  exact Goes.ret2 hTT rfl Try.func66 rfl rfl rfl ⟨rfl, rfl⟩
theorem arena_span_nil (i n : Int) (w : World) : Does Try.prog 66 #[.pointer none, .int .i64 i, .int .i64 n] w (Same (.tuple #[.slice none 0 0, .int .i64 1]) w) := by
  refine Does.enter Try.func66 rfl Try.ntmps66 rfl rfl ?_
  refine Goes.adv hTT 400 rfl ?_
  exact Goes.ret2 hTT rfl Try.func66 rfl rfl rfl ⟨rfl, rfl⟩
theorem arena_used (A : Ar) (V : ArV) (n : Int) (w : World) (h : ArOk w A V) : Does Try.prog 31 #[.int .i64 n, .pointer (some ⟨A.mc, 0, none⟩)] w (fun _ w' => ArOk w' A (V.charge A n) ∧ Chg (mFoot A) w w') := by
  have hc := h.cap
  cases hb : A.mb with
  | none =>
    rw [hb] at hc
    refine Does.enter Try.func31 rfl Try.ntmps31 rfl rfl ?_
    refine Goes.adv hTT 400 rfl ?_
    refine Goes.loadb hTT rfl hc rfl rfl ?_
    refine Goes.call rfl (meter_Charge0 n w) ?_
    rintro _ w1 rfl
    refine Goes.adv hTT 400 rfl ?_
    have e : V.charge A n = V := by unfold ArV.charge; rw [hb]
    exact Goes.ret0 hTT rfl Try.func31 rfl ⟨by rw [e]; exact h, Chg.refl _ _⟩
  | some b =>
    rw [hb] at hc
    refine Does.enter Try.func31 rfl Try.ntmps31 rfl rfl ?_
    refine Goes.adv hTT 400 rfl ?_
    refine Goes.loadb hTT rfl hc rfl rfl ?_
    refine Goes.call rfl (meter_Charge b V.total V.lap n w (h.met b hb)) ?_
    rintro _ w1 ⟨hm, hs⟩
    refine Goes.adv hTT 400 rfl ?_
    have e : V.charge A n = { V with total := charged V.total n } := by unfold ArV.charge; rw [hb]
    exact Goes.ret0 hTT rfl Try.func31 rfl ⟨by rw [e]; exact h.metered hb hm hs, hs.mono (fun x _ hx => by unfold mFoot; rw [hx]; exact hb)⟩
theorem arena_charged (A : Ar) (V : ArV) (i n : Nat) (w : World) (h : ArOk w A V) (ht : i + n ≤ V.bs.length) : Does Try.prog 45 #[.pointer (some ⟨A.ab, 0, none⟩), .int .i64 i, .int .i64 n] w (fun v w' => v = .tuple #[spanV A V.bs.length i n, .int .i64 0] ∧ ArOk w' A (V.charge A n) ∧ Chg (mFoot A) w w') := by
  refine Does.enter Try.func45 rfl Try.ntmps45 rfl rfl ?_
  refine Goes.adv hTT 400 rfl ?_
  refine Goes.call rfl (arena_span A V i n w h ht) ?_
  rintro _ _ ⟨rfl, rfl⟩
  refine Goes.adv hTT 400 rfl ?_
  refine Goes.yes hTT rfl rfl rfl ?_
  refine Goes.loadb hTT rfl h.obj rfl rfl ?_
  refine Goes.call rfl (arena_used A V n w h) ?_
  rintro _ w1 ⟨h1, hs⟩
  refine Goes.adv hTT 400 rfl ?_
  exact Goes.ret2 hTT rfl Try.func45 rfl rfl rfl ⟨rfl, h1, hs⟩
theorem arena_charged_no (A : Ar) (V : ArV) (i n : Int) (w : World) (h : ArOk w A V) (ht : thereB V.bs.length i n = false) : Does Try.prog 45 #[.pointer (some ⟨A.ab, 0, none⟩), .int .i64 i, .int .i64 n] w (Same (.tuple #[.slice none 0 0, .int .i64 8]) w) := by
  refine Does.enter Try.func45 rfl Try.ntmps45 rfl rfl ?_
  refine Goes.adv hTT 400 rfl ?_
  refine Goes.call rfl (arena_span_no A V i n w h ht) ?_
  rintro _ _ ⟨rfl, rfl⟩
  refine Goes.adv hTT 400 rfl ?_
  refine Goes.no hTT rfl rfl rfl ?_
  exact Goes.ret2 hTT rfl Try.func45 rfl rfl rfl ⟨rfl, rfl⟩
theorem arena_charged_nil (i n : Int) (w : World) : Does Try.prog 45 #[.pointer none, .int .i64 i, .int .i64 n] w (Same (.tuple #[.slice none 0 0, .int .i64 1]) w) := by
  refine Does.enter Try.func45 rfl Try.ntmps45 rfl rfl ?_
  refine Goes.adv hTT 400 rfl ?_
  refine Goes.call rfl (arena_span_nil i n w) ?_
  rintro _ _ ⟨rfl, rfl⟩
  refine Goes.adv hTT 400 rfl ?_
  refine Goes.no hTT rfl rfl rfl ?_
  exact Goes.ret2 hTT rfl Try.func45 rfl rfl rfl ⟨rfl, rfl⟩
theorem arena_Len (A : Ar) (V : ArV) (w : World) (h : ArOk w A V) : Does Try.prog 27 #[.pointer (some ⟨A.ab, 0, none⟩)] w (Same (.int .i64 V.bs.length) w) := by
  refine Does.enter Try.func27 rfl Try.ntmps27 rfl rfl ?_
  refine Goes.adv hTT 400 rfl ?_
  refine Goes.loadb hTT rfl h.obj rfl rfl ?_
  exact Goes.ret1 hTT rfl Try.func27 rfl rfl ⟨rfl, rfl⟩
theorem arena_Len_nil (w : World) : Does Try.prog 27 #[.pointer none] w (Same (.int .i64 0) w) := by
  refine Does.enter Try.func27 rfl Try.ntmps27 rfl rfl ?_
  refine Goes.adv hTT 400 rfl ?_
  exact Goes.ret1 hTT rfl Try.func27 rfl rfl ⟨rfl, rfl⟩
/-- May an arena be of so many pages of so many bytes? -/
def arMay (p s : Int) : Bool := decide (1 ≤ p) && decide (p ≤ 1024) && decide (64 ≤ s) && decide (s ≤ 4096) && (s % 8 == 0)
theorem arMay_iff {p s : Int} : arMay p s = true ↔ 1 ≤ p ∧ p ≤ 1024 ∧ 64 ≤ s ∧ s ≤ 4096 ∧ s % 8 = 0 := by unfold arMay; simp [and_assoc]
def zeros (n : Nat) : List Int := List.replicate n 0
theorem zeroRow_zeros : ∀ n, zeroRow [Value.int .u8 0] n = (zeros n).map (Value.int .u8)
  | 0 => rfl
  | n + 1 => by rw [zeroRow, zeroRow_zeros n]; simp [zeros, List.replicate_succ]
theorem arena_New (mb : Option Nat) (total lap : Int) (p s : Int) (w : World) (hm : ∀ b, mb = some b → MeterAt w b total lap) (ht : arMay p s = true) : Does Try.prog 10 #[.int .i64 p, .int .i64 s, ptr mb] w
    (fun v w' => ∃ A : Ar, v = .tuple #[.pointer (some ⟨A.ab, 0, none⟩), .int .i64 0] ∧ A.mb = mb ∧ w.heap.size ≤ A.ab ∧ w.heap.size ≤ A.db ∧ w.heap.size ≤ A.mc ∧ ArOk w' A ⟨zeros (p * s).toNat, total, lap⟩ ∧ Chg None' w w') := by
  have g := arMay_iff.1 ht
  have h0 : 0 ≤ p * s := Int.mul_nonneg (by omega) (by omega)
  have h1 : p * s ≤ 1024 * 4096 := Int.mul_le_mul (by omega) (by omega) (by omega) (by omega)
  refine Does.enter Try.func10 rfl Try.ntmps10 rfl rfl ?_
  refine Goes.adv hTT 400 rfl ?_
  refine Goes.alloc hTT rfl ?_
  intro mc w1 e1 hmc hw1 hz1
  refine Goes.adv hTT 400 rfl ?_
  refine Goes.no hTT rfl (decide_eq_false (by omega)) rfl ?_
  refine Goes.no hTT rfl (decide_eq_false (by omega)) rfl ?_
  refine Goes.no hTT rfl (decide_eq_false (by omega)) rfl ?_
  refine Goes.no hTT rfl (decide_eq_false (by omega)) rfl ?_
  refine Goes.div hTT rfl (by omega) (rem_ (by omega)) rfl ?_
  refine Goes.no hTT rfl (by simp; omega) rfl ?_
  refine Goes.arith hTT rfl (w64 (by omega)) rfl ?_
  refine Goes.make hTT (m := (p * s).toNat) (k := (p * s).toNat) rfl (by omega) (by omega) (Nat.le_refl _) (by simp only; omega) (by omega) ?_
  intro db w2 e2 hdb hw2 hz2
  refine Goes.adv hTT 400 rfl ?_
  refine Goes.build hTT rfl rfl ?_
  refine Goes.alloc hTT rfl ?_
  intro ab w3 e3 hab hw3 hz3
  refine Goes.adv hTT 400 rfl ?_
  have hz : (zeroRow (cellsL (Value.int .u8 0)) (p * s).toNat) = (zeros (p * s).toNat).map (Value.int .u8) := zeroRow_zeros _
  rw [hz] at hdb
  have hlen : (zeros (p * s).toNat).length = (p * s).toNat := List.length_replicate
  rw [← hlen] at hab
  have hok : ArOk w3 ⟨ab, db, mc, mb⟩ ⟨zeros (p * s).toNat, total, lap⟩ :=
    ⟨hab, hw3.heap' hdb, hw3.heap' (hw2.heap' hmc), fun b hb => ⟨hw3.heap' (hw2.heap' (hw1.heap' (hm b hb).1)), (hm b hb).2⟩, by rw [hlen]; omega, fun x hx => by rw [List.eq_of_mem_replicate hx]; omega⟩
  rw [hlen] at hab
  exact Goes.ret2 hTT rfl Try.func10 rfl rfl rfl ⟨⟨ab, db, mc, mb⟩, rfl, rfl, by simp only; omega, by simp only; omega, by simp only; omega, hok, (hw1.trans hw2).trans hw3⟩
theorem arena_New_no (mb : Option Nat) (p s : Int) (w : World) (ht : arMay p s = false) : Does Try.prog 10 #[.int .i64 p, .int .i64 s, ptr mb] w (Grow (.tuple #[.pointer none, .int .i64 1]) w) := by
  have hno : ¬ (1 ≤ p ∧ p ≤ 1024 ∧ 64 ≤ s ∧ s ≤ 4096 ∧ s % 8 = 0) := fun hh => by rw [arMay_iff.2 hh] at ht; cases ht
  refine Does.enter Try.func10 rfl Try.ntmps10 rfl rfl ?_
  refine Goes.adv hTT 400 rfl ?_
  refine Goes.alloc hTT rfl ?_
  intro mc w1 e1 hmc hw1 hz1
  refine Goes.adv hTT 400 rfl ?_
  refine Goes.fork hTT rfl rfl rfl (fun h1 => ?_) (fun h1 => ?_)
  · exact Goes.ret2 hTT rfl Try.func10 rfl rfl rfl ⟨rfl, hw1⟩
  have g1 := of_decide_eq_false h1
  refine Goes.fork hTT rfl rfl rfl (fun h2 => ?_) (fun h2 => ?_)
  · exact Goes.ret2 hTT rfl Try.func10 rfl rfl rfl ⟨rfl, hw1⟩
  have g2 := of_decide_eq_false h2
  refine Goes.fork hTT rfl rfl rfl (fun h3 => ?_) (fun h3 => ?_)
  · exact Goes.ret2 hTT rfl Try.func10 rfl rfl rfl ⟨rfl, hw1⟩
  have g3 := of_decide_eq_false h3
  refine Goes.fork hTT rfl rfl rfl (fun h4 => ?_) (fun h4 => ?_)
  · exact Goes.ret2 hTT rfl Try.func10 rfl rfl rfl ⟨rfl, hw1⟩
  have g4 := of_decide_eq_false h4
  refine Goes.div hTT rfl (by omega) (rem_ (by omega)) rfl ?_
  refine Goes.yes hTT rfl (by simp; omega) rfl ?_
  exact Goes.ret2 hTT rfl Try.func10 rfl rfl rfl ⟨rfl, hw1⟩
end Go.Proofs.Ytffimkpllchfcaa
/-
  Layer 6: what an arena's operations do.
-/
namespace Go.Proofs.Ytffimkpllchfcaa
open Go.RowKit

theorem Rd.metered {w w' : World} {A : Ar} {V : ArV} {a : Option Addr} {l : List Int} (hr : Rd .u8 w a l) (h : ArOk w A V) (hc : Chg (mFoot A) w w') : Rd .u8 w' a l := fun i hi => by
  obtain ⟨b, off, e, hcell⟩ := hr i hi
  refine ⟨b, off, e, ?_⟩
  have hne : ¬ mFoot A b := fun hb => by
    have h0 := (h.met b hb).1
    rw [cell_of h0] at hcell
    match hj : off + i, hcell with
    | 0, hcell => simp at hcell
    | 1, hcell => simp at hcell
    | k + 2, hcell => simp at hcell
  have hlt : b < w.heap.size := World.block_lt_of_cell? w _ hcell
  rw [← hcell]
  simp only [World.cell?, hc.block b hlt hne]
def wrB (bs : List Int) (i : Nat) (l : List Int) : List Int := bs.take i ++ l ++ bs.drop (i + l.length)
theorem wrB_length {bs : List Int} {i : Nat} {l : List Int} (h : i + l.length ≤ bs.length) : (wrB bs i l).length = bs.length := by unfold wrB; simp; omega
theorem wrB_mem {bs : List Int} {i : Nat} {l : List Int} {x : Int} (h : x ∈ wrB bs i l) : x ∈ bs ∨ x ∈ l := by
  unfold wrB at h
  simp only [List.mem_append] at h
  rcases h with (h | h) | h
  · exact .inl (List.mem_of_mem_take h)
  · exact .inr h
  · exact .inl (List.mem_of_mem_drop h)
theorem wrB_nil {bs : List Int} {i : Nat} : wrB bs i [] = bs := by unfold wrB; simp
def InB (l : List Int) : Prop := ∀ x ∈ l, 0 ≤ x ∧ x < 256
theorem ArOk.laid {w w' : World} {A : Ar} {V : ArV} {bs : List Int} (h : ArOk w A V) (hd : w'.heap[A.db]? = some (.cells (bs.map (Value.int .u8)).toArray 5 (0, 0))) (hc : Chg (fun b => b = A.db) w w') (hl : bs.length = V.bs.length) (hr : InB bs) : ArOk w' A { V with bs := bs } :=
  ⟨by rw [hl]; exact hc.heap h.obj (fun e => blk_ne h.obj h.dat (by decide) e), hd, hc.heap h.cap (fun e => blk_ne h.cap h.dat (by decide) e), fun b hb => ⟨hc.heap (h.met b hb).1 (fun e => blk_ne (h.met b hb).1 h.dat (by decide) e), (h.met b hb).2⟩, by rw [hl]; exact h.len, hr⟩
theorem span_addr {A : Ar} {N i n : Nat} (h : i + n ≤ N) (hn : 0 < n) : shiftA (some ⟨A.db, 0, none⟩) N i 1 = some ⟨A.db, i, none⟩ := by
  unfold shiftA
  rw [if_neg (by omega), Option.map_some, add_off]
  simp
/-- The bytes, asV a slice whose address is known if there are any. -/
theorem arena_charged' (A : Ar) (V : ArV) (i n : Nat) (w : World) (h : ArOk w A V) (ht : i + n ≤ V.bs.length) : Does Try.prog 45 #[.pointer (some ⟨A.ab, 0, none⟩), .int .i64 i, .int .i64 n] w
    (fun v w' => ∃ x, v = .tuple #[.slice x n (V.bs.length - i), .int .i64 0] ∧ (0 < n → x = some ⟨A.db, i, none⟩) ∧ x.isSome = true ∧ ArOk w' A (V.charge A n) ∧ Chg (mFoot A) w w') :=
  (arena_charged A V i n w h ht).mono fun _ _ ⟨h1, h2, h3⟩ => ⟨_, h1, fun hn => span_addr ht hn, by unfold shiftA; split <;> rfl, h2, h3⟩
theorem arena_Write (A : Ar) (V : ArV) (i : Nat) (a : Option Addr) (cap : Nat) (l : List Int) (w : World) (h : ArOk w A V) (hr : Rd .u8 w a l) (hb : InB l) (ht : i + l.length ≤ V.bs.length) :
    Does Try.prog 39 #[.pointer (some ⟨A.ab, 0, none⟩), .int .i64 i, .slice a l.length cap] w (fun v w' => v = .int .i64 0 ∧ ArOk w' A { V.charge A l.length with bs := wrB V.bs i l } ∧ Chg (foot A) w w') := by
  refine Does.enter Try.func39 rfl Try.ntmps39 rfl rfl ?_
  refine Goes.adv hTT 400 rfl ?_
  refine Goes.call rfl (arena_charged' A V i l.length w h ht) ?_
  rintro _ w1 ⟨x, rfl, hx, _, h1, hs⟩
  refine Goes.adv hTT 400 rfl ?_
  have hsf : Chg (foot A) w w1 := hs.mono fun b _ hb => .inr hb
  have e1 := V.charge_bs A l.length
  by_cases hl : l.length = 0
  · refine Goes.copy0 hTT rfl (by simp [hl]) rfl ?_
    have hnil : l = [] := List.eq_nil_of_length_eq_zero hl
    subst hnil
    exact Goes.ret1 hTT rfl Try.func39 rfl rfl ⟨rfl, by rw [wrB_nil, ← V.charge_bs A 0]; exact h1, hsf⟩
  · have hxe := hx (by omega)
    subst hxe
    have hr1 := hr.metered h hs
    have ha : ∃ aa, a = some aa := by obtain ⟨b, off, e, _⟩ := hr 0 (by omega); exact ⟨_, e⟩
    obtain ⟨aa, rfl⟩ := ha
    have hd1 := h1.dat
    rw [e1] at hd1
    refine Goes.copy hTT rfl hd1 (cs := l.map (Value.int .u8)) (by simp) hr1.cells (by simp; omega) plain_ints ?_
    intro w2 hd2 hs2 hz2
    refine Goes.adv hTT 400 rfl ?_
    have hmap : (V.bs.map (Value.int .u8)).take i ++ l.map (Value.int .u8) ++ (V.bs.map (Value.int .u8)).drop (i + (l.map (Value.int .u8)).length) = (wrB V.bs i l).map (Value.int .u8) := by
      unfold wrB; simp [List.map_take, List.map_drop]
    rw [hmap] at hd2
    have h2 := h1.laid hd2 hs2 (by rw [wrB_length ht, e1]) (fun x hx => (wrB_mem hx).elim (h.rng x) (hb x))
    exact Goes.ret1 hTT rfl Try.func39 rfl rfl ⟨rfl, h2, hsf.trans (hs2.mono fun b _ hb => .inl hb)⟩
theorem arena_Write_no (A : Ar) (V : ArV) (i : Int) (a : Option Addr) (cap n : Nat) (w : World) (h : ArOk w A V) (ht : thereB V.bs.length i n = false) :
    Does Try.prog 39 #[.pointer (some ⟨A.ab, 0, none⟩), .int .i64 i, .slice a n cap] w (Same (.int .i64 8) w) := by
  refine Does.enter Try.func39 rfl Try.ntmps39 rfl rfl ?_
  refine Goes.adv hTT 400 rfl ?_
  refine Goes.call rfl (arena_charged_no A V i n w h ht) ?_
  rintro _ _ ⟨rfl, rfl⟩
  refine Goes.adv hTT 400 rfl ?_
  refine Goes.copy0 hTT rfl (by simp) rfl ?_
  exact Goes.ret1 hTT rfl Try.func39 rfl rfl ⟨rfl, rfl⟩
theorem arena_Write_nil (i : Int) (a : Option Addr) (cap n : Nat) (w : World) : Does Try.prog 39 #[.pointer none, .int .i64 i, .slice a n cap] w (Same (.int .i64 1) w) := by
  refine Does.enter Try.func39 rfl Try.ntmps39 rfl rfl ?_
  refine Goes.adv hTT 400 rfl ?_
  refine Goes.call rfl (arena_charged_nil i n w) ?_
  rintro _ _ ⟨rfl, rfl⟩
  refine Goes.adv hTT 400 rfl ?_
  refine Goes.copy0 hTT rfl (by simp) rfl ?_
  exact Goes.ret1 hTT rfl Try.func39 rfl rfl ⟨rfl, rfl⟩
/-- A slice of bytes of one's own. -/
def OwnB (base : Nat) (w : World) (v : Value) (l : List Int) : Prop := ∃ g cap cur, v = .slice (some ⟨g, 0, none⟩) l.length cap ∧ base ≤ g ∧ w.heap[g]? = some (.cells cur 5 (0, 0)) ∧ l.length ≤ cap ∧ cur.toList.take l.length = l.map (Value.int .u8)
theorem slices_Clone (aa : Addr) (cap : Nat) (l : List Int) (w : World) (hr : Rd .u8 w (some aa) l) (hl : l.length ≤ 4194304) : Does Try.prog 46 #[.slice (some aa) l.length cap] w (fun v w' => OwnB w.heap.size w' v l ∧ Chg None' w w') := by
  have hml : maxLen = 9223372036854775807 := rfl
  refine Does.enter Try.func46 rfl Try.ntmps46 rfl rfl ?_
  refine Goes.adv hTT 400 rfl ?_
  refine Goes.no hTT rfl rfl rfl ?_
  refine Goes.buildSlice hTT rfl ?_
  intro b w1 e1 hb hw1 hz1
  refine Goes.adv hTT 400 rfl ?_
  have ho : Own w.heap.size 5 1 w1 (.slice (some ⟨b, 0, none⟩) 0 0) 0 [] := Own.empty (by omega) hb
  refine Goes.append (base := w.heap.size) (xs := []) (news := l.map (Value.int .u8)) hTT rfl ho hw1.size (by simp) (hr.chg hw1).cells plain_ints (by simp only; omega) ?_
  intro v2 w2 ho2 hs2 hv2
  refine Goes.adv hTT 400 rfl ?_
  have hc2 := ho.since hw1 (Nat.le_refl _) hs2
  rcases ho2.2 with ⟨h1, _⟩ | ⟨g, cap', cur, rfl, h2, h3, h4, _, _, h6⟩
  · exact absurd (hv2.1.1 h1).1 (by simp)
  · exact Goes.ret1 hTT rfl Try.func46 rfl rfl ⟨⟨g, cap', cur, by simp, h2, h3, by omega, by simpa using h6⟩, hc2⟩
theorem slices_Clone_nil (w : World) : Does Try.prog 46 #[.slice none 0 0] w (Same (.slice none 0 0) w) := by
  refine Does.enter Try.func46 rfl Try.ntmps46 rfl rfl ?_
  refine Goes.adv hTT 400 rfl ?_
  refine Goes.yes hTT rfl rfl rfl ?_
  exact Goes.ret1 hTT rfl Try.func46 rfl rfl ⟨rfl, rfl⟩
/-- Some bytes of a list. -/
def sub (bs : List Int) (i n : Nat) : List Int := (bs.drop i).take n
theorem sub_length {bs : List Int} {i n : Nat} (h : i + n ≤ bs.length) : (sub bs i n).length = n := by unfold sub; simp; omega
theorem ArOk.sub {w : World} {A : Ar} {V : ArV} {x : Option Addr} {i n : Nat} (h : ArOk w A V) (hx : 0 < n → x = some ⟨A.db, i, none⟩) (ht : i + n ≤ V.bs.length) : Rd .u8 w x (sub V.bs i n) := fun j hj => by
  rw [sub_length ht] at hj
  refine ⟨A.db, i, hx (by omega), ?_⟩
  rw [cell_of h.dat]
  have : (Go.Proofs.Ytffimkpllchfcaa.sub V.bs i n).getD j 0 = V.bs[i + j]'(by omega) := by unfold Go.Proofs.Ytffimkpllchfcaa.sub; simp [List.getD, hj, show i + j < V.bs.length from by omega]
  rw [this]
  simp [show i + j < V.bs.length from by omega]
theorem arena_Read (A : Ar) (V : ArV) (i n : Nat) (w : World) (h : ArOk w A V) (ht : i + n ≤ V.bs.length) :
    Does Try.prog 26 #[.pointer (some ⟨A.ab, 0, none⟩), .int .i64 i, .int .i64 n] w (fun v w' => ∃ v', v = .tuple #[v', .int .i64 0] ∧ OwnB w.heap.size w' v' (sub V.bs i n) ∧ ArOk w' A (V.charge A n) ∧ Chg (mFoot A) w w') := by
  have hl := h.len
  refine Does.enter Try.func26 rfl Try.ntmps26 rfl rfl ?_
  refine Goes.adv hTT 400 rfl ?_
  refine Goes.call rfl (arena_charged' A V i n w h ht) ?_
  rintro _ w1 ⟨x, rfl, hx, hs, h1, hs1⟩
  refine Goes.adv hTT 400 rfl ?_
  obtain ⟨aa, rfl⟩ := Option.isSome_iff_exists.1 hs
  have e1 := V.charge_bs A n
  have hr := h1.sub (i := i) (n := n) hx (by rw [e1]; exact ht)
  rw [e1] at hr
  have hcl := slices_Clone aa (V.bs.length - i) (sub V.bs i n) w1 hr (by rw [sub_length ht]; omega)
  rw [sub_length ht] at hcl
  refine Goes.call rfl (hcl) ?_
  rintro v2 w2 ⟨ho, hw2⟩
  refine Goes.adv hTT 400 rfl ?_
  obtain ⟨g, cap, cur, hv, hg, hrest⟩ := ho
  exact Goes.ret2 hTT rfl Try.func26 rfl rfl rfl ⟨v2, rfl, ⟨g, cap, cur, hv, by have := hs1.size; omega, hrest⟩, h1.grow hw2, hs1.trans (hw2.mono fun _ _ h => h.elim)⟩
theorem arena_Read_no (A : Ar) (V : ArV) (i n : Int) (w : World) (h : ArOk w A V) (ht : thereB V.bs.length i n = false) :
    Does Try.prog 26 #[.pointer (some ⟨A.ab, 0, none⟩), .int .i64 i, .int .i64 n] w (Same (.tuple #[.slice none 0 0, .int .i64 8]) w) := by
  refine Does.enter Try.func26 rfl Try.ntmps26 rfl rfl ?_
  refine Goes.adv hTT 400 rfl ?_
  refine Goes.call rfl (arena_charged_no A V i n w h ht) ?_
  rintro _ _ ⟨rfl, rfl⟩
  refine Goes.adv hTT 400 rfl ?_
  refine Goes.call rfl (slices_Clone_nil w) ?_
  rintro _ _ ⟨rfl, rfl⟩
  refine Goes.adv hTT 400 rfl ?_
  exact Goes.ret2 hTT rfl Try.func26 rfl rfl rfl ⟨rfl, rfl⟩
theorem arena_Read_nil (i n : Int) (w : World) : Does Try.prog 26 #[.pointer none, .int .i64 i, .int .i64 n] w (Same (.tuple #[.slice none 0 0, .int .i64 1]) w) := by
  refine Does.enter Try.func26 rfl Try.ntmps26 rfl rfl ?_
  refine Goes.adv hTT 400 rfl ?_
  refine Goes.call rfl (arena_charged_nil i n w) ?_
  rintro _ _ ⟨rfl, rfl⟩
  refine Goes.adv hTT 400 rfl ?_
  refine Goes.call rfl (slices_Clone_nil w) ?_
  rintro _ _ ⟨rfl, rfl⟩
  refine Goes.adv hTT 400 rfl ?_
  exact Goes.ret2 hTT rfl Try.func26 rfl rfl rfl ⟨rfl, rfl⟩
end Go.Proofs.Ytffimkpllchfcaa
/-
  Layer 21: a view: places, how many bytes they have, where a block begins.
-/
namespace Go.Proofs.Ytffimkpllchfcaa
open Go.RowKit

/-- A place. -/
structure Plc where
  cls : Int
  page : Int
  idx : Int
  pa : Option Addr
  pc : Nat
  pages : List Int
def plL (q : Plc) : List Value := [.int .i64 q.cls, .int .i64 q.page, .int .i64 q.idx, .slice q.pa q.pages.length q.pc]
structure PlcOk (w : World) (q : Plc) : Prop where
  rd : Rd .i64 w q.pa q.pages
  len : q.pages.length ≤ 9223372036854775807
theorem PlcOk.grow {w w' : World} {q : Plc} (h : PlcOk w q) (hc : Chg None' w w') : PlcOk w' q := ⟨h.rd.chg hc, h.len⟩
def inT (n top : Int) : Bool := decide (0 ≤ n) && decide (n < top)
theorem inT_iff {n top : Int} : inT n top = true ↔ 0 ≤ n ∧ n < top := by unfold inT; simp
def viewIs (c : Conf) (q : Plc) : Bool :=
  if q.cls = -1 then decide (0 < q.pages.length) && !q.pages.any (fun n => !inT n c.pages)
  else inT q.cls c.classes.length && inT q.page c.pages && inT q.idx (blocksM c q.cls)
def clsM (c : Conf) (k : Int) : Int := c.classes.getD k.toNat 0
def viewHolds (c : Conf) (q : Plc) : Int := if viewIs c q then (if q.cls = -1 then q.pages.length * c.size else clsM c q.cls) else 0
def viewAt (c : Conf) (q : Plc) : Int := if viewIs c q = true ∧ q.cls ≠ -1 then q.page * c.size + q.idx * clsM c q.cls else -1
/-- Where a view lies; its arena, its meter. -/
structure Vw where
  vb : Nat
  c : Conf
  p : ConfAt
  ab : Nat
  mb : Option Nat
def vwL (v : Vw) : List Value := confL v.c v.p ++ [.pointer (some ⟨v.ab, 0, none⟩), ptr v.mb]
abbrev vwV (v : Vw) : Value := .pointer (some ⟨v.vb, 0, none⟩)
structure VwOk (w : World) (v : Vw) : Prop where
  obj : w.heap[v.vb]? = some (.cells (vwL v).toArray 75 (0, 0))
  conf : ConfOk w v.c v.p
  may : mayB v.c = true
theorem VwOk.grow {w w' : World} {v : Vw} (h : VwOk w v) (hc : Chg None' w w') : VwOk w' v := ⟨hc.heap' h.obj, h.conf.chg hc, h.may⟩
theorem view_within (n top : Int) (w : World) : Does Try.prog 60 #[.int .i64 n, .int .i64 top] w (Same (.bool (inT n top)) w) := by
  refine Does.enter Try.func60 rfl Try.ntmps60 rfl rfl ?_
  refine Goes.adv hTT 400 rfl ?_
  refine Goes.fork hTT rfl rfl rfl (fun h => ?_) (fun h => ?_)
  · have g : 0 ≤ n := of_decide_eq_true h
    exact Goes.ret1 hTT rfl Try.func60 rfl rfl ⟨bool_v (by unfold inT; rw [decide_eq_true g]; rfl), rfl⟩
  · have g : ¬ 0 ≤ n := of_decide_eq_false h
    exact Goes.ret1 hTT rfl Try.func60 rfl rfl ⟨bool_v (by unfold inT; rw [decide_eq_false g]; rfl), rfl⟩
abbrev ptrBox (w : World) (b : Nat) (v : Vw) : Prop := w.heap[b]? = some (.cells ([vwV v] : List Value).toArray 33 (0, 0))
theorem view_is1 (v : Vw) (b : Nat) (x : Int) (w : World) (h : VwOk w v) (hb : ptrBox w b v) : Does Try.prog 59 #[.int .i64 x, .pointer (some ⟨b, 0, none⟩)] w (Same (.bool (!inT x v.c.pages)) w) := by
  refine Does.enter Try.func59 rfl Try.ntmps59 rfl rfl ?_
  refine Goes.adv hTT 400 rfl ?_
  refine Goes.loadb hTT rfl hb rfl rfl ?_
  refine Goes.loadb hTT rfl h.obj rfl rfl ?_
  refine Goes.call rfl (view_within x v.c.pages w) ?_
  rintro _ _ ⟨rfl, rfl⟩
  refine Goes.adv hTT 400 rfl ?_
  exact Goes.ret1 hTT rfl Try.func59 rfl rfl ⟨rfl, rfl⟩
theorem view_is (v : Vw) (q : Plc) (w : World) (h : VwOk w v) (hq : PlcOk w q) : Does Try.prog 34 #[vwV v, .agg (plL q).toArray] w (Grow (.bool (viewIs v.c q)) w) := by
  have hql := hq.len
  have hcl := h.conf.lc
  refine Does.enter Try.func34 rfl Try.ntmps34 rfl rfl ?_
  refine Goes.adv hTT 400 rfl ?_
  refine Goes.alloc hTT rfl ?_
  intro vb w1 e1 hvb hw1 hz1
  refine Goes.adv hTT 400 rfl ?_
  refine Goes.alloc hTT rfl ?_
  intro qb w2 e2 hqb hw2 hz2
  refine Goes.adv hTT 400 rfl ?_
  have hw := hw1.trans hw2
  have hv2 := h.grow hw
  have hvb2 := hw2.heap' hvb
  have hq2 := hq.grow hw
  obtain ⟨cls, page, idx, pa, pc, pages⟩ := q
  replace hqb : w2.heap[qb]? = some (.cells ([.int .i64 cls, .int .i64 page, .int .i64 idx, .slice pa pages.length pc] : List Value).toArray 26 (0, 0)) := hqb
  replace hq2 : Rd .i64 w2 pa pages := hq2.rd
  replace hql : pages.length ≤ 9223372036854775807 := hql
  refine Goes.loadb hTT rfl hvb2 rfl rfl ?_
  refine Goes.loadb hTT rfl hqb rfl rfl ?_
  refine Goes.fork hTT rfl rfl rfl (fun hcl1 => ?_) (fun hcl1 => ?_)
  · have g : cls = -1 := by simpa using hcl1
    refine Goes.loadb hTT rfl hqb rfl rfl ?_
    by_cases h0 : 0 < pages.length
    · refine Goes.yes hTT rfl (decide_eq_true (by omega)) rfl ?_
      refine Goes.loadb hTT rfl hqb rfl rfl ?_
      refine Goes.call rfl (slices_ContainsFunc_int pa pc 59 pages [.pointer (some ⟨vb, 0, none⟩)] (fun n => !inT n v.c.pages) w2 hq2 hql (fun x _ => view_is1 v vb x w2 hv2 hvb2)) ?_
      rintro _ _ ⟨rfl, rfl⟩
      refine Goes.adv hTT 400 rfl ?_
      exact Goes.ret1 hTT rfl Try.func34 rfl rfl ⟨bool_v (by unfold viewIs; simp only; rw [if_pos g, decide_eq_true h0]; rfl), hw⟩
    · refine Goes.no hTT rfl (decide_eq_false (by omega)) rfl ?_
      exact Goes.ret1 hTT rfl Try.func34 rfl rfl ⟨bool_v (by unfold viewIs; simp only; rw [if_pos g, decide_eq_false h0]; rfl), hw⟩
  · have g : ¬ cls = -1 := by simpa using hcl1
    have hvi : viewIs v.c ⟨cls, page, idx, pa, pc, pages⟩ = (inT cls v.c.classes.length && inT page v.c.pages && inT idx (blocksM v.c cls)) := by unfold viewIs; simp only; rw [if_neg g]
    rw [hvi]
    refine Goes.drawn (q := 32) None' hTT mixed (by kernel_rfl) rfl ?_
    intro hB
    refine Drawn.loadb hTT hB rfl hqb (by first | exact fun h => h | (intro h; omega) | assumption) rfl rfl ?_
    refine Drawn.loadb hTT hB rfl hvb2 (by first | exact fun h => h | (intro h; omega) | assumption) rfl rfl ?_
    refine Drawn.loadb hTT hB rfl hv2.obj (by first | exact fun h => h | (intro h; omega) | assumption) rfl rfl ?_
    refine Drawn.call hTT hB rfl (fun w' hw' => (view_within cls v.c.classes.length w').grow) rfl ?_
    refine Drawn.fork hTT hB rfl rfl rfl (fun h1 => ?_) (fun h1 => ?_)
    · rw [h1]
      refine Drawn.loadb hTT hB rfl hqb (by first | exact fun h => h | (intro h; omega) | assumption) rfl rfl ?_
      refine Drawn.loadb hTT hB rfl hvb2 (by first | exact fun h => h | (intro h; omega) | assumption) rfl rfl ?_
      refine Drawn.loadb hTT hB rfl hv2.obj (by first | exact fun h => h | (intro h; omega) | assumption) rfl rfl ?_
      refine Drawn.call hTT hB rfl (fun w' hw' => (view_within page v.c.pages w').grow) rfl ?_
      refine Drawn.fork hTT hB rfl rfl rfl (fun h2 => ?_) (fun h2 => ?_)
      · rw [h2]
        refine Drawn.loadb hTT hB rfl hqb (by first | exact fun h => h | (intro h; omega) | assumption) rfl rfl ?_
        refine Drawn.loadb hTT hB rfl hvb2 (by first | exact fun h => h | (intro h; omega) | assumption) rfl rfl ?_
        refine Drawn.loads hTT hB rfl hv2.obj (by first | exact fun h => h | (intro h; omega) | assumption) rfl rfl ?_
        refine Drawn.loadb hTT hB rfl hqb (by first | exact fun h => h | (intro h; omega) | assumption) rfl rfl ?_
        refine Drawn.call hTT hB rfl (fun w' hw' => conf_Blocks v.c v.p cls w' (hv2.conf.chg hw')) rfl ?_
        refine Drawn.call hTT hB rfl (fun w' hw' => (view_within idx (blocksM v.c cls) w').grow) rfl ?_
        refine Drawn.nil hB ?_
        intro w3 hw3
        refine Goes.adv hTT 400 rfl ?_
        exact Goes.ret1 hTT rfl Try.func34 rfl rfl ⟨rfl, hw.trans hw3⟩
      · rw [h2]
        refine Drawn.nil hB ?_
        intro w3 hw3
        refine Goes.adv hTT 400 rfl ?_
        exact Goes.ret1 hTT rfl Try.func34 rfl rfl ⟨rfl, hw.trans hw3⟩
    · rw [h1]
      refine Drawn.nil hB ?_
      intro w3 hw3
      refine Goes.adv hTT 400 rfl ?_
      exact Goes.ret1 hTT rfl Try.func34 rfl rfl ⟨rfl, hw.trans hw3⟩
theorem view_is_nil (q : Plc) (w : World) : Does Try.prog 34 #[.pointer none, .agg (plL q).toArray] w (Grow (.bool false) w) := by
  refine Does.enter Try.func34 rfl Try.ntmps34 rfl rfl ?_
  refine Goes.adv hTT 400 rfl ?_
  refine Goes.alloc hTT rfl ?_
  intro vb w1 e1 hvb hw1 hz1
  refine Goes.adv hTT 400 rfl ?_
  refine Goes.alloc hTT rfl ?_
  intro qb w2 e2 hqb hw2 hz2
  refine Goes.adv hTT 400 rfl ?_
  refine Goes.loadb hTT rfl (hw2.heap' hvb) rfl rfl ?_
  exact Goes.ret1 hTT rfl Try.func34 rfl rfl ⟨rfl, hw1.trans hw2⟩
end Go.Proofs.Ytffimkpllchfcaa
/-
  Layer 3: what the document's functions answer.
-/
namespace Go.Proofs.Ytffimkpllchfcaa
open Go.RowKit

theorem withinM_iff {n a b : Int} : withinM n a b = true ↔ a ≤ n ∧ n ≤ b := by unfold withinM; simp
theorem mayB_iff {c : Conf} : mayB c = true ↔ sizedM c.size = true ∧ (1 ≤ c.pages ∧ c.pages ≤ 1024) ∧ classOk c.classes c.size = true ∧ c.keep.length = c.classes.length ∧ (∀ k, k ∈ c.keep → 0 ≤ k ∧ k ≤ 1024) ∧
    (1 ≤ c.step ∧ c.step ≤ 65536) ∧ (1 ≤ c.slots ∧ c.slots ≤ 4096) ∧ (1 ≤ c.gens ∧ c.gens ≤ 1023) ∧ (1 ≤ c.most ∧ c.most ≤ largeM c) := by
  unfold mayB keepBad
  simp only [Bool.and_eq_true, withinM_iff, decide_eq_true_eq, Bool.not_eq_true', List.any_eq_false, Bool.not_eq_false, and_assoc]
theorem mayM_one {c : Conf} (h : mayB c = true → False) : Value.int .i64 1 = .int .i64 (mayM c) := by unfold mayM; rw [if_neg h]
theorem mayM_zero {c : Conf} (h : mayB c = true) : Value.int .i64 0 = .int .i64 (mayM c) := by unfold mayM; rw [if_pos h]
theorem largeM_zero {c : Conf} : largeM c = 0 ↔ sizedM c.size = false := by
  unfold largeM
  by_cases h : sizedM c.size = true
  · rw [if_pos h, h]
    have h2 := sizedM_iff.1 h
    have h4 : 64 * 8 ≤ c.size * (c.size / 8) := Int.mul_le_mul h2.1 (by omega) (by omega) (by omega)
    constructor
    · intro; omega
    · intro h; cases h
  · rw [if_neg h]; simpa using h

theorem ref03_Large (c : Conf) (p : ConfAt) (w : World) : Does Try.prog 49 #[.agg (confL c p).toArray] w (Grow (.int .i64 (largeM c)) w) := by
  refine Does.enter Try.func49 rfl Try.ntmps49 rfl rfl ?_
  refine Goes.adv hTT 400 rfl ?_
  refine Goes.alloc hTT rfl ?_
  intro b w1 e1 hb hw1 hz1
  refine Goes.adv hTT 400 rfl ?_
  have no : (64 ≤ c.size ∧ c.size ≤ 4096 ∧ c.size % 8 = 0 → False) → Value.int .i64 0 = .int .i64 (largeM c) := fun h => by unfold largeM; rw [if_neg (fun h' => h (sizedM_iff.1 h'))]
  refine Goes.loadb hTT rfl hb rfl rfl ?_
  refine Goes.fork hTT rfl rfl rfl (fun h1 => ?_) (fun h1 => ?_)
  · exact Goes.ret1 hTT rfl Try.func49 rfl rfl ⟨no (fun h => by have := of_decide_eq_true h1; omega), hw1⟩
  · have g1 := of_decide_eq_false h1
    refine Goes.loadb hTT rfl hb rfl rfl ?_
    refine Goes.fork hTT rfl rfl rfl (fun h2 => ?_) (fun h2 => ?_)
    · exact Goes.ret1 hTT rfl Try.func49 rfl rfl ⟨no (fun h => by have := of_decide_eq_true h2; omega), hw1⟩
    · have g2 := of_decide_eq_false h2
      refine Goes.loadb hTT rfl hb rfl rfl ?_
      refine Goes.div hTT rfl (by omega) (rem_ (by omega)) rfl ?_
      refine Goes.fork hTT rfl rfl rfl (fun h3 => ?_) (fun h3 => ?_)
      · exact Goes.ret1 hTT rfl Try.func49 rfl rfl ⟨no (fun h => by have := h.2.2; simp [this] at h3), hw1⟩
      · have g3 : c.size % 8 = 0 := by simpa using h3
        have h3 : 0 ≤ c.size / 8 ∧ c.size / 8 ≤ 512 := by omega
        have h4 : 0 ≤ c.size * (c.size / 8) := Int.mul_nonneg (by omega) h3.1
        have h5 : c.size * (c.size / 8) ≤ 4096 * 512 := Int.mul_le_mul (by omega) h3.2 h3.1 (by omega)
        refine Goes.loadb hTT rfl hb rfl rfl ?_
        refine Goes.loadb hTT rfl hb rfl rfl ?_
        refine Goes.div hTT rfl (by omega) (quo64 (by omega) (by omega)) rfl ?_
        refine Goes.arith hTT rfl (w64 (by omega)) rfl ?_
        exact Goes.ret1 hTT rfl Try.func49 rfl rfl ⟨int_v (by unfold largeM; rw [if_pos (sizedM_iff.2 ⟨by omega, by omega, g3⟩)]), hw1⟩
theorem ref03_Blocks (c : Conf) (p : ConfAt) (k : Int) (w : World) (hc : ConfOk w c p) : Does Try.prog 62 #[.agg (confL c p).toArray, .int .i64 k] w (Grow (.int .i64 (blocksM c k)) w) := by
  have hl := hc.lc
  have hs := hc.size
  unfold In64 at hs
  refine Does.enter Try.func62 rfl Try.ntmps62 rfl rfl ?_
  refine Goes.adv hTT 400 rfl ?_
  refine Goes.alloc hTT rfl ?_
  intro b w1 e1 hb hw1 hz1
  refine Goes.adv hTT 400 rfl ?_
  refine Goes.fork hTT rfl rfl rfl (fun h => ?_) (fun h => ?_)
  · have h' : k < 0 := of_decide_eq_true h
    exact Goes.ret1 hTT rfl Try.func62 rfl rfl ⟨int_v (by unfold blocksM; rw [if_neg (by omega)]), hw1⟩
  · have h' : ¬ k < 0 := of_decide_eq_false h
    refine Goes.loadb hTT rfl hb rfl rfl ?_
    refine Goes.fork hTT rfl rfl rfl (fun h2 => ?_) (fun h2 => ?_)
    · have h3 := of_decide_eq_true h2
      exact Goes.ret1 hTT rfl Try.func62 rfl rfl ⟨int_v (by unfold blocksM; rw [if_neg (by omega)]), hw1⟩
    · have h3 := of_decide_eq_false h2
      obtain ⟨b1, off, ea, hcell⟩ := (hc.chg hw1).classes k.toNat (by omega)
      obtain ⟨ca, cc, ka, kc⟩ := p
      simp only at ea
      subst ea
      refine Goes.quiet rfl mixed (by kernel_rfl) ?_
      refine Quiet.adv hTT rfl ?_
      refine Quiet.loadb hTT rfl hb rfl rfl ?_
      refine Quiet.loadb hTT rfl hb rfl rfl ?_
      refine Quiet.index hTT rfl (j := k.toNat) (by omega) (by omega) (by first | rfl | omega | (simp; done) | (simp; omega)) rfl ?_
      refine Quiet.load hTT rfl hcell rfl ?_
      refine Quiet.call hTT rfl (fun w' hw' => (ref01_Whole c.size (c.classes.getD k.toNat 0) w' hs.2).grow) rfl ?_
      refine Quiet.nil ?_
      intro w2 hw2
      refine Goes.adv hTT 400 rfl ?_
      exact Goes.ret1 hTT rfl Try.func62 rfl rfl ⟨int_v (by unfold blocksM; rw [if_pos (by omega)]), hw1.trans hw2⟩
theorem ref03_May (c : Conf) (p : ConfAt) (w : World) (hc : ConfOk w c p) : Does Try.prog 30 #[.agg (confL c p).toArray] w (Grow (.int .i64 (mayM c)) w) := by
  have hl := hc.lc
  have hlk := hc.lk
  refine Does.enter Try.func30 rfl Try.ntmps30 rfl rfl ?_
  refine Goes.adv hTT 400 rfl ?_
  refine Goes.alloc hTT rfl ?_
  intro b w1 e1 hb hw1 hz1
  refine Goes.adv hTT 400 rfl ?_
  refine Goes.loads hTT rfl hb rfl rfl ?_
  refine Goes.call rfl (ref03_Large c p w1) ?_
  rintro _ wL ⟨rfl, hL⟩
  refine Goes.adv hTT 400 rfl ?_
  have hw2 := hw1.trans hL
  have hb2 := hL.heap' hb
  have hc2 := hc.chg hw2
  refine Goes.fork hTT rfl rfl rfl (fun h1 => ?_) (fun h1 => ?_)
  · exact Goes.ret1 hTT rfl Try.func30 rfl rfl ⟨mayM_one (fun h => by have := (mayB_iff.1 h).1; rw [largeM_zero.1 (by simpa using h1)] at this; cases this), hw2⟩
  · have g1 : sizedM c.size = true := by
      cases h : sizedM c.size with
      | true => rfl
      | false => rw [largeM_zero.2 h] at h1; cases h1
    refine Goes.loadb hTT rfl hb2 rfl rfl ?_
    refine Goes.fork hTT rfl rfl rfl (fun h2 => ?_) (fun h2 => ?_)
    · exact Goes.ret1 hTT rfl Try.func30 rfl rfl ⟨mayM_one (fun h => by have := (mayB_iff.1 h).2.1; have := of_decide_eq_true h2; omega), hw2⟩
    · refine Goes.loadb hTT rfl hb2 rfl rfl ?_
      refine Goes.fork hTT rfl rfl rfl (fun h3 => ?_) (fun h3 => ?_)
      · exact Goes.ret1 hTT rfl Try.func30 rfl rfl ⟨mayM_one (fun h => by have := (mayB_iff.1 h).2.1; have := of_decide_eq_true h3; omega), hw2⟩
      · refine Goes.loadb hTT rfl hb2 rfl rfl ?_
        refine Goes.loadb hTT rfl hb2 rfl rfl ?_
        refine Goes.call rfl (ref02_May p.ca p.cc c.classes c.size wL hc2.classes hl) ?_
        rintro _ w3 ⟨rfl, hM⟩
        refine Goes.adv hTT 400 rfl ?_
        have hw3 := hw2.trans hM
        have hb3 := hM.heap' hb2
        have hc3 := hc2.chg hM
        refine Goes.fork hTT rfl rfl rfl (fun h4 => ?_) (fun h4 => ?_)
        · exact Goes.ret1 hTT rfl Try.func30 rfl rfl ⟨mayM_one (fun h => by have := (mayB_iff.1 h).2.2.1; simp [classMay, this] at h4), hw3⟩
        · refine Goes.loadb hTT rfl hb3 rfl rfl ?_
          refine Goes.loadb hTT rfl hb3 rfl rfl ?_
          refine Goes.fork hTT rfl rfl rfl (fun h5 => ?_) (fun h5 => ?_)
          · exact Goes.ret1 hTT rfl Try.func30 rfl rfl ⟨mayM_one (fun h => by have := (mayB_iff.1 h).2.2.2.1; simp [this] at h5), hw3⟩
          · have g2 := of_decide_eq_false h2
            have g3 := of_decide_eq_false h3
            have g4 : classOk c.classes c.size = true := by unfold classMay at h4; cases hh : classOk c.classes c.size <;> simp [hh] at h4 ⊢
            have g5 : c.keep.length = c.classes.length := by simp at h5; omega
            refine Goes.loop (α := Nat) (fun k => [(1, false, .pointer (some ⟨b, 0, none⟩)), (3, false, .int .i64 k)])
              (fun k w' => Chg None' w3 w' ∧ k ≤ c.keep.length ∧ ∀ j (h : j < c.keep.length), j < k → 0 ≤ c.keep[j] ∧ c.keep[j] ≤ 1024) (fun k => c.keep.length - k) 0 ⟨rfl, rfl, trivial⟩ ⟨Chg.refl _ _, Nat.zero_le _, fun _ _ h => by omega⟩ ?_
            rintro k w4 ⟨hw, hk, hpre⟩ ih
            have hw4 := hw3.trans hw
            have hb4 := hw.heap' hb3
            have hc4 := hc3.chg hw
            refine Goes.adv hTT 400 rfl ?_
            refine Goes.loadb hTT rfl hb4 rfl rfl ?_
            refine Goes.fork hTT rfl rfl rfl (fun h => ?_) (fun h => ?_)
            · have hlt : k < c.keep.length := by simpa using h
              obtain ⟨b1, off, ea, hcell⟩ := hc4.keep k hlt
              rw [getD_at hlt] at hcell
              obtain ⟨ca, cc, ka, kc⟩ := p
              simp only at ea
              subst ea
              refine Goes.loadb hTT rfl hb4 rfl rfl ?_
              refine Goes.index hTT rfl (j := k) (by omega) (by omega) (by first | rfl | omega | (simp; done) | (simp; omega)) rfl ?_
              refine Goes.load hTT rfl hcell rfl ?_
              refine Goes.fork hTT rfl rfl rfl (fun h6 => ?_) (fun h6 => ?_)
              · exact Goes.ret1 hTT rfl Try.func30 rfl rfl ⟨mayM_one (fun h => by have := (mayB_iff.1 h).2.2.2.2.1 _ (List.getElem_mem hlt); have := of_decide_eq_true h6; omega), hw4⟩
              · refine Goes.loadb hTT rfl hb4 rfl rfl ?_
                refine Goes.index hTT rfl (j := k) (by omega) (by omega) (by first | rfl | omega | (simp; done) | (simp; omega)) rfl ?_
                refine Goes.load hTT rfl hcell rfl ?_
                refine Goes.fork hTT rfl rfl rfl (fun h7 => ?_) (fun h7 => ?_)
                · exact Goes.ret1 hTT rfl Try.func30 rfl rfl ⟨mayM_one (fun h => by have := (mayB_iff.1 h).2.2.2.2.1 _ (List.getElem_mem hlt); have := of_decide_eq_true h7; omega), hw4⟩
                · refine Goes.arith hTT rfl (w64 (by omega)) rfl ?_
                  exact ih (k + 1) _ _ ⟨hw, hlt, fun j hj hjk => by
                    by_cases e : j = k
                    · subst e; exact ⟨by have := of_decide_eq_false h6; omega, by have := of_decide_eq_false h7; omega⟩
                    · exact hpre j hj (by omega)⟩ (by omega) ⟨rfl, rfl, trivial⟩
            · have hge : k = c.keep.length := by simp at h; omega
              have g6 : ∀ x, x ∈ c.keep → 0 ≤ x ∧ x ≤ 1024 := fun x hx => by obtain ⟨j, hj, rfl⟩ := List.mem_iff_getElem.1 hx; exact hpre j hj (by omega)
              refine Goes.quiet rfl mixed (by kernel_rfl) ?_
              refine Quiet.adv hTT rfl ?_
              refine Quiet.loadb hTT rfl hb4 rfl rfl ?_
              refine Quiet.fork hTT rfl rfl rfl (fun a1 => ?_) (fun a1 => ?_)
              · refine Quiet.nil ?_
                intro w5 hw5
                refine Goes.adv hTT 400 rfl ?_
                exact Goes.ret1 hTT rfl Try.func30 rfl rfl ⟨mayM_one (fun h => by have := (mayB_iff.1 h).2.2.2.2.2; have := of_decide_eq_true a1; omega), hw4.trans hw5⟩
              refine Quiet.loadb hTT rfl hb4 rfl rfl ?_
              refine Quiet.fork hTT rfl rfl rfl (fun a2 => ?_) (fun a2 => ?_)
              · refine Quiet.nil ?_
                intro w5 hw5
                refine Goes.adv hTT 400 rfl ?_
                exact Goes.ret1 hTT rfl Try.func30 rfl rfl ⟨mayM_one (fun h => by have := (mayB_iff.1 h).2.2.2.2.2; have := of_decide_eq_true a2; omega), hw4.trans hw5⟩
              refine Quiet.loadb hTT rfl hb4 rfl rfl ?_
              refine Quiet.fork hTT rfl rfl rfl (fun a3 => ?_) (fun a3 => ?_)
              · refine Quiet.nil ?_
                intro w5 hw5
                refine Goes.adv hTT 400 rfl ?_
                exact Goes.ret1 hTT rfl Try.func30 rfl rfl ⟨mayM_one (fun h => by have := (mayB_iff.1 h).2.2.2.2.2; have := of_decide_eq_true a3; omega), hw4.trans hw5⟩
              refine Quiet.loadb hTT rfl hb4 rfl rfl ?_
              refine Quiet.fork hTT rfl rfl rfl (fun a4 => ?_) (fun a4 => ?_)
              · refine Quiet.nil ?_
                intro w5 hw5
                refine Goes.adv hTT 400 rfl ?_
                exact Goes.ret1 hTT rfl Try.func30 rfl rfl ⟨mayM_one (fun h => by have := (mayB_iff.1 h).2.2.2.2.2; have := of_decide_eq_true a4; omega), hw4.trans hw5⟩
              refine Quiet.loadb hTT rfl hb4 rfl rfl ?_
              refine Quiet.fork hTT rfl rfl rfl (fun a5 => ?_) (fun a5 => ?_)
              · refine Quiet.nil ?_
                intro w5 hw5
                refine Goes.adv hTT 400 rfl ?_
                exact Goes.ret1 hTT rfl Try.func30 rfl rfl ⟨mayM_one (fun h => by have := (mayB_iff.1 h).2.2.2.2.2; have := of_decide_eq_true a5; omega), hw4.trans hw5⟩
              refine Quiet.loadb hTT rfl hb4 rfl rfl ?_
              refine Quiet.fork hTT rfl rfl rfl (fun a6 => ?_) (fun a6 => ?_)
              · refine Quiet.nil ?_
                intro w5 hw5
                refine Goes.adv hTT 400 rfl ?_
                exact Goes.ret1 hTT rfl Try.func30 rfl rfl ⟨mayM_one (fun h => by have := (mayB_iff.1 h).2.2.2.2.2; have := of_decide_eq_true a6; omega), hw4.trans hw5⟩
              refine Quiet.loadb hTT rfl hb4 rfl rfl ?_
              refine Quiet.fork hTT rfl rfl rfl (fun a7 => ?_) (fun a7 => ?_)
              · refine Quiet.nil ?_
                intro w5 hw5
                refine Goes.adv hTT 400 rfl ?_
                exact Goes.ret1 hTT rfl Try.func30 rfl rfl ⟨mayM_one (fun h => by have := (mayB_iff.1 h).2.2.2.2.2; have := of_decide_eq_true a7; omega), hw4.trans hw5⟩
              refine Quiet.loadb hTT rfl hb4 rfl rfl ?_
              refine Quiet.loads hTT rfl hb4 rfl rfl ?_
              refine Quiet.call hTT rfl (fun w' hw' => ref03_Large c p w') rfl ?_
              refine Quiet.nil ?_
              intro w5 hw5
              refine Goes.adv hTT 400 rfl ?_
              refine Goes.fork hTT rfl rfl rfl (fun a8 => ?_) (fun a8 => ?_)
              · exact Goes.ret1 hTT rfl Try.func30 rfl rfl ⟨mayM_one (fun h => by have := (mayB_iff.1 h).2.2.2.2.2; have := of_decide_eq_true a8; omega), hw4.trans hw5⟩
              have := of_decide_eq_false a1
              have := of_decide_eq_false a2
              have := of_decide_eq_false a3
              have := of_decide_eq_false a4
              have := of_decide_eq_false a5
              have := of_decide_eq_false a6
              have := of_decide_eq_false a7
              have := of_decide_eq_false a8
              exact Goes.ret1 hTT rfl Try.func30 rfl rfl ⟨mayM_zero (mayB_iff.2 ⟨g1, by omega, g4, g5, g6, by omega, by omega, by omega, by omega⟩), hw4.trans hw5⟩

def smallC : Conf := ⟨64, 4, [16, 32], [0, 1], 8, 4, 3, 512⟩
theorem Rd.of {k : IntKind} {w : World} {b : Nat} {c : Array Value} {t : TypeId} {fz : Nat × Nat} {zs : List Int} (h : w.heap[b]? = some (.cells c t fz)) (hc : c = (zs.map (Value.int k)).toArray) : Rd k w (some ⟨b, 0, none⟩) zs := fun i hi =>
  ⟨b, 0, rfl, by rw [cell_of h, hc]; simp [hi]⟩
end Go.Proofs.Ytffimkpllchfcaa
/-
  Layer 21: a view: how many bytes a place has, where a block begins; a new one.
-/
namespace Go.Proofs.Ytffimkpllchfcaa
open Go.RowKit

theorem may_facts {c : Conf} (h : mayB c = true) : (64 ≤ c.size ∧ c.size ≤ 4096 ∧ c.size % 8 = 0) ∧ (1 ≤ c.pages ∧ c.pages ≤ 1024) ∧ classOk c.classes c.size = true := by
  obtain ⟨h1, h2, h3, _⟩ := mayB_iff.1 h
  exact ⟨sizedM_iff.1 h1, h2, h3⟩
/-- A block's place, in a layout that may be. -/
theorem is_small {c : Conf} {q : Plc} (hm : mayB c = true) (h : viewIs c q = true) (hc : q.cls ≠ -1) :
    ∃ k pg ix : Nat, q.cls = k ∧ q.page = pg ∧ q.idx = ix ∧ k < c.classes.length ∧ (pg : Int) < c.pages ∧ 8 ≤ clsM c k ∧ clsM c k ≤ c.size ∧ 0 ≤ (pg : Int) * c.size ∧ 0 ≤ (ix : Int) * clsM c k ∧ (ix : Int) * clsM c k + clsM c k ≤ c.size ∧ (pg : Int) * c.size + (ix : Int) * clsM c k + clsM c k ≤ c.size * c.pages := by
  obtain ⟨h1, h2, h3⟩ := may_facts hm
  unfold viewIs at h
  rw [if_neg hc] at h
  simp only [Bool.and_eq_true, inT_iff] at h
  obtain ⟨⟨⟨a1, a2⟩, b1, b2⟩, c1, c2⟩ := h
  obtain ⟨k, hk⟩ := Int.eq_ofNat_of_zero_le a1
  obtain ⟨pg, hpg⟩ := Int.eq_ofNat_of_zero_le b1
  obtain ⟨ix, hix⟩ := Int.eq_ofNat_of_zero_le c1
  have hkl : k < c.classes.length := by omega
  obtain ⟨d1, d2, d3⟩ := classOk_get h3 k hkl
  have hcls : clsM c k = c.classes.getD k 0 := rfl
  rw [← hcls] at d1 d3
  have hbl : blocksM c q.cls = c.size / clsM c k := by
    unfold blocksM
    rw [hk, if_pos (by omega), Int.toNat_natCast, ← hcls, whole_yes (by omega) (by omega)]
  rw [hbl, hix] at c2
  have e1 : (ix : Int) * clsM c k + clsM c k ≤ c.size := by
    have : ((ix : Int) + 1) * clsM c k ≤ c.size := by
      calc ((ix : Int) + 1) * clsM c k ≤ (c.size / clsM c k) * clsM c k := Int.mul_le_mul_of_nonneg_right (by omega) (by omega)
        _ ≤ c.size := Int.ediv_mul_le _ (by omega)
    rw [Int.add_mul, Int.one_mul] at this
    exact this
  have e2 : (pg : Int) * c.size + c.size ≤ c.size * c.pages := by
    have : ((pg : Int) + 1) * c.size ≤ c.pages * c.size := Int.mul_le_mul_of_nonneg_right (by omega) (by omega)
    rw [Int.add_mul, Int.one_mul, Int.mul_comm c.pages] at this
    exact this
  refine ⟨k, pg, ix, hk, hpg, hix, hkl, by omega, by omega, d3, Int.mul_nonneg (by omega) (by omega), Int.mul_nonneg (by omega) (by omega), e1, by omega⟩
/-- A large place. -/
theorem is_large {c : Conf} {q : Plc} (h : viewIs c q = true) (hc : q.cls = -1) : 0 < q.pages.length ∧ ∀ n ∈ q.pages, 0 ≤ n ∧ n < c.pages := by
  unfold viewIs at h
  rw [if_pos hc] at h
  simp only [Bool.and_eq_true, decide_eq_true_eq, Bool.not_eq_true'] at h
  refine ⟨h.1, fun n hn => ?_⟩
  have := List.any_eq_false.1 h.2 n hn
  simp at this
  exact inT_iff.1 this
theorem VwOk.cls {w : World} {v : Vw} (h : VwOk w v) {k : Nat} (hk : k < v.c.classes.length) : ∃ b off, v.p.ca = some ⟨b, off, none⟩ ∧ w.cell? ⟨b, off + k, none⟩ = some (.int .i64 (clsM v.c k)) := h.conf.classes k hk
theorem size_total {c : Conf} (hm : mayB c = true) : 64 ≤ c.size * c.pages ∧ c.size * c.pages ≤ 4194304 := by
  obtain ⟨h1, h2, _⟩ := may_facts hm
  constructor
  · calc (64 : Int) = 64 * 1 := rfl
      _ ≤ c.size * c.pages := Int.mul_le_mul (by omega) (by omega) (by omega) (by omega)
  · calc c.size * c.pages ≤ 4096 * 1024 := Int.mul_le_mul (by omega) (by omega) (by omega) (by omega)
      _ = 4194304 := rfl
theorem view_Holds (v : Vw) (q : Plc) (w : World) (h : VwOk w v) (hq : PlcOk w q) (hfew : q.pages.length ≤ 1000000000) : Does Try.prog 12 #[vwV v, .agg (plL q).toArray] w (Grow (.int .i64 (viewHolds v.c q)) w) := by
  obtain ⟨m1, m2, m3⟩ := may_facts h.may
  refine Does.enter Try.func12 rfl Try.ntmps12 rfl rfl ?_
  refine Goes.adv hTT 400 rfl ?_
  refine Goes.alloc hTT rfl ?_
  intro qb w1 e1 hqb hw1 hz1
  refine Goes.adv hTT 400 rfl ?_
  have hv1 := h.grow hw1
  replace hqb : w1.heap[qb]? = some (.cells (plL q).toArray 26 (0, 0)) := hqb
  refine Goes.loads hTT rfl hqb rfl rfl ?_
  refine Goes.call rfl (view_is v q w1 hv1 (hq.grow hw1)) ?_
  rintro _ w2 ⟨rfl, hw2⟩
  refine Goes.adv hTT 400 rfl ?_
  have hqb2 := hw2.heap' hqb
  have hv2 := hv1.grow hw2
  have hw := hw1.trans hw2
  cases hi : viewIs v.c q with
  | false =>
    refine Goes.yes hTT rfl rfl rfl ?_
    exact Goes.ret1 hTT rfl Try.func12 rfl rfl ⟨int_v (by unfold viewHolds; rw [hi]; rfl), hw⟩
  | true =>
    refine Goes.no hTT rfl rfl rfl ?_
    refine Goes.loadb hTT rfl hqb2 rfl rfl ?_
    refine Goes.fork hTT rfl rfl rfl (fun hcl1 => ?_) (fun hcl1 => ?_)
    · have g : q.cls = -1 := by simpa using hcl1
      have hl0 : 0 ≤ (q.pages.length : Int) * v.c.size := Int.mul_nonneg (by omega) (by omega)
      have hl1 : (q.pages.length : Int) * v.c.size ≤ 1000000000 * 4096 := Int.mul_le_mul (by omega) (by omega) (by omega) (by omega)
      refine Goes.drawn (q := 10) None' hTT mixed (by kernel_rfl) rfl ?_
      intro hB
      refine Drawn.loadb hTT hB rfl hqb2 (by first | exact fun h => h | (intro h; omega) | assumption) rfl rfl ?_
      refine Drawn.loadb hTT hB rfl hv2.obj (by first | exact fun h => h | (intro h; omega) | assumption) rfl rfl ?_
      refine Drawn.arith hTT hB rfl (w64 (by omega)) rfl ?_
      refine Drawn.nil hB ?_
      intro w3 hw3
      refine Goes.adv hTT 400 rfl ?_
      exact Goes.ret1 hTT rfl Try.func12 rfl rfl ⟨int_v (by unfold viewHolds; rw [if_pos hi, if_pos g]), hw.trans hw3⟩
    · have g : ¬ q.cls = -1 := by simpa using hcl1
      obtain ⟨k, pg, ix, hk, hpg, hix, hkl, _, _, _, _, _, _, _⟩ := is_small h.may hi g
      obtain ⟨cb, off, hca, hcc⟩ := hv2.cls hkl
      obtain ⟨vb, c, ⟨ca, cc, ka, kc⟩, ab, mb⟩ := v
      simp only at hca
      subst hca
      obtain ⟨cls, page, idx, pa, pc, pages⟩ := q
      simp only at hk
      subst hk
      replace hkl : k < c.classes.length := hkl
      refine Goes.drawn (q := 10) None' hTT mixed (by kernel_rfl) rfl ?_
      intro hB
      refine Drawn.loadb hTT hB rfl hv2.obj (by first | exact fun h => h | (intro h; omega) | assumption) rfl rfl ?_
      refine Drawn.loadb hTT hB rfl hqb2 (by first | exact fun h => h | (intro h; omega) | assumption) rfl rfl ?_
      refine Drawn.index hTT hB rfl (j := k) (show (0 : Int) ≤ k by omega) (show (k : Int) < c.classes.length by omega) (by simp) rfl ?_
      refine Drawn.load hTT hB rfl hcc (by first | exact fun h => h | (intro h; omega) | assumption) rfl ?_
      refine Drawn.nil hB ?_
      intro w3 hw3
      refine Goes.adv hTT 400 rfl ?_
      exact Goes.ret1 hTT rfl Try.func12 rfl rfl ⟨int_v (by unfold viewHolds; rw [if_pos hi]; simp only; rw [if_neg g]), hw.trans hw3⟩
theorem view_Holds_nil (q : Plc) (w : World) : Does Try.prog 12 #[.pointer none, .agg (plL q).toArray] w (Grow (.int .i64 0) w) := by
  refine Does.enter Try.func12 rfl Try.ntmps12 rfl rfl ?_
  refine Goes.adv hTT 400 rfl ?_
  refine Goes.alloc hTT rfl ?_
  intro qb w1 e1 hqb hw1 hz1
  refine Goes.adv hTT 400 rfl ?_
  replace hqb : w1.heap[qb]? = some (.cells (plL q).toArray 26 (0, 0)) := hqb
  refine Goes.loads hTT rfl hqb rfl rfl ?_
  refine Goes.call rfl (view_is_nil q w1) ?_
  rintro _ w2 ⟨rfl, hw2⟩
  refine Goes.adv hTT 400 rfl ?_
  refine Goes.yes hTT rfl rfl rfl ?_
  exact Goes.ret1 hTT rfl Try.func12 rfl rfl ⟨rfl, hw1.trans hw2⟩
theorem view_At (v : Vw) (q : Plc) (w : World) (h : VwOk w v) (hq : PlcOk w q) : Does Try.prog 14 #[vwV v, .agg (plL q).toArray] w (Grow (.int .i64 (viewAt v.c q)) w) := by
  obtain ⟨m1, m2, m3⟩ := may_facts h.may
  have htot := size_total h.may
  refine Does.enter Try.func14 rfl Try.ntmps14 rfl rfl ?_
  refine Goes.adv hTT 400 rfl ?_
  refine Goes.alloc hTT rfl ?_
  intro qb w1 e1 hqb hw1 hz1
  refine Goes.adv hTT 400 rfl ?_
  have hv1 := h.grow hw1
  replace hqb : w1.heap[qb]? = some (.cells (plL q).toArray 26 (0, 0)) := hqb
  refine Goes.loads hTT rfl hqb rfl rfl ?_
  refine Goes.call rfl (view_is v q w1 hv1 (hq.grow hw1)) ?_
  rintro _ w2 ⟨rfl, hw2⟩
  refine Goes.adv hTT 400 rfl ?_
  have hqb2 := hw2.heap' hqb
  have hv2 := hv1.grow hw2
  have hw := hw1.trans hw2
  cases hi : viewIs v.c q with
  | false =>
    refine Goes.yes hTT rfl rfl rfl ?_
    exact Goes.ret1 hTT rfl Try.func14 rfl rfl ⟨int_v (by unfold viewAt; rw [hi, if_neg (by simp)]), hw⟩
  | true =>
    refine Goes.no hTT rfl rfl rfl ?_
    refine Goes.loadb hTT rfl hqb2 rfl rfl ?_
    refine Goes.fork hTT rfl rfl rfl (fun hcl1 => ?_) (fun hcl1 => ?_)
    · have g : q.cls = -1 := by simpa using hcl1
      exact Goes.ret1 hTT rfl Try.func14 rfl rfl ⟨int_v (by unfold viewAt; rw [if_neg (fun hh => hh.2 g)]), hw⟩
    · have g : ¬ q.cls = -1 := by simpa using hcl1
      obtain ⟨k, pg, ix, hk, hpg, hix, hkl, g1, g2, g3, g4, g5, g6, g7⟩ := is_small h.may hi g
      obtain ⟨cb, off, hca, hcc⟩ := hv2.cls hkl
      obtain ⟨vb, c, ⟨ca, cc, ka, kc⟩, ab, mb⟩ := v
      simp only at hca
      subst hca
      obtain ⟨cls, page, idx, pa, pc, pages⟩ := q
      simp only at hk hpg hix
      subst hk
      subst hpg
      subst hix
      replace hkl : k < c.classes.length := hkl
      replace htot : 64 ≤ c.size * c.pages ∧ c.size * c.pages ≤ 4194304 := htot
      replace g4 : 0 ≤ (pg : Int) * c.size := g4
      replace g5 : 0 ≤ (ix : Int) * clsM c k := g5
      replace g6 : (ix : Int) * clsM c k + clsM c k ≤ c.size := g6
      replace g7 : (pg : Int) * c.size + (ix : Int) * clsM c k + clsM c k ≤ c.size * c.pages := g7
      replace g2 : 8 ≤ clsM c k := g2
      replace m1 : 64 ≤ c.size ∧ c.size ≤ 4096 ∧ c.size % 8 = 0 := m1
      refine Goes.drawn (q := 22) None' hTT mixed (by kernel_rfl) rfl ?_
      intro hB
      refine Drawn.loadb hTT hB rfl hqb2 (by first | exact fun h => h | (intro h; omega) | assumption) rfl rfl ?_
      refine Drawn.loadb hTT hB rfl hv2.obj (by first | exact fun h => h | (intro h; omega) | assumption) rfl rfl ?_
      refine Drawn.arith hTT hB rfl (w64 (by show _ ∧ _; simp only; omega)) rfl ?_
      refine Drawn.loadb hTT hB rfl hqb2 (by first | exact fun h => h | (intro h; omega) | assumption) rfl rfl ?_
      refine Drawn.loadb hTT hB rfl hv2.obj (by first | exact fun h => h | (intro h; omega) | assumption) rfl rfl ?_
      refine Drawn.loadb hTT hB rfl hqb2 (by first | exact fun h => h | (intro h; omega) | assumption) rfl rfl ?_
      refine Drawn.index hTT hB rfl (j := k) (show (0 : Int) ≤ k by omega) (show (k : Int) < c.classes.length by omega) (by simp) rfl ?_
      refine Drawn.load hTT hB rfl hcc (by first | exact fun h => h | (intro h; omega) | assumption) rfl ?_
      refine Drawn.arith hTT hB rfl (w64 (by show _ ∧ _; simp only; omega)) rfl ?_
      refine Drawn.arith hTT hB rfl (w64 (by show _ ∧ _; simp only; omega)) rfl ?_
      refine Drawn.nil hB ?_
      intro w3 hw3
      refine Goes.adv hTT 400 rfl ?_
      exact Goes.ret1 hTT rfl Try.func14 rfl rfl ⟨int_v (by unfold viewAt; rw [if_pos ⟨hi, g⟩]), hw.trans hw3⟩
theorem view_At_nil (q : Plc) (w : World) : Does Try.prog 14 #[.pointer none, .agg (plL q).toArray] w (Grow (.int .i64 (-1)) w) := by
  refine Does.enter Try.func14 rfl Try.ntmps14 rfl rfl ?_
  refine Goes.adv hTT 400 rfl ?_
  refine Goes.alloc hTT rfl ?_
  intro qb w1 e1 hqb hw1 hz1
  refine Goes.adv hTT 400 rfl ?_
  replace hqb : w1.heap[qb]? = some (.cells (plL q).toArray 26 (0, 0)) := hqb
  refine Goes.loads hTT rfl hqb rfl rfl ?_
  refine Goes.call rfl (view_is_nil q w1) ?_
  rintro _ w2 ⟨rfl, hw2⟩
  refine Goes.adv hTT 400 rfl ?_
  refine Goes.yes hTT rfl rfl rfl ?_
  exact Goes.ret1 hTT rfl Try.func14 rfl rfl ⟨rfl, hw1.trans hw2⟩
theorem view_New (c : Conf) (p : ConfAt) (A : Ar) (V : ArV) (w : World) (hc : ConfOk w c p) (hA : ArOk w A V) : Does Try.prog 11 #[.agg (confL c p).toArray, .pointer (some ⟨A.ab, 0, none⟩), ptr A.mb] w
    (fun v w' => Chg None' w w' ∧ if mayB c = true ∧ (V.bs.length : Int) = c.size * c.pages then ∃ vb, v = .tuple #[.pointer (some ⟨vb, 0, none⟩), .int .i64 0] ∧ w.heap.size ≤ vb ∧ VwOk w' ⟨vb, c, p, A.ab, A.mb⟩ else v = .tuple #[.pointer none, .int .i64 1]) := by
  refine Does.enter Try.func11 rfl Try.ntmps11 rfl rfl ?_
  refine Goes.adv hTT 400 rfl ?_
  refine Goes.alloc hTT rfl ?_
  intro cb w1 e1 hcb hw1 hz1
  refine Goes.adv hTT 400 rfl ?_
  replace hcb : w1.heap[cb]? = some (.cells (confL c p).toArray 24 (0, 0)) := hcb
  refine Goes.loads hTT rfl hcb rfl rfl ?_
  refine Goes.call rfl (conf_May c p w1 (hc.chg hw1)) ?_
  rintro _ w2 ⟨rfl, hw2⟩
  refine Goes.adv hTT 400 rfl ?_
  have hw := hw1.trans hw2
  have hcb2 := hw2.heap' hcb
  cases hm : mayB c with
  | false =>
    rw [show mayM c = 1 from by unfold mayM; rw [hm]; rfl]
    refine Goes.yes hTT rfl rfl rfl ?_
    exact Goes.ret2 hTT rfl Try.func11 rfl rfl rfl ⟨hw, by rw [if_neg (by simp)]⟩
  | true =>
    rw [show mayM c = 0 from by unfold mayM; rw [hm]; rfl]
    have htot := size_total hm
    refine Goes.no hTT rfl rfl rfl ?_
    refine Goes.drawn (q := 8) None' hTT mixed (by kernel_rfl) rfl ?_
    intro hB
    refine Drawn.call hTT hB rfl (fun w' hw' => (arena_Len A V w' ((hA.grow hw).grow hw')).grow) rfl ?_
    refine Drawn.loadb hTT hB rfl hcb2 (by first | exact fun h => h | (intro h; omega) | assumption) rfl rfl ?_
    refine Drawn.loadb hTT hB rfl hcb2 (by first | exact fun h => h | (intro h; omega) | assumption) rfl rfl ?_
    refine Drawn.arith hTT hB rfl (w64 (by show _ ∧ _; omega)) rfl ?_
    refine Drawn.adv hTT hB rfl ?_
    refine Drawn.nil hB ?_
    intro w3 hw3
    refine Goes.adv hTT 400 rfl ?_
    by_cases hl : (V.bs.length : Int) = c.size * c.pages
    · refine Goes.no hTT rfl (show ((V.bs.length : Int) != c.size * c.pages) = false by rw [hl]; exact bne_self_eq_false _) rfl ?_
      refine Goes.loads hTT rfl (hw3.heap' hcb2) rfl rfl ?_
      refine Goes.build hTT rfl rfl ?_
      refine Goes.alloc hTT rfl ?_
      intro vb w4 e4 hvb hw4 hz4
      refine Goes.adv hTT 400 rfl ?_
      have hwa := (hw.trans hw3).trans hw4
      exact Goes.ret2 hTT rfl Try.func11 rfl rfl rfl ⟨hwa, by rw [if_pos ⟨rfl, hl⟩]; exact ⟨vb, rfl, by have := hw.size; have := hw3.size; omega, ⟨hvb, hc.chg hwa, hm⟩⟩⟩
    · refine Goes.yes hTT rfl (show ((V.bs.length : Int) != c.size * c.pages) = true by simpa using hl) rfl ?_
      exact Goes.ret2 hTT rfl Try.func11 rfl rfl rfl ⟨hw.trans hw3, by rw [if_neg (fun hh => hl hh.2)]⟩
end Go.Proofs.Ytffimkpllchfcaa
/-
  A slice of elements of several cells.
-/
namespace Go.Proofs.Ytffimkpllchfcaa
open Go.RowKit

/-- Elements of so many cells each, one behind another. -/
def Rows {α : Type} (cells : α → List Value) (sz : Nat) (w : World) (a : Option Addr) (xs : List α) : Prop :=
  ∀ i x, xs[i]? = some x → ∃ b off, a = some ⟨b, off, none⟩ ∧ ∀ j v, (cells x)[j]? = some v → w.cell? ⟨b, off + i * sz + j, none⟩ = some v
theorem Rows.chg {α : Type} {cells : α → List Value} {sz : Nat} {w w' : World} {a : Option Addr} {xs : List α} (h : Rows cells sz w a xs) (hc : Chg None' w w') : Rows cells sz w' a xs := fun i x hx => by
  obtain ⟨b, off, e, hcell⟩ := h i x hx
  exact ⟨b, off, e, fun j v hv => below_cell hc.below (hcell j v hv)⟩
theorem Rows.at {α : Type} {cells : α → List Value} {sz : Nat} {w : World} {a : Option Addr} {xs : List α} (h : Rows cells sz w a xs) {i : Nat} (hi : i < xs.length) :
    ∃ b off, a = some ⟨b, off, none⟩ ∧ ∀ j v, (cells xs[i])[j]? = some v → w.cell? ⟨b, off + i * sz + j, none⟩ = some v := h i xs[i] (List.getElem?_eq_getElem hi)
/-- Outside some blocks. -/
def OutA (S : Nat → Prop) (a : Option Addr) : Prop := ∀ b off s, a = some ⟨b, off, s⟩ → ¬ S b
/-- Where it was, or in a block that is new. -/
def Newer (w : World) (a a' : Option Addr) : Prop := a' = a ∨ ∃ g off, a' = some ⟨g, off, none⟩ ∧ w.heap.size ≤ g
theorem OutA.newer {S : Nat → Prop} {w : World} {a a' : Option Addr} (h : OutA S a) (hn : Newer w a a') (hS : ∀ b, S b → b < w.heap.size) : OutA S a' := fun b off s e hb => by
  rcases hn with hn | ⟨g, off', hn, hg⟩
  · rw [hn] at e; exact h b off s e hb
  · rw [hn] at e; cases e; have := hS _ hb; omega
theorem OutA.fresh {S : Nat → Prop} {w : World} {g off : Nat} (hg : w.heap.size ≤ g) (hS : ∀ b, S b → b < w.heap.size) : OutA S (some ⟨g, off, none⟩) := fun b off' s e hb => by cases e; have := hS _ hb; omega
theorem Rd.far {k : IntKind} {w w' : World} {a : Option Addr} {zs : List Int} {S : Nat → Prop} (h : Rd k w a zs) (hs : OutA S a) (hc : Chg S w w') : Rd k w' a zs := (RdS.chg ⟨h, fun b off s e _ => hs b off s e⟩ hc).1
theorem OutA.mono {S S' : Nat → Prop} {a : Option Addr} (h : OutA S a) (hs : ∀ z, S' z → S z) : OutA S' a := fun b off s e hb => h b off s e (hs _ hb)
end Go.Proofs.Ytffimkpllchfcaa
/-
  Layer 16: a large thing's bytes, page by page.
-/
namespace Go.Proofs.Ytffimkpllchfcaa
open Go.RowKit

abbrev Span := Nat × Nat × Nat
def spanL (s : Span) : List Value := [.int .i64 (s.1 : Nat), .int .i64 (s.2.1 : Nat), .int .i64 (s.2.2 : Nat)]
def headS (at' n page : Nat) : Span := (at' / page, at' % page, min n (page - at' % page))
def spansF : Nat → Nat → Nat → Nat → List Span
  | 0, _, _, _ => []
  | f + 1, at', n, page => if n = 0 then [] else headS at' n page :: spansF f (at' + min n (page - at' % page)) (n - min n (page - at' % page)) page
def spansM (at' n page : Nat) : List Span := spansF n at' n page
theorem headS_pos {at' n page : Nat} (hp : 1 ≤ page) (hn : 0 < n) : 0 < min n (page - at' % page) := by
  have := Nat.mod_lt at' (show 0 < page by omega); omega
theorem spansF_fuel {page : Nat} (hp : 1 ≤ page) : ∀ (f g at' n : Nat), n ≤ f → n ≤ g → spansF f at' n page = spansF g at' n page
  | 0, 0, _, _, _, _ => rfl
  | 0, g + 1, at', n, h, _ => by obtain rfl : n = 0 := by omega
                                 simp [spansF]
  | f + 1, 0, at', n, _, h => by obtain rfl : n = 0 := by omega
                                 simp [spansF]
  | f + 1, g + 1, at', n, h1, h2 => by
    unfold spansF
    split
    · rfl
    · rename_i hn
      have := headS_pos (at' := at') hp (show 0 < n by omega)
      rw [spansF_fuel hp f g _ _ (by omega) (by omega)]
theorem spansM_nil (at' page : Nat) : spansM at' 0 page = [] := rfl
theorem spansM_cons {at' n page : Nat} (hp : 1 ≤ page) (hn : 0 < n) : spansM at' n page = headS at' n page :: spansM (at' + min n (page - at' % page)) (n - min n (page - at' % page)) page := by
  have := headS_pos (at' := at') hp hn
  unfold spansM
  obtain ⟨m, rfl⟩ : ∃ m, n = m + 1 := ⟨n - 1, by omega⟩
  rw [show spansF (m + 1) at' (m + 1) page = headS at' (m + 1) page :: spansF m (at' + min (m + 1) (page - at' % page)) (m + 1 - min (m + 1) (page - at' % page)) page from by
    show (if m + 1 = 0 then [] else _) = _
    rw [if_neg (by omega)]]
  rw [spansF_fuel hp m _ _ _ (by omega) (Nat.le_refl _)]
theorem spansM_length {page : Nat} (hp : 1 ≤ page) : ∀ (n at' : Nat), (spansM at' n page).length ≤ n := by
  intro n
  induction n using Nat.strongRecOn with
  | _ n ih =>
    intro at'
    by_cases hn : n = 0
    · subst hn; exact Nat.le_refl _
    · have := headS_pos (at' := at') hp (show 0 < n by omega)
      rw [spansM_cons hp (by omega), List.length_cons]
      have := ih (n - min n (page - at' % page)) (by omega) (at' + min n (page - at' % page))
      omega
abbrev intBox (w : World) (b : Nat) (x : Int) : Prop := w.heap[b]? = some (.cells ([.int .i64 x] : List Value).toArray 3 (0, 0))
theorem chain_next (pa pp pn at' page n : Nat) (w : World) (ha : intBox w pa at') (hp : intBox w pp page) (hn : intBox w pn n) (hb : at' + n ≤ 16777216 ∧ 1 ≤ page ∧ page ≤ 16777216) :
    Does Try.prog 79 #[.pointer (some ⟨pa, 0, none⟩), .pointer (some ⟨pp, 0, none⟩), .pointer (some ⟨pn, 0, none⟩)] w (Grow (.agg (spanL (headS at' n page)).toArray) w) := by
  have hmod : 0 ≤ (at' : Int) % page ∧ (at' : Int) % page < page := ⟨Int.emod_nonneg _ (by omega), Int.emod_lt_of_pos _ (by omega)⟩
  have e3 : ((min n (page - at' % page) : Nat) : Int) = if (page : Int) - (at' : Int) % page < n then (page : Int) - (at' : Int) % page else n := by
    rw [show ((at' : Int) % page) = ((at' % page : Nat) : Int) from rfl]
    have := Nat.mod_lt at' (show 0 < page by omega)
    split <;> omega
  refine Does.enter Try.func79 rfl Try.ntmps79 rfl rfl ?_
  refine Goes.adv hTT 400 rfl ?_
  refine Goes.alloc hTT rfl ?_
  intro rb w1 e1 hrb hw1 hz1
  refine Goes.adv hTT 400 rfl ?_
  refine Goes.loadb hTT rfl (hw1.heap' ha) rfl rfl ?_
  refine Goes.loadb hTT rfl (hw1.heap' hp) rfl rfl ?_
  refine Goes.div hTT rfl (by omega) (rem_ (by omega)) rfl ?_
  refine Goes.drawn (q := 10) None' hTT mixed (by kernel_rfl) rfl ?_
  intro hB
  refine Drawn.loadb hTT hB rfl (hw1.heap' ha) (by first | exact fun h => h | (intro h; omega) | assumption) rfl rfl ?_
  refine Drawn.loadb hTT hB rfl (hw1.heap' hp) (by first | exact fun h => h | (intro h; omega) | assumption) rfl rfl ?_
  refine Drawn.div hTT hB rfl (by omega) (quo64 (by omega) (by omega)) rfl ?_
  refine Drawn.loadb hTT hB rfl (hw1.heap' hn) (by first | exact fun h => h | (intro h; omega) | assumption) rfl rfl ?_
  refine Drawn.loadb hTT hB rfl (hw1.heap' hp) (by first | exact fun h => h | (intro h; omega) | assumption) rfl rfl ?_
  refine Drawn.arith hTT hB rfl (w64 (by omega)) rfl ?_
  refine Drawn.adv hTT hB rfl ?_
  refine Drawn.build hTT hB rfl rfl ?_
  refine Drawn.nil hB ?_
  intro w2 hw2
  refine Goes.adv hTT 400 rfl ?_
  refine Goes.store hTT rfl (hw2.heap' hrb) rfl rfl ?_
  intro w3 hr3 hs3 hz3
  refine Goes.adv hTT 400 rfl ?_
  have hc3 : Chg None' w w3 := (hw1.trans hw2).since hs3 (fun x hx hx' => by omega)
  exact Goes.ret hTT rfl Try.func79 (ResOk.cell rfl rfl rfl hr3 rfl .nil) ⟨by unfold spanL headS; simp only; rw [e3]; rfl, hc3⟩
theorem chain_spans1 (l pa pp pn at0 n0 page : Nat) (w : World) (Y : Nat → Prop) (I : Nat → World → Prop) (hb : at0 + n0 ≤ 16777216 ∧ 1 ≤ page ∧ page ≤ 16777216) (ha : intBox w pa at0) (hp : intBox w pp page) (hn : intBox w pn n0)
    (hne : pa ≠ pp ∧ pa ≠ pn ∧ pp ≠ pn) (hY : ¬ Y pa ∧ ¬ Y pp ∧ ¬ Y pn) (hI : ∀ k w w', I k w → Chg (fun z => z = pa ∨ z = pn) w w' → I k w')
    (hy : ∀ k w0 w (h : k < (spansM at0 n0 page).length), I k w0 → Chg None' w0 w → YDoes Try.prog l [.agg (spanL (spansM at0 n0 page)[k]).toArray] w (fun v w' => v = .bool true ∧ I (k + 1) w' ∧ Chg (fun z => Y z ∧ z < w0.heap.size) w w'))
    (h0 : I 0 w) :
    Does Try.prog 78 #[yieldV l, .pointer (some ⟨pa, 0, none⟩), .pointer (some ⟨pp, 0, none⟩), .pointer (some ⟨pn, 0, none⟩)] w (fun v w' => v = .tuple #[] ∧ I (spansM at0 n0 page).length w' ∧ Chg (fun z => z = pa ∨ z = pn ∨ Y z) w w') := by
  refine Does.enter Try.func78 rfl Try.ntmps78 rfl rfl ?_
  refine Goes.adv hTT 400 rfl ?_
  refine Goes.loop (α := Nat × Nat × Nat) (fun _ => [(0, false, yieldV l), (1, false, .pointer (some ⟨pa, 0, none⟩)), (3, false, .pointer (some ⟨pn, 0, none⟩)), (5, false, .func (.func 79) #[] #[.pointer (some ⟨pa, 0, none⟩), .pointer (some ⟨pp, 0, none⟩), .pointer (some ⟨pn, 0, none⟩)])])
    (fun p w' => ∃ pre, spansM at0 n0 page = pre ++ spansM p.2.1 p.2.2 page ∧ pre.length = p.1 ∧ p.2.1 + p.2.2 = at0 + n0 ∧ I p.1 w' ∧ intBox w' pa p.2.1 ∧ intBox w' pp page ∧ intBox w' pn p.2.2 ∧ Chg (fun z => z = pa ∨ z = pn ∨ Y z) w w') (fun p => p.2.2) (0, at0, n0) ⟨rfl, rfl, rfl, rfl, trivial⟩
    ⟨[], rfl, rfl, rfl, h0, ha, hp, hn, Chg.refl _ _⟩ ?_
  rintro ⟨k, at', n⟩ w1 ⟨pre, hpre, hk, hsum, hI1, ha1, hp1, hn1, hc1⟩ ih
  simp only at hpre hk hsum hI1 ha1 hn1
  subst hk
  refine Goes.adv hTT 400 rfl ?_
  refine Goes.loadb hTT rfl hn1 rfl rfl ?_
  refine Goes.fork hTT rfl rfl rfl (fun hc => ?_) (fun hc => ?_)
  · have hn0 : 0 < n := by have := of_decide_eq_true hc; omega
    have hlen := headS_pos (at' := at') hb.2.1 hn0
    have hcons := spansM_cons (at' := at') hb.2.1 hn0
    refine Goes.call rfl (chain_next pa pp pn at' page n w1 ha1 hp1 hn1 (by omega)) ?_
    rintro _ w2 ⟨rfl, hw2⟩
    refine Goes.adv hTT 400 rfl ?_
    refine Goes.alloc hTT rfl ?_
    intro sb w3 e3 hsb hw3 hz3
    refine Goes.adv hTT 400 rfl ?_
    refine Goes.store hTT rfl hsb rfl rfl ?_
    intro w4 hsb4 hs4 hz4
    refine Goes.adv hTT 400 rfl ?_
    have hw14 : Chg None' w1 w4 := (hw2.trans hw3).since hs4 (fun z hz e => by have := hw2.size; omega)
    have hlt : pre.length < (spansM at0 n0 page).length := by rw [hpre, hcons]; simp
    have hel : (spansM at0 n0 page)[pre.length] = headS at' n page := by
      simp only [hpre, hcons]; simp
    have hyk := hy pre.length w1 w4 hlt hI1 hw14
    rw [hel] at hyk
    replace hsb4 : w4.heap[sb]? = some (.cells (spanL (headS at' n page)).toArray 110 (0, 0)) := hsb4
    refine Goes.loads hTT rfl hsb4 rfl rfl ?_
    refine Goes.yield rfl hyk ?_
    rintro _ w5 ⟨rfl, hI5, hs5⟩
    refine Goes.adv hTT 400 rfl ?_
    refine Goes.no hTT rfl rfl rfl ?_
    have hsbs : w1.heap.size ≤ sb := by have := hw2.size; omega
    have hla := lt_of_heap ha1
    have hlp := lt_of_heap hp1
    have hln := lt_of_heap hn1
    have ha5 : intBox w5 pa at' := hs5.heap (hw14.heap' ha1) (fun h => hY.1 h.1)
    have hp5 : intBox w5 pp page := hs5.heap (hw14.heap' hp1) (fun h => hY.2.1 h.1)
    have hn5 : intBox w5 pn n := hs5.heap (hw14.heap' hn1) (fun h => hY.2.2 h.1)
    have hsb5 := hs5.heap hsb4 (fun h => by have := h.2; omega)
    refine Goes.drawn (q := 9) (fun z => z = pa) hTT mixed (by kernel_rfl) rfl ?_
    intro hB
    refine Drawn.loadbAt (4) hTT hB rfl rfl rfl hn5 (by first | exact fun h => h | (intro h; omega) | assumption) rfl rfl ?_
    refine Drawn.loadbAt (2) hTT hB rfl rfl rfl hsb5 (by first | exact fun h => h | (intro h; omega) | assumption) rfl rfl ?_
    refine Drawn.loadbAt (6) hTT hB rfl rfl rfl hsb5 (by first | exact fun h => h | (intro h; omega) | assumption) rfl rfl ?_
    refine Drawn.arith hTT hB rfl (w64 (by show _ ∧ _; unfold headS; simp only; omega)) rfl ?_
    refine Drawn.turn1 hB rfl ?_
    intro w6 hw6
    refine Turn.loadb hTT hB rfl (hw6.heap' ha5) rfl rfl ?_
    refine Drawn.arith hTT hB rfl (w64 (by show _ ∧ _; unfold headS; simp only; omega)) rfl ?_
    refine Drawn.turn1 hB rfl ?_
    intro w6b hw6b
    refine Turn.store hTT hB rfl (hw6b.heap' (hw6.heap' ha5)) (by first | (intro h; exact rfl) | (intro h; omega)) rfl rfl rfl ?_
    intro w7a ha7a hs7 hz7
    refine Drawn.nil hB ?_
    intro w7 hw7
    refine Goes.adv hTT 400 rfl ?_
    have hw66 := hw6.trans hw6b
    have ha7 := hw7.heap' ha7a
    refine Goes.store hTT rfl (hw7.heap' (hs7.heap (hw66.heap' hn5) (fun e => hne.2.1 e.symm))) rfl rfl ?_
    intro w8 hn8 hs8 hz8
    refine Goes.adv hTT 400 rfl ?_
    have ha8 := hs8.heap ha7 hne.2.1
    have hp8 : intBox w8 pp page := hs8.heap (hw7.heap' (hs7.heap (hw66.heap' hp5) (fun e => hne.1 e.symm))) hne.2.2
    have hc68 : Chg (fun z => z = pa ∨ z = pn) w6b w8 := ((hs7.mono fun _ _ h => .inl h).trans (hw7.mono fun _ _ h => h.elim)).trans (hs8.mono fun _ _ h => .inr h)
    have hc58 : Chg (fun z => z = pa ∨ z = pn) w5 w8 := (hw66.mono fun _ _ h => h.elim).trans hc68
    have hc18 : Chg (fun z => z = pa ∨ z = pn ∨ Y z) w1 w8 := ((hw14.mono fun _ _ h => h.elim).trans (hs5.mono fun _ _ h => .inr (.inr h.1))).trans (hc58.mono fun _ _ h => h.elim .inl (fun h => .inr (.inl h)))
    exact ih (pre.length + 1, at' + min n (page - at' % page), n - min n (page - at' % page)) _ _ ⟨pre ++ [headS at' n page], by rw [hpre, hcons]; simp, by simp, by simp only; omega, hI _ _ _ hI5 hc58, by
      have e : ((at' : Int) + ((headS at' n page).2.2 : Nat)) = ((at' + min n (page - at' % page) : Nat) : Int) := by unfold headS; simp only; omega
      simp only
      rw [← e]; exact ha8, hp8, by
      have e : ((n : Int) - ((headS at' n page).2.2 : Nat)) = ((n - min n (page - at' % page) : Nat) : Int) := by unfold headS; simp only; omega
      simp only
      rw [← e]; exact hn8, hc1.trans hc18⟩ (by simp only; omega) ⟨rfl, rfl, rfl, rfl, trivial⟩
  · have hn0 : n = 0 := by have := of_decide_eq_false hc; omega
    subst hn0
    have hlen : (spansM at0 n0 page).length = pre.length := by rw [hpre, spansM_nil]; simp
    exact Goes.ret0 hTT rfl Try.func78 rfl ⟨rfl, by rw [hlen]; exact hI1, hc1⟩
end Go.Proofs.Ytffimkpllchfcaa
/-
  Layer 16: the list of spans.
-/
namespace Go.Proofs.Ytffimkpllchfcaa
open Go.RowKit

theorem chain_spans (at' n page : Int) (w : World) : Does Try.prog 75 #[.int .i64 at', .int .i64 n, .int .i64 page] w (fun v w' => ∃ pa pp pn, v = .func (.func 78) #[] #[.pointer (some ⟨pa, 0, none⟩), .pointer (some ⟨pp, 0, none⟩), .pointer (some ⟨pn, 0, none⟩)] ∧
    w.heap.size ≤ pa ∧ w.heap.size ≤ pp ∧ w.heap.size ≤ pn ∧ (pa ≠ pp ∧ pa ≠ pn ∧ pp ≠ pn) ∧ intBox w' pa at' ∧ intBox w' pp page ∧ intBox w' pn n ∧ Chg None' w w') := by
  refine Does.enter Try.func75 rfl Try.ntmps75 rfl rfl ?_
  refine Goes.adv hTT 400 rfl ?_
  refine Goes.alloc hTT rfl ?_
  intro pa w1 e1 ha hw1 hz1
  refine Goes.adv hTT 400 rfl ?_
  refine Goes.alloc hTT rfl ?_
  intro pn w2 e2 hn hw2 hz2
  refine Goes.adv hTT 400 rfl ?_
  refine Goes.alloc hTT rfl ?_
  intro pp w3 e3 hp hw3 hz3
  refine Goes.adv hTT 400 rfl ?_
  exact Goes.ret1 hTT rfl Try.func75 rfl rfl ⟨pa, pp, pn, rfl, by omega, by omega, by omega, by omega, hw3.heap' (hw2.heap' ha), hp, hw3.heap' hn, (hw1.trans hw2).trans hw3⟩
/-- Spans in a slice of one's own. -/
theorem rows_of_own {base t : Nat} {w : World} {v : Value} {L : List Span} (h : Own base t 3 w v L.length (L.flatMap spanL)) : ∃ a cap, v = .slice a L.length cap ∧ Rows spanL 3 w a L ∧ ∀ b off s, a = some ⟨b, off, s⟩ → base ≤ b := by
  rcases h.2 with ⟨rfl, h0⟩ | ⟨g, cap, cur, rfl, h2, h3, h4, h5, h6, h7⟩
  · obtain rfl : L = [] := List.length_eq_zero_iff.1 h0
    exact ⟨none, 0, rfl, fun i x hx => by simp at hx, fun _ _ _ e => by cases e⟩
  · refine ⟨some ⟨g, 0, none⟩, cap, rfl, fun i x hx => ⟨g, 0, rfl, fun j v hv => ?_⟩, fun b off s e => by cases e; exact h2⟩
    have hil := (List.getElem?_eq_some_iff.1 hx).1
    have hj : j < 3 := by have := (List.getElem?_eq_some_iff.1 hv).1; simpa [spanL] using this
    rw [cell_of h3]
    have hfl : ∀ (L : List Span) (i : Nat) (x : Span), L[i]? = some x → (L.flatMap spanL)[i * 3 + j]? = (spanL x)[j]? := by
      intro L
      induction L with
      | nil => intro i x hx; simp at hx
      | cons s r ih =>
        intro i x hx
        rw [List.flatMap_cons]
        have hl3 : (spanL s).length = 3 := rfl
        cases i with
        | zero =>
          simp at hx; subst hx
          rw [Nat.zero_mul, Nat.zero_add, List.getElem?_append_left (by rw [hl3]; exact hj)]
        | succ i =>
          rw [List.getElem?_append_right (by rw [hl3]; omega), hl3, show (i + 1) * 3 + j - 3 = i * 3 + j from by omega]
          exact ih i x (by simpa using hx)
    have h8 := hfl L i x hx
    rw [hv, ← h7, List.getElem?_take, if_pos (by omega)] at h8
    rw [Nat.zero_add]
    simpa using h8
theorem chain_Cut (at' n page : Nat) (w : World) (hb : at' + n ≤ 16777216 ∧ 1 ≤ page ∧ page ≤ 16777216) : Does Try.prog 72 #[.int .i64 at', .int .i64 n, .int .i64 page] w
    (fun v w' => ∃ a cap, v = .slice a (spansM at' n page).length cap ∧ Rows spanL 3 w' a (spansM at' n page) ∧ (∀ b off s, a = some ⟨b, off, s⟩ → w.heap.size ≤ b) ∧ Chg None' w w') := by
  have hml : maxLen = 9223372036854775807 := rfl
  have hsl := spansM_length (page := page) hb.2.1 n at'
  refine Does.enter Try.func72 rfl Try.ntmps72 rfl rfl ?_
  refine Goes.adv hTT 400 rfl ?_
  refine Goes.no hTT rfl (decide_eq_false (by omega)) rfl ?_
  refine Goes.no hTT rfl (decide_eq_false (by omega)) rfl ?_
  refine Goes.no hTT rfl (decide_eq_false (by omega)) rfl ?_
  refine Goes.no hTT rfl (decide_eq_false (by omega)) rfl ?_
  refine Goes.arith hTT rfl (w64 (by omega)) rfl ?_
  refine Goes.no hTT rfl (decide_eq_false (by omega)) rfl ?_
  refine Goes.alloc hTT rfl ?_
  intro lb w1 e1 hlb hw1 hz1
  refine Goes.adv hTT 400 rfl ?_
  refine Goes.call rfl (chain_spans at' n page w1) ?_
  rintro _ w2 ⟨pa, pp, pn, rfl, ha2, hp2, hn2, hne, hba, hbp, hbn, hw2⟩
  refine Goes.adv hTT 400 rfl ?_
  have hbla := lt_of_heap hba
  have hblp := lt_of_heap hbp
  have hbln := lt_of_heap hbn
  have hw02 := hw1.trans hw2
  have hlb2 := hw2.heap' hlb
  have hs2 := hw2.size
  refine Goes.rangeFunc rfl rfl ⟨Try.f78, Try.func78, rfl, rfl⟩ ?_
  intro r0 B tmps w3 hr0 hB hfit hmk hlr hw3 hz3
  have hw03 := hw02.trans hw3
  have hr0s : r0.state = .ready := by rw [hr0]
  have hr0r : ({ r0 with state := .ready, pending := none } : Loop) = r0 := by rw [hr0]
  have hr0p : r0.pending = none := by rw [hr0]
  refine (chain_spans1 (B + 1) pa pp pn at' n page w3 (fun z => z = lb ∨ z = B + 1 ∨ B + 2 ≤ z)
    (fun k w' => k ≤ (spansM at' n page).length ∧ ∃ v, w'.heap[lb]? = some (.cells ([v] : List Value).toArray 107 (0, 0)) ∧ Own (B + 2) 110 3 w' v k (((spansM at' n page).take k).flatMap spanL) ∧
      w'.heap[B + 1]? = some (.loop r0) ∧ w'.heap[B]? = some (.deferred (some [])) ∧ B + 2 ≤ w'.heap.size ∧ Chg None' w w')
    hb (hw3.heap' hba) (hw3.heap' hbp) (hw3.heap' hbn) hne ⟨by omega, by omega, by omega⟩ ?_ ?_ ⟨Nat.zero_le _, _, hw3.heap' hlb2, World.ownsRow_nil _ _ _ _, hlr, hmk, by omega, hw03⟩).mono ?_
  · rintro k w4 w5 ⟨hk, v, h1, h2, h3, h4, h5, h6⟩ hs
    refine ⟨hk, v, hs.heap h1 (by omega), h2.chg hs (fun b hb e => ?_), hs.heap h3 (by omega), hs.heap h4 (by omega), Nat.le_trans h5 hs.size, h6.since hs (fun z hz e => by have := hw1.size; omega)⟩
    have := (World.ownsRow.lt h2 b hb.symm).1
    omega
  · rintro k w4 w5 hk ⟨hk', v, h1, h2, h3, h4, h5, h6⟩ hw5
    have hlt3 := lt_of_heap h3
    have hlt1 := lt_of_heap h1
    subst hr0
    refine YDoes.enter (ps := [33]) (hw5.heap' h3) rfl rfl hfit rfl ?_
    refine Goes.adv hTT 400 rfl ?_
    refine Goes.alloc hTT rfl ?_
    intro sb w6 e6 hsb hw6 hz6
    refine Goes.adv hTT 400 rfl ?_
    refine Goes.store hTT rfl hsb rfl rfl ?_
    intro w7 hsb7 hs7 hz7
    refine Goes.adv hTT 400 rfl ?_
    have hw47 : Chg None' w4 w7 := (hw5.trans hw6).since hs7 (fun z hz e => by have := hw5.size; omega)
    have hsz5 := hw5.size
    refine Goes.beginRound rfl (hw47.heap' h3) rfl ?_
    intro w8 hl8 hs8 hz8
    refine Goes.adv hTT 400 rfl ?_
    refine Goes.loadb hTT rfl (hs8.heap (hw47.heap' h1) (by omega)) rfl rfl ?_
    refine Goes.loads hTT rfl (hs8.heap hsb7 (by omega)) rfl rfl ?_
    refine Goes.buildSlice hTT rfl ?_
    intro b9 w9 e9 hb9 hw9 hz9
    refine Goes.adv hTT 400 rfl ?_
    have ho9 := ((h2.chg hw47 (fun _ _ h => h)).chg hs8 (fun b hb e => by have := (World.ownsRow.lt h2 b hb.symm).1; omega)).chg hw9 (fun _ _ h => h)
    have htk : ((spansM at' n page).take (k + 1)).flatMap spanL = ((spansM at' n page).take k).flatMap spanL ++ spanL (spansM at' n page)[k] := by
      rw [List.take_add_one, List.getElem?_eq_getElem hk, List.flatMap_append]; simp
    refine Goes.append (base := B + 2) (news := spanL (spansM at' n page)[k]) hTT rfl ho9 (by have := hw47.size; have := hs8.size; have := hw9.size; omega) rfl (fun i u hu => by rw [add_off, cell_of hb9]; simpa [spanL, zeroRow] using hu) (fun u hu => by simp [spanL] at hu; rcases hu with rfl | rfl | rfl <;> rfl) (by simp only; omega) ?_
    intro v10 w10 ho10 hs10 hv10
    obtain ⟨g10, cap10, cur10, hv10e, -⟩ := ho10.form (by omega)
    subst hv10e
    refine Goes.adv hTT 400 rfl ?_
    have hlb10 := hs10.heap (hw9.heap' (hs8.heap (hw47.heap' h1) (by omega))) (fun e => by have := (World.ownsRow.lt ho9 lb e.symm).1; omega)
    refine Goes.store hTT rfl hlb10 rfl rfl ?_
    intro w11 hlb11 hs11 hz11
    refine Goes.adv hTT 400 rfl ?_
    have hl10 := hs10.heap (hw9.heap' hl8) (fun e => by have := (World.ownsRow.lt ho9 _ e.symm).1; omega)
    have hl11 := hs11.heap hl10 (by omega)
    refine Goes.roundEnd rfl hl11 ?_
    intro w12 hl12 hs12 hz12
    have hm12 : w12.heap[B]? = some (.deferred (some [])) := hs12.heap (hs11.heap (hs10.heap (hw9.heap' (hs8.heap (hw47.heap' h4) (by omega))) (fun e => by have := (World.ownsRow.lt ho9 _ e.symm).1; omega)) (by omega)) (by omega)
    have hc : ∀ S : Nat → Prop, S lb → S (B + 1) → (∀ z, some z = v.ownBlock → S z) → Chg S w5 w12 := fun S c1 c2 c3 => by
      have a1 : Chg S w5 w7 := (hw6.mono fun _ _ h => h.elim).since hs7 (fun z hz e => by omega)
      have a2 : Chg S w7 w8 := hs8.mono fun z _ e => by subst e; exact c2
      have a3 : Chg S w8 w10 := (hw9.mono fun _ _ h => h.elim).trans (hs10.mono fun z _ e => c3 z e)
      have a4 : Chg S w10 w11 := hs11.mono fun z _ e => by subst e; exact c1
      have a5 : Chg S w11 w12 := hs12.mono fun z _ e => by subst e; exact c2
      exact (((a1.trans a2).trans a3).trans a4).trans a5
    refine ⟨_, rfl, rfl, ⟨hk, _, hs12.heap hlb11 (by omega), ?_, hl12, hm12, by have := hw47.size; have := hs8.size; have := hw9.size; have := hs10.size; omega, (h6.trans hw5).since (hc (fun z => z = lb ∨ B + 1 ≤ z) (.inl rfl) (.inr (Nat.le_refl _)) (fun z e => .inr (by have := (World.ownsRow.lt h2 z e.symm).1; omega))) (fun z hz e => by have := hw1.size; omega)⟩,
      hc _ ⟨.inl rfl, hlt1⟩ ⟨.inr (.inl rfl), hlt3⟩ (fun z e => ⟨.inr (.inr (World.ownsRow.lt h2 z e.symm).1), (World.ownsRow.lt h2 z e.symm).2⟩)⟩
    rw [htk]
    exact (ho10.chg hs11 (fun b hb e => by have := (World.ownsRow.lt ho10 b hb.symm).1; omega)).chg hs12 (fun b hb e => by have := (World.ownsRow.lt ho10 b hb.symm).1; omega)
  · rintro _ w4 ⟨rfl, ⟨hk, v, h1, h2, h3, h4, h5, h6⟩, hs4⟩
    refine ⟨_, h3, by rw [hr0s]; simp, ?_⟩
    intro w5 hs5 hz5
    rw [hr0p]
    refine Goes.adv hTT 400 rfl ?_
    refine Goes.loadb hTT rfl (hs5.heap h1 (by omega)) rfl rfl ?_
    rw [List.take_length] at h2
    have h25 := h2.chg hs5 (fun b hb e => by have := (World.ownsRow.lt h2 b hb.symm).1; omega)
    refine Goes.retM hTT rfl Try.func72 (hs5.heap h4 (by omega)) (vs := [v]) (fun _ _ => .tmp rfl .nil) ?_
    intro w6 hs6 hz6
    have h26 := h25.chg hs6 (fun b hb e => by have := (World.ownsRow.lt h2 b hb.symm).1; omega)
    obtain ⟨a, cap, rfl, hrows, hnew⟩ := rows_of_own h26
    exact ⟨a, cap, rfl, hrows, fun b off s e => by have := hnew b off s e; have := hw02.size; omega, (h6.since hs5 (fun z hz e => by have := hw1.size; omega)).since hs6 (fun z hz e => by have := hw1.size; omega)⟩
end Go.Proofs.Ytffimkpllchfcaa
/-
  Layer 21: a view: where some bytes of a place stand.
-/
namespace Go.Proofs.Ytffimkpllchfcaa
open Go.RowKit

theorem Rd.far' {k : IntKind} {w w' : World} {a : Option Addr} {zs : List Int} {S : Nat → Prop} (h : Rd k w a zs) (hs : 0 < zs.length → OutA S a) (hc : Chg S w w') : Rd k w' a zs := (RdS.chg ⟨h, fun b off s e hl => hs hl b off s e⟩ hc).1
theorem PlcOk.far {w w' : World} {q : Plc} {S : Nat → Prop} (h : PlcOk w q) (hs : 0 < q.pages.length → OutA S q.pa) (hc : Chg S w w') : PlcOk w' q := ⟨h.rd.far' hs hc, h.len⟩
theorem ConfOk.far {w w' : World} {c : Conf} {p : ConfAt} {S : Nat → Prop} (h : ConfOk w c p) (h1 : 0 < c.classes.length → OutA S p.ca) (h2 : 0 < c.keep.length → OutA S p.ka) (hc : Chg S w w') : ConfOk w' c p := ⟨h.classes.far' h1 hc, h.keep.far' h2 hc, h.lc, h.lk, h.size⟩
theorem VwOk.far {w w' : World} {v : Vw} {S : Nat → Prop} (h : VwOk w v) (h0 : ¬ S v.vb) (h1 : 0 < v.c.classes.length → OutA S v.p.ca) (h2 : 0 < v.c.keep.length → OutA S v.p.ka) (hc : Chg S w w') : VwOk w' v := ⟨hc.heap h.obj h0, h.conf.far h1 h2 hc, h.may⟩
theorem Rd.outNew {k : IntKind} {w : World} {a : Option Addr} {zs : List Int} {S S' : Nat → Prop} (h : Rd k w a zs) (hs : 0 < zs.length → OutA S a) (hS : ∀ z, S' z → S z ∨ w.heap.size ≤ z) : 0 < zs.length → OutA S' a := fun hl b off s e hb => by
  rcases hS b hb with h1 | h1
  · exact hs hl b off s e h1
  · obtain ⟨b', off', e', hc⟩ := h 0 hl
    rw [e] at e'
    cases e'
    have := World.block_lt_of_cell? w _ hc
    simp only at this
    omega
theorem span_in {page : Nat} (hp : 1 ≤ page) : ∀ (n at' : Nat), ∀ s ∈ spansM at' n page, s.1 * page + s.2.1 + s.2.2 ≤ at' + n ∧ 0 < s.2.2 ∧ s.2.1 + s.2.2 ≤ page ∧ at' ≤ s.1 * page + s.2.1 := by
  intro n
  induction n using Nat.strongRecOn with
  | _ n ih =>
    intro at' s hs
    by_cases hn : n = 0
    · subst hn; cases hs
    · have hpos := headS_pos (at' := at') hp (show 0 < n by omega)
      have hmod := Nat.mod_lt at' (show 0 < page by omega)
      have hdm := Nat.div_add_mod at' page
      rw [spansM_cons hp (by omega)] at hs
      rcases List.mem_cons.1 hs with rfl | hs
      · unfold headS
        simp only
        rw [Nat.mul_comm] at hdm
        omega
      · have := ih _ (by omega) _ s hs
        omega
/-- The parts of some bytes of a place: where they stand, how many. -/
def partsM (c : Conf) (q : Plc) (at' n : Nat) : List (Int × Int) :=
  if q.cls = -1 then (spansM at' n c.size.toNat).map fun s => (q.pages.getD s.1 0 * c.size + s.2.1, (s.2.2 : Int)) else [(viewAt c q + at', (n : Int))]
theorem charge_Ar (A : Ar) (V : ArV) (n : Int) (w : World) (h : ArOk w A V) : Does Try.prog 32 #[ptr A.mb, .int .i64 n] w (fun _ w' => ArOk w' A (V.charge A n) ∧ Chg (mFoot A) w w') := by
  cases hb : A.mb with
  | none =>
    refine (meter_Charge0 n w).mono fun _ w' e => ?_
    subst e
    exact ⟨by unfold ArV.charge; rw [hb]; exact h, Chg.refl _ _⟩
  | some b =>
    refine (meter_Charge b V.total V.lap n w (h.met b hb)).mono fun _ w' ⟨hm, hs⟩ => ?_
    exact ⟨by unfold ArV.charge; rw [hb]; exact h.metered hb hm hs, hs.mono fun x _ hx => by unfold mFoot; rw [hx]; exact hb⟩
abbrev plcBox (w : World) (b : Nat) (q : Plc) : Prop := w.heap[b]? = some (.cells (plL q).toArray 26 (0, 0))
theorem view_parts (v : Vw) (q : Plc) (at' n : Int) (w : World) : Does Try.prog 63 #[vwV v, .agg (plL q).toArray, .int .i64 at', .int .i64 n] w (fun u w' => ∃ pb vb ab nb, u = .func (.func 71) #[] #[.pointer (some ⟨pb, 0, none⟩), .pointer (some ⟨vb, 0, none⟩), .pointer (some ⟨ab, 0, none⟩), .pointer (some ⟨nb, 0, none⟩)] ∧
    w.heap.size ≤ pb ∧ w.heap.size ≤ vb ∧ w.heap.size ≤ ab ∧ w.heap.size ≤ nb ∧ plcBox w' pb q ∧ ptrBox w' vb v ∧ intBox w' ab at' ∧ intBox w' nb n ∧ Chg None' w w') := by
  refine Does.enter Try.func63 rfl Try.ntmps63 rfl rfl ?_
  refine Goes.adv hTT 400 rfl ?_
  refine Goes.alloc hTT rfl ?_
  intro vb w1 e1 hv hw1 hz1
  refine Goes.adv hTT 400 rfl ?_
  refine Goes.alloc hTT rfl ?_
  intro pb w2 e2 hp hw2 hz2
  refine Goes.adv hTT 400 rfl ?_
  refine Goes.alloc hTT rfl ?_
  intro ab w3 e3 ha hw3 hz3
  refine Goes.adv hTT 400 rfl ?_
  refine Goes.alloc hTT rfl ?_
  intro nb w4 e4 hn hw4 hz4
  refine Goes.adv hTT 400 rfl ?_
  have hw24 := hw2.trans (hw3.trans hw4)
  exact Goes.ret1 hTT rfl Try.func63 rfl rfl ⟨pb, vb, ab, nb, rfl, by omega, by omega, by omega, by omega, (hw3.trans hw4).heap' hp, hw24.heap' hv, hw4.heap' ha, hn, hw1.trans hw24⟩
def chgL (q : Plc) (A : Ar) (V : ArV) : ArV := if q.cls = -1 then V.charge A 1 else V
theorem ArOk.mlt {w : World} {A : Ar} {V : ArV} (h : ArOk w A V) : ∀ z, mFoot A z → z < w.heap.size := fun z hz => lt_of_heap (h.met z hz).1
theorem view_parts1 (l : Nat) (v : Vw) (q : Plc) (at' n pb vb ab nb : Nat) (A : Ar) (Vs : Nat → ArV) (K : Nat → (Nat → Prop) → World → Prop) (Y0 : Nat → Prop) (w : World)
    (hv : VwOk w v) (hq : PlcOk w q) (hmb : v.mb = A.mb) (hin : viewIs v.c q = true) (hr : (at' : Int) + n ≤ viewHolds v.c q) (hfew : q.pages.length ≤ 4096)
    (hpb : plcBox w pb q) (hvb : ptrBox w vb v) (hab : intBox w ab at') (hnb : intBox w nb n)
    (hP1 : ∀ z, Y0 z ∨ mFoot A z → z ≠ pb ∧ z ≠ vb ∧ z ≠ v.vb) (hPq : 0 < q.pages.length → OutA (fun z => Y0 z ∨ mFoot A z) q.pa) (hPc : 0 < v.c.classes.length → OutA (fun z => Y0 z ∨ mFoot A z) v.p.ca) (hPk : 0 < v.c.keep.length → OutA (fun z => Y0 z ∨ mFoot A z) v.p.ka)
    (hKlt : ∀ k Y w, K k Y w → ∀ z, Y z → z < w.heap.size) (hK : ∀ k Y w w', K k Y w → Chg (mFoot A) w w' → K k Y w')
    (hy : ∀ k Y w0 w (h : k < (partsM v.c q at' n).length), ArOk w0 A (chgL q A (Vs k)) → K k Y w0 → Chg None' w0 w →
      YDoes Try.prog l [.int .i64 (partsM v.c q at' n)[k].1, .int .i64 (partsM v.c q at' n)[k].2] w (fun u w' => u = .bool true ∧ ArOk w' A (Vs (k + 1)) ∧ Chg Y w w' ∧ ∃ Y', K (k + 1) Y' w' ∧ ∀ z, Y' z → Y z ∨ w.heap.size ≤ z))
    (h0 : ArOk w A (Vs 0)) (hK0 : K 0 Y0 w) :
    Does Try.prog 71 #[yieldV l, .pointer (some ⟨pb, 0, none⟩), .pointer (some ⟨vb, 0, none⟩), .pointer (some ⟨ab, 0, none⟩), .pointer (some ⟨nb, 0, none⟩)] w
      (fun u w' => u = .tuple #[] ∧ ArOk w' A (Vs (partsM v.c q at' n).length) ∧ (∃ Y', K (partsM v.c q at' n).length Y' w' ∧ ∀ z, Y' z → Y0 z ∨ w.heap.size ≤ z) ∧ Chg (fun z => Y0 z ∨ mFoot A z) w w') := by
  obtain ⟨m1, m2, m3⟩ := may_facts hv.may
  have htot := size_total hv.may
  have hNm : ∀ {x y : World}, Chg None' x y → Chg (mFoot A) x y := fun h => h.mono fun _ _ h => h.elim
  refine Does.enter Try.func71 rfl Try.ntmps71 rfl rfl ?_
  refine Goes.adv hTT 400 rfl ?_
  refine Goes.loadb hTT rfl hpb rfl rfl ?_
  by_cases hcl : q.cls = -1
  · obtain ⟨hpos, hpg⟩ := is_large hin hcl
    have hho : viewHolds v.c q = (q.pages.length : Int) * v.c.size := by unfold viewHolds; rw [if_pos hin, if_pos hcl]
    rw [hho] at hr
    have hl1 : (q.pages.length : Int) * v.c.size ≤ 4096 * 4096 := Int.mul_le_mul (by omega) (by omega) (by omega) (by omega)
    obtain ⟨sz, hsz⟩ := Int.eq_ofNat_of_zero_le (show 0 ≤ v.c.size by omega)
    have hszt : v.c.size.toNat = sz := by omega
    have hpe : partsM v.c q at' n = (spansM at' n sz).map fun s => (q.pages.getD s.1 0 * v.c.size + s.2.1, (s.2.2 : Int)) := by unfold partsM; rw [if_pos hcl, hszt]
    have hplen : (partsM v.c q at' n).length = (spansM at' n sz).length := by rw [hpe, List.length_map]
    have hsl := spansM_length (page := sz) (by omega) n at'
    refine Goes.no hTT rfl (show (q.cls != -1) = false by rw [hcl]; rfl) rfl ?_
    refine Goes.drawn (q := 10) None' hTT mixed (by kernel_rfl) rfl ?_
    intro hB
    refine Drawn.loadb hTT hB rfl hab (by first | exact fun h => h | (intro h; omega) | assumption) rfl rfl ?_
    refine Drawn.loadb hTT hB rfl hnb (by first | exact fun h => h | (intro h; omega) | assumption) rfl rfl ?_
    refine Drawn.loadb hTT hB rfl hvb (by first | exact fun h => h | (intro h; omega) | assumption) rfl rfl ?_
    refine Drawn.loadb hTT hB rfl hv.obj (by first | exact fun h => h | (intro h; omega) | assumption) rfl rfl ?_
    have hd : ∀ w', Chg None' w w' → Does Try.prog 72 #[.int .i64 at', .int .i64 n, .int .i64 v.c.size] w' (fun u w2 => Chg None' w' w2 ∧ ∃ a cap, u = .slice a (spansM at' n sz).length cap ∧ Rows spanL 3 w2 a (spansM at' n sz) ∧ (∀ b off s, a = some ⟨b, off, s⟩ → w'.heap.size ≤ b)) := fun w' hw' => by
      rw [hsz]
      exact (chain_Cut at' n sz w' (by omega)).mono fun u w2 ⟨a, cap, h1, h2, h3, h4⟩ => ⟨h4, a, cap, h1, h2, h3⟩
    refine Drawn.callQ hB rfl rfl (fun w' hw' => (hd w' hw').mono fun u w2 ⟨h1, a, cap, h2, h3, h4⟩ => (⟨h1, a, cap, h2, h3, fun b off s e => Nat.le_trans hw'.size (h4 b off s e)⟩ : Chg None' w' w2 ∧ ∃ a cap, u = .slice a (spansM at' n sz).length cap ∧ Rows spanL 3 w2 a (spansM at' n sz) ∧ (∀ b off s, a = some ⟨b, off, s⟩ → w.heap.size ≤ b))) ?_
    rintro _ w1 hw1 ⟨sa, scap, rfl, hrows, hnew⟩
    refine Drawn.adv hTT hB rfl ?_
    refine Drawn.nil hB ?_
    intro w2 hw2
    refine Goes.adv hTT 400 rfl ?_
    have hw02 := hw1.trans hw2
    have hrows2 := hrows.chg hw2
    have hPr : OutA (fun z => Y0 z ∨ mFoot A z) sa := fun b off s e hb => by
      have := hnew b off s e
      rcases hb with hb | hb
      · have := hKlt _ _ _ hK0 b hb; omega
      · have := h0.mlt b hb; omega
    refine Goes.loop (α := Nat) (fun k => [(0, false, yieldV l), (1, false, .pointer (some ⟨pb, 0, none⟩)), (2, false, .pointer (some ⟨vb, 0, none⟩)), (26, false, .slice sa (spansM at' n sz).length scap), (27, false, .int .i64 (spansM at' n sz).length), (28, false, .int .i64 k)])
      (fun k w' => k ≤ (spansM at' n sz).length ∧ ArOk w' A (Vs k) ∧ (∃ Y, K k Y w' ∧ ∀ z, Y z → Y0 z ∨ w2.heap.size ≤ z) ∧ Chg (fun z => Y0 z ∨ mFoot A z) w2 w') (fun k => (spansM at' n sz).length - k) 0 ⟨rfl, rfl, rfl, rfl, rfl, rfl, trivial⟩
      ⟨Nat.zero_le _, h0.grow hw02, ⟨Y0, hK _ _ _ _ hK0 (hNm hw02), fun _ h => .inl h⟩, Chg.refl _ _⟩ ?_
    rintro k w3 ⟨hk, hA3, ⟨Y, hK3, hY3⟩, hs3⟩ ih
    refine Goes.adv hTT 400 rfl ?_
    refine Goes.fork hTT rfl rfl rfl (fun hc => ?_) (fun hc => ?_)
    · have hlt : k < (spansM at' n sz).length := by have := of_decide_eq_true hc; omega
      obtain ⟨s, hs⟩ : ∃ s, s = (spansM at' n sz)[k] := ⟨_, rfl⟩
      obtain ⟨i1, i2, i3, i4⟩ := span_in (page := sz) (by omega) n at' s (hs ▸ List.getElem_mem hlt)
      have hNl : s.1 < q.pages.length := by
        have h1 : (s.1 * sz : Nat) < q.pages.length * sz := by
          have : ((q.pages.length * sz : Nat) : Int) = (q.pages.length : Int) * v.c.size := by rw [hsz]; rfl
          omega
        exact Nat.lt_of_mul_lt_mul_right h1
      obtain ⟨rb, roff, hra, hcell⟩ := (hrows2.at hlt)
      subst hra
      rw [← hs] at hcell
      have hcell3 : ∀ j u, (spanL s)[j]? = some u → w3.cell? ⟨rb, roff + k * 3 + j, none⟩ = some u := fun j u hu => hs3.cell (hcell j u hu) (hPr rb roff none rfl)
      have hpb3 : plcBox w3 pb q := hs3.heap (hw02.heap' hpb) (fun e => (hP1 _ e).1 rfl)
      have hvb3 : ptrBox w3 vb v := hs3.heap (hw02.heap' hvb) (fun e => (hP1 _ e).2.1 rfl)
      have hv3 : VwOk w3 v := (hv.grow hw02).far (fun e => (hP1 _ e).2.2 rfl) hPc hPk hs3
      have hq3 : PlcOk w3 q := (hq.grow hw02).far hPq hs3
      refine Goes.index hTT rfl (j := (k * 3)) (by omega) (by omega) (by first | rfl | omega | (simp; done) | (simp; omega)) rfl ?_
      refine Goes.loadC hTT (spanL s) rfl (by first | rfl | (simp; done) | (simp [*]; done) | (simp; omega)) (hcell3) rfl ?_
      refine Goes.alloc hTT rfl ?_
      intro sb w4 e4 hsb hw4 hz4
      refine Goes.adv hTT 400 rfl ?_
      refine Goes.store hTT rfl hsb rfl rfl ?_
      intro w5 hsb5 hs5 hz5
      refine Goes.adv hTT 400 rfl ?_
      replace hsb5 : w5.heap[sb]? = some (.cells (spanL s).toArray 110 (0, 0)) := hsb5
      have hw35 : Chg None' w3 w5 := hw4.since hs5 (fun z hz e => by omega)
      refine Goes.loadb hTT rfl (hw35.heap' hvb3) rfl rfl ?_
      refine Goes.loadb hTT rfl (hv3.grow hw35).obj rfl rfl ?_
      rw [hmb]
      refine Goes.call rfl (charge_Ar A (Vs k) 1 w5 (hA3.grow hw35)) ?_
      rintro _ w6 ⟨hA6, hs6⟩
      refine Goes.adv hTT 400 rfl ?_
      have hK6 := hK _ _ _ _ (hK _ _ _ _ hK3 (hNm hw35)) hs6
      have hmP : ∀ {x y : World}, Chg (mFoot A) x y → Chg (fun z => Y0 z ∨ mFoot A z) x y := fun h => h.mono fun _ _ h => .inr h
      have hs36 : Chg (fun z => Y0 z ∨ mFoot A z) w3 w6 := (hw35.mono fun _ _ h => h.elim).trans (hmP hs6)
      have hpb6 : plcBox w6 pb q := hs36.heap hpb3 (fun e => (hP1 _ e).1 rfl)
      have hvb6 : ptrBox w6 vb v := hs36.heap hvb3 (fun e => (hP1 _ e).2.1 rfl)
      have hv6 : VwOk w6 v := hv3.far (fun e => (hP1 _ e).2.2 rfl) hPc hPk hs36
      have hq6 : PlcOk w6 q := hq3.far hPq hs36
      have hsb6 := hs6.heap hsb5 (fun e => by have := hA3.mlt _ e; omega)
      obtain ⟨gb, goff, hga, hgc⟩ := hq6.rd s.1 hNl
      have hpn : 0 ≤ q.pages.getD s.1 0 ∧ q.pages.getD s.1 0 < v.c.pages := hpg _ (by rw [List.getD_eq_getElem?_getD, List.getElem?_eq_getElem hNl]; exact List.getElem_mem hNl)
      have hmul : 0 ≤ q.pages.getD s.1 0 * v.c.size ∧ q.pages.getD s.1 0 * v.c.size ≤ 1024 * 4096 := ⟨Int.mul_nonneg hpn.1 (by omega), Int.mul_le_mul (by omega) (by omega) (by omega) (by omega)⟩
      have hpk : (partsM v.c q at' n)[k]'(by rw [hplen]; exact hlt) = (q.pages.getD s.1 0 * v.c.size + s.2.1, (s.2.2 : Int)) := by
        simp only [hpe, List.getElem_map, ← hs]
      obtain ⟨cls, page, idx, pa, pc, pages⟩ := q
      simp only at hga
      subst hga
      refine Goes.drawn (q := 18) None' hTT mixed (by kernel_rfl) rfl ?_
      intro hB
      refine Drawn.loadb hTT hB rfl hpb6 (by first | exact fun h => h | (intro h; omega) | assumption) rfl rfl ?_
      refine Drawn.loadb hTT hB rfl hsb6 (by first | exact fun h => h | (intro h; omega) | assumption) rfl rfl ?_
      refine Drawn.index hTT hB rfl (j := s.1) (show (0 : Int) ≤ (s.1 : Nat) by omega) (show ((s.1 : Nat) : Int) < pages.length by have : s.1 < pages.length := hNl; omega) (by simp) rfl ?_
      refine Drawn.load hTT hB rfl hgc (by first | exact fun h => h | (intro h; omega) | assumption) rfl ?_
      refine Drawn.loadb hTT hB rfl hvb6 (by first | exact fun h => h | (intro h; omega) | assumption) rfl rfl ?_
      refine Drawn.loadb hTT hB rfl hv6.obj (by first | exact fun h => h | (intro h; omega) | assumption) rfl rfl ?_
      refine Drawn.arith hTT hB rfl (w64 (by show _ ∧ _; simp only at hmul ⊢; omega)) rfl ?_
      refine Drawn.loadb hTT hB rfl hsb6 (by first | exact fun h => h | (intro h; omega) | assumption) rfl rfl ?_
      refine Drawn.arith hTT hB rfl (w64 (by show _ ∧ _; simp only at hmul ⊢; omega)) rfl ?_
      refine Drawn.loadb hTT hB rfl hsb6 (by first | exact fun h => h | (intro h; omega) | assumption) rfl rfl ?_
      refine Drawn.nil hB ?_
      intro w7 hw7
      refine Goes.adv hTT 400 rfl ?_
      have hyk := hy k Y w6 w7 (by rw [hplen]; exact hlt) (by unfold chgL; rw [if_pos hcl]; exact hA6) hK6 hw7
      rw [hpk] at hyk
      refine Goes.yield rfl hyk ?_
      rintro _ w8 ⟨rfl, hA8, hs8, Y', hK8, hY8⟩
      refine Goes.adv hTT 400 rfl ?_
      refine Goes.no hTT rfl rfl rfl ?_
      refine Goes.arith hTT rfl (w64 (by omega)) rfl ?_
      have hsz27 : w2.heap.size ≤ w7.heap.size := by have := hs3.size; have := hs36.size; have := hw7.size; omega
      exact ih (k + 1) _ _ ⟨hlt, hA8, ⟨Y', hK8, fun z hz => (hY8 z hz).elim (hY3 z) (fun h => .inr (by omega))⟩,
        ((hs3.trans hs36).trans (hw7.mono fun _ _ h => h.elim)).since hs8 (fun z hz h => .inl ((hY3 z h).elim id (fun h => by omega)))⟩ (by omega) ⟨rfl, rfl, rfl, rfl, rfl, rfl, trivial⟩
    · have hge : k = (spansM at' n sz).length := by have := of_decide_eq_false hc; omega
      subst hge
      have hsz02 := hw02.size
      rw [hplen]
      exact Goes.ret0 hTT rfl Try.func71 rfl ⟨rfl, hA3, ⟨Y, hK3, fun z hz => (hY3 z hz).imp id (fun h => by omega)⟩, (hw02.mono fun _ _ h => h.elim).trans hs3⟩
  · have hpe : partsM v.c q at' n = [(viewAt v.c q + at', (n : Int))] := by unfold partsM; rw [if_neg hcl]
    obtain ⟨kk, pg, ix, hkk, hpg, hix, hkl, g1, g2, g3, g4, g5, g6, g7⟩ := is_small hv.may hin hcl
    have hat : viewAt v.c q = (pg : Int) * v.c.size + (ix : Int) * clsM v.c kk := by unfold viewAt; rw [if_pos ⟨hin, hcl⟩, hkk, hpg, hix]
    have hho : viewHolds v.c q = clsM v.c kk := by unfold viewHolds; rw [if_pos hin, if_neg hcl, hkk]
    rw [hho] at hr
    refine Goes.yes hTT rfl (show (q.cls != -1) = true by simpa using hcl) rfl ?_
    refine Goes.drawn (q := 7) None' hTT mixed (by kernel_rfl) rfl ?_
    intro hB
    refine Drawn.loadb hTT hB rfl hvb (by first | exact fun h => h | (intro h; omega) | assumption) rfl rfl ?_
    refine Drawn.loads hTT hB rfl hpb (by first | exact fun h => h | (intro h; omega) | assumption) rfl rfl ?_
    refine Drawn.call hTT hB rfl (fun w' hw' => view_At v q w' (hv.grow hw') (hq.grow hw')) rfl ?_
    refine Drawn.loadb hTT hB rfl hab (by first | exact fun h => h | (intro h; omega) | assumption) rfl rfl ?_
    refine Drawn.arith hTT hB rfl (w64 (by show _ ∧ _; rw [hat]; omega)) rfl ?_
    refine Drawn.loadb hTT hB rfl hnb (by first | exact fun h => h | (intro h; omega) | assumption) rfl rfl ?_
    refine Drawn.nil hB ?_
    intro w2 hw2
    refine Goes.adv hTT 400 rfl ?_
    have hyk := hy 0 Y0 w w2 (by rw [hpe]; simp) (by unfold chgL; rw [if_neg hcl]; exact h0) hK0 hw2
    rw [show (partsM v.c q at' n)[0]'(by rw [hpe]; simp) = (viewAt v.c q + at', (n : Int)) from by simp only [hpe]; rfl] at hyk
    refine Goes.yield rfl hyk ?_
    rintro _ w8 ⟨rfl, hA8, hs8, Y', hK8, hY8⟩
    refine Goes.adv hTT 400 rfl ?_
    have hl1 : (partsM v.c q at' n).length = 1 := by rw [hpe]; rfl
    rw [hl1]
    have := hw2.size
    exact Goes.ret0 hTT rfl Try.func71 rfl ⟨rfl, hA8, ⟨Y', hK8, fun z hz => (hY8 z hz).imp id (fun h => by omega)⟩, (hw2.mono fun _ _ h => h.elim).trans (hs8.mono fun _ _ h => .inl h)⟩
end Go.Proofs.Ytffimkpllchfcaa
/-
  Layer 21: a view: something is done with each part of some bytes.
-/
namespace Go.Proofs.Ytffimkpllchfcaa
open Go.RowKit

def checkM (c : Conf) (q : Plc) (at' n : Int) : Int := if viewIs c q = false then 1 else if at' < 0 ∨ n < 0 ∨ viewHolds c q < n ∨ viewHolds c q - n < at' then 8 else 0
theorem viewHolds_bound {c : Conf} {q : Plc} (hm : mayB c = true) (hfew : q.pages.length ≤ 4096) : 0 ≤ viewHolds c q ∧ viewHolds c q ≤ 16777216 := by
  obtain ⟨m1, m2, m3⟩ := may_facts hm
  unfold viewHolds
  split
  · rename_i hi
    split
    · have h1 : (q.pages.length : Int) * c.size ≤ 4096 * 4096 := Int.mul_le_mul (by omega) (by omega) (by omega) (by omega)
      exact ⟨Int.mul_nonneg (by omega) (by omega), by omega⟩
    · rename_i hcl
      obtain ⟨kk, pg, ix, hkk, _, _, hkl, _, g2, g3, _⟩ := is_small hm hi hcl
      rw [hkk]; omega
  · omega
theorem ArOk.blt {w : World} {A : Ar} {V : ArV} (h : ArOk w A V) : ∀ b, b = A.ab ∨ b = A.db ∨ b = A.mc ∨ A.mb = some b → b < w.heap.size := fun b hb => by
  rcases hb with rfl | rfl | rfl | hb
  · exact lt_of_heap h.obj
  · exact lt_of_heap h.dat
  · exact lt_of_heap h.cap
  · exact lt_of_heap (h.met b hb).1
theorem view_each_no (v : Vw) (q : Plc) (at' n : Int) (fk : Nat) (caps : List Value) (w : World) (hv : VwOk w v) (hq : PlcOk w q) (hfew : q.pages.length ≤ 4096) (hn : checkM v.c q at' n ≠ 0) :
    Does Try.prog 37 #[vwV v, .agg (plL q).toArray, .int .i64 at', .int .i64 n, .func (.func fk) #[] caps.toArray] w (Grow (.int .i64 (checkM v.c q at' n)) w) := by
  have hb := viewHolds_bound (c := v.c) (q := q) hv.may hfew
  refine Does.enter Try.func37 rfl Try.ntmps37 rfl rfl ?_
  refine Goes.adv hTT 400 rfl ?_
  refine Goes.alloc hTT rfl ?_
  intro qb w1 e1 hqb hw1 hz1
  refine Goes.adv hTT 400 rfl ?_
  refine Goes.alloc hTT rfl ?_
  intro db w2 e2 hdb hw2 hz2
  refine Goes.adv hTT 400 rfl ?_
  replace hqb : plcBox w1 qb q := hqb
  have hqb2 := hw2.heap' hqb
  have hw := hw1.trans hw2
  refine Goes.loads hTT rfl hqb2 rfl rfl ?_
  refine Goes.call rfl (view_is v q w2 (hv.grow hw) (hq.grow hw)) ?_
  rintro _ w3 ⟨rfl, hw3⟩
  refine Goes.adv hTT 400 rfl ?_
  have hwa := hw.trans hw3
  cases hi : viewIs v.c q with
  | false =>
    refine Goes.yes hTT rfl rfl rfl ?_
    exact Goes.ret1 hTT rfl Try.func37 rfl rfl ⟨int_v (by unfold checkM; rw [if_pos hi]), hwa⟩
  | true =>
    have hck : checkM v.c q at' n = 8 := by
      unfold checkM at hn ⊢
      rw [if_neg (by rw [hi]; decide)] at hn ⊢
      split
      · rfl
      · rename_i h; rw [if_neg h] at hn; exact absurd rfl hn
    have hbad : at' < 0 ∨ n < 0 ∨ viewHolds v.c q < n ∨ viewHolds v.c q - n < at' := by
      unfold checkM at hck
      rw [if_neg (by rw [hi]; decide)] at hck
      by_cases h : at' < 0 ∨ n < 0 ∨ viewHolds v.c q < n ∨ viewHolds v.c q - n < at'
      · exact h
      · rw [if_neg h] at hck; cases hck
    rw [hck]
    refine Goes.no hTT rfl rfl rfl ?_
    by_cases h1 : at' < 0
    · refine Goes.yes hTT rfl (decide_eq_true h1) rfl ?_
      exact Goes.ret1 hTT rfl Try.func37 rfl rfl ⟨rfl, hwa⟩
    refine Goes.no hTT rfl (decide_eq_false h1) rfl ?_
    by_cases h2 : n < 0
    · refine Goes.yes hTT rfl (decide_eq_true h2) rfl ?_
      exact Goes.ret1 hTT rfl Try.func37 rfl rfl ⟨rfl, hwa⟩
    refine Goes.no hTT rfl (decide_eq_false h2) rfl ?_
    refine Goes.loads hTT rfl (hw3.heap' hqb2) rfl rfl ?_
    refine Goes.call rfl (view_Holds v q w3 (hv.grow hwa) (hq.grow hwa) (by omega)) ?_
    rintro _ w4 ⟨rfl, hw4⟩
    refine Goes.adv hTT 400 rfl ?_
    have hwb := hwa.trans hw4
    by_cases h3 : viewHolds v.c q < n
    · refine Goes.yes hTT rfl (decide_eq_true h3) rfl ?_
      exact Goes.ret1 hTT rfl Try.func37 rfl rfl ⟨rfl, hwb⟩
    refine Goes.no hTT rfl (decide_eq_false h3) rfl ?_
    refine Goes.loads hTT rfl ((hw3.trans hw4).heap' hqb2) rfl rfl ?_
    refine Goes.call rfl (view_Holds v q w4 (hv.grow hwb) (hq.grow hwb) (by omega)) ?_
    rintro _ w5 ⟨rfl, hw5⟩
    refine Goes.adv hTT 400 rfl ?_
    refine Goes.arith hTT rfl (w64 (by omega)) rfl ?_
    refine Goes.yes hTT rfl (decide_eq_true (by omega)) rfl ?_
    exact Goes.ret1 hTT rfl Try.func37 rfl rfl ⟨rfl, hwb.trans hw5⟩
theorem view_each_nil (q : Plc) (at' n : Int) (fk : Nat) (caps : List Value) (w : World) : Does Try.prog 37 #[.pointer none, .agg (plL q).toArray, .int .i64 at', .int .i64 n, .func (.func fk) #[] caps.toArray] w (Grow (.int .i64 1) w) := by
  refine Does.enter Try.func37 rfl Try.ntmps37 rfl rfl ?_
  refine Goes.adv hTT 400 rfl ?_
  refine Goes.alloc hTT rfl ?_
  intro qb w1 e1 hqb hw1 hz1
  refine Goes.adv hTT 400 rfl ?_
  refine Goes.alloc hTT rfl ?_
  intro db w2 e2 hdb hw2 hz2
  refine Goes.adv hTT 400 rfl ?_
  replace hqb : plcBox w1 qb q := hqb
  refine Goes.loads hTT rfl (hw2.heap' hqb) rfl rfl ?_
  refine Goes.call rfl (view_is_nil q w2) ?_
  rintro _ w3 ⟨rfl, hw3⟩
  refine Goes.adv hTT 400 rfl ?_
  refine Goes.yes hTT rfl rfl rfl ?_
  exact Goes.ret1 hTT rfl Try.func37 rfl rfl ⟨rfl, (hw1.trans hw2).trans hw3⟩
theorem view_each (v : Vw) (q : Plc) (at' n fk : Nat) (caps : List Value) (A : Ar) (Vs : Nat → ArV) (K : Nat → (Nat → Prop) → World → Prop) (Y0 : Nat → Prop) (w : World)
    (hv : VwOk w v) (hq : PlcOk w q) (hmb : v.mb = A.mb) (hck : checkM v.c q at' n = 0) (hfew : q.pages.length ≤ 4096)
    (hPv : ¬ (Y0 v.vb ∨ mFoot A v.vb)) (hPq : 0 < q.pages.length → OutA (fun z => Y0 z ∨ mFoot A z) q.pa) (hPc : 0 < v.c.classes.length → OutA (fun z => Y0 z ∨ mFoot A z) v.p.ca) (hPk : 0 < v.c.keep.length → OutA (fun z => Y0 z ∨ mFoot A z) v.p.ka)
    (hKlt : ∀ k Y w, K k Y w → ∀ z, Y z → z < w.heap.size) (hK : ∀ k Y w1 w2 S, K k Y w1 → Chg S w1 w2 → (∀ z, S z → mFoot A z ∨ (¬ Y z ∧ w.heap.size ≤ z)) → K k Y w2)
    (hdo : ∀ k Y w0 (h : k < (partsM v.c q at' n).length), ArOk w0 A (chgL q A (Vs k)) → K k Y w0 →
      Does Try.prog fk (.int .i64 (partsM v.c q at' n)[k].1 :: .int .i64 (partsM v.c q at' n)[k].2 :: caps).toArray w0 (fun _ w' => ArOk w' A (Vs (k + 1)) ∧ Chg Y w0 w' ∧ ∃ Y', K (k + 1) Y' w' ∧ ∀ z, Y' z → Y z ∨ w0.heap.size ≤ z))
    (h0 : ArOk w A (Vs 0)) (hK0 : K 0 Y0 w) :
    Does Try.prog 37 #[vwV v, .agg (plL q).toArray, .int .i64 at', .int .i64 n, .func (.func fk) #[] caps.toArray] w
      (fun u w' => u = .int .i64 0 ∧ ArOk w' A (Vs (partsM v.c q at' n).length) ∧ (∃ Y', K (partsM v.c q at' n).length Y' w' ∧ ∀ z, Y' z → Y0 z ∨ w.heap.size ≤ z) ∧ Chg (fun z => Y0 z ∨ mFoot A z) w w') := by
  have hb := viewHolds_bound (c := v.c) (q := q) hv.may hfew
  have hi : viewIs v.c q = true := by
    cases hi : viewIs v.c q with
    | true => rfl
    | false => unfold checkM at hck; rw [if_pos hi] at hck; cases hck
  have hgood : ¬ ((at' : Int) < 0 ∨ (n : Int) < 0 ∨ viewHolds v.c q < n ∨ viewHolds v.c q - n < at') := fun h => by
    unfold checkM at hck; rw [if_neg (by rw [hi]; decide), if_pos h] at hck; cases hck
  refine Does.enter Try.func37 rfl Try.ntmps37 rfl rfl ?_
  refine Goes.adv hTT 400 rfl ?_
  refine Goes.alloc hTT rfl ?_
  intro qb w1 e1 hqb hw1 hz1
  refine Goes.adv hTT 400 rfl ?_
  refine Goes.alloc hTT rfl ?_
  intro db w2 e2 hdb hw2 hz2
  refine Goes.adv hTT 400 rfl ?_
  replace hqb : plcBox w1 qb q := hqb
  have hqb2 := hw2.heap' hqb
  have hw := hw1.trans hw2
  refine Goes.loads hTT rfl hqb2 rfl rfl ?_
  refine Goes.call rfl (view_is v q w2 (hv.grow hw) (hq.grow hw)) ?_
  rintro _ w3 ⟨rfl, hw3⟩
  refine Goes.adv hTT 400 rfl ?_
  have hwa := hw.trans hw3
  rw [hi]
  refine Goes.no hTT rfl rfl rfl ?_
  refine Goes.no hTT rfl (decide_eq_false (by omega)) rfl ?_
  refine Goes.no hTT rfl (decide_eq_false (by omega)) rfl ?_
  refine Goes.loads hTT rfl (hw3.heap' hqb2) rfl rfl ?_
  refine Goes.call rfl (view_Holds v q w3 (hv.grow hwa) (hq.grow hwa) (by omega)) ?_
  rintro _ w4 ⟨rfl, hw4⟩
  refine Goes.adv hTT 400 rfl ?_
  have hwb := hwa.trans hw4
  refine Goes.no hTT rfl (decide_eq_false (by omega)) rfl ?_
  refine Goes.loads hTT rfl ((hw3.trans hw4).heap' hqb2) rfl rfl ?_
  refine Goes.call rfl (view_Holds v q w4 (hv.grow hwb) (hq.grow hwb) (by omega)) ?_
  rintro _ w5 ⟨rfl, hw5⟩
  refine Goes.adv hTT 400 rfl ?_
  have hwc := hwb.trans hw5
  refine Goes.arith hTT rfl (w64 (by omega)) rfl ?_
  refine Goes.no hTT rfl (decide_eq_false (by omega)) rfl ?_
  have hq25 := (hw3.trans hw4).trans hw5
  refine Goes.loads hTT rfl (hq25.heap' hqb2) rfl rfl ?_
  refine Goes.call rfl (view_parts v q at' n w5) ?_
  rintro _ w6 ⟨pb, vb, ab, nb, rfl, hpb, hvb, hab, hnb, bpb, bvb, bab, bnb, hw6⟩
  refine Goes.adv hTT 400 rfl ?_
  have hwd := hwc.trans hw6
  have hdb6 := (hq25.trans hw6).heap' hdb
  have l1 := lt_of_heap bpb
  have l2 := lt_of_heap bvb
  have hsz5 := hwc.size
  have hsz6 := hwd.size
  have hldb := lt_of_heap hdb6
  refine Goes.rangeFunc rfl rfl ⟨Try.f71, Try.func71, rfl, rfl⟩ ?_
  intro r0 B tmps w7 hr0 hB hfit hmk hlr hw7 hz7
  have hwe := hwd.trans hw7
  have hY0w : ∀ z, Y0 z → z < w.heap.size := hKlt _ _ _ hK0
  have hmw := h0.mlt
  have hvw := lt_of_heap hv.obj
  have hN : ∀ {x y : World} {k Y}, K k Y x → Chg None' x y → K k Y y := fun hk hc => hK _ _ _ _ _ hk hc (fun _ h => h.elim)
  have hr0s : r0.state = .ready := by rw [hr0]
  have hr0r : ({ r0 with state := .ready, pending := none } : Loop) = r0 := by rw [hr0]
  have hr0p : r0.pending = none := by rw [hr0]
  refine (view_parts1 (B + 1) v q at' n pb vb ab nb A Vs
    (fun k Y2 x => ∃ Y, K k Y x ∧ (∀ z, Y2 z ↔ Y z ∨ z = B + 1) ∧ x.heap[B + 1]? = some (.loop r0) ∧ x.heap[B]? = some (.deferred (some [])) ∧ x.heap[db]? = some (.cells ([.func (.func fk) #[] caps.toArray] : List Value).toArray 80 (0, 0)) ∧ (∀ z, Y z → z ≠ B ∧ z ≠ B + 1 ∧ z ≠ db))
    (fun z => Y0 z ∨ z = B + 1) w7 (hv.grow hwe) (hq.grow hwe) hmb hi (by omega) hfew (hw7.heap' bpb) (hw7.heap' bvb) (hw7.heap' bab) (hw7.heap' bnb) ?_ ?_ ?_ ?_ ?_ ?_ ?_ (h0.grow hwe) ?_).mono ?_
  · intro z hz
    rcases hz with (hz | hz) | hz
    · have := hY0w z hz
      exact ⟨by omega, by omega, fun e => hPv (.inl (e ▸ hz))⟩
    · exact ⟨by omega, by omega, by omega⟩
    · have := hmw z hz
      exact ⟨by omega, by omega, fun e => hPv (.inr (e ▸ hz))⟩
  · exact hq.rd.outNew hPq (fun z hz => by rcases hz with (hz | hz) | hz; exact .inl (.inl hz); exact .inr (by omega); exact .inl (.inr hz))
  · exact hv.conf.classes.outNew hPc (fun z hz => by rcases hz with (hz | hz) | hz; exact .inl (.inl hz); exact .inr (by omega); exact .inl (.inr hz))
  · exact hv.conf.keep.outNew hPk (fun z hz => by rcases hz with (hz | hz) | hz; exact .inl (.inl hz); exact .inr (by omega); exact .inl (.inr hz))
  · rintro k Y2 x ⟨Y, h1, h2, h3, h4, h5, h6⟩ z hz
    rcases (h2 z).1 hz with hz | rfl
    · exact hKlt _ _ _ h1 z hz
    · exact lt_of_heap h3
  · rintro k Y2 x y ⟨Y, h1, h2, h3, h4, h5, h6⟩ hs
    exact ⟨Y, hK _ _ _ _ _ h1 hs (fun z h => .inl h), h2, hs.heap h3 (fun e => by have := hmw _ e; omega), hs.heap h4 (fun e => by have := hmw _ e; omega), hs.heap h5 (fun e => by have := hmw _ e; omega), h6⟩
  · rintro k Y2 x0 x hk hA0 ⟨Y, h1, h2, h3, h4, h5, h6⟩ hx
    have hlt3 := lt_of_heap h3
    have hA := hA0.grow hx
    have hlx3 := hx.heap' h3
    have hlx4 := hx.heap' h4
    have hlx5 := hx.heap' h5
    have hKx := hN h1 hx
    subst hr0
    refine YDoes.enter (ps := [46, 47]) hlx3 rfl rfl hfit rfl ?_
    refine Goes.adv hTT 400 rfl ?_
    refine Goes.beginRound rfl hlx3 rfl ?_
    intro x1 hl1 hs1 hz1
    refine Goes.adv hTT 400 rfl ?_
    have hKx1 : K k Y x1 := hK _ _ _ _ _ hKx hs1 (fun z e => .inr ⟨fun hy => (h6 z hy).2.1 e, by omega⟩)
    have hA1 : ArOk x1 A (chgL q A (Vs k)) := hA.chg hs1 (fun b hb e => by have := h0.blt b hb; omega)
    refine Goes.loadb hTT rfl (hs1.heap hlx5 (by omega)) rfl rfl ?_
    refine Goes.call rfl (hdo k Y x1 hk hA1 hKx1) ?_
    rintro _ x2 ⟨hA2, hs2, Y', hK2, hY'⟩
    refine Goes.adv hTT 400 rfl ?_
    have hl2 := hs2.heap hl1 (fun hy => (h6 _ hy).2.1 rfl)
    refine Goes.roundEnd rfl hl2 ?_
    intro x3 hl3 hs3 hz3
    have hxs := hx.size
    have hlt4 := lt_of_heap hlx4
    have hlt5 := lt_of_heap hlx5
    have hltx3 := lt_of_heap hlx3
    have hY'6 : ∀ z, Y' z → z ≠ B ∧ z ≠ B + 1 ∧ z ≠ db := fun z hz => (hY' z hz).elim (h6 z) (fun h => by omega)
    have hA3 : ArOk x3 A (Vs (k + 1)) := hA2.chg hs3 (fun b hb e => by have := h0.blt b hb; omega)
    have hK3 : K (k + 1) Y' x3 := hK _ _ _ _ _ hK2 hs3 (fun z e => .inr ⟨fun hy => (hY'6 z hy).2.1 e, by omega⟩)
    refine ⟨_, rfl, rfl, hA3, ((hs1.mono fun z _ e => (h2 z).2 (.inr e)).trans (hs2.mono fun z _ e => (h2 z).2 (.inl e))).trans (hs3.mono fun z _ e => (h2 z).2 (.inr e)), fun z => Y' z ∨ z = B + 1, ⟨Y', hK3, fun z => Iff.rfl, hl3, hs3.heap (hs2.heap (hs1.heap hlx4 (by omega)) (fun hy => (h6 _ hy).1 rfl)) (by omega), hs3.heap (hs2.heap (hs1.heap hlx5 (by omega)) (fun hy => (h6 _ hy).2.2 rfl)) (by omega), hY'6⟩, fun z hz => ?_⟩
    rcases hz with hz | hz
    · exact (hY' z hz).elim (fun h => .inl ((h2 z).2 (.inl h))) (fun h => .inr (by omega))
    · exact .inl ((h2 z).2 (.inr hz))
  · exact ⟨Y0, hN hK0 hwe, fun z => Iff.rfl, hlr, hmk, hw7.heap' hdb6, fun z hz => by have := hY0w z hz; omega⟩
  · rintro _ w8 ⟨rfl, hA8, ⟨Y2, ⟨Y, h1, h2, h3, h4, h5, h6⟩, hY2⟩, hs8⟩
    refine ⟨_, h3, by rw [hr0s]; simp, ?_⟩
    intro w9 hs9 hz9
    rw [hr0p]
    refine Goes.adv hTT 400 rfl ?_
    refine Goes.retM hTT rfl Try.func37 (hs9.heap h4 (by omega)) (vs := [.int .i64 0]) (fun _ _ => .tmp rfl .nil) ?_
    intro w10 hs10 hz10
    have hA10 : ArOk w10 A _ := (hA8.chg hs9 (fun b hb e => by have := h0.blt b hb; omega)).chg hs10 (fun b hb e => by have := h0.blt b hb; omega)
    have hK10 := hK _ _ _ _ _ (hK _ _ _ _ _ h1 hs9 (fun z e => .inr ⟨fun hy => (h6 z hy).2.1 e, by omega⟩)) hs10 (fun z e => .inr ⟨fun hy => (h6 z hy).1 e, by omega⟩)
    refine ⟨rfl, hA10, ⟨Y, hK10, fun z hz => ?_⟩, ?_⟩
    · rcases hY2 z ((h2 z).2 (.inl hz)) with (h | h) | h
      · exact .inl h
      · exact .inr (by omega)
      · exact .inr (by omega)
    · exact ((((hwe.mono fun _ _ h => h.elim).since hs8 (fun z hz h => by rcases h with (h | h) | h; exact .inl h; exact absurd hz (by omega); exact .inr h))).since hs9 (fun z hz e => absurd hz (by omega))).since hs10 (fun z hz e => absurd hz (by omega))
end Go.Proofs.Ytffimkpllchfcaa
/-
  Layer 6: Copy, Fill, Store.
-/
namespace Go.Proofs.Ytffimkpllchfcaa
open Go.RowKit

theorem arena_span' (A : Ar) (V : ArV) (i n : Nat) (w : World) (h : ArOk w A V) (ht : i + n ≤ V.bs.length) : Does Try.prog 66 #[.pointer (some ⟨A.ab, 0, none⟩), .int .i64 i, .int .i64 n] w
    (fun v w' => ∃ x, v = .tuple #[.slice x n (V.bs.length - i), .int .i64 0] ∧ (0 < n → x = some ⟨A.db, i, none⟩) ∧ x.isSome = true ∧ w = w') :=
  (arena_span A V i n w h ht).mono fun _ _ ⟨h1, h2⟩ => ⟨_, h1, fun hn => span_addr ht hn, by unfold shiftA; split <;> rfl, h2⟩
theorem wrB_getD {bs l : List Int} {i j : Nat} (h : i + l.length ≤ bs.length) : (wrB bs i l).getD j 0 = if j < i then bs.getD j 0 else if j < i + l.length then l.getD (j - i) 0 else bs.getD j 0 := by
  unfold wrB
  simp only [List.getD_eq_getElem?_getD]
  by_cases h1 : j < i
  · rw [if_pos h1, List.append_assoc, List.getElem?_append_left (by simp; omega), List.getElem?_take, if_pos h1]
  · rw [if_neg h1]
    by_cases h2 : j < i + l.length
    · rw [if_pos h2, List.getElem?_append_left (by simp; omega), List.getElem?_append_right (by simp; omega)]
      simp [show min i bs.length = i from by omega]
    · rw [if_neg h2, List.getElem?_append_right (by simp; omega)]
      simp only [List.length_append, List.length_take, List.getElem?_drop, show min i bs.length = i from by omega]
      rw [show i + l.length + (j - (i + l.length)) = j from by omega]
theorem ext_getD {a b : List Int} (hl : a.length = b.length) (h : ∀ j, j < a.length → a.getD j 0 = b.getD j 0) : a = b := by
  apply List.ext_getElem hl
  intro j h1 h2
  have := h j h1
  simpa [List.getD, h1, h2] using this
theorem set_getD {l : List Int} {i j : Nat} {x : Int} (hi : i < l.length) : (l.set i x).getD j 0 = if j = i then x else l.getD j 0 := by
  simp only [List.getD_eq_getElem?_getD, List.getElem?_set]
  by_cases h : i = j
  · subst h; simp [hi]
  · rw [if_neg h, if_neg (Ne.symm h)]
theorem setV_one : ∀ (l : List Value) (i : Nat) (v : Value), i < l.length → setV l i [v] = some (l.set i v)
  | x :: r, 0, v, _ => by simp [setV]
  | x :: r, i + 1, v, h => by simp [setV, setV_one r i v (by simpa using h)]
theorem setV1 {l : List Int} {i : Nat} {x : Int} (hi : i < l.length) : setV (l.map (Value.int .u8)) i [.int .u8 x] = some ((l.set i x).map (Value.int .u8)) := by
  rw [setV_one _ _ _ (by simpa using hi), List.map_set]
/-- A word's bytes, the least one first. -/
def leB (x : Int) : List Int := (List.range 8).map fun k => x / 256 ^ k % 256
theorem leB_length (x : Int) : (leB x).length = 8 := by simp [leB]
theorem leB_getD {x : Int} {k : Nat} (h : k < 8) : (leB x).getD k 0 = x / 256 ^ k % 256 := by simp [leB, List.getD, h]
theorem leB_in (x : Int) : InB (leB x) := fun y hy => by
  unfold leB at hy
  obtain ⟨k, _, rfl⟩ := List.mem_map.1 hy
  omega
theorem wrap_u8 {z : Int} : IntKind.u8.wrap z = z % 256 := by
  simp only [IntKind.wrap, IntKind.signed, IntKind.bits]
  simp
theorem shr_u64 {x : Int} {k : Nat} (hk : k < 8) : shV false .u64 x (8 * (k : Int)) = x / 256 ^ k := by
  unfold shV
  rw [if_neg (by simp), show (8 * (k : Int)).toNat = 8 * k from by omega, show min (8 * k) (IntKind.bits .u64) = 8 * k from Nat.min_eq_left (by simp only [IntKind.bits]; omega)]
  rw [Int.pow_mul, Int.fdiv_eq_ediv_of_nonneg _ (Int.le_of_lt (Int.pow_pos (by decide)))]
  rfl
/-- The first k bytes laid. -/
def partW (bs : List Int) (i : Nat) (l : List Int) (k : Nat) : List Int := wrB bs i (l.take k)
theorem partW_step {bs l : List Int} {i k : Nat} (h : i + l.length ≤ bs.length) (hk : k < l.length) : (partW bs i l k).set (i + k) (l.getD k 0) = partW bs i l (k + 1) := by
  unfold partW
  have h1 : (l.take k).length = k := by simp; omega
  have h2 : (l.take (k + 1)).length = k + 1 := by simp; omega
  have hl1 : (wrB bs i (l.take k)).length = bs.length := wrB_length (by omega)
  have hl2 : (wrB bs i (l.take (k + 1))).length = bs.length := wrB_length (by omega)
  refine ext_getD (by simp [hl1, hl2]) fun j hj => ?_
  have htk : ∀ m, m < k → (l.take k).getD m 0 = l.getD m 0 := fun m hm => by simp [List.getD, hm]
  have htk1 : ∀ m, m < k + 1 → (l.take (k + 1)).getD m 0 = l.getD m 0 := fun m hm => by simp [List.getD, hm]
  rw [set_getD (by omega), wrB_getD (by omega), wrB_getD (by omega), h1, h2]
  by_cases e : j = i + k
  · subst e
    rw [if_pos rfl, if_neg (by omega), if_pos (by omega), show i + k - i = k from by omega, htk1 k (by omega)]
  · rw [if_neg e]
    by_cases h3 : j < i
    · rw [if_pos h3, if_pos h3]
    · rw [if_neg h3, if_neg h3]
      by_cases h4 : j < i + k
      · rw [if_pos h4, if_pos (by omega), htk _ (by omega), htk1 _ (by omega)]
      · rw [if_neg h4, if_neg (by omega)]
theorem partW_zero {bs l : List Int} {i : Nat} : partW bs i l 0 = bs := by unfold partW; simp [wrB_nil]
theorem partW_all {bs l : List Int} {i : Nat} : partW bs i l l.length = wrB bs i l := by unfold partW; rw [List.take_length]
theorem partW_length {bs l : List Int} {i k : Nat} (h : i + l.length ≤ bs.length) : (partW bs i l k).length = bs.length := wrB_length (by simp; omega)
theorem partW_in {bs l : List Int} {i k : Nat} (h : InB bs) (h' : InB l) : InB (partW bs i l k) := fun x hx => (wrB_mem hx).elim (h x) (fun hx => h' x (List.mem_of_mem_take hx))
theorem or_zero {c : Int} (h : 0 ≤ c ∧ c < 256) : bitV .or .u8 0 c = c := by
  obtain ⟨c, rfl⟩ := Int.eq_ofNat_of_zero_le h.1
  have hbv : (BitVec.ofInt 8 (0 : Int) ||| BitVec.ofInt 8 (c : Int)).toNat = c := by
    rw [BitVec.toNat_or, BitVec.toNat_ofInt, BitVec.toNat_ofInt]
    rw [show ((c : Int) % ((2 ^ 8 : Nat) : Int)).toNat = c from by omega]
    simp
  change IntKind.u8.wrap ((BitVec.ofInt 8 (0 : Int) ||| BitVec.ofInt 8 (c : Int)).toNat : Int) = _
  rw [hbv, wrap_u8]
  omega
theorem dat_cell {w : World} {A : Ar} {V : ArV} {j : Nat} (h : ArOk w A V) (hj : j < V.bs.length) : w.cell? ⟨A.db, j, none⟩ = some (.int .u8 (V.bs.getD j 0)) := by
  rw [cell_of h.dat]; simp [hj]
theorem arena_Fill (A : Ar) (V : ArV) (i n : Nat) (c : Int) (w : World) (h : ArOk w A V) (ht : i + n ≤ V.bs.length) (hc : 0 ≤ c ∧ c < 256) :
    Does Try.prog 48 #[.pointer (some ⟨A.ab, 0, none⟩), .int .i64 i, .int .i64 n, .int .u8 c] w (fun v w' => v = .int .i64 0 ∧ ArOk w' A { V.charge A n with bs := wrB V.bs i (List.replicate n c) } ∧ Chg (foot A) w w') := by
  have hlen := h.len
  refine Does.enter Try.func48 rfl Try.ntmps48 rfl rfl ?_
  refine Goes.adv hTT 400 rfl ?_
  refine Goes.call rfl (arena_charged' A V i n w h ht) ?_
  rintro _ w1 ⟨x, rfl, hx, _, h1, hs⟩
  refine Goes.adv hTT 400 rfl ?_
  have hsf : Chg (foot A) w w1 := hs.mono fun b _ hb => .inr hb
  have e1 := V.charge_bs A n
  by_cases hn : n = 0
  · refine Goes.clear0 hTT rfl hn rfl ?_
    refine Goes.unroll hTT rfl ?_
    refine Goes.no hTT rfl (decide_eq_false (by omega)) rfl ?_
    subst hn
    exact Goes.ret1 hTT rfl Try.func48 rfl rfl ⟨rfl, by rw [List.replicate_zero, wrB_nil, ← V.charge_bs A 0]; exact h1, hsf⟩
  · have hxe := hx (by omega)
    subst hxe
    have hd1 := h1.dat
    rw [e1] at hd1
    have hr0 : (List.replicate n (0 : Int)).length = n := List.length_replicate
    have hrc : (List.replicate n c).length = n := List.length_replicate
    refine Goes.clear hTT rfl hd1 rfl rfl (by omega) (by simp; omega) ?_
    intro w2 hd2 hs2 hz2
    refine Goes.adv hTT 400 rfl ?_
    have hmap : (V.bs.map (Value.int .u8)).take i ++ List.replicate n (Value.int .u8 0) ++ (V.bs.map (Value.int .u8)).drop (i + n) = (wrB V.bs i (List.replicate n 0)).map (Value.int .u8) := by
      unfold wrB; simp [List.map_take, List.map_drop]
    rw [hmap] at hd2
    have hi0 : InB (List.replicate n (0 : Int)) := fun x hx => by rw [List.eq_of_mem_replicate hx]; omega
    have hic : InB (List.replicate n c) := fun x hx => by rw [List.eq_of_mem_replicate hx]; exact hc
    have h2 := h1.laid hd2 hs2 (by rw [wrB_length (by omega), e1]) (fun x hx => (wrB_mem hx).elim (h.rng x) (hi0 x))
    have hs12 : Chg (foot A) w w2 := hsf.trans (hs2.mono fun b _ hb => .inl hb)
    obtain ⟨b0, hb0⟩ : ∃ b0, b0 = wrB V.bs i (List.replicate n 0) := ⟨_, rfl⟩
    rw [← hb0] at h2
    have hb0l : b0.length = V.bs.length := by rw [hb0, wrB_length (by omega)]
    have hb0i : InB b0 := fun x hx => by rw [hb0] at hx; exact (wrB_mem hx).elim (h.rng x) (hi0 x)
    refine Goes.loop (α := Nat) (fun k => [(3, false, .int .u8 c), (9, false, .slice (some ⟨A.db, i, none⟩) n (V.bs.length - i)), (10, false, .int .i64 0), (21, false, .int .i64 n), (22, false, .int .i64 k)])
      (fun k w' => ArOk w' A { V.charge A n with bs := partW b0 i (List.replicate n c) k } ∧ Chg (foot A) w w' ∧ k ≤ n) (fun k => n - k) 0 ⟨rfl, rfl, rfl, rfl, rfl, trivial⟩ ⟨by rw [partW_zero]; exact h2, hs12, by omega⟩ ?_
    rintro k w3 ⟨h3, hs3, hk⟩ ih
    refine Goes.adv hTT 400 rfl ?_
    refine Goes.fork hTT rfl rfl rfl (fun h0 => ?_) (fun h0 => ?_)
    · have hlt : k < n := by have := of_decide_eq_true h0; omega
      have hpl : (partW b0 i (List.replicate n c) k).length = V.bs.length := by rw [partW_length (by omega), hb0l]
      have hv0 : (partW b0 i (List.replicate n c) k).getD (i + k) 0 = 0 := by
        unfold partW
        rw [wrB_getD (by simp; omega), if_neg (by omega), if_neg (by simp; omega), hb0, wrB_getD (by omega), if_neg (by omega), if_pos (by omega)]
        simp [List.getD, hlt]
      have hcell : w3.cell? ⟨A.db, i + k, none⟩ = some (.int .u8 0) := by rw [← hv0]; exact dat_cell (j := i + k) h3 (by simp only [hpl]; omega)
      refine Goes.index hTT rfl (j := k) (by omega) (by omega) (by first | rfl | omega | (simp; done) | (simp; omega)) rfl ?_
      refine Goes.load hTT rfl hcell rfl ?_
      refine Goes.bits hTT rfl (or_zero hc) rfl ?_
      refine Goes.index hTT rfl (j := k) (by omega) (by omega) (by first | rfl | omega | (simp; done) | (simp; omega)) rfl ?_
      refine Goes.store hTT rfl h3.dat (setV1 (by simp only [hpl]; omega)) rfl ?_
      intro w4 hd4 hs4 hz4
      refine Goes.adv hTT 400 rfl ?_
      have hd4' : w4.heap[A.db]? = some (.cells ((partW b0 i (List.replicate n c) (k + 1)).map (Value.int .u8)).toArray 5 (0, 0)) := by
        rw [← partW_step (l := List.replicate n c) (i := i) (bs := b0) (k := k) (by omega) (by omega), show (List.replicate n c).getD k 0 = c from by simp [List.getD, hlt]]; exact hd4
      have h4 := h3.laid hd4' hs4 (by simp only; rw [partW_length (by omega), partW_length (by omega)]) (partW_in hb0i hic)
      refine Goes.arith hTT rfl (w64 (by omega)) rfl ?_
      exact ih (k + 1) _ _ ⟨h4, hs3.trans (hs4.mono fun b _ hb => .inl hb), by omega⟩ (by omega) ⟨rfl, rfl, rfl, rfl, rfl, trivial⟩
    · have hge : k = n := by have := of_decide_eq_false h0; omega
      subst hge
      have hfin : partW b0 i (List.replicate k c) k = wrB V.bs i (List.replicate k c) := by
        refine ext_getD (by rw [partW_length (by omega), wrB_length (by omega), hb0l]) fun j hj => ?_
        have hj' := hj
        unfold partW
        rw [show (List.replicate k c).take k = List.replicate k c from by simp, wrB_getD (by omega), wrB_getD (by omega), hb0, wrB_getD (by omega)]
        by_cases h5 : j < i
        · simp only [if_pos h5]
        · simp only [if_neg h5, hrc, hr0]
          by_cases h6 : j < i + k
          · simp only [if_pos h6]
          · simp only [if_neg h6]
      rw [hfin] at h3
      exact Goes.ret1 hTT rfl Try.func48 rfl rfl ⟨rfl, h3, hs3⟩
theorem arena_Fill_no (A : Ar) (V : ArV) (i n c : Int) (w : World) (h : ArOk w A V) (ht : thereB V.bs.length i n = false) : Does Try.prog 48 #[.pointer (some ⟨A.ab, 0, none⟩), .int .i64 i, .int .i64 n, .int .u8 c] w (Same (.int .i64 8) w) := by
  refine Does.enter Try.func48 rfl Try.ntmps48 rfl rfl ?_
  refine Goes.adv hTT 400 rfl ?_
  refine Goes.call rfl (arena_charged_no A V i n w h ht) ?_
  rintro _ _ ⟨rfl, rfl⟩
  refine Goes.adv hTT 400 rfl ?_
  refine Goes.clear0 hTT rfl rfl rfl ?_
  refine Goes.unroll hTT rfl ?_
  refine Goes.no hTT rfl rfl rfl ?_
  exact Goes.ret1 hTT rfl Try.func48 rfl rfl ⟨rfl, rfl⟩
theorem arena_Fill_nil (i n c : Int) (w : World) : Does Try.prog 48 #[.pointer none, .int .i64 i, .int .i64 n, .int .u8 c] w (Same (.int .i64 1) w) := by
  refine Does.enter Try.func48 rfl Try.ntmps48 rfl rfl ?_
  refine Goes.adv hTT 400 rfl ?_
  refine Goes.call rfl (arena_charged_nil i n w) ?_
  rintro _ _ ⟨rfl, rfl⟩
  refine Goes.adv hTT 400 rfl ?_
  refine Goes.clear0 hTT rfl rfl rfl ?_
  refine Goes.unroll hTT rfl ?_
  refine Goes.no hTT rfl rfl rfl ?_
  exact Goes.ret1 hTT rfl Try.func48 rfl rfl ⟨rfl, rfl⟩
end Go.Proofs.Ytffimkpllchfcaa
/-
  Layer 21: a view: reading, writing, clearing.
-/
namespace Go.Proofs.Ytffimkpllchfcaa
open Go.RowKit

/-- Each part lies in the arena; all together are asV many asV was asked. -/
theorem parts_in {c : Conf} {q : Plc} {at' n : Nat} (hm : mayB c = true) (hck : checkM c q at' n = 0) (hfew : q.pages.length ≤ 4096) :
    ∀ p ∈ partsM c q at' n, ∃ i m : Nat, p = ((i : Int), (m : Int)) ∧ ((i + m : Nat) : Int) ≤ c.size * c.pages := by
  obtain ⟨m1, m2, m3⟩ := may_facts hm
  have hi : viewIs c q = true := by
    cases hi : viewIs c q with
    | true => rfl
    | false => unfold checkM at hck; rw [if_pos hi] at hck; cases hck
  have hgood : ¬ ((at' : Int) < 0 ∨ (n : Int) < 0 ∨ viewHolds c q < n ∨ viewHolds c q - n < at') := fun h => by
    unfold checkM at hck; rw [if_neg (by rw [hi]; decide), if_pos h] at hck; cases hck
  intro p hp
  unfold partsM at hp
  split at hp
  · rename_i hcl
    obtain ⟨s, hs, rfl⟩ := List.mem_map.1 hp
    obtain ⟨hpos, hpg⟩ := is_large hi hcl
    have hho : viewHolds c q = (q.pages.length : Int) * c.size := by unfold viewHolds; rw [if_pos hi, if_pos hcl]
    obtain ⟨sz, hsz⟩ := Int.eq_ofNat_of_zero_le (show 0 ≤ c.size by omega)
    rw [show c.size.toNat = sz from by omega] at hs
    obtain ⟨i1, i2, i3, i4⟩ := span_in (page := sz) (by omega) n at' s hs
    have hNl : s.1 < q.pages.length := by
      have h1 : (s.1 * sz : Nat) < q.pages.length * sz := by
        have : ((q.pages.length * sz : Nat) : Int) = (q.pages.length : Int) * c.size := by rw [hsz]; rfl
        omega
      exact Nat.lt_of_mul_lt_mul_right h1
    have hpn := hpg _ (show q.pages.getD s.1 0 ∈ q.pages by rw [List.getD_eq_getElem?_getD, List.getElem?_eq_getElem hNl]; exact List.getElem_mem hNl)
    obtain ⟨g, hg⟩ := Int.eq_ofNat_of_zero_le hpn.1
    refine ⟨g * sz + s.2.1, s.2.2, ?_, ?_⟩
    · rw [hg, hsz]; rfl
    · have e2 : (g : Int) * c.size + c.size ≤ c.size * c.pages := by
        have : ((g : Int) + 1) * c.size ≤ c.pages * c.size := Int.mul_le_mul_of_nonneg_right (by omega) (by omega)
        rw [Int.add_mul, Int.one_mul, Int.mul_comm c.pages] at this
        exact this
      have e3 : ((g * sz : Nat) : Int) = (g : Int) * c.size := by rw [hsz]; rfl
      omega
  · rename_i hcl
    simp at hp
    subst hp
    obtain ⟨kk, pg, ix, hkk, hpg, hix, hkl, g1, g2, g3, g4, g5, g6, g7⟩ := is_small hm hi hcl
    have hat : viewAt c q = (pg : Int) * c.size + (ix : Int) * clsM c kk := by unfold viewAt; rw [if_pos ⟨hi, hcl⟩, hkk, hpg, hix]
    have hho : viewHolds c q = clsM c kk := by unfold viewHolds; rw [if_pos hi, if_neg hcl, hkk]
    obtain ⟨a, ha⟩ := Int.eq_ofNat_of_zero_le (show 0 ≤ viewAt c q by omega)
    exact ⟨a + at', n, by rw [ha]; rfl, by omega⟩
/-- An arena's meter behind the parts ahead of k, when each is charged. -/
def vsT (q : Plc) (A : Ar) (V : ArV) (ps : List (Int × Int)) : Nat → ArV
  | 0 => V
  | k + 1 => (chgL q A (vsT q A V ps k)).charge A (ps.getD k (0, 0)).2
theorem chgL_bs (q : Plc) (A : Ar) (V : ArV) : (chgL q A V).bs = V.bs := by unfold chgL; split; exact V.charge_bs A 1; rfl
theorem vsT_bs (q : Plc) (A : Ar) (V : ArV) (ps : List (Int × Int)) : ∀ k, (vsT q A V ps k).bs = V.bs
  | 0 => rfl
  | k + 1 => by unfold vsT; rw [ArV.charge_bs, chgL_bs, vsT_bs q A V ps k]
/-- The bytes of the parts ahead of k. -/
def readM (bs : List Int) (ps : List (Int × Int)) : List Int := ps.flatMap fun p => sub bs p.1.toNat p.2.toNat
theorem view_Read1 (v : Vw) (vb ob : Nat) (A : Ar) (V : ArV) (i m base j : Nat) (u : Value) (xs : List Int) (w : World) (hvb : ptrBox w vb v) (hv : w.heap[v.vb]? = some (.cells (vwL v).toArray 75 (0, 0))) (hab : v.ab = A.ab)
    (hob : w.heap[ob]? = some (.cells ([u] : List Value).toArray 39 (0, 0))) (hown : Own base 5 1 w u j (xs.map (Value.int .u8))) (hbase : base ≤ w.heap.size) (hobb : ob < base) (hA : ArOk w A V) (him : i + m ≤ V.bs.length) (hj : j + m ≤ 16777216)
    (hmo : ∀ z, mFoot A z → z ≠ ob ∧ z < base) (hArow : ∀ b, b = A.ab ∨ b = A.db ∨ b = A.mc ∨ A.mb = some b → some b = u.ownBlock → False) (hAob : ∀ b, b = A.ab ∨ b = A.db ∨ b = A.mc ∨ A.mb = some b → b = ob → False) :
    Does Try.prog 40 #[.int .i64 i, .int .i64 m, .pointer (some ⟨vb, 0, none⟩), .pointer (some ⟨ob, 0, none⟩)] w (fun _ w' => ArOk w' A (V.charge A m) ∧ Chg (fun z => z = ob ∨ some z = u.ownBlock ∨ mFoot A z) w w' ∧
      ∃ u', w'.heap[ob]? = some (.cells ([u'] : List Value).toArray 39 (0, 0)) ∧ Own base 5 1 w' u' (j + m) ((xs ++ sub V.bs i m).map (Value.int .u8)) ∧ ∀ z, some z = u'.ownBlock → some z = u.ownBlock ∨ w.heap.size ≤ z) := by
  have hml : maxLen = 9223372036854775807 := rfl
  refine Does.enter Try.func40 rfl Try.ntmps40 rfl rfl ?_
  refine Goes.adv hTT 400 rfl ?_
  refine Goes.loadb hTT rfl hvb rfl rfl ?_
  refine Goes.loadb hTT rfl hv rfl rfl ?_
  rw [hab]
  refine Goes.call rfl (arena_Read A V i m w hA him) ?_
  rintro _ w1 ⟨v1, rfl, ⟨g, cap, cur, rfl, hg, hgh, hgc, hgt⟩, hA1, hs1⟩
  refine Goes.adv hTT 400 rfl ?_
  have hsl : (sub V.bs i m).length = m := sub_length him
  have hob1 := hs1.heap hob (fun e => (hmo _ e).1 rfl)
  have ho1 := hown.chg hs1 (fun b hb e => by have := (World.ownsRow.lt hown b hb.symm).1; have := (hmo _ e).2; omega)
  rw [hsl] at hgc hgt ⊢
  have hsz1 := hs1.size
  refine Goes.loadb hTT rfl hob1 rfl rfl ?_
  have hnews : ∀ k x, ((sub V.bs i m).map (Value.int .u8))[k]? = some x → w1.cell? ((⟨g, 0, none⟩ : Addr).add k) = some x := fun k x hx => by
    rw [add_off, cell_of hgh]
    have hk : k < m := by have := (List.getElem?_eq_some_iff.1 hx).1; simpa [hsl] using this
    rw [← hgt, List.getElem?_take, if_pos hk] at hx
    simpa using hx
  refine Goes.append (base := base) (news := (sub V.bs i m).map (Value.int .u8)) hTT rfl ho1 (by omega) (by simp [hsl]) hnews plain_ints (by simp only; omega) ?_
  intro v2 w2 ho2 hs2 hv2
  rcases ho2.2 with ⟨hv2e, hz2⟩ | ⟨g2, cap2, cur2, hv2e, _⟩
  · subst hv2e
    refine Goes.adv hTT 400 rfl ?_
    have hob2 := hs2.heap hob1 (fun e => by have := (World.ownsRow.lt ho1 _ e.symm).1; omega)
    refine Goes.store hTT rfl hob2 rfl rfl ?_
    intro w3 hob3 hs3 hz3
    refine Goes.adv hTT 400 rfl ?_
    have ho3 := ho2.chg hs3 (fun b hb e => by have := (World.ownsRow.lt ho2 b hb.symm).1; omega)
    have hA2 : ArOk w3 A (V.charge A m) := (hA1.chg hs2 (fun b hb e => hArow b hb e)).chg hs3 (fun b hb e => hAob b hb e)
    have hc : Chg (fun z => z = ob ∨ some z = u.ownBlock ∨ mFoot A z) w w3 := ((hs1.mono fun z _ h => .inr (.inr h)).trans (hs2.mono fun z _ h => .inr (.inl h))).trans (hs3.mono fun z _ h => .inl h)
    exact Goes.ret0 hTT rfl Try.func40 rfl ⟨hA2, hc, _, hob3, by rw [List.map_append]; exact ho3, fun z hz => by rcases hv2.2 with h | h; exact .inl (hz.trans h); exact .inr (by rw [h] at hz; cases hz; omega)⟩
  · subst hv2e
    refine Goes.adv hTT 400 rfl ?_
    have hob2 := hs2.heap hob1 (fun e => by have := (World.ownsRow.lt ho1 _ e.symm).1; omega)
    refine Goes.store hTT rfl hob2 rfl rfl ?_
    intro w3 hob3 hs3 hz3
    refine Goes.adv hTT 400 rfl ?_
    have ho3 := ho2.chg hs3 (fun b hb e => by have := (World.ownsRow.lt ho2 b hb.symm).1; omega)
    have hA2 : ArOk w3 A (V.charge A m) := (hA1.chg hs2 (fun b hb e => hArow b hb e)).chg hs3 (fun b hb e => hAob b hb e)
    have hc : Chg (fun z => z = ob ∨ some z = u.ownBlock ∨ mFoot A z) w w3 := ((hs1.mono fun z _ h => .inr (.inr h)).trans (hs2.mono fun z _ h => .inr (.inl h))).trans (hs3.mono fun z _ h => .inl h)
    exact Goes.ret0 hTT rfl Try.func40 rfl ⟨hA2, hc, _, hob3, by rw [List.map_append]; exact ho3, fun z hz => by rcases hv2.2 with h | h; exact .inl (hz.trans h); exact .inr (by rw [h] at hz; cases hz; omega)⟩
end Go.Proofs.Ytffimkpllchfcaa
/-
  Layer 21: a view: reading.
-/
namespace Go.Proofs.Ytffimkpllchfcaa
open Go.RowKit

theorem spansM_sum {page : Nat} (hp : 1 ≤ page) : ∀ (n at' : Nat), ((spansM at' n page).map fun s => s.2.2).sum = n := by
  intro n
  induction n using Nat.strongRecOn with
  | _ n ih =>
    intro at'
    by_cases hn : n = 0
    · subst hn; rfl
    · have hpos := headS_pos (at' := at') hp (show 0 < n by omega)
      rw [spansM_cons hp (by omega), List.map_cons, List.sum_cons, ih _ (by omega)]
      unfold headS
      simp only
      omega
/-- How many all parts are. -/
def totalM (ps : List (Int × Int)) : Nat := (ps.map fun p => p.2.toNat).sum
theorem totalM_cons (p : Int × Int) (ps : List (Int × Int)) : totalM (p :: ps) = p.2.toNat + totalM ps := by simp [totalM]
theorem totalM_append (a b : List (Int × Int)) : totalM (a ++ b) = totalM a + totalM b := by simp [totalM]
theorem parts_total {c : Conf} {q : Plc} {at' n : Nat} (hm : mayB c = true) : totalM (partsM c q at' n) = n := by
  obtain ⟨m1, m2, m3⟩ := may_facts hm
  unfold partsM
  split
  · unfold totalM
    rw [List.map_map]
    have := spansM_sum (page := c.size.toNat) (by omega) n at'
    exact this
  · simp [totalM]
theorem totalM_take {ps : List (Int × Int)} {k : Nat} (h : k < ps.length) : totalM (ps.take k) + ps[k].2.toNat ≤ totalM ps := by
  have e : ps = ps.take k ++ ps[k] :: ps.drop (k + 1) := by rw [← List.drop_eq_getElem_cons h, List.take_append_drop]
  have e2 : totalM ps = totalM (ps.take k) + (ps[k].2.toNat + totalM (ps.drop (k + 1))) := by
    conv => lhs; rw [e]
    rw [totalM_append, totalM_cons]
  omega
theorem readM_length {bs : List Int} {N : Nat} (hN : bs.length = N) : ∀ {ps : List (Int × Int)}, (∀ p ∈ ps, ∃ i m : Nat, p = ((i : Int), (m : Int)) ∧ i + m ≤ N) → (readM bs ps).length = totalM ps
  | [], _ => rfl
  | p :: r, h => by
    obtain ⟨i, m, rfl, him⟩ := h p List.mem_cons_self
    rw [totalM_cons]
    unfold readM
    rw [List.flatMap_cons, List.length_append]
    have := readM_length hN (ps := r) (fun p hp => h p (List.mem_cons_of_mem _ hp))
    unfold readM at this
    rw [this]
    simp only [Int.toNat_natCast]
    rw [sub_length (by omega)]
theorem vsT_succ {q : Plc} {A : Ar} {V : ArV} {ps : List (Int × Int)} {k : Nat} (h : k < ps.length) : vsT q A V ps (k + 1) = (chgL q A (vsT q A V ps k)).charge A ps[k].2 := by
  show (chgL q A (vsT q A V ps k)).charge A (ps.getD k (0, 0)).2 = _
  rw [List.getD_eq_getElem?_getD, List.getElem?_eq_getElem h]; rfl
theorem view_Read (v : Vw) (q : Plc) (at' n : Nat) (A : Ar) (V : ArV) (w : World) (hv : VwOk w v) (hq : PlcOk w q) (hmb : v.mb = A.mb) (hab : v.ab = A.ab) (hck : checkM v.c q at' n = 0) (hfew : q.pages.length ≤ 4096)
    (hPv : ¬ mFoot A v.vb) (hPq : 0 < q.pages.length → OutA (mFoot A) q.pa) (hPc : 0 < v.c.classes.length → OutA (mFoot A) v.p.ca) (hPk : 0 < v.c.keep.length → OutA (mFoot A) v.p.ka) (hA : ArOk w A V) (hlen : (V.bs.length : Int) = v.c.size * v.c.pages) :
    Does Try.prog 19 #[vwV v, .agg (plL q).toArray, .int .i64 at', .int .i64 n] w (fun u w' => ∃ u1, u = .tuple #[u1, .int .i64 0] ∧ ArOk w' A (vsT q A V (partsM v.c q at' n) (partsM v.c q at' n).length) ∧ Chg (mFoot A) w w' ∧
      Own w.heap.size 5 1 w' u1 (readM V.bs (partsM v.c q at' n)).length ((readM V.bs (partsM v.c q at' n)).map (Value.int .u8))) := by
  obtain ⟨ps, hps⟩ : ∃ ps, ps = partsM v.c q at' n := ⟨_, rfl⟩
  have hpin : ∀ p ∈ ps, ∃ i m : Nat, p = ((i : Int), (m : Int)) ∧ i + m ≤ V.bs.length := fun p hp => by
    obtain ⟨i, m, h1, h2⟩ := parts_in hv.may hck hfew p (hps ▸ hp)
    exact ⟨i, m, h1, by omega⟩
  have htot : totalM ps = n := by rw [hps]; exact parts_total hv.may
  have hhb := viewHolds_bound (c := v.c) (q := q) hv.may hfew
  have hn : n ≤ 16777216 := by
    unfold checkM at hck
    split at hck
    · cases hck
    · split at hck
      · cases hck
      · omega
  rw [← hps]
  refine Does.enter Try.func19 rfl Try.ntmps19 rfl rfl ?_
  refine Goes.adv hTT 400 rfl ?_
  refine Goes.alloc hTT rfl ?_
  intro vb w1 e1 hvb hw1 hz1
  refine Goes.adv hTT 400 rfl ?_
  refine Goes.alloc hTT rfl ?_
  intro qb w2 e2 hqb hw2 hz2
  refine Goes.adv hTT 400 rfl ?_
  refine Goes.alloc hTT rfl ?_
  intro ob w3 e3 hob hw3 hz3
  refine Goes.adv hTT 400 rfl ?_
  replace hqb : plcBox w2 qb q := hqb
  have hw := (hw1.trans hw2).trans hw3
  have hvb3 : ptrBox w3 vb v := (hw2.trans hw3).heap' hvb
  refine Goes.loadb hTT rfl hvb3 rfl rfl ?_
  refine Goes.loads hTT rfl (hw3.heap' hqb) rfl rfl ?_
  have hmlt := hA.mlt
  have hvl := lt_of_heap hv.obj
  have hE := view_each v q at' n 40 [.pointer (some ⟨vb, 0, none⟩), .pointer (some ⟨ob, 0, none⟩)] A (vsT q A V ps)
    (fun k Y x => ∃ u, x.heap[ob]? = some (.cells ([u] : List Value).toArray 39 (0, 0)) ∧ Own w3.heap.size 5 1 x u (readM V.bs (ps.take k)).length ((readM V.bs (ps.take k)).map (Value.int .u8)) ∧
      (∀ z, Y z ↔ z = ob ∨ some z = u.ownBlock ∨ mFoot A z) ∧ ptrBox x vb v ∧ x.heap[v.vb]? = some (.cells (vwL v).toArray 75 (0, 0)) ∧ w3.heap.size ≤ x.heap.size)
    (fun z => z = ob ∨ mFoot A z) w3 (hv.grow hw) (hq.grow hw) hmb hck hfew
    (by rintro (( h | h) | h); omega; exact hPv h; exact hPv h)
    (hq.rd.outNew hPq (fun z hz => by rcases hz with (h | h) | h; exact .inr (by omega); exact .inl h; exact .inl h))
    (hv.conf.classes.outNew hPc (fun z hz => by rcases hz with (h | h) | h; exact .inr (by omega); exact .inl h; exact .inl h))
    (hv.conf.keep.outNew hPk (fun z hz => by rcases hz with (h | h) | h; exact .inr (by omega); exact .inl h; exact .inl h))
    (by
      rintro k Y x ⟨u, h1, h2, h3, h4, h5, h6⟩ z hz
      rcases (h3 z).1 hz with rfl | h | h
      · exact lt_of_heap h1
      · exact (World.ownsRow.lt h2 z h.symm).2
      · have := hmlt z h; omega)
    (by
      rintro k Y x y S ⟨u, h1, h2, h3, h4, h5, h6⟩ hs hS
      have no : ∀ z, z < w3.heap.size → ¬ mFoot A z → ¬ S z := fun z hz hm h => (hS z h).elim hm (fun h => by omega)
      exact ⟨u, hs.heap h1 (no _ (by omega) (fun h => by have := hmlt _ h; omega)), h2.chg hs (fun b hb h => by
        have hbb := World.ownsRow.lt h2 b hb.symm
        rcases hS b h with hm | hm
        · have := hmlt b hm; omega
        · exact hm.1 ((h3 b).2 (.inr (.inl hb)))), h3, hs.heap h4 (no _ (by omega) (fun h => by have := hmlt _ h; omega)), hs.heap h5 (no _ (by omega) hPv), Nat.le_trans h6 hs.size⟩)
    (by
      rintro k Y x hk hAx ⟨u, h1, h2, h3, h4, h5, h6⟩
      rw [← hps] at hk
      obtain ⟨i, m, hp, him⟩ := hpin ps[k] (List.getElem_mem hk)
      have hbs : (chgL q A (vsT q A V ps k)).bs = V.bs := by rw [chgL_bs, vsT_bs]
      have hrl : (readM V.bs (ps.take k)).length = totalM (ps.take k) := readM_length rfl (fun p hp => hpin p (List.mem_of_mem_take hp))
      have htk := totalM_take hk
      rw [hp] at htk
      simp only [Int.toNat_natCast] at htk
      have hAb : ∀ b, b = A.ab ∨ b = A.db ∨ b = A.mc ∨ A.mb = some b → b < w.heap.size := hA.blt
      have hR := view_Read1 v vb ob A (chgL q A (vsT q A V ps k)) i m w3.heap.size (readM V.bs (ps.take k)).length u (readM V.bs (ps.take k)) x h4 h5 hab h1 h2 h6 (by omega) hAx (by rw [hbs]; exact him) (by omega)
        (fun z hz => by have := hmlt z hz; omega) (fun b hb e => by have := hAb b hb; have := (World.ownsRow.lt h2 b e.symm).1; omega) (fun b hb e => by have := hAb b hb; omega)
      simp only [← hps]
      rw [hp]
      refine hR.mono fun _ y ⟨a1, a2, u', a3, a4, a5⟩ => ?_
      rw [hbs] at a4
      have htake : readM V.bs (ps.take (k + 1)) = readM V.bs (ps.take k) ++ sub V.bs i m := by
        rw [List.take_add_one, List.getElem?_eq_getElem hk, hp]
        unfold readM
        rw [List.flatMap_append]
        simp
      refine ⟨by rw [vsT_succ hk, hp]; exact a1, a2.mono fun z _ hz => (h3 z).2 hz, fun z => z = ob ∨ some z = u'.ownBlock ∨ mFoot A z, ⟨u', a3, ?_, fun z => Iff.rfl, ?_, ?_, Nat.le_trans h6 a2.size⟩, fun z hz => ?_⟩
      · rw [htake, List.length_append, sub_length him]
        exact a4
      · exact a2.heap h4 (fun h => by rcases h with h | h | h; omega; have := (World.ownsRow.lt h2 _ h.symm).1; omega; have := hmlt _ h; omega)
      · exact a2.heap h5 (fun h => by rcases h with h | h | h; omega; have := (World.ownsRow.lt h2 _ h.symm).1; omega; exact hPv h)
      · rcases hz with h | h | h
        · exact .inl ((h3 z).2 (.inl h))
        · rcases a5 z h with h | h
          · exact .inl ((h3 z).2 (.inr (.inl h)))
          · exact .inr h
        · exact .inl ((h3 z).2 (.inr (.inr h))))
    (hA.grow hw) ⟨.slice none 0 0, hob, World.ownsRow_nil _ _ _ _, fun z => ⟨fun h => h.elim .inl (fun h => .inr (.inr h)), fun h => by rcases h with h | h | h; exact .inl h; cases h; exact .inr h⟩, hvb3, hw.heap' hv.obj, Nat.le_refl _⟩
  rw [← hps] at hE
  refine Goes.call rfl (hE) ?_
  rintro _ w4 ⟨rfl, hA4, ⟨Y', ⟨u, h1, h2, h3, h4, h5, h6⟩, hY'⟩, hs4⟩
  refine Goes.adv hTT 400 rfl ?_
  rw [List.take_length] at h2
  have hch : Chg (mFoot A) w w4 := (hw.mono fun _ _ h => h.elim).since hs4 (fun z hz h => by rcases h with (h | h) | h; omega; exact h; exact h)
  have ho : Own w.heap.size 5 1 w4 u (readM V.bs ps).length ((readM V.bs ps).map (Value.int .u8)) := by
    refine ⟨h2.1, ?_⟩
    rcases h2.2 with h | ⟨g, cap, cur, a1, a2, a3⟩
    · exact .inl h
    · exact .inr ⟨g, cap, cur, a1, by omega, a3⟩
  refine Goes.loadb hTT rfl h1 rfl rfl ?_
  exact Goes.ret2 hTT rfl Try.func19 rfl rfl rfl ⟨u, rfl, hA4, hch, ho⟩
theorem view_Read_no (v : Vw) (q : Plc) (at' n : Int) (w : World) (hv : VwOk w v) (hq : PlcOk w q) (hfew : q.pages.length ≤ 4096) (hn : checkM v.c q at' n ≠ 0) :
    Does Try.prog 19 #[vwV v, .agg (plL q).toArray, .int .i64 at', .int .i64 n] w (Grow (.tuple #[.slice none 0 0, .int .i64 (checkM v.c q at' n)]) w) := by
  refine Does.enter Try.func19 rfl Try.ntmps19 rfl rfl ?_
  refine Goes.adv hTT 400 rfl ?_
  refine Goes.alloc hTT rfl ?_
  intro vb w1 e1 hvb hw1 hz1
  refine Goes.adv hTT 400 rfl ?_
  refine Goes.alloc hTT rfl ?_
  intro qb w2 e2 hqb hw2 hz2
  refine Goes.adv hTT 400 rfl ?_
  refine Goes.alloc hTT rfl ?_
  intro ob w3 e3 hob hw3 hz3
  refine Goes.adv hTT 400 rfl ?_
  replace hqb : plcBox w2 qb q := hqb
  have hw := (hw1.trans hw2).trans hw3
  refine Goes.loadb hTT rfl ((hw2.trans hw3).heap' hvb) rfl rfl ?_
  refine Goes.loads hTT rfl (hw3.heap' hqb) rfl rfl ?_
  refine Goes.call rfl (view_each_no v q at' n 40 [.pointer (some ⟨vb, 0, none⟩), .pointer (some ⟨ob, 0, none⟩)] w3 (hv.grow hw) (hq.grow hw) hfew hn) ?_
  rintro _ w4 ⟨rfl, hw4⟩
  refine Goes.adv hTT 400 rfl ?_
  refine Goes.loadb hTT rfl (hw4.heap' hob) rfl rfl ?_
  exact Goes.ret2 hTT rfl Try.func19 rfl rfl rfl ⟨rfl, hw.trans hw4⟩
theorem view_Read_nil (q : Plc) (at' n : Int) (w : World) : Does Try.prog 19 #[.pointer none, .agg (plL q).toArray, .int .i64 at', .int .i64 n] w (Grow (.tuple #[.slice none 0 0, .int .i64 1]) w) := by
  refine Does.enter Try.func19 rfl Try.ntmps19 rfl rfl ?_
  refine Goes.adv hTT 400 rfl ?_
  refine Goes.alloc hTT rfl ?_
  intro vb w1 e1 hvb hw1 hz1
  refine Goes.adv hTT 400 rfl ?_
  refine Goes.alloc hTT rfl ?_
  intro qb w2 e2 hqb hw2 hz2
  refine Goes.adv hTT 400 rfl ?_
  refine Goes.alloc hTT rfl ?_
  intro ob w3 e3 hob hw3 hz3
  refine Goes.adv hTT 400 rfl ?_
  replace hqb : plcBox w2 qb q := hqb
  have hw := (hw1.trans hw2).trans hw3
  refine Goes.loadb hTT rfl ((hw2.trans hw3).heap' hvb) rfl rfl ?_
  refine Goes.loads hTT rfl (hw3.heap' hqb) rfl rfl ?_
  refine Goes.call rfl (view_each_nil q at' n 40 [.pointer (some ⟨vb, 0, none⟩), .pointer (some ⟨ob, 0, none⟩)] w3) ?_
  rintro _ w4 ⟨rfl, hw4⟩
  refine Goes.adv hTT 400 rfl ?_
  refine Goes.loadb hTT rfl (hw4.heap' hob) rfl rfl ?_
  exact Goes.ret2 hTT rfl Try.func19 rfl rfl rfl ⟨rfl, hw.trans hw4⟩
end Go.Proofs.Ytffimkpllchfcaa
/-
  Layer 21: a view: writing.
-/
namespace Go.Proofs.Ytffimkpllchfcaa
open Go.RowKit

def vsW (q : Plc) (A : Ar) (V : ArV) (ps : List (Int × Int)) (l : List Int) : Nat → ArV
  | 0 => V
  | k + 1 => { (chgL q A (vsW q A V ps l k)).charge A (ps.getD k (0, 0)).2 with bs := wrB (vsW q A V ps l k).bs (ps.getD k (0, 0)).1.toNat (sub l (totalM (ps.take k)) (ps.getD k (0, 0)).2.toNat) }
theorem vsW_succ {q : Plc} {A : Ar} {V : ArV} {ps : List (Int × Int)} {l : List Int} {k i m : Nat} (h : k < ps.length) (hp : ps[k] = ((i : Int), (m : Int))) :
    vsW q A V ps l (k + 1) = { (chgL q A (vsW q A V ps l k)).charge A m with bs := wrB (vsW q A V ps l k).bs i (sub l (totalM (ps.take k)) m) } := by
  have hg : ps.getD k (0, 0) = ((i : Int), (m : Int)) := by rw [List.getD_eq_getElem?_getD, List.getElem?_eq_getElem h, hp]; rfl
  show ({ (chgL q A (vsW q A V ps l k)).charge A (ps.getD k (0, 0)).2 with bs := wrB (vsW q A V ps l k).bs (ps.getD k (0, 0)).1.toNat (sub l (totalM (ps.take k)) (ps.getD k (0, 0)).2.toNat) } : ArV) = _
  rw [hg]
  rfl
theorem vsW_len {q : Plc} {A : Ar} {V : ArV} {ps : List (Int × Int)} {l : List Int} (hpin : ∀ p ∈ ps, ∃ i m : Nat, p = ((i : Int), (m : Int)) ∧ i + m ≤ V.bs.length) (htot : totalM ps = l.length) : ∀ {k : Nat}, k ≤ ps.length → (vsW q A V ps l k).bs.length = V.bs.length
  | 0, _ => rfl
  | k + 1, h => by
    obtain ⟨i, m, hp, him⟩ := hpin ps[k] (List.getElem_mem h)
    have ih := vsW_len (q := q) (A := A) hpin htot (k := k) (by omega)
    have htk := totalM_take h
    rw [hp] at htk
    simp only [Int.toNat_natCast] at htk
    rw [vsW_succ h hp]
    show (wrB _ _ _).length = _
    rw [wrB_length (by rw [sub_length (by omega), ih]; exact him), ih]
theorem shiftA_out {S : Nat → Prop} {a : Option Addr} {cap l sz : Nat} (h : OutA S a) : OutA S (shiftA a cap l sz) := by
  intro b off s e
  unfold shiftA at e
  by_cases hc : cap = l
  · rw [if_pos hc] at e; exact h b off s e
  · rw [if_neg hc] at e
    cases a with
    | none => cases e
    | some x =>
      obtain ⟨xb, xo, xs⟩ := x
      have hx := h xb xo xs rfl
      simp only [Option.map_some, Option.some.injEq] at e
      unfold Addr.add at e
      have hb : xb = b := by
        split at e <;> (cases e; rfl)
      rw [← hb]; exact hx
theorem view_Write1 (v : Vw) (vb bb : Nat) (A : Ar) (V : ArV) (i m : Nat) (a : Option Addr) (cap : Nat) (l : List Int) (w : World) (hvb : ptrBox w vb v) (hv : w.heap[v.vb]? = some (.cells (vwL v).toArray 75 (0, 0))) (hab : v.ab = A.ab)
    (hbb : w.heap[bb]? = some (.cells ([.slice a l.length cap] : List Value).toArray 39 (0, 0))) (hr : Rd .u8 w a l) (hlc : l.length ≤ cap) (hin : InB l) (hm : m ≤ l.length) (hA : ArOk w A V) (him : i + m ≤ V.bs.length)
    (hfo : ∀ z, foot A z → z ≠ bb) (hAb : ∀ b, b = A.ab ∨ b = A.db ∨ b = A.mc ∨ A.mb = some b → b ≠ bb) (S : Nat → Prop) (hS : ∀ z, z = bb ∨ foot A z → S z) (hout : 0 < l.length → OutA S a) :
    Does Try.prog 38 #[.int .i64 i, .int .i64 m, .pointer (some ⟨vb, 0, none⟩), .pointer (some ⟨bb, 0, none⟩)] w (fun _ w' => ArOk w' A { V.charge A m with bs := wrB V.bs i (l.take m) } ∧ Chg (fun z => z = bb ∨ foot A z) w w' ∧
      ∃ a' cap', w'.heap[bb]? = some (.cells ([.slice a' (l.drop m).length cap'] : List Value).toArray 39 (0, 0)) ∧ Rd .u8 w' a' (l.drop m) ∧ (l.drop m).length ≤ cap' ∧ (0 < (l.drop m).length → OutA S a')) := by
  have htl : (l.take m).length = m := by simp; omega
  refine Does.enter Try.func38 rfl Try.ntmps38 rfl rfl ?_
  refine Goes.adv hTT 400 rfl ?_
  refine Goes.drawn (q := 8) None' hTT mixed (by kernel_rfl) rfl ?_
  intro hB
  refine Drawn.loadb hTT hB rfl hvb (by first | exact fun h => h | (intro h; omega) | assumption) rfl rfl ?_
  refine Drawn.loadb hTT hB rfl hv (by first | exact fun h => h | (intro h; omega) | assumption) rfl rfl ?_
  refine Drawn.loadb hTT hB rfl hbb (by first | exact fun h => h | (intro h; omega) | assumption) rfl rfl ?_
  refine Drawn.slice hTT hB rfl (l := 0) (h := m) (by first | rfl | omega | simp [loV]) (by first | rfl | omega | simp [hiV]) (by omega) (by omega) rfl ?_
  refine Drawn.nil hB ?_
  intro w1 hw1
  refine Goes.adv hTT 400 rfl ?_
  rw [hab]
  have hr1 := hr.chg hw1
  have hsh := hr1.shift (l := 0) (m := m) (by omega) hlc
  rw [List.drop_zero] at hsh
  have hW := arena_Write A V i (shiftA a cap 0 1) (cap - 0) (l.take m) w1 (hA.grow hw1) hsh (fun x hx => hin x (List.mem_of_mem_take hx)) (by rw [htl]; exact him)
  rw [htl] at hW
  refine Goes.call rfl hW ?_
  rintro _ w2 ⟨rfl, hA2, hs2⟩
  refine Goes.adv hTT 400 rfl ?_
  have hbb2 := hs2.heap (hw1.heap' hbb) (fun e => hfo _ e rfl)
  refine Goes.loadb hTT rfl hbb2 rfl rfl ?_
  refine Goes.slice hTT rfl (l := m) (h := l.length) (by first | rfl | omega | simp [loV]) (by first | rfl | omega | simp [hiV]) (by omega) (by omega) rfl ?_
  refine Goes.store hTT rfl hbb2 rfl rfl ?_
  intro w3 hbb3 hs3 hz3
  refine Goes.adv hTT 400 rfl ?_
  have hdl : (l.drop m).length = l.length - m := by simp
  have hc : Chg (fun z => z = bb ∨ foot A z) w w3 := ((hw1.mono fun _ _ h => h.elim).trans (hs2.mono fun _ _ h => .inr h)).trans (hs3.mono fun _ _ h => .inl h)
  have hr3 : Rd .u8 w3 a l := hr.far' hout (hc.mono fun z _ h => hS z h)
  have hrd := hr3.shift (l := m) (m := l.length - m) (by omega) hlc
  rw [List.take_of_length_le (by rw [hdl]; exact Nat.le_refl _)] at hrd
  exact Goes.ret0 hTT rfl Try.func38 rfl ⟨hA2.chg hs3 (fun b hb e => hAb b hb e), hc, _, _, by rw [hdl]; exact hbb3, hrd, by rw [hdl]; omega, fun h => shiftA_out (hout (by omega))⟩
end Go.Proofs.Ytffimkpllchfcaa
/-
  Layer 21: a view: writing, whole.
-/
namespace Go.Proofs.Ytffimkpllchfcaa
open Go.RowKit

theorem foot_lt {w : World} {A : Ar} {V : ArV} (h : ArOk w A V) : ∀ z, foot A z → z < w.heap.size := fun z hz => h.blt z (hz.elim (fun e => .inr (.inl e)) (fun e => .inr (.inr (.inr e))))
theorem view_Write (v : Vw) (q : Plc) (at' : Nat) (a : Option Addr) (cap : Nat) (l : List Int) (A : Ar) (V : ArV) (w : World) (hv : VwOk w v) (hq : PlcOk w q) (hmb : v.mb = A.mb) (hab : v.ab = A.ab) (hck : checkM v.c q at' l.length = 0) (hfew : q.pages.length ≤ 4096)
    (hPv : ¬ foot A v.vb) (hPq : 0 < q.pages.length → OutA (foot A) q.pa) (hPc : 0 < v.c.classes.length → OutA (foot A) v.p.ca) (hPk : 0 < v.c.keep.length → OutA (foot A) v.p.ka) (hA : ArOk w A V) (hlen : (V.bs.length : Int) = v.c.size * v.c.pages)
    (hr : Rd .u8 w a l) (hlc : l.length ≤ cap) (hin : InB l) (hout : 0 < l.length → OutA (foot A) a) :
    Does Try.prog 18 #[vwV v, .agg (plL q).toArray, .int .i64 at', .slice a l.length cap] w (fun u w' => u = .int .i64 0 ∧ ArOk w' A (vsW q A V (partsM v.c q at' l.length) l (partsM v.c q at' l.length).length) ∧ Chg (foot A) w w') := by
  obtain ⟨ps, hps⟩ : ∃ ps, ps = partsM v.c q at' l.length := ⟨_, rfl⟩
  have hpin : ∀ p ∈ ps, ∃ i m : Nat, p = ((i : Int), (m : Int)) ∧ i + m ≤ V.bs.length := fun p hp => by
    obtain ⟨i, m, h1, h2⟩ := parts_in hv.may hck hfew p (hps ▸ hp)
    exact ⟨i, m, h1, by omega⟩
  have htot : totalM ps = l.length := by rw [hps]; exact parts_total hv.may
  rw [← hps]
  refine Does.enter Try.func18 rfl Try.ntmps18 rfl rfl ?_
  refine Goes.adv hTT 400 rfl ?_
  refine Goes.alloc hTT rfl ?_
  intro vb w1 e1 hvb hw1 hz1
  refine Goes.adv hTT 400 rfl ?_
  refine Goes.alloc hTT rfl ?_
  intro qb w2 e2 hqb hw2 hz2
  refine Goes.adv hTT 400 rfl ?_
  refine Goes.alloc hTT rfl ?_
  intro bb w3 e3 hbb hw3 hz3
  refine Goes.adv hTT 400 rfl ?_
  replace hqb : plcBox w2 qb q := hqb
  replace hbb : w3.heap[bb]? = some (.cells ([.slice a l.length cap] : List Value).toArray 39 (0, 0)) := hbb
  have hw := (hw1.trans hw2).trans hw3
  have hvb3 : ptrBox w3 vb v := (hw2.trans hw3).heap' hvb
  refine Goes.loadb hTT rfl hvb3 rfl rfl ?_
  refine Goes.loads hTT rfl (hw3.heap' hqb) rfl rfl ?_
  refine Goes.loadb hTT rfl hbb rfl rfl ?_
  have hflt := foot_lt hA
  have hmf : ∀ z, mFoot A z → foot A z := fun z h => .inr h
  have hvl := lt_of_heap hv.obj
  have hbl := hA.blt
  have hE := view_each v q at' l.length 38 [.pointer (some ⟨vb, 0, none⟩), .pointer (some ⟨bb, 0, none⟩)] A (vsW q A V ps l)
    (fun k Y x => ∃ a' cap', x.heap[bb]? = some (.cells ([.slice a' (l.drop (totalM (ps.take k))).length cap'] : List Value).toArray 39 (0, 0)) ∧ Rd .u8 x a' (l.drop (totalM (ps.take k))) ∧ (l.drop (totalM (ps.take k))).length ≤ cap' ∧
      (0 < (l.drop (totalM (ps.take k))).length → OutA (fun z => z = bb ∨ foot A z ∨ w3.heap.size ≤ z) a') ∧ (∀ z, Y z ↔ z = bb ∨ foot A z) ∧ ptrBox x vb v ∧ x.heap[v.vb]? = some (.cells (vwL v).toArray 75 (0, 0)) ∧ w3.heap.size ≤ x.heap.size)
    (fun z => z = bb ∨ foot A z) w3 (hv.grow hw) (hq.grow hw) hmb hck hfew
    (by rintro ((h | h) | h); omega; exact hPv h; exact hPv (hmf _ h))
    (hq.rd.outNew hPq (fun z hz => by rcases hz with (h | h) | h; exact .inr (by omega); exact .inl h; exact .inl (hmf _ h)))
    (hv.conf.classes.outNew hPc (fun z hz => by rcases hz with (h | h) | h; exact .inr (by omega); exact .inl h; exact .inl (hmf _ h)))
    (hv.conf.keep.outNew hPk (fun z hz => by rcases hz with (h | h) | h; exact .inr (by omega); exact .inl h; exact .inl (hmf _ h)))
    (by
      rintro k Y x ⟨a', cap', h1, h2, h3, h4, h5, h6, h7, h8⟩ z hz
      rcases (h5 z).1 hz with rfl | h
      · exact lt_of_heap h1
      · have := hflt z h; omega)
    (by
      rintro k Y x y S ⟨a', cap', h1, h2, h3, h4, h5, h6, h7, h8⟩ hs hS
      have no : ∀ z, z < w3.heap.size → ¬ mFoot A z → ¬ S z := fun z hz hm h => (hS z h).elim hm (fun h => by omega)
      refine ⟨a', cap', hs.heap h1 (no _ (by omega) (fun h => by have := hflt _ (hmf _ h); omega)), h2.far' (fun hl b off s e hb => h4 hl b off s e ((hS b hb).elim (fun h => .inr (.inl (hmf _ h))) (fun h => .inr (.inr h.2)))) hs, h3, h4, h5, hs.heap h6 (no _ (by omega) (fun h => by have := hflt _ (hmf _ h); omega)), hs.heap h7 (no _ (by omega) (fun h => hPv (hmf _ h))), Nat.le_trans h8 hs.size⟩)
    (by
      rintro k Y x hk hAx ⟨a', cap', h1, h2, h3, h4, h5, h6, h7, h8⟩
      rw [← hps] at hk
      obtain ⟨i, m, hp, him⟩ := hpin ps[k] (List.getElem_mem hk)
      have hbs : (chgL q A (vsW q A V ps l k)).bs = (vsW q A V ps l k).bs := chgL_bs _ _ _
      have hbl2 : (vsW q A V ps l k).bs.length = V.bs.length := vsW_len hpin htot (by omega)
      have htk := totalM_take hk
      rw [hp] at htk
      simp only [Int.toNat_natCast] at htk
      have hdl : (l.drop (totalM (ps.take k))).length = l.length - totalM (ps.take k) := by simp
      have hR := view_Write1 v vb bb A (chgL q A (vsW q A V ps l k)) i m a' cap' (l.drop (totalM (ps.take k))) x h6 h7 hab h1 h2 h3 (fun y hy => hin y (List.mem_of_mem_drop hy)) (by omega) hAx (by rw [hbs, hbl2]; exact him)
        (fun z hz => by have := hflt z hz; omega) (fun b hb => by have := hbl b hb; omega) (fun z => z = bb ∨ foot A z ∨ w3.heap.size ≤ z) (fun z h => h.imp id .inl) h4
      simp only [← hps]
      rw [hp]
      refine hR.mono fun _ y ⟨a1, a2, a3, c3, b1, b2, b3, b4⟩ => ?_
      rw [hbs] at a1
      have hoff : totalM (ps.take (k + 1)) = totalM (ps.take k) + m := by
        rw [List.take_add_one, List.getElem?_eq_getElem hk, hp, totalM_append]; simp [totalM]
      have hdd : (l.drop (totalM (ps.take k))).drop m = l.drop (totalM (ps.take (k + 1))) := by rw [List.drop_drop, hoff]
      rw [hdd] at b1 b2 b3 b4
      refine ⟨by rw [vsW_succ hk hp]; exact a1, a2.mono fun z _ hz => (h5 z).2 hz, fun z => z = bb ∨ foot A z, ⟨a3, c3, b1, b2, b3, b4, fun z => Iff.rfl, ?_, ?_, Nat.le_trans h8 a2.size⟩, fun z hz => .inl ((h5 z).2 hz)⟩
      · exact a2.heap h6 (fun h => by rcases h with h | h; omega; have := hflt _ h; omega)
      · exact a2.heap h7 (fun h => by rcases h with h | h; omega; exact hPv h))
    (hA.grow hw) ⟨a, cap, by simpa [totalM] using hbb, by simpa [totalM] using hr.chg hw, by simpa [totalM] using hlc, fun h => by
      have := hr.outNew hout (S' := fun z => z = bb ∨ foot A z ∨ w3.heap.size ≤ z) (fun z hz => by rcases hz with h | h | h; exact .inr (by omega); exact .inl h; exact .inr (by have := hw.size; omega))
      exact this (by simpa [totalM] using h), fun z => Iff.rfl, hvb3, hw.heap' hv.obj, Nat.le_refl _⟩
  rw [← hps] at hE
  refine Goes.call rfl (hE) ?_
  rintro _ w4 ⟨rfl, hA4, _, hs4⟩
  refine Goes.adv hTT 400 rfl ?_
  have hch : Chg (foot A) w w4 := (hw.mono fun _ _ h => h.elim).since hs4 (fun z hz h => by rcases h with (h | h) | h; omega; exact h; exact hmf _ h)
  exact Goes.ret1 hTT rfl Try.func18 rfl rfl ⟨rfl, hA4, hch⟩
theorem view_Write_no (v : Vw) (q : Plc) (at' : Int) (a : Option Addr) (n cap : Nat) (w : World) (hv : VwOk w v) (hq : PlcOk w q) (hfew : q.pages.length ≤ 4096) (hn : checkM v.c q at' n ≠ 0) :
    Does Try.prog 18 #[vwV v, .agg (plL q).toArray, .int .i64 at', .slice a n cap] w (Grow (.int .i64 (checkM v.c q at' n)) w) := by
  refine Does.enter Try.func18 rfl Try.ntmps18 rfl rfl ?_
  refine Goes.adv hTT 400 rfl ?_
  refine Goes.alloc hTT rfl ?_
  intro vb w1 e1 hvb hw1 hz1
  refine Goes.adv hTT 400 rfl ?_
  refine Goes.alloc hTT rfl ?_
  intro qb w2 e2 hqb hw2 hz2
  refine Goes.adv hTT 400 rfl ?_
  refine Goes.alloc hTT rfl ?_
  intro bb w3 e3 hbb hw3 hz3
  refine Goes.adv hTT 400 rfl ?_
  replace hqb : plcBox w2 qb q := hqb
  have hw := (hw1.trans hw2).trans hw3
  refine Goes.loadb hTT rfl ((hw2.trans hw3).heap' hvb) rfl rfl ?_
  refine Goes.loads hTT rfl (hw3.heap' hqb) rfl rfl ?_
  refine Goes.loadb hTT rfl hbb rfl rfl ?_
  refine Goes.call rfl (view_each_no v q at' n 38 [.pointer (some ⟨vb, 0, none⟩), .pointer (some ⟨bb, 0, none⟩)] w3 (hv.grow hw) (hq.grow hw) hfew hn) ?_
  rintro _ w4 ⟨rfl, hw4⟩
  refine Goes.adv hTT 400 rfl ?_
  exact Goes.ret1 hTT rfl Try.func18 rfl rfl ⟨rfl, hw.trans hw4⟩
theorem view_Write_nil (q : Plc) (at' : Int) (a : Option Addr) (n cap : Nat) (w : World) : Does Try.prog 18 #[.pointer none, .agg (plL q).toArray, .int .i64 at', .slice a n cap] w (Grow (.int .i64 1) w) := by
  refine Does.enter Try.func18 rfl Try.ntmps18 rfl rfl ?_
  refine Goes.adv hTT 400 rfl ?_
  refine Goes.alloc hTT rfl ?_
  intro vb w1 e1 hvb hw1 hz1
  refine Goes.adv hTT 400 rfl ?_
  refine Goes.alloc hTT rfl ?_
  intro qb w2 e2 hqb hw2 hz2
  refine Goes.adv hTT 400 rfl ?_
  refine Goes.alloc hTT rfl ?_
  intro bb w3 e3 hbb hw3 hz3
  refine Goes.adv hTT 400 rfl ?_
  replace hqb : plcBox w2 qb q := hqb
  have hw := (hw1.trans hw2).trans hw3
  refine Goes.loadb hTT rfl ((hw2.trans hw3).heap' hvb) rfl rfl ?_
  refine Goes.loads hTT rfl (hw3.heap' hqb) rfl rfl ?_
  refine Goes.loadb hTT rfl hbb rfl rfl ?_
  refine Goes.call rfl (view_each_nil q at' n 38 [.pointer (some ⟨vb, 0, none⟩), .pointer (some ⟨bb, 0, none⟩)] w3) ?_
  rintro _ w4 ⟨rfl, hw4⟩
  refine Goes.adv hTT 400 rfl ?_
  exact Goes.ret1 hTT rfl Try.func18 rfl rfl ⟨rfl, hw.trans hw4⟩
theorem view_Zero_nil (q : Plc) (at' n : Int) (w : World) : Does Try.prog 28 #[.pointer none, .agg (plL q).toArray, .int .i64 at', .int .i64 n] w (Grow (.int .i64 1) w) := by
  refine Does.enter Try.func28 rfl Try.ntmps28 rfl rfl ?_
  refine Goes.adv hTT 400 rfl ?_
  refine Goes.alloc hTT rfl ?_
  intro vb w1 e1 hvb hw1 hz1
  refine Goes.adv hTT 400 rfl ?_
  refine Goes.alloc hTT rfl ?_
  intro qb w2 e2 hqb hw2 hz2
  refine Goes.adv hTT 400 rfl ?_
  replace hqb : plcBox w2 qb q := hqb
  have hw := hw1.trans hw2
  refine Goes.loadb hTT rfl (hw2.heap' hvb) rfl rfl ?_
  refine Goes.loads hTT rfl hqb rfl rfl ?_
  refine Goes.call rfl (view_each_nil q at' n 47 [.pointer (some ⟨vb, 0, none⟩)] w2) ?_
  rintro _ w4 ⟨rfl, hw4⟩
  refine Goes.adv hTT 400 rfl ?_
  exact Goes.ret1 hTT rfl Try.func28 rfl rfl ⟨rfl, hw.trans hw4⟩
end Go.Proofs.Ytffimkpllchfcaa
/-
  Layer 21: a view: clearing.
-/
namespace Go.Proofs.Ytffimkpllchfcaa
open Go.RowKit

theorem sub_zeros {n off m : Nat} (h : off + m ≤ n) : sub (zeros n) off m = List.replicate m 0 := by
  unfold sub zeros
  rw [List.drop_replicate, List.take_replicate, Nat.min_eq_left (by omega)]
theorem view_Zero1 (v : Vw) (vb : Nat) (A : Ar) (V : ArV) (i m : Nat) (w : World) (hvb : ptrBox w vb v) (hv : w.heap[v.vb]? = some (.cells (vwL v).toArray 75 (0, 0))) (hab : v.ab = A.ab) (hA : ArOk w A V) (him : i + m ≤ V.bs.length) :
    Does Try.prog 47 #[.int .i64 i, .int .i64 m, .pointer (some ⟨vb, 0, none⟩)] w (fun _ w' => ArOk w' A { V.charge A m with bs := wrB V.bs i (List.replicate m 0) } ∧ Chg (foot A) w w') := by
  refine Does.enter Try.func47 rfl Try.ntmps47 rfl rfl ?_
  refine Goes.adv hTT 400 rfl ?_
  refine Goes.loadb hTT rfl hvb rfl rfl ?_
  refine Goes.loadb hTT rfl hv rfl rfl ?_
  rw [hab]
  refine Goes.call rfl (arena_Fill A V i m 0 w hA him (by decide)) ?_
  rintro _ w1 ⟨rfl, hA1, hs1⟩
  refine Goes.adv hTT 400 rfl ?_
  exact Goes.ret0 hTT rfl Try.func47 rfl ⟨hA1, hs1⟩
theorem view_Zero (v : Vw) (q : Plc) (at' n : Nat) (A : Ar) (V : ArV) (w : World) (hv : VwOk w v) (hq : PlcOk w q) (hmb : v.mb = A.mb) (hab : v.ab = A.ab) (hck : checkM v.c q at' n = 0) (hfew : q.pages.length ≤ 4096)
    (hPv : ¬ foot A v.vb) (hPq : 0 < q.pages.length → OutA (foot A) q.pa) (hPc : 0 < v.c.classes.length → OutA (foot A) v.p.ca) (hPk : 0 < v.c.keep.length → OutA (foot A) v.p.ka) (hA : ArOk w A V) (hlen : (V.bs.length : Int) = v.c.size * v.c.pages) :
    Does Try.prog 28 #[vwV v, .agg (plL q).toArray, .int .i64 at', .int .i64 n] w (fun u w' => u = .int .i64 0 ∧ ArOk w' A (vsW q A V (partsM v.c q at' n) (zeros n) (partsM v.c q at' n).length) ∧ Chg (foot A) w w') := by
  obtain ⟨ps, hps⟩ : ∃ ps, ps = partsM v.c q at' n := ⟨_, rfl⟩
  have hpin : ∀ p ∈ ps, ∃ i m : Nat, p = ((i : Int), (m : Int)) ∧ i + m ≤ V.bs.length := fun p hp => by
    obtain ⟨i, m, h1, h2⟩ := parts_in hv.may hck hfew p (hps ▸ hp)
    exact ⟨i, m, h1, by omega⟩
  have htot : totalM ps = n := by rw [hps]; exact parts_total hv.may
  have hzl : (zeros n).length = n := List.length_replicate
  rw [← hps]
  refine Does.enter Try.func28 rfl Try.ntmps28 rfl rfl ?_
  refine Goes.adv hTT 400 rfl ?_
  refine Goes.alloc hTT rfl ?_
  intro vb w1 e1 hvb hw1 hz1
  refine Goes.adv hTT 400 rfl ?_
  refine Goes.alloc hTT rfl ?_
  intro qb w2 e2 hqb hw2 hz2
  refine Goes.adv hTT 400 rfl ?_
  replace hqb : plcBox w2 qb q := hqb
  have hw := hw1.trans hw2
  have hvb2 : ptrBox w2 vb v := hw2.heap' hvb
  refine Goes.loadb hTT rfl hvb2 rfl rfl ?_
  refine Goes.loads hTT rfl hqb rfl rfl ?_
  have hflt := foot_lt hA
  have hmf : ∀ z, mFoot A z → foot A z := fun z h => .inr h
  have hvl := lt_of_heap hv.obj
  have hE := view_each v q at' n 47 [.pointer (some ⟨vb, 0, none⟩)] A (vsW q A V ps (zeros n))
    (fun k Y x => (∀ z, Y z ↔ foot A z) ∧ ptrBox x vb v ∧ x.heap[v.vb]? = some (.cells (vwL v).toArray 75 (0, 0)) ∧ w2.heap.size ≤ x.heap.size)
    (foot A) w2 (hv.grow hw) (hq.grow hw) hmb hck hfew
    (by rintro (h | h); exact hPv h; exact hPv (hmf _ h))
    (hq.rd.outNew hPq (fun z hz => by rcases hz with h | h; exact .inl h; exact .inl (hmf _ h)))
    (hv.conf.classes.outNew hPc (fun z hz => by rcases hz with h | h; exact .inl h; exact .inl (hmf _ h)))
    (hv.conf.keep.outNew hPk (fun z hz => by rcases hz with h | h; exact .inl h; exact .inl (hmf _ h)))
    (by
      rintro k Y x ⟨h5, h6, h7, h8⟩ z hz
      have := hflt z ((h5 z).1 hz)
      omega)
    (by
      rintro k Y x y S ⟨h5, h6, h7, h8⟩ hs hS
      have no : ∀ z, z < w2.heap.size → ¬ mFoot A z → ¬ S z := fun z hz hm h => (hS z h).elim hm (fun h => by omega)
      exact ⟨h5, hs.heap h6 (no _ (by omega) (fun h => by have := hflt _ (hmf _ h); omega)), hs.heap h7 (no _ (by omega) (fun h => hPv (hmf _ h))), Nat.le_trans h8 hs.size⟩)
    (by
      rintro k Y x hk hAx ⟨h5, h6, h7, h8⟩
      rw [← hps] at hk
      obtain ⟨i, m, hp, him⟩ := hpin ps[k] (List.getElem_mem hk)
      have hbs : (chgL q A (vsW q A V ps (zeros n) k)).bs = (vsW q A V ps (zeros n) k).bs := chgL_bs _ _ _
      have hbl2 : (vsW q A V ps (zeros n) k).bs.length = V.bs.length := vsW_len hpin (by rw [hzl]; exact htot) (by omega)
      have htk := totalM_take hk
      rw [hp] at htk
      simp only [Int.toNat_natCast] at htk
      have hR := view_Zero1 v vb A (chgL q A (vsW q A V ps (zeros n) k)) i m x h6 h7 hab hAx (by rw [hbs, hbl2]; exact him)
      simp only [← hps]
      rw [hp]
      refine hR.mono fun _ y ⟨a1, a2⟩ => ?_
      rw [hbs] at a1
      refine ⟨by rw [vsW_succ hk hp, sub_zeros (by omega)]; exact a1, a2.mono fun z _ hz => (h5 z).2 hz, Y, ⟨h5, ?_, ?_, Nat.le_trans h8 a2.size⟩, fun z hz => .inl hz⟩
      · exact a2.heap h6 (fun h => by have := hflt _ h; omega)
      · exact a2.heap h7 hPv)
    (hA.grow hw) ⟨fun z => Iff.rfl, hvb2, hw.heap' hv.obj, Nat.le_refl _⟩
  rw [← hps] at hE
  refine Goes.call rfl (hE) ?_
  rintro _ w4 ⟨rfl, hA4, _, hs4⟩
  refine Goes.adv hTT 400 rfl ?_
  have hch : Chg (foot A) w w4 := (hw.mono fun _ _ h => h.elim).since hs4 (fun z hz h => by rcases h with h | h; exact h; exact hmf _ h)
  exact Goes.ret1 hTT rfl Try.func28 rfl rfl ⟨rfl, hA4, hch⟩
theorem view_Zero_no (v : Vw) (q : Plc) (at' n : Int) (w : World) (hv : VwOk w v) (hq : PlcOk w q) (hfew : q.pages.length ≤ 4096) (hn : checkM v.c q at' n ≠ 0) :
    Does Try.prog 28 #[vwV v, .agg (plL q).toArray, .int .i64 at', .int .i64 n] w (Grow (.int .i64 (checkM v.c q at' n)) w) := by
  refine Does.enter Try.func28 rfl Try.ntmps28 rfl rfl ?_
  refine Goes.adv hTT 400 rfl ?_
  refine Goes.alloc hTT rfl ?_
  intro vb w1 e1 hvb hw1 hz1
  refine Goes.adv hTT 400 rfl ?_
  refine Goes.alloc hTT rfl ?_
  intro qb w2 e2 hqb hw2 hz2
  refine Goes.adv hTT 400 rfl ?_
  replace hqb : plcBox w2 qb q := hqb
  have hw := hw1.trans hw2
  refine Goes.loadb hTT rfl (hw2.heap' hvb) rfl rfl ?_
  refine Goes.loads hTT rfl hqb rfl rfl ?_
  refine Goes.call rfl (view_each_no v q at' n 47 [.pointer (some ⟨vb, 0, none⟩)] w2 (hv.grow hw) (hq.grow hw) hfew hn) ?_
  rintro _ w4 ⟨rfl, hw4⟩
  refine Goes.adv hTT 400 rfl ?_
  exact Goes.ret1 hTT rfl Try.func28 rfl rfl ⟨rfl, hw.trans hw4⟩
end Go.Proofs.Ytffimkpllchfcaa
/-
  Layer 21: the statements' own small functions.
-/
namespace Go.Proofs.Ytffimkpllchfcaa
open Go.RowKit

def smallV : Conf := ⟨64, 4, [32], [2], 8, 4, 3, 512⟩
theorem law21_small (w : World) : Does Try.prog 29 #[] w (fun v w' => ∃ p, v = .agg (confL smallV p).toArray ∧ ConfOk w' smallV p ∧ (∀ b off s, p.ca = some ⟨b, off, s⟩ → w.heap.size ≤ b) ∧ (∀ b off s, p.ka = some ⟨b, off, s⟩ → w.heap.size ≤ b) ∧ Chg None' w w') := by
  refine Does.enter Try.func29 rfl Try.ntmps29 rfl rfl ?_
  refine Goes.adv hTT 400 rfl ?_
  refine Goes.alloc hTT rfl ?_
  intro b w1 e1 hb hw1 hz1
  refine Goes.adv hTT 400 rfl ?_
  refine Goes.buildSlice hTT rfl ?_
  intro b2 w2 e2 hb2 hw2 hz2
  refine Goes.adv hTT 400 rfl ?_
  refine Goes.buildSlice hTT rfl ?_
  intro b3 w3 e3 hb3 hw3 hz3
  refine Goes.adv hTT 400 rfl ?_
  refine Goes.build hTT rfl rfl ?_
  refine Goes.store hTT rfl (hw3.heap' (hw2.heap' hb)) rfl rfl ?_
  intro w4 hb4 hw4 hz4
  refine Goes.adv hTT 400 rfl ?_
  have hc : ConfOk w4 smallV ⟨some ⟨b2, 0, none⟩, 1, some ⟨b3, 0, none⟩, 1⟩ :=
    ⟨Rd.of (hw4.heap (hw3.heap' hb2) (by omega)) rfl, Rd.of (hw4.heap hb3 (by omega)) rfl, by decide, by decide, by unfold In64; decide⟩
  exact Goes.ret hTT rfl Try.func29 (ResOk.cell rfl rfl rfl hb4 rfl .nil) ⟨⟨some ⟨b2, 0, none⟩, 1, some ⟨b3, 0, none⟩, 1⟩, rfl, hc, fun b off s e => by cases e; omega, fun b off s e => by cases e; omega, ((hw1.trans hw2).trans hw3).since hw4 (fun k hk hk' => by omega)⟩
theorem outNil {S : Nat → Prop} : OutA S none := fun _ _ _ e => by cases e
theorem outAt {S : Nat → Prop} {g off m : Nat} {s : Option Nat} (hg : m ≤ g) (hS : ∀ b, S b → b < m) : OutA S (some ⟨g, off, s⟩) := fun b off' s' e hb => by cases e; have := hS _ hb; omega
set_option maxRecDepth 100000 in
theorem law21_awake (w : World) : Does Try.prog 8 #[] w (Grow (.bool true) w) := by
  refine Does.enter Try.func8 rfl Try.ntmps8 rfl rfl ?_
  refine Goes.adv hTT 400 rfl ?_
  refine Goes.call rfl (meter_New w) ?_
  rintro _ w1 ⟨rfl, hm1, hw1, hz1⟩
  refine Goes.adv hTT 400 rfl ?_
  refine Goes.call rfl (arena_New (some w.heap.size) 0 0 4 64 w1 (fun b hb => by cases hb; exact hm1) (by decide)) ?_
  rintro _ w2 ⟨A, rfl, hmb, ha1, ha2, ha3, hA2, hw2⟩
  refine Goes.adv hTT 400 rfl ?_
  have hF := foot_lt hA2
  have hF0 : ∀ z, z < w.heap.size → foot A z → False := fun z hz h => by
    rcases h with h | h
    · omega
    · rw [hmb] at h; cases h; omega
  refine Goes.call rfl (law21_small w2) ?_
  rintro _ w3 ⟨p, rfl, hc3, hpa, hpk, hw3⟩
  refine Goes.adv hTT 400 rfl ?_
  have hz256 : (zeros (4 * 64 : Int).toNat).length = 256 := List.length_replicate
  have hcond : mayB smallV = true ∧ (((⟨zeros (4 * 64 : Int).toNat, 0, 0⟩ : ArV).bs.length : Nat) : Int) = smallV.size * smallV.pages := ⟨by decide, by show (((zeros (4 * 64 : Int).toNat).length : Nat) : Int) = 256; rw [hz256]; rfl⟩
  have hVN : Does Try.prog 11 #[.agg (confL smallV p).toArray, .pointer (some ⟨A.ab, 0, none⟩), ptr A.mb] w3 (fun u w' => Chg None' w3 w' ∧ ∃ vb, u = .tuple #[.pointer (some ⟨vb, 0, none⟩), .int .i64 0] ∧ w3.heap.size ≤ vb ∧ VwOk w' ⟨vb, smallV, p, A.ab, A.mb⟩) :=
    (view_New smallV p A _ w3 hc3 (hA2.grow hw3)).mono fun u w' h => ⟨h.1, by have h2 := h.2; rw [if_pos hcond] at h2; exact h2⟩
  rw [hmb] at hVN
  refine Goes.call rfl (hVN) ?_
  rintro _ w4 ⟨hw4, vb, rfl, hvb, hv4⟩
  refine Goes.adv hTT 400 rfl ?_
  rw [← hmb] at hv4
  have hs23 := hw3.size
  have hs34 := hw4.size
  refine Goes.build hTT rfl rfl ?_
  refine Goes.alloc hTT rfl ?_
  intro b6 w5 e5 hb6 hw5 hz5
  refine Goes.adv hTT 400 rfl ?_
  refine Goes.store hTT rfl hb6 rfl rfl ?_
  intro w6 hb6' hs6 hz6
  refine Goes.adv hTT 400 rfl ?_
  refine Goes.buildSlice hTT rfl ?_
  intro b7s w7 e7 hb7s hw7 hz7
  refine Goes.adv hTT 400 rfl ?_
  refine Goes.build hTT rfl rfl ?_
  refine Goes.alloc hTT rfl ?_
  intro b7 w8 e8 hb7 hw8 hz8
  refine Goes.adv hTT 400 rfl ?_
  refine Goes.store hTT rfl hb7 rfl rfl ?_
  intro w9 hb7' hs9 hz9
  refine Goes.adv hTT 400 rfl ?_
  obtain ⟨q6, hq6⟩ : ∃ q6 : Plc, q6 = ⟨0, 2, 1, none, 0, []⟩ := ⟨_, rfl⟩
  obtain ⟨q7, hq7⟩ : ∃ q7 : Plc, q7 = ⟨-1, 0, 0, some ⟨b7s, 0, none⟩, 2, [3, 0]⟩ := ⟨_, rfl⟩
  have hp6 : plcBox w9 b6 q6 := by subst hq6; exact hs9.heap (hw8.heap' (hw7.heap' hb6')) (by omega)
  have hp7 : plcBox w9 b7 q7 := by subst hq7; exact hb7'
  have hq6ok : ∀ x, PlcOk x q6 := fun x => by subst hq6; exact ⟨Rd.nil _ _ _, by decide⟩
  have hq7ok : PlcOk w9 q7 := by subst hq7; exact ⟨Rd.of (hs9.heap (hw8.heap' hb7s) (by omega)) rfl, by simp⟩
  have hw49 : Chg None' w4 w9 := ((((hw5.since hs6 (fun z hz e => by omega)).trans hw7).trans hw8).since hs9 (fun z hz e => by have := hs6.size; omega))
  have hw29 := (hw3.trans hw4).trans hw49
  have hA9 := hA2.grow hw29
  have hv9 := hv4.grow hw49
  have hc09 := (hw1.trans hw2).trans hw29
  obtain ⟨v, hvv⟩ : ∃ v : Vw, v = ⟨vb, smallV, p, A.ab, A.mb⟩ := ⟨_, rfl⟩
  rw [← hvv] at hv9
  have hvc : v.c = smallV := by rw [hvv]
  have hvvb : vwV v = .pointer (some ⟨vb, 0, none⟩) := by rw [hvv]
  have hPv : ¬ foot A v.vb := fun h => by have := hF _ h; rw [hvv] at this; simp only at this; omega
  have hPc : 0 < v.c.classes.length → OutA (foot A) v.p.ca := fun _ b off s e h => by have := hF _ h; rw [hvv] at e; have := hpa b off s e; omega
  have hPk : 0 < v.c.keep.length → OutA (foot A) v.p.ka := fun _ b off s e h => by have := hF _ h; rw [hvv] at e; have := hpk b off s e; omega
  have hP6 : 0 < q6.pages.length → OutA (foot A) q6.pa := fun _ => by rw [hq6]; exact outNil
  have hP7 : 0 < q7.pages.length → OutA (foot A) q7.pa := fun _ => by rw [hq7]; exact outAt (m := w2.heap.size) (by have := hs6.size; omega) hF
  have hmf : ∀ z, mFoot A z → foot A z := fun z h => .inr h
  have hmb6 : v.mb = A.mb := by rw [hvv]
  have hab6 : v.ab = A.ab := by rw [hvv]
  rw [← hvvb]
  have hmono : ∀ {x y : World}, Chg (foot A) x y → VwOk x v → VwOk y v := fun hc h => h.far hPv hPc hPk hc
  have hfb : ∀ z, w2.heap.size ≤ z → ¬ foot A z := fun z hz h => by have := hF _ h; omega
  have hb6s : w2.heap.size ≤ b6 := by omega
  have hb7s' : w2.heap.size ≤ b7 := by have := hs6.size; omega
  have hz9 : w2.heap.size ≤ w9.heap.size := hw29.size
  -- the first write
  refine Goes.loads hTT rfl hp6 rfl rfl ?_
  refine Goes.buildSlice hTT rfl ?_
  intro c1 w10 ec1 hc1 hw10 hz10
  refine Goes.adv hTT 400 rfl ?_
  refine Goes.mark hTT rfl hc1 ?_
  intro w11 fz11 hc11 hs11 hz11
  refine Goes.adv hTT 400 rfl ?_
  have hw911 : Chg None' w9 w11 := hw10.since hs11 (fun z hz e => by omega)
  have hl256 : ((⟨zeros (4 * 64 : Int).toNat, 0, 0⟩ : ArV).bs.length : Int) = v.c.size * v.c.pages := by rw [hvc]; exact hcond.2
  have hck1 : checkM v.c q6 ((30 : Nat) : Int) (([97, 98] : List Int).length : Nat) = 0 := by rw [hvc, hq6]; decide
  refine Goes.call rfl (view_Write v q6 30 (some ⟨c1, 0, none⟩) 2 [97, 98] A _ w11 (hv9.grow hw911) (hq6ok _) hmb6 hab6 hck1 (by rw [hq6]; decide) hPv hP6 hPc hPk (hA9.grow hw911) hl256 (Rd.of hc11 rfl) (by decide) (by unfold InB; decide) (fun _ => outAt (m := w2.heap.size) (by omega) hF)) ?_
  rintro _ w12 ⟨rfl, hA12, hs12⟩
  refine Goes.adv hTT 400 rfl ?_
  obtain ⟨V1, hV1⟩ : ∃ V1, V1 = vsW q6 A ⟨zeros (4 * 64 : Int).toNat, 0, 0⟩ (partsM v.c q6 ((30 : Nat)) ([97, 98] : List Int).length) [97, 98] (partsM v.c q6 ((30 : Nat)) ([97, 98] : List Int).length).length := ⟨_, rfl⟩
  rw [← hV1] at hA12
  have hs912 : Chg (foot A) w9 w12 := (hw911.mono fun _ _ h => h.elim).trans hs12
  have hv12 := hmono hs912 hv9
  have hp6b : plcBox w12 b6 q6 := hs912.heap hp6 (hfb _ hb6s)
  have hp7b : plcBox w12 b7 q7 := hs912.heap hp7 (hfb _ hb7s')
  have hq7b := hq7ok.far hP7 hs912
  have hz12 : w2.heap.size ≤ w12.heap.size := Nat.le_trans hz9 hs912.size
  -- the second write
  refine Goes.loads hTT rfl hp7b rfl rfl ?_
  refine Goes.buildSlice hTT rfl ?_
  intro c2 w13 ec2 hc2 hw13 hz13
  refine Goes.adv hTT 400 rfl ?_
  refine Goes.mark hTT rfl hc2 ?_
  intro w14 fz14 hc14 hs14 hz14
  refine Goes.adv hTT 400 rfl ?_
  have hw1214 : Chg None' w12 w14 := hw13.since hs14 (fun z hz e => by omega)
  have hl1 : (V1.bs.length : Int) = v.c.size * v.c.pages := by
    rw [hV1, vsW_len (fun p hp => ?_) (parts_total (by rw [hvc]; decide)) (Nat.le_refl _)]
    · exact hl256
    · obtain ⟨i, m, h1, h2⟩ := parts_in (by rw [hvc]; decide) hck1 (by rw [hq6]; decide) p hp
      exact ⟨i, m, h1, by omega⟩
  have hck2 : checkM v.c q7 ((63 : Nat) : Int) (([99, 100] : List Int).length : Nat) = 0 := by rw [hvc, hq7]; rfl
  have hfew7 : q7.pages.length ≤ 4096 := by rw [hq7]; simp
  refine Goes.call rfl (view_Write v q7 63 (some ⟨c2, 0, none⟩) 2 [99, 100] A V1 w14 (hv12.grow hw1214) (hq7b.grow hw1214) hmb6 hab6 hck2 hfew7 hPv hP7 hPc hPk (hA12.grow hw1214) hl1 (Rd.of hc14 rfl) (by decide) (by unfold InB; decide) (fun _ => outAt (m := w2.heap.size) (by omega) hF)) ?_
  rintro _ w15 ⟨rfl, hA15, hs15⟩
  refine Goes.adv hTT 400 rfl ?_
  obtain ⟨V2, hV2⟩ : ∃ V2, V2 = vsW q7 A V1 (partsM v.c q7 ((63 : Nat)) ([99, 100] : List Int).length) [99, 100] (partsM v.c q7 ((63 : Nat)) ([99, 100] : List Int).length).length := ⟨_, rfl⟩
  rw [← hV2] at hA15
  have hs1215 : Chg (foot A) w12 w15 := (hw1214.mono fun _ _ h => h.elim).trans hs15
  have hv15 := hmono hs1215 hv12
  have hp6c : plcBox w15 b6 q6 := hs1215.heap hp6b (hfb _ hb6s)
  have hp7c : plcBox w15 b7 q7 := hs1215.heap hp7b (hfb _ hb7s')
  have hq7c := hq7b.far hP7 hs1215
  have hl2 : (V2.bs.length : Int) = v.c.size * v.c.pages := by
    rw [hV2, vsW_len (fun p hp => ?_) (parts_total (by rw [hvc]; decide)) (Nat.le_refl _)]
    · exact hl1
    · obtain ⟨i, m, h1, h2⟩ := parts_in (by rw [hvc]; decide) hck2 hfew7 p hp
      exact ⟨i, m, h1, by omega⟩
  -- the read
  refine Goes.loads hTT rfl hp7c rfl rfl ?_
  refine Goes.call rfl (view_Read v q7 63 2 A V2 w15 hv15 hq7c hmb6 hab6 hck2 hfew7 (fun h => hPv (hmf _ h)) (fun h => (hP7 h).mono hmf) (fun h => (hPc h).mono hmf) (fun h => (hPk h).mono hmf) hA15 hl2) ?_
  rintro _ w16 ⟨u1, rfl, hA16, hs16, ho16⟩
  refine Goes.adv hTT 400 rfl ?_
  obtain ⟨V3, hV3⟩ : ∃ V3, V3 = vsT q7 A V2 (partsM v.c q7 ((63 : Nat)) 2) (partsM v.c q7 ((63 : Nat)) 2).length := ⟨_, rfl⟩
  rw [← hV3] at hA16
  have hrm : readM V2.bs (partsM v.c q7 ((63 : Nat)) 2) = [99, 100] := by rw [hV2, hV1, hvc, hq6, hq7]; rfl
  rw [hrm] at ho16
  have hs1516 : Chg (foot A) w15 w16 := hs16.mono fun z _ h => hmf z h
  have hv16 := hmono hs1516 hv15
  have hp6d : plcBox w16 b6 q6 := hs1516.heap hp6c (hfb _ hb6s)
  have hp7d : plcBox w16 b7 q7 := hs1516.heap hp7c (hfb _ hb7s')
  have hq7d := hq7c.far hP7 hs1516
  obtain ⟨g, cap, cur, rfl, hg1, hg2, hg3, hg4, hg5⟩ := ho16.form (by decide)
  have hr16 : Rd .u8 w16 (some ⟨g, 0, none⟩) [99, 100] := Rd.of_take hg2 (by simpa using hg5)
  refine Goes.adv hTT 400 rfl ?_
  -- a write that is refused
  refine Goes.loads hTT rfl hp6d rfl rfl ?_
  refine Goes.buildSlice hTT rfl ?_
  intro c3 w17 ec3 hc3b hw17 hz17
  refine Goes.adv hTT 400 rfl ?_
  refine Goes.mark hTT rfl hc3b ?_
  intro w18 fz18 hc18 hs18 hz18
  refine Goes.adv hTT 400 rfl ?_
  have hw1618 : Chg None' w16 w18 := hw17.since hs18 (fun z hz e => by omega)
  have hck3 : checkM v.c q6 31 ((2 : Nat) : Int) = 8 := by rw [hvc, hq6]; decide
  refine Goes.call rfl (view_Write_no v q6 31 (some ⟨c3, 0, none⟩) 2 2 w18 (hv16.grow hw1618) (hq6ok _) (by rw [hq6]; decide) (by rw [hck3]; decide)) ?_
  rintro _ w19 ⟨rfl, hw19⟩
  refine Goes.adv hTT 400 rfl ?_
  rw [hck3]
  have hw1619 := hw1618.trans hw19
  have hat6 : viewAt v.c q6 = 160 := by rw [hvc, hq6]; decide
  have hho6 : viewHolds v.c q6 = 32 := by rw [hvc, hq6]; decide
  have hho7 : viewHolds v.c q7 = 128 := by rw [hvc, hq7]; rfl
  have hat7 : viewAt v.c q7 = -1 := by rw [hvc, hq7]; rfl
  refine Goes.yes hTT rfl rfl rfl ?_
  refine Goes.loads hTT rfl (hw1619.heap' hp6d) rfl rfl ?_
  refine Goes.call rfl (view_At v q6 w19 (hv16.grow hw1619) (hq6ok _)) ?_
  rintro _ w20 ⟨rfl, hw20⟩
  refine Goes.adv hTT 400 rfl ?_
  have hw1620 := hw1619.trans hw20
  rw [hat6]
  refine Goes.yes hTT rfl rfl rfl ?_
  refine Goes.loads hTT rfl (hw1620.heap' hp6d) rfl rfl ?_
  refine Goes.call rfl (view_Holds v q6 w20 (hv16.grow hw1620) (hq6ok _) (by rw [hq6]; decide)) ?_
  rintro _ w21 ⟨rfl, hw21⟩
  refine Goes.adv hTT 400 rfl ?_
  have hw1621 := hw1620.trans hw21
  rw [hho6]
  refine Goes.yes hTT rfl rfl rfl ?_
  refine Goes.loads hTT rfl (hw1621.heap' hp7d) rfl rfl ?_
  refine Goes.call rfl (view_Holds v q7 w21 (hv16.grow hw1621) (hq7d.grow hw1621) (by rw [hq7]; simp)) ?_
  rintro _ w22 ⟨rfl, hw22⟩
  refine Goes.adv hTT 400 rfl ?_
  have hw1622 := hw1621.trans hw22
  rw [hho7]
  refine Goes.yes hTT rfl rfl rfl ?_
  refine Goes.loads hTT rfl (hw1622.heap' hp7d) rfl rfl ?_
  refine Goes.call rfl (view_At v q7 w22 (hv16.grow hw1622) (hq7d.grow hw1622)) ?_
  rintro _ w23 ⟨rfl, hw23⟩
  refine Goes.adv hTT 400 rfl ?_
  have hw1623 := hw1622.trans hw23
  rw [hat7]
  refine Goes.yes hTT rfl rfl rfl ?_
  refine Goes.yes hTT rfl rfl rfl ?_
  refine Goes.yes hTT rfl rfl rfl ?_
  refine Goes.yes hTT rfl rfl rfl ?_
  refine Goes.bstrN hTT ([99, 100]) rfl rfl ((hr16.chg hw1623)) rfl ?_
  refine Goes.streq hTT rfl (rfl) rfl ?_
  refine Goes.yes hTT rfl rfl rfl ?_
  refine Goes.yes hTT rfl rfl rfl ?_
  have hm := (hA16.grow hw1623).met w.heap.size hmb
  have ht : V3.total = 10 := by
    rw [hV3, hV2, hV1, hvc, hq6, hq7]
    obtain ⟨ab, db, mc, mb⟩ := A
    simp only at hmb
    subst hmb
    rfl
  refine Goes.call rfl (meter_Total w.heap.size V3.total V3.lap w23 hm) ?_
  rintro _ _ ⟨rfl, rfl⟩
  refine Goes.adv hTT 400 rfl ?_
  rw [ht]
  exact Goes.ret1 hTT rfl Try.func8 rfl rfl ⟨rfl, ((hc09.since hs912 hF0).since hs1215 hF0).since (hs1516.trans (hw1623.mono fun _ _ h => h.elim)) hF0⟩
end Go.Proofs.Ytffimkpllchfcaa
/-
  Layer 6: what the document's functions answer; the statements' own small ones.
-/
namespace Go.Proofs.Ytffimkpllchfcaa
open Go.RowKit

/-- The document's arena. -/
structure RA where
  a : Option Addr
  cap : Nat
  bs : List Int
  steps : Int
def raL (r : RA) : List Value := [.slice r.a r.bs.length r.cap, .int .i64 r.steps]
structure RaOk (w : World) (r : RA) : Prop where
  rd : Rd .u8 w r.a r.bs
  len : r.bs.length ≤ 4194304
  lc : r.bs.length ≤ r.cap
  rng : InB r.bs
theorem RaOk.grow {w w' : World} {r : RA} (h : RaOk w r) (hc : Chg None' w w') : RaOk w' r := ⟨h.rd.chg hc, h.len, h.lc, h.rng⟩
theorem RdU.of {w : World} {b : Nat} {c : Array Value} {t : TypeId} {fz : Nat × Nat} {zs : List Int} (h : w.heap[b]? = some (.cells c t fz)) (hc : c = (zs.map (Value.int .u8)).toArray) : Rd .u8 w (some ⟨b, 0, none⟩) zs := fun i hi =>
  ⟨b, 0, rfl, by rw [cell_of h, hc]; simp [hi]⟩
theorem ref06_New (p s : Int) (w : World) (ht : arMay p s = true) : Does Try.prog 36 #[.int .i64 p, .int .i64 s] w
    (fun v w' => ∃ b, v = .tuple #[.agg (raL ⟨some ⟨b, 0, none⟩, (p * s).toNat, zeros (p * s).toNat, 0⟩).toArray, .int .i64 0] ∧ w.heap.size ≤ b ∧ RaOk w' ⟨some ⟨b, 0, none⟩, (p * s).toNat, zeros (p * s).toNat, 0⟩ ∧ Chg None' w w') := by
  have g := arMay_iff.1 ht
  have h0 : 0 ≤ p * s := Int.mul_nonneg (by omega) (by omega)
  have h1 : p * s ≤ 1024 * 4096 := Int.mul_le_mul (by omega) (by omega) (by omega) (by omega)
  have hlen : (zeros (p * s).toNat).length = (p * s).toNat := List.length_replicate
  refine Does.enter Try.func36 rfl Try.ntmps36 rfl rfl ?_
  refine Goes.adv hTT 400 rfl ?_
  refine Goes.alloc hTT rfl ?_
  intro rb w1 e1 hrb hw1 hz1
  refine Goes.adv hTT 400 rfl ?_
  refine Goes.no hTT rfl (decide_eq_false (by omega)) rfl ?_
  refine Goes.no hTT rfl (decide_eq_false (by omega)) rfl ?_
  refine Goes.no hTT rfl (decide_eq_false (by omega)) rfl ?_
  refine Goes.no hTT rfl (decide_eq_false (by omega)) rfl ?_
  refine Goes.div hTT rfl (by omega) (rem_ (by omega)) rfl ?_
  refine Goes.no hTT rfl (by simp; omega) rfl ?_
  refine Goes.arith hTT rfl (w64 (by omega)) rfl ?_
  refine Goes.make hTT (m := (p * s).toNat) (k := (p * s).toNat) rfl (by omega) (by omega) (Nat.le_refl _) (by simp only; omega) (by omega) ?_
  intro b w2 e2 hb hw2 hz2
  refine Goes.adv hTT 400 rfl ?_
  refine Goes.build hTT rfl rfl ?_
  refine Goes.store hTT rfl (hw2.heap' hrb) rfl rfl ?_
  intro w3 hr3 hs3 hz3
  refine Goes.adv hTT 400 rfl ?_
  have hc3 : Chg None' w w3 := (hw1.trans hw2).since hs3 (fun x hx hx' => by omega)
  have hzz : (zeroRow (cellsL (Value.int .u8 0)) (p * s).toNat) = (zeros (p * s).toNat).map (Value.int .u8) := zeroRow_zeros _
  rw [hzz] at hb
  have hb3 := hs3.heap hb (by omega)
  have hok : RaOk w3 ⟨some ⟨b, 0, none⟩, (p * s).toNat, zeros (p * s).toNat, 0⟩ := ⟨RdU.of hb3 rfl, by simp only [hlen]; omega, by simp only [hlen]; omega, fun x hx => by rw [List.eq_of_mem_replicate hx]; omega⟩
  exact Goes.ret hTT rfl Try.func36 (ResOk.cell rfl rfl rfl hr3 rfl (.tmp rfl .nil)) ⟨b, by unfold raL; simp only [hlen]; rfl, by omega, hok, hc3⟩
theorem ref06_New_no (p s : Int) (w : World) (ht : arMay p s = false) : Does Try.prog 36 #[.int .i64 p, .int .i64 s] w (Grow (.tuple #[.agg (raL ⟨none, 0, [], 0⟩).toArray, .int .i64 1]) w) := by
  have hno : ¬ (1 ≤ p ∧ p ≤ 1024 ∧ 64 ≤ s ∧ s ≤ 4096 ∧ s % 8 = 0) := fun hh => by rw [arMay_iff.2 hh] at ht; cases ht
  refine Does.enter Try.func36 rfl Try.ntmps36 rfl rfl ?_
  refine Goes.adv hTT 400 rfl ?_
  refine Goes.alloc hTT rfl ?_
  intro rb w1 e1 hrb hw1 hz1
  refine Goes.adv hTT 400 rfl ?_
  refine Goes.fork hTT rfl rfl rfl (fun h1 => ?_) (fun h1 => ?_)
  · refine Goes.build hTT rfl rfl ?_
    refine Goes.store hTT rfl hrb rfl rfl ?_
    intro w3 hr3 hs3 hz3
    refine Goes.adv hTT 400 rfl ?_
    have hc3 : Chg None' w w3 := hw1.since hs3 (fun x hx hx' => by omega)
    exact Goes.ret hTT rfl Try.func36 (ResOk.cell rfl rfl rfl hr3 rfl (.tmp rfl .nil)) ⟨rfl, hc3⟩
  have g1 := of_decide_eq_false h1
  refine Goes.fork hTT rfl rfl rfl (fun h2 => ?_) (fun h2 => ?_)
  · refine Goes.build hTT rfl rfl ?_
    refine Goes.store hTT rfl hrb rfl rfl ?_
    intro w3 hr3 hs3 hz3
    refine Goes.adv hTT 400 rfl ?_
    have hc3 : Chg None' w w3 := hw1.since hs3 (fun x hx hx' => by omega)
    exact Goes.ret hTT rfl Try.func36 (ResOk.cell rfl rfl rfl hr3 rfl (.tmp rfl .nil)) ⟨rfl, hc3⟩
  have g2 := of_decide_eq_false h2
  refine Goes.fork hTT rfl rfl rfl (fun h3 => ?_) (fun h3 => ?_)
  · refine Goes.build hTT rfl rfl ?_
    refine Goes.store hTT rfl hrb rfl rfl ?_
    intro w3 hr3 hs3 hz3
    refine Goes.adv hTT 400 rfl ?_
    have hc3 : Chg None' w w3 := hw1.since hs3 (fun x hx hx' => by omega)
    exact Goes.ret hTT rfl Try.func36 (ResOk.cell rfl rfl rfl hr3 rfl (.tmp rfl .nil)) ⟨rfl, hc3⟩
  have g3 := of_decide_eq_false h3
  refine Goes.fork hTT rfl rfl rfl (fun h4 => ?_) (fun h4 => ?_)
  · refine Goes.build hTT rfl rfl ?_
    refine Goes.store hTT rfl hrb rfl rfl ?_
    intro w3 hr3 hs3 hz3
    refine Goes.adv hTT 400 rfl ?_
    have hc3 : Chg None' w w3 := hw1.since hs3 (fun x hx hx' => by omega)
    exact Goes.ret hTT rfl Try.func36 (ResOk.cell rfl rfl rfl hr3 rfl (.tmp rfl .nil)) ⟨rfl, hc3⟩
  have g4 := of_decide_eq_false h4
  refine Goes.div hTT rfl (by omega) (rem_ (by omega)) rfl ?_
  refine Goes.yes hTT rfl (by simp; omega) rfl ?_
  refine Goes.build hTT rfl rfl ?_
  refine Goes.store hTT rfl hrb rfl rfl ?_
  intro w3 hr3 hs3 hz3
  refine Goes.adv hTT 400 rfl ?_
  have hc3 : Chg None' w w3 := hw1.since hs3 (fun x hx hx' => by omega)
  exact Goes.ret hTT rfl Try.func36 (ResOk.cell rfl rfl rfl hr3 rfl (.tmp rfl .nil)) ⟨rfl, hc3⟩
end Go.Proofs.Ytffimkpllchfcaa
