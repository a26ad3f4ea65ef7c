/-
  Functions of package slices, at the types at which they are used.
-/
import Derived.Test.YteklfgglcbdpnaaUnit
namespace Go.Proofs.Yteklfgglcbdpnaa
open Go.RowKit

/-- The first place where p holds; -1 if there is none. -/
def idx {α : Type} (p : α → Bool) (l : List α) : Int := match l.findIdx? p with | some i => i | none => -1
theorem idx_at {α : Type} {p : α → Bool} {l : List α} {k : Nat} (hk : k < l.length) (hpre : ∀ j (h : j < l.length), j < k → p l[j] = false) (h : p l[k] = true) : idx p l = k := by
  unfold idx
  have : l.findIdx? p = some k := by
    rw [List.findIdx?_eq_some_iff_getElem]
    exact ⟨hk, h, fun j hj => by simpa using hpre j (by omega) hj⟩
  rw [this]
theorem idx_none {α : Type} {p : α → Bool} {l : List α} (hpre : ∀ j (h : j < l.length), p l[j] = false) : idx p l = -1 := by
  unfold idx
  have : l.findIdx? p = none := by
    rw [List.findIdx?_eq_none_iff]
    intro x hx
    obtain ⟨j, hj, rfl⟩ := List.mem_iff_getElem.1 hx
    exact hpre j hj
  rw [this]
theorem idx_nonneg {α : Type} {p : α → Bool} {l : List α} : (0 ≤ idx p l) ↔ l.any p = true := by
  unfold idx
  cases h : l.findIdx? p with
  | none =>
    rw [List.findIdx?_eq_none_iff] at h
    simp only [List.any_eq_true]
    constructor
    · intro h0; omega
    · rintro ⟨x, hx, hp⟩; rw [h x hx] at hp; cases hp
  | some i =>
    rw [List.findIdx?_eq_some_iff_getElem] at h
    obtain ⟨hi, hp, _⟩ := h
    simp only [List.any_eq_true]
    exact ⟨fun _ => ⟨_, List.getElem_mem hi, hp⟩, fun _ => by omega⟩
theorem getD_at {zs : List Int} {k : Nat} (h : k < zs.length) : zs.getD k 0 = zs[k] := by simp [h]

theorem slices_IndexFunc_int (a : Option Addr) (cap fk : Nat) (zs : List Int) (caps : List Value) (p : Int → Bool) (w : World) (hr : Rd .i64 w a zs) (hl : zs.length ≤ 9223372036854775807)
    (hf : ∀ x, x ∈ zs → Does Try.prog fk (.int .i64 x :: caps).toArray w (Same (.bool (p x)) w)) :
    Does Try.prog 28 #[.slice a zs.length cap, .func (.func fk) #[] caps.toArray] w (Same (.int .i64 (idx p zs)) w) := by
  refine Does.enter Try.func28 rfl Try.ntmps28 rfl rfl ?_
  refine Goes.adv hTT 400 rfl ?_
  refine Goes.loop (α := Nat) (fun k => [(0, false, .slice a zs.length cap), (1, false, .func (.func fk) #[] caps.toArray), (7, false, .int .i64 zs.length), (8, false, .int .i64 k)])
    (fun k w' => w' = w ∧ k ≤ zs.length ∧ ∀ j (h : j < zs.length), j < k → p zs[j] = false) (fun k => zs.length - k) 0 ⟨rfl, rfl, rfl, rfl, trivial⟩ ⟨rfl, Nat.zero_le _, fun _ _ h => by omega⟩ ?_
  rintro k w1 ⟨hw, hk, hpre⟩ ih
  refine Goes.adv hTT 400 rfl ?_
  refine Goes.fork hTT rfl rfl rfl (fun h => ?_) (fun h => ?_)
  · have hlt : k < zs.length := by simpa using h
    obtain ⟨b, off, rfl, hc⟩ := hr k hlt
    rw [getD_at hlt] at hc
    subst hw
    refine Goes.index hTT rfl (j := k) (by omega) (by omega) (by first | rfl | omega | simp) rfl ?_
    refine Goes.load hTT rfl hc rfl ?_
    refine Goes.call rfl (hf _ (List.getElem_mem hlt)) ?_
    rintro _ _ ⟨rfl, rfl⟩
    refine Goes.adv hTT 400 rfl ?_
    refine Goes.fork hTT rfl rfl rfl (fun hp => ?_) (fun hp => ?_)
    · exact Goes.ret1 hTT rfl Try.func28 rfl rfl ⟨int_v (idx_at hlt hpre hp).symm, rfl⟩
    · refine Goes.arith hTT rfl (w64 (by omega)) rfl ?_
      exact ih (k + 1) _ _ ⟨rfl, hlt, fun j hj hjk => by
        by_cases e : j = k
        · subst e; exact hp
        · exact hpre j hj (by omega)⟩ (by omega) ⟨rfl, rfl, rfl, rfl, trivial⟩
  · have hge : k = zs.length := by simp at h; omega
    subst hw
    exact Goes.ret1 hTT rfl Try.func28 rfl rfl ⟨int_v (idx_none (fun j hj => hpre j hj (by omega))).symm, rfl⟩
theorem slices_ContainsFunc_int (a : Option Addr) (cap fk : Nat) (zs : List Int) (caps : List Value) (p : Int → Bool) (w : World) (hr : Rd .i64 w a zs) (hl : zs.length ≤ 9223372036854775807)
    (hf : ∀ x, x ∈ zs → Does Try.prog fk (.int .i64 x :: caps).toArray w (Same (.bool (p x)) w)) :
    Does Try.prog 23 #[.slice a zs.length cap, .func (.func fk) #[] caps.toArray] w (Same (.bool (zs.any p)) w) := by
  refine Does.enter Try.func23 rfl Try.ntmps23 rfl rfl ?_
  refine Goes.adv hTT 400 rfl ?_
  refine Goes.call rfl (slices_IndexFunc_int a cap fk zs caps p w hr hl hf) ?_
  rintro _ _ ⟨rfl, rfl⟩
  refine Goes.adv hTT 400 rfl ?_
  exact Goes.ret1 hTT rfl Try.func23 rfl rfl ⟨bool_v (by rw [Bool.eq_iff_iff]; simp only [decide_eq_true_eq]; exact idx_nonneg), rfl⟩
/-- The slice of address a reads as bools. -/
def RdB (w : World) (a : Option Addr) (bs : List Bool) : Prop := ∀ i (h : i < bs.length), ∃ b off, a = some ⟨b, off, none⟩ ∧ w.cell? ⟨b, off + i, none⟩ = some (.bool bs[i])
theorem RdB.of {w : World} {b : Nat} {c : Array Value} {t : TypeId} {fz : Nat × Nat} {bs : List Bool} (h : w.heap[b]? = some (.cells c t fz)) (hc : c = (bs.map Value.bool).toArray) : RdB w (some ⟨b, 0, none⟩) bs := fun i hi =>
  ⟨b, 0, rfl, by rw [cell_of h, hc]; simp [hi]⟩
theorem slices_Index_bool (a : Option Addr) (cap : Nat) (bs : List Bool) (x : Bool) (w : World) (hr : RdB w a bs) (hl : bs.length ≤ 9223372036854775807) :
    Does Try.prog 29 #[.slice a bs.length cap, .bool x] w (Same (.int .i64 (idx (fun y => x == y) bs)) w) := by
  refine Does.enter Try.func29 rfl Try.ntmps29 rfl rfl ?_
  refine Goes.adv hTT 400 rfl ?_
  refine Goes.loop (α := Nat) (fun k => [(0, false, .slice a bs.length cap), (1, false, .bool x), (7, false, .int .i64 bs.length), (8, false, .int .i64 k)])
    (fun k w' => w' = w ∧ k ≤ bs.length ∧ ∀ j (h : j < bs.length), j < k → (x == bs[j]) = false) (fun k => bs.length - k) 0 ⟨rfl, rfl, rfl, rfl, trivial⟩ ⟨rfl, Nat.zero_le _, fun _ _ h => by omega⟩ ?_
  rintro k w1 ⟨hw, hk, hpre⟩ ih
  refine Goes.adv hTT 400 rfl ?_
  refine Goes.fork hTT rfl rfl rfl (fun h => ?_) (fun h => ?_)
  · have hlt : k < bs.length := by simpa using h
    obtain ⟨b, off, rfl, hc⟩ := hr k hlt
    subst hw
    refine Goes.index hTT rfl (j := k) (by omega) (by omega) (by first | rfl | omega | simp) rfl ?_
    refine Goes.load hTT rfl hc rfl ?_
    refine Goes.fork hTT rfl rfl rfl (fun hp => ?_) (fun hp => ?_)
    · exact Goes.ret1 hTT rfl Try.func29 rfl rfl ⟨int_v (idx_at (p := fun y => x == y) hlt hpre hp).symm, rfl⟩
    · refine Goes.arith hTT rfl (w64 (by omega)) rfl ?_
      exact ih (k + 1) _ _ ⟨rfl, hlt, fun j hj hjk => by
        by_cases e : j = k
        · subst e; exact hp
        · exact hpre j hj (by omega)⟩ (by omega) ⟨rfl, rfl, rfl, rfl, trivial⟩
  · have hge : k = bs.length := by simp at h; omega
    subst hw
    exact Goes.ret1 hTT rfl Try.func29 rfl rfl ⟨int_v (idx_none (p := fun y => x == y) (fun j hj => hpre j hj (by omega))).symm, rfl⟩
theorem slices_Contains_bool (a : Option Addr) (cap : Nat) (bs : List Bool) (x : Bool) (w : World) (hr : RdB w a bs) (hl : bs.length ≤ 9223372036854775807) :
    Does Try.prog 24 #[.slice a bs.length cap, .bool x] w (Same (.bool (bs.any fun y => x == y)) w) := by
  refine Does.enter Try.func24 rfl Try.ntmps24 rfl rfl ?_
  refine Goes.adv hTT 400 rfl ?_
  refine Goes.call rfl (slices_Index_bool a cap bs x w hr hl) ?_
  rintro _ _ ⟨rfl, rfl⟩
  refine Goes.adv hTT 400 rfl ?_
  exact Goes.ret1 hTT rfl Try.func24 rfl rfl ⟨bool_v (by rw [Bool.eq_iff_iff]; simp only [decide_eq_true_eq]; exact idx_nonneg), rfl⟩
end Go.Proofs.Yteklfgglcbdpnaa
