/-
  The first place, and the last one, where something holds. No program in sight.
-/
import Derived.Test.YtffimkpllchfcaaPost
import Derived.Test.YtffimkpllchfcaaRule10
namespace Go.Proofs.Ytffimkpllchfcaa
open Go.RowKit

/-- The first place where p holds; -1 if there is none. -/
def idx {α : Type} (p : α → Bool) (l : List α) : Int := match l.findIdx? p with | some i => i | none => -1
theorem idx_at {α : Type} {p : α → Bool} {l : List α} {k : Nat} (hk : k < l.length) (hpre : ∀ j (h : j < l.length), j < k → p l[j] = false) (h : p l[k] = true) : idx p l = k := by
  unfold idx
  have : l.findIdx? p = some k := by
    rw [List.findIdx?_eq_some_iff_getElem]
    exact ⟨hk, h, fun j hj => by simpa using hpre j (by omega) hj⟩
  rw [this]
theorem idx_none {α : Type} {p : α → Bool} {l : List α} (hpre : ∀ j (h : j < l.length), p l[j] = false) : idx p l = -1 := by
  unfold idx
  have : l.findIdx? p = none := by
    rw [List.findIdx?_eq_none_iff]
    intro x hx
    obtain ⟨j, hj, rfl⟩ := List.mem_iff_getElem.1 hx
    exact hpre j hj
  rw [this]
theorem idx_nonneg {α : Type} {p : α → Bool} {l : List α} : (0 ≤ idx p l) ↔ l.any p = true := by
  unfold idx
  cases h : l.findIdx? p with
  | none =>
    rw [List.findIdx?_eq_none_iff] at h
    simp only [List.any_eq_true]
    constructor
    · intro h0; omega
    · rintro ⟨x, hx, hp⟩; rw [h x hx] at hp; cases hp
  | some i =>
    rw [List.findIdx?_eq_some_iff_getElem] at h
    obtain ⟨hi, hp, _⟩ := h
    simp only [List.any_eq_true]
    exact ⟨fun _ => ⟨_, List.getElem_mem hi, hp⟩, fun _ => by omega⟩
theorem getD_at {zs : List Int} {k : Nat} (h : k < zs.length) : zs.getD k 0 = zs[k] := by simp [h]

/-- The last place where p holds; -1 if there is none. -/
def ridx {α : Type} (p : α → Bool) (l : List α) : Int := match l.reverse.findIdx? p with | some i => (l.length : Int) - 1 - i | none => -1
theorem ridx_at {α : Type} {p : α → Bool} {l : List α} {k : Nat} (hk : k < l.length) (hpost : ∀ j (h : j < l.length), k < j → p l[j] = false) (h : p l[k] = true) : ridx p l = k := by
  unfold ridx
  have : l.reverse.findIdx? p = some (l.length - 1 - k) := by
    rw [List.findIdx?_eq_some_iff_getElem]
    refine ⟨by simp; omega, ?_, fun j hj => ?_⟩
    · rw [List.getElem_reverse]; simp only [show l.length - 1 - (l.length - 1 - k) = k from by omega]; exact h
    · rw [List.getElem_reverse]; simpa using hpost _ (by omega) (by omega)
  rw [this]
  simp only
  omega
theorem ridx_none {α : Type} {p : α → Bool} {l : List α} (hall : ∀ j (h : j < l.length), p l[j] = false) : ridx p l = -1 := by
  unfold ridx
  have : l.reverse.findIdx? p = none := by
    rw [List.findIdx?_eq_none_iff]
    intro x hx
    rw [List.mem_reverse] at hx
    obtain ⟨j, hj, rfl⟩ := List.mem_iff_getElem.1 hx
    exact hall j hj
  rw [this]
/-- The slice of address a reads as bools. -/
def RdB (w : World) (a : Option Addr) (bs : List Bool) : Prop := ∀ i (h : i < bs.length), ∃ b off, a = some ⟨b, off, none⟩ ∧ w.cell? ⟨b, off + i, none⟩ = some (.bool bs[i])
theorem RdB.of {w : World} {b : Nat} {c : Array Value} {t : TypeId} {fz : Nat × Nat} {bs : List Bool} (h : w.heap[b]? = some (.cells c t fz)) (hc : c = (bs.map Value.bool).toArray) : RdB w (some ⟨b, 0, none⟩) bs := fun i hi =>
  ⟨b, 0, rfl, by rw [cell_of h, hc]; simp [hi]⟩
theorem RdB.chg {w w' : World} {a : Option Addr} {bs : List Bool} (h : RdB w a bs) (hc : Chg None' w w') : RdB w' a bs := fun i hi => by
  obtain ⟨b, off, e, hcell⟩ := h i hi
  exact ⟨b, off, e, below_cell hc.below hcell⟩
theorem RdB.keep {w w' : World} {a : Option Addr} {bs : List Bool} {q t : Nat} {c : Array Value} {fz : Nat × Nat} (hr : RdB w a bs) (hq : w.heap[q]? = some (.cells c t fz)) (hc : ∀ x ∈ c.toList, ∀ z, x ≠ .bool z) (hs : Chg (fun b => b = q) w w') : RdB w' a bs := fun j hj => by
  obtain ⟨b, off, e, hcell⟩ := hr j hj
  refine ⟨b, off, e, hs.cell hcell (fun hx => ?_)⟩
  subst hx
  rw [cell_of hq] at hcell
  exact hc _ (Array.mem_toList_iff.2 (Array.mem_of_getElem? hcell)) _ rfl
theorem RdB.cells {w : World} {a : Addr} {bs : List Bool} (h : RdB w (some a) bs) : ∀ i u, (bs.map Value.bool)[i]? = some u → w.cell? (a.add i) = some u := by
  intro i u hu
  rw [List.getElem?_map, Option.map_eq_some_iff] at hu
  obtain ⟨z, hz, rfl⟩ := hu
  have hi : i < bs.length := (List.getElem?_eq_some_iff.1 hz).1
  obtain ⟨b, off, e, hc⟩ := h i hi
  cases e
  rw [add_off, hc]
  rw [List.getElem?_eq_getElem hi] at hz
  cases hz; rfl
theorem RdB.of_take {w : World} {g t : Nat} {fz : Nat × Nat} {cur : Array Value} {bs : List Bool} (h : w.heap[g]? = some (.cells cur t fz)) (hc : cur.toList.take bs.length = bs.map Value.bool) : RdB w (some ⟨g, 0, none⟩) bs := fun i hi => by
  refine ⟨g, 0, rfl, ?_⟩
  have h1 : (cur.toList.take bs.length)[i]? = (bs.map Value.bool)[i]? := by rw [hc]
  rw [List.getElem?_take, if_pos hi] at h1
  rw [cell_of h]
  simp only [Nat.zero_add]
  rw [← Array.getElem?_toList, h1]
  simp [hi]
end Go.Proofs.Ytffimkpllchfcaa
