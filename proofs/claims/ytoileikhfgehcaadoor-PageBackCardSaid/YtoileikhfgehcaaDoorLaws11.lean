/-
  Layer 11: the statements' own functions answer true.
-/
import Derived.Test.YtoileikhfgehcaaDoorRef11
namespace Go.Proofs.YtoileikhfgehcaaDoor
open Go.RowKit

theorem tab_ne {w : World} (h : TabAt w) : 0 < w.heap.size := World.block_lt_of_cell? w _ (h 0 (by decide))
/-- What came since is no table. -/
theorem tab_new {w : World} (h : TabAt w) {b : Nat} (hb : w.heap.size ≤ b) : 0 ≠ b := fun e => by have := tab_ne h; omega
theorem law11_awake (w : World) (hT0 : TabAt w) : Does Tryd.prog 13 #[] w (Grow (.bool true) w) := by
  refine Does.enter Tryd.func13 rfl Tryd.ntmps13 rfl rfl ?_
  refine Goes.adv hTT 400 rfl ?_
  refine Goes.call rfl (bits_New 3 w hT0 (by decide)) ?_
  rintro _ w1 ⟨b, rfl, hb, hB1, hw1⟩
  refine Goes.adv hTT 400 rfl ?_
  refine Goes.call rfl (bits_Set b _ 0 true w1 hB1) ?_
  rintro _ w2 ⟨rfl, hB2, hs2⟩
  refine Goes.adv hTT 400 rfl ?_
  refine Goes.call rfl (bits_Set b _ 1 true w2 hB2) ?_
  rintro _ w3 ⟨rfl, hB3, hs3⟩
  refine Goes.adv hTT 400 rfl ?_
  refine Goes.call rfl (bits_Set b _ 1 true w3 hB3) ?_
  rintro _ w4 ⟨rfl, hB4, hs4⟩
  refine Goes.adv hTT 400 rfl ?_
  refine Goes.call rfl (bits_Set b _ 2 false w4 hB4) ?_
  rintro _ w5 ⟨rfl, hB5, hs5⟩
  refine Goes.adv hTT 400 rfl ?_
  refine Goes.call rfl (bits_Set b _ 3 true w5 hB5) ?_
  rintro _ w6 ⟨rfl, hB6, hs6⟩
  refine Goes.adv hTT 400 rfl ?_
  have hc6 : Chg None' w w6 := ((((hw1.since hs2 (fun z hz h => by omega)).since hs3 (fun z hz h => by omega)).since hs4 (fun z hz h => by omega)).since hs5 (fun z hz h => by omega)).since hs6 (fun z hz h => by omega)
  refine Goes.yes hTT rfl rfl rfl ?_
  refine Goes.yes hTT rfl rfl rfl ?_
  refine Goes.yes hTT rfl rfl rfl ?_
  refine Goes.yes hTT rfl rfl rfl ?_
  refine Goes.yes hTT rfl rfl rfl ?_
  refine Goes.yes hTT rfl rfl rfl ?_
  refine Goes.call rfl (bits_Low b _ w6 hB6) ?_
  rintro _ w7 ⟨rfl, hw7⟩
  refine Goes.adv hTT 400 rfl ?_
  have hB7 := hB6.grow hw7
  refine Goes.yes hTT rfl rfl rfl ?_
  refine Goes.call rfl (bits_High b _ w7 hB7) ?_
  rintro _ _ ⟨rfl, rfl⟩
  refine Goes.adv hTT 400 rfl ?_
  refine Goes.yes hTT rfl rfl rfl ?_
  refine Goes.call rfl (bits_Count b _ w7 hB7) ?_
  rintro _ _ ⟨rfl, rfl⟩
  refine Goes.adv hTT 400 rfl ?_
  refine Goes.yes hTT rfl rfl rfl ?_
  refine Goes.call rfl (bits_Has b _ 0 w7 hB7) ?_
  rintro _ _ ⟨rfl, rfl⟩
  refine Goes.adv hTT 400 rfl ?_
  refine Goes.yes hTT rfl rfl rfl ?_
  refine Goes.call rfl (bits_Has b _ 2 w7 hB7) ?_
  rintro _ _ ⟨rfl, rfl⟩
  refine Goes.adv hTT 400 rfl ?_
  exact Goes.ret1 hTT rfl Tryd.func13 rfl rfl ⟨rfl, hc6.trans hw7⟩
theorem law11_same (b : Nat) (x : List Bool) (l : BL) (w : World) (hB : BitsOk w b x) (hl : BlOk w l) (hx : l.x = x) : Does Tryd.prog 18 #[.pointer (some ⟨b, 0, none⟩), blV l] w (Grow (.bool true) w) := by
  refine Does.enter Tryd.func18 rfl Tryd.ntmps18 rfl rfl ?_
  refine Goes.adv hTT 400 rfl ?_
  refine Goes.call rfl (bits_Low b x w hB) ?_
  rintro _ w1 ⟨rfl, hw1⟩
  refine Goes.adv hTT 400 rfl ?_
  have hB1 := hB.grow hw1
  have hl1 := hl.grow hw1
  refine Goes.call rfl (ref11_Low l w1 hl1) ?_
  rintro _ _ ⟨rfl, rfl⟩
  refine Goes.adv hTT 400 rfl ?_
  rw [hx]
  refine Goes.yes hTT rfl (beq_self_eq_true _) rfl ?_
  refine Goes.call rfl (bits_High b x w1 hB1) ?_
  rintro _ _ ⟨rfl, rfl⟩
  refine Goes.adv hTT 400 rfl ?_
  refine Goes.call rfl (ref11_High l w1 hl1) ?_
  rintro _ _ ⟨rfl, rfl⟩
  refine Goes.adv hTT 400 rfl ?_
  rw [hx]
  refine Goes.yes hTT rfl (beq_self_eq_true _) rfl ?_
  refine Goes.call rfl (bits_Count b x w1 hB1) ?_
  rintro _ _ ⟨rfl, rfl⟩
  refine Goes.adv hTT 400 rfl ?_
  refine Goes.call rfl (ref11_Count l w1 hl1) ?_
  rintro _ _ ⟨rfl, rfl⟩
  refine Goes.adv hTT 400 rfl ?_
  rw [hx]
  exact Goes.ret1 hTT rfl Tryd.func18 rfl rfl ⟨bool_v (beq_self_eq_true _), hw1⟩
theorem law_BitsNew (m : Int) (w : World) (hT0 : TabAt w) : Does Tryd.prog 4 #[.int .i64 m] w (Grow (.bool true) w) := by
  refine Does.enter Tryd.func4 rfl Tryd.ntmps4 rfl rfl ?_
  refine Goes.adv hTT 400 rfl ?_
  refine Goes.call rfl (law11_awake w hT0) ?_
  rintro _ w1 ⟨rfl, hw1⟩
  refine Goes.adv hTT 400 rfl ?_
  have hT1 := hT0.grow hw1
  by_cases hm : 1 ≤ m ∧ m ≤ 512
  · obtain ⟨m, rfl⟩ := Int.eq_ofNat_of_zero_le (show 0 ≤ m by omega)
    refine Goes.call rfl (bits_New m w1 hT1 (by omega)) ?_
    rintro _ w2 ⟨b, rfl, hb, hB2, hw2⟩
    refine Goes.adv hTT 400 rfl ?_
    refine Goes.call rfl (ref11_New m w2 (by omega)) ?_
    rintro _ w3 ⟨l, rfl, hlx, hl3, hw3⟩
    refine Goes.adv hTT 400 rfl ?_
    refine Goes.no hTT rfl rfl rfl ?_
    refine Goes.yes hTT rfl rfl rfl ?_
    refine Goes.yes hTT rfl rfl rfl ?_
    have hB3 := hB2.grow hw3
    have hlen : (List.replicate m false).length = m := List.length_replicate
    refine Goes.call rfl (bits_Low b _ w3 hB3) ?_
    rintro _ w4 ⟨rfl, hw4⟩
    refine Goes.adv hTT 400 rfl ?_
    have hB4 := hB3.grow hw4
    have hlow : lowM (List.replicate m false) = 0 := idx_at (p := fun b => !b) (k := 0) (by omega) (fun j _ hj => by omega) (by simp)
    have hhigh : highM (List.replicate m false) = -1 := ridx_none (p := id) (fun j hj => by simp)
    refine Goes.yes hTT rfl (by rw [hlow]; rfl) rfl ?_
    refine Goes.call rfl (bits_High b _ w4 hB4) ?_
    rintro _ _ ⟨rfl, rfl⟩
    refine Goes.adv hTT 400 rfl ?_
    refine Goes.yes hTT rfl (by rw [hhigh]; rfl) rfl ?_
    refine Goes.call rfl (bits_Count b _ w4 hB4) ?_
    rintro _ _ ⟨rfl, rfl⟩
    refine Goes.adv hTT 400 rfl ?_
    rw [cnt_replicate]
    exact Goes.ret1 hTT rfl Tryd.func4 rfl rfl ⟨rfl, ((hw1.trans hw2).trans hw3).trans hw4⟩
  · refine Goes.call rfl (bits_New_no m w1 hm) ?_
    rintro _ _ ⟨rfl, rfl⟩
    refine Goes.adv hTT 400 rfl ?_
    refine Goes.call rfl (ref11_New_no m w1 hm) ?_
    rintro _ _ ⟨rfl, rfl⟩
    refine Goes.adv hTT 400 rfl ?_
    refine Goes.yes hTT rfl rfl rfl ?_
    refine Goes.yes hTT rfl rfl rfl ?_
    refine Goes.yes hTT rfl rfl rfl ?_
    exact Goes.ret1 hTT rfl Tryd.func4 rfl rfl ⟨rfl, hw1⟩
theorem law_BitsNobody (i : Int) (w : World) (hT0 : TabAt w) : Does Tryd.prog 7 #[.int .i64 i] w (Grow (.bool true) w) := by
  refine Does.enter Tryd.func7 rfl Tryd.ntmps7 rfl rfl ?_
  refine Goes.adv hTT 400 rfl ?_
  refine Goes.call rfl (law11_awake w hT0) ?_
  rintro _ w1 ⟨rfl, hw1⟩
  refine Goes.adv hTT 400 rfl ?_
  refine Goes.yes hTT rfl rfl rfl ?_
  refine Goes.call rfl (bits_Set_nil i true w1) ?_
  rintro _ _ ⟨rfl, rfl⟩
  refine Goes.adv hTT 400 rfl ?_
  refine Goes.yes hTT rfl rfl rfl ?_
  refine Goes.call rfl (bits_Set_nil i false w1) ?_
  rintro _ _ ⟨rfl, rfl⟩
  refine Goes.adv hTT 400 rfl ?_
  refine Goes.yes hTT rfl rfl rfl ?_
  refine Goes.call rfl (bits_Has_nil i w1) ?_
  rintro _ _ ⟨rfl, rfl⟩
  refine Goes.adv hTT 400 rfl ?_
  refine Goes.yes hTT rfl rfl rfl ?_
  refine Goes.call rfl (bits_Low_nil w1) ?_
  rintro _ w2 ⟨rfl, hw2⟩
  refine Goes.adv hTT 400 rfl ?_
  refine Goes.yes hTT rfl rfl rfl ?_
  refine Goes.call rfl (bits_High_nil w2) ?_
  rintro _ _ ⟨rfl, rfl⟩
  refine Goes.adv hTT 400 rfl ?_
  refine Goes.yes hTT rfl rfl rfl ?_
  refine Goes.call rfl (bits_Count_nil w2) ?_
  rintro _ _ ⟨rfl, rfl⟩
  refine Goes.adv hTT 400 rfl ?_
  exact Goes.ret1 hTT rfl Tryd.func7 rfl rfl ⟨rfl, hw1.trans hw2⟩
end Go.Proofs.YtoileikhfgehcaaDoor
