/-
  Layer 11, on: setting, the least one, the greatest one.
-/
import Derived.Test.YtoileikhfgehcaaDoorBits
namespace Go.Proofs.YtoileikhfgehcaaDoor
open Go.RowKit

theorem set_words {ws : List Nat} {rest : List Value} {k n : Nat} (hk : k < ws.length) : (ws.map (fun n : Nat => Value.int .u64 (n : Int)) ++ rest).set k (.int .u64 (n : Int)) = (ws.set k n).map (fun n : Nat => Value.int .u64 (n : Int)) ++ rest := by
  rw [List.set_append_left _ _ (by simpa using hk), List.map_set]
theorem getD_setL {α : Type} {l : List α} {i j : Nat} {x d : α} (hi : i < l.length) : (l.set i x).getD j d = if j = i then x else l.getD j d := by
  simp only [List.getD_eq_getElem?_getD, List.getElem?_set]
  by_cases h : i = j
  · subst h; simp [hi]
  · rw [if_neg h, if_neg (Ne.symm h)]
theorem setV_oneL : ∀ (l : List Value) (i : Nat) (v : Value), i < l.length → setV l i [v] = some (l.set i v)
  | x :: r, 0, v, _ => by simp [setV]
  | x :: r, i + 1, v, h => by simp [setV, setV_oneL r i v (by simpa using h)]
theorem setE_zero {x : List Bool} {i : Int} {b : Bool} (h : setE x i b = 0) : inM x i = true ∧ hasM x i = !b := by
  unfold setE at h
  cases hi : inM x i with
  | false => rw [hi] at h; simp at h
  | true =>
    rw [hi] at h
    cases b <;> cases hh : hasM x i <;> rw [hh] at h <;> simp_all
theorem setB_length {x : List Bool} {i : Int} {b : Bool} : (setB x i b).length = x.length := by unfold setB; split <;> simp
theorem bits_Set (b : Nat) (x : List Bool) (i : Int) (is : Bool) (w : World) (h : BitsOk w b x) : Does Tryd.prog 16 #[.pointer (some ⟨b, 0, none⟩), .int .i64 i, .bool is] w
    (fun v w' => v = .int .i64 (setE x i is) ∧ BitsOk w' b (setB x i is) ∧ Chg (fun z => z = b) w w') := by
  have hl := h.len
  have hne := h.ne
  have hno : setE x i is ≠ 0 → BitsOk w b (setB x i is) := fun hn => by unfold setB; rw [if_neg hn]; exact h
  obtain ⟨ws, h1, h2, h3, h4⟩ := h.ws
  refine Does.enter Tryd.func16 rfl Tryd.ntmps16 rfl rfl ?_
  refine Goes.adv hTT 400 rfl ?_
  refine Goes.call rfl (bits_there b x i w h) ?_
  rintro _ _ ⟨rfl, rfl⟩
  refine Goes.adv hTT 400 rfl ?_
  cases hin : inM x i with
  | false =>
    have he : setE x i is = 1 := by unfold setE; rw [if_pos hin]
    refine Goes.yes hTT rfl rfl rfl ?_
    exact Goes.ret1 hTT rfl Tryd.func16 rfl rfl ⟨by rw [he], hno (by rw [he]; decide), Chg.refl _ _⟩
  | true =>
    refine Goes.no hTT rfl rfl rfl ?_
    cases is with
    | true =>
      refine Goes.yes hTT rfl rfl rfl ?_
      refine Goes.call rfl (bits_Has b x i w h) ?_
      rintro _ _ ⟨rfl, rfl⟩
      refine Goes.adv hTT 400 rfl ?_
      cases hha : hasM x i with
      | true =>
        have he : setE x i true = 10 := by unfold setE; rw [hin, hha]; rfl
        refine Goes.yes hTT rfl rfl rfl ?_
        exact Goes.ret1 hTT rfl Tryd.func16 rfl rfl ⟨by rw [he], hno (by rw [he]; decide), Chg.refl _ _⟩
      | false =>
        refine Goes.no hTT rfl rfl rfl ?_
        refine Goes.no hTT rfl rfl rfl ?_
        have hi : 0 ≤ i ∧ i < x.length := by unfold inM at hin; simpa using hin
        obtain ⟨i, rfl⟩ := Int.eq_ofNat_of_zero_le hi.1
        have hk : i / 64 < 8 := by omega
        have hbl : (bitsL ws x).length = 10 := by simp [bitsL, h1]
        have hbit := h3 (i / 64) (i % 64) (by omega)
        rw [show 64 * (i / 64) + i % 64 = i from by omega] at hbit
        have hxi : x.getD i false = false := by have := hha; unfold hasM at this; simpa using this
        have hp2 : (2 : Nat) ^ (i % 64) < 2 ^ 64 := Nat.pow_lt_pow_right (by decide) (by omega)
        obtain ⟨nw, hnw⟩ : ∃ nw, nw = ws.getD (i / 64) 0 ^^^ 2 ^ (i % 64) := ⟨_, rfl⟩
        refine Goes.drawn (q := 14) None' hTT mixed (by kernel_rfl) rfl ?_
        intro hB
        refine Drawn.div hTT hB rfl (by omega) (quo64 (by omega) (by omega)) rfl ?_
        refine Drawn.index hTT hB rfl (j := (i / 64)) (by omega) (by omega) (by first | rfl | omega | (simp; done) | (simp; omega)) rfl ?_
        refine Drawn.load hTT hB rfl (bits_word h1 h4 hk) (by first | exact fun h => h | (intro h; omega) | assumption) rfl ?_
        refine Drawn.div hTT hB rfl (by omega) (rem_ (by omega)) rfl ?_
        rw [show ((i : Int) % 64) = ((i % 64 : Nat) : Int) from by omega]
        refine Drawn.shift hTT hB rfl (by omega) (sh_one (by omega)) rfl ?_
        refine Drawn.bits hTT hB rfl (bit_xor (h2 _) hp2) rfl ?_
        refine Drawn.index hTT hB rfl (j := (i / 64)) (by omega) (by omega) (by first | rfl | omega | (simp; done) | (simp; omega)) rfl ?_
        rw [← hnw]
        refine Drawn.nil hB ?_
        intro w1 hw1
        refine Goes.adv hTT 400 rfl ?_
        refine Goes.store hTT rfl (hw1.heap' h4) (show setV (bitsL ws x) (0 + i / 64) [.int .u64 (nw : Int)] = some ((ws.set (i / 64) nw).map (fun n : Nat => Value.int .u64 (n : Int)) ++ [Value.int .i64 (x.length : Int), Value.int .i64 (cnt x : Int)]) from by rw [Nat.zero_add, setV_oneL _ _ _ (by rw [hbl]; omega)]; unfold bitsL; rw [set_words (by omega)]) rfl ?_
        intro w2 hb2 hs2 hz2
        refine Goes.adv hTT 400 rfl ?_
        have hcc : w2.cell? ⟨b, 9, none⟩ = some (.int .i64 (cnt x)) := by rw [cell_of hb2]; simp [h1]
        have hcle := cnt_le x
        have hset := cnt_set x i (by omega) true
        have hxi' : x[i]'(by omega) = false := by rw [← hxi, List.getD_eq_getElem?_getD, List.getElem?_eq_getElem (by omega)]; rfl
        rw [hxi'] at hset
        first | refine Goes.yes hTT rfl rfl rfl ?_ | refine Goes.no hTT rfl rfl rfl ?_
        refine Goes.load hTT rfl hcc rfl ?_
        refine Goes.arith hTT rfl (w64 (by simp at hset; omega)) rfl ?_
        refine Goes.store hTT rfl hb2 (show setV ((ws.set (i / 64) nw).map (fun n : Nat => Value.int .u64 (n : Int)) ++ [Value.int .i64 (x.length : Int), Value.int .i64 (cnt x : Int)]) 9 [.int .i64 ((cnt x : Int) + 1)] = some (bitsL (ws.set (i / 64) nw) (x.set i true)) from by rw [setV_oneL _ _ _ (by simp [h1]), List.set_append_right _ _ (by simp [h1])]; unfold bitsL; simp [h1]; simp at hset; omega) rfl ?_
        intro w3 hb3 hs3 hz3
        refine Goes.adv hTT 400 rfl ?_
        have hc3 : Chg (fun z => z = b) w w3 := ((hw1.mono fun _ _ h => h.elim).trans hs2).trans hs3
        have he : setE x i true = 0 := by unfold setE; rw [hin, hha]; rfl
        have hxs : setB x i true = x.set i true := by unfold setB; rw [if_pos he]; simp
        exact Goes.ret1 hTT rfl Tryd.func16 rfl rfl ⟨by rw [he], by rw [hxs]; exact ⟨h.tab.chg hc3 hne, ⟨_, by simp [h1], fun k => by
          rw [getD_setL (by omega)]
          split
          · rw [hnw]; exact Nat.xor_lt_two_pow (h2 _) hp2
          · exact h2 k, fun k j hj => by
          rw [getD_setL (by omega), getD_setL (by omega)]
          by_cases hki : k = i / 64
          · subst hki
            rw [if_pos rfl, hnw, Nat.testBit_xor, Nat.testBit_two_pow, h3 _ j hj]
            by_cases hji : j = i % 64
            · subst hji
              rw [if_pos (by omega), show 64 * (i / 64) + i % 64 = i from by omega, hxi]; simp
            · rw [if_neg (by omega), decide_eq_false (by omega)]; simp
          · rw [if_neg hki, if_neg (by omega)]
            exact h3 k j hj, hb3⟩, by simpa using h.pos, by simpa using h.len⟩, hc3⟩
    | false =>
      refine Goes.no hTT rfl rfl rfl ?_
      refine Goes.yes hTT rfl rfl rfl ?_
      refine Goes.call rfl (bits_Has b x i w h) ?_
      rintro _ _ ⟨rfl, rfl⟩
      refine Goes.adv hTT 400 rfl ?_
      cases hha : hasM x i with
      | false =>
        have he : setE x i false = 9 := by unfold setE; rw [hin, hha]; rfl
        refine Goes.yes hTT rfl rfl rfl ?_
        exact Goes.ret1 hTT rfl Tryd.func16 rfl rfl ⟨by rw [he], hno (by rw [he]; decide), Chg.refl _ _⟩
      | true =>
        refine Goes.no hTT rfl rfl rfl ?_
        have hi : 0 ≤ i ∧ i < x.length := by unfold inM at hin; simpa using hin
        obtain ⟨i, rfl⟩ := Int.eq_ofNat_of_zero_le hi.1
        have hk : i / 64 < 8 := by omega
        have hbl : (bitsL ws x).length = 10 := by simp [bitsL, h1]
        have hbit := h3 (i / 64) (i % 64) (by omega)
        rw [show 64 * (i / 64) + i % 64 = i from by omega] at hbit
        have hxi : x.getD i false = true := by have := hha; unfold hasM at this; simpa using this
        have hp2 : (2 : Nat) ^ (i % 64) < 2 ^ 64 := Nat.pow_lt_pow_right (by decide) (by omega)
        obtain ⟨nw, hnw⟩ : ∃ nw, nw = ws.getD (i / 64) 0 ^^^ 2 ^ (i % 64) := ⟨_, rfl⟩
        refine Goes.drawn (q := 14) None' hTT mixed (by kernel_rfl) rfl ?_
        intro hB
        refine Drawn.div hTT hB rfl (by omega) (quo64 (by omega) (by omega)) rfl ?_
        refine Drawn.index hTT hB rfl (j := (i / 64)) (by omega) (by omega) (by first | rfl | omega | (simp; done) | (simp; omega)) rfl ?_
        refine Drawn.load hTT hB rfl (bits_word h1 h4 hk) (by first | exact fun h => h | (intro h; omega) | assumption) rfl ?_
        refine Drawn.div hTT hB rfl (by omega) (rem_ (by omega)) rfl ?_
        rw [show ((i : Int) % 64) = ((i % 64 : Nat) : Int) from by omega]
        refine Drawn.shift hTT hB rfl (by omega) (sh_one (by omega)) rfl ?_
        refine Drawn.bits hTT hB rfl (bit_xor (h2 _) hp2) rfl ?_
        refine Drawn.index hTT hB rfl (j := (i / 64)) (by omega) (by omega) (by first | rfl | omega | (simp; done) | (simp; omega)) rfl ?_
        rw [← hnw]
        refine Drawn.nil hB ?_
        intro w1 hw1
        refine Goes.adv hTT 400 rfl ?_
        refine Goes.store hTT rfl (hw1.heap' h4) (show setV (bitsL ws x) (0 + i / 64) [.int .u64 (nw : Int)] = some ((ws.set (i / 64) nw).map (fun n : Nat => Value.int .u64 (n : Int)) ++ [Value.int .i64 (x.length : Int), Value.int .i64 (cnt x : Int)]) from by rw [Nat.zero_add, setV_oneL _ _ _ (by rw [hbl]; omega)]; unfold bitsL; rw [set_words (by omega)]) rfl ?_
        intro w2 hb2 hs2 hz2
        refine Goes.adv hTT 400 rfl ?_
        have hcc : w2.cell? ⟨b, 9, none⟩ = some (.int .i64 (cnt x)) := by rw [cell_of hb2]; simp [h1]
        have hcle := cnt_le x
        have hset := cnt_set x i (by omega) false
        have hxi' : x[i]'(by omega) = true := by rw [← hxi, List.getD_eq_getElem?_getD, List.getElem?_eq_getElem (by omega)]; rfl
        rw [hxi'] at hset
        first | refine Goes.yes hTT rfl rfl rfl ?_ | refine Goes.no hTT rfl rfl rfl ?_
        refine Goes.load hTT rfl hcc rfl ?_
        refine Goes.arith hTT rfl (w64 (by simp at hset; omega)) rfl ?_
        refine Goes.store hTT rfl hb2 (show setV ((ws.set (i / 64) nw).map (fun n : Nat => Value.int .u64 (n : Int)) ++ [Value.int .i64 (x.length : Int), Value.int .i64 (cnt x : Int)]) 9 [.int .i64 ((cnt x : Int) - 1)] = some (bitsL (ws.set (i / 64) nw) (x.set i false)) from by rw [setV_oneL _ _ _ (by simp [h1]), List.set_append_right _ _ (by simp [h1])]; unfold bitsL; simp [h1]; simp at hset; omega) rfl ?_
        intro w3 hb3 hs3 hz3
        refine Goes.adv hTT 400 rfl ?_
        have hc3 : Chg (fun z => z = b) w w3 := ((hw1.mono fun _ _ h => h.elim).trans hs2).trans hs3
        have he : setE x i false = 0 := by unfold setE; rw [hin, hha]; rfl
        have hxs : setB x i false = x.set i false := by unfold setB; rw [if_pos he]; simp
        exact Goes.ret1 hTT rfl Tryd.func16 rfl rfl ⟨by rw [he], by rw [hxs]; exact ⟨h.tab.chg hc3 hne, ⟨_, by simp [h1], fun k => by
          rw [getD_setL (by omega)]
          split
          · rw [hnw]; exact Nat.xor_lt_two_pow (h2 _) hp2
          · exact h2 k, fun k j hj => by
          rw [getD_setL (by omega), getD_setL (by omega)]
          by_cases hki : k = i / 64
          · subst hki
            rw [if_pos rfl, hnw, Nat.testBit_xor, Nat.testBit_two_pow, h3 _ j hj]
            by_cases hji : j = i % 64
            · subst hji
              rw [if_pos (by omega), show 64 * (i / 64) + i % 64 = i from by omega, hxi]; simp
            · rw [if_neg (by omega), decide_eq_false (by omega)]; simp
          · rw [if_neg hki, if_neg (by omega)]
            exact h3 k j hj, hb3⟩, by simpa using h.pos, by simpa using h.len⟩, hc3⟩
theorem bits_Set_nil (i : Int) (is : Bool) (w : World) : Does Tryd.prog 16 #[.pointer none, .int .i64 i, .bool is] w (Same (.int .i64 1) w) := by
  refine Does.enter Tryd.func16 rfl Tryd.ntmps16 rfl rfl ?_
  refine Goes.adv hTT 400 rfl ?_
  refine Goes.call rfl (bits_there_nil i w) ?_
  rintro _ _ ⟨rfl, rfl⟩
  refine Goes.adv hTT 400 rfl ?_
  refine Goes.yes hTT rfl rfl rfl ?_
  exact Goes.ret1 hTT rfl Tryd.func16 rfl rfl ⟨rfl, rfl⟩
end Go.Proofs.YtoileikhfgehcaaDoor
