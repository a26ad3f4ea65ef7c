/-
  Layer 11: what the document's functions answer; the statements' own small ones.
-/
import Derived.Test.YtoileikhfgehcaaDoorBits3
namespace Go.Proofs.YtoileikhfgehcaaDoor
open Go.RowKit

/-- The document's places: where they lie. -/
structure BL where
  a : Option Addr
  cap : Nat
  x : List Bool
abbrev blV (l : BL) : Value := .slice l.a l.x.length l.cap
structure BlOk (w : World) (l : BL) : Prop where
  rd : RdB w l.a l.x
  len : l.x.length ≤ 512
theorem BlOk.grow {w w' : World} {l : BL} (h : BlOk w l) (hc : Chg None' w w') : BlOk w' l := ⟨h.rd.chg hc, h.len⟩
theorem BlOk.keep {w w' : World} {l : BL} {b : Nat} {x : List Bool} (h : BlOk w l) (hb : BitsOk w b x) (hc : Chg (fun z => z = b) w w') : BlOk w' l := by
  obtain ⟨ws, h1, h2, h3, h4⟩ := hb.ws
  exact ⟨h.rd.keep h4 (by intro y hy z e; simp [bitsL] at hy; subst e; rcases hy with ⟨_, _, h⟩ | h | h <;> cases h) hc, h.len⟩
theorem zeroRow_bools (m : Nat) : zeroRow (cellsL (Value.bool false)) m = (List.replicate m false).map Value.bool := by
  rw [show cellsL (Value.bool false) = [Value.bool false] from rfl, zeroRow_one, List.map_replicate]
theorem ref11_New (m : Nat) (w : World) (h : 1 ≤ m ∧ m ≤ 512) : Does Tryd.prog 15 #[.int .i64 m] w (fun v w' => ∃ l, v = .tuple #[blV l, .int .i64 0] ∧ l.x = List.replicate m false ∧ BlOk w' l ∧ Chg None' w w') := by
  have hlen : (List.replicate m false).length = m := List.length_replicate
  refine Does.enter Tryd.func15 rfl Tryd.ntmps15 rfl rfl ?_
  refine Goes.adv hTT 400 rfl ?_
  refine Goes.no hTT rfl (decide_eq_false (by omega)) rfl ?_
  refine Goes.no hTT rfl (decide_eq_false (by omega)) rfl ?_
  refine Goes.make hTT (m := m) (k := m) rfl rfl rfl (Nat.le_refl _) (by simp only; omega) (by omega) ?_
  intro b w1 e1 hb hw1 hz1
  refine Goes.adv hTT 400 rfl ?_
  rw [zeroRow_bools] at hb
  exact Goes.ret2 hTT rfl Tryd.func15 rfl rfl rfl ⟨⟨some ⟨b, 0, none⟩, m, List.replicate m false⟩, by show _ = Value.tuple #[.slice _ (List.replicate m false).length _, _]; rw [hlen], rfl, ⟨RdB.of hb rfl, by simp only; omega⟩, hw1⟩
theorem ref11_New_no (m : Int) (w : World) (h : ¬ (1 ≤ m ∧ m ≤ 512)) : Does Tryd.prog 15 #[.int .i64 m] w (Same (.tuple #[.slice none 0 0, .int .i64 1]) w) := by
  refine Does.enter Tryd.func15 rfl Tryd.ntmps15 rfl rfl ?_
  refine Goes.adv hTT 400 rfl ?_
  refine Goes.fork hTT rfl rfl rfl (fun h1 => ?_) (fun h1 => ?_)
  · exact Goes.ret2 hTT rfl Tryd.func15 rfl rfl rfl ⟨rfl, rfl⟩
  have g1 := of_decide_eq_false h1
  refine Goes.yes hTT rfl (decide_eq_true (by omega)) rfl ?_
  exact Goes.ret2 hTT rfl Tryd.func15 rfl rfl rfl ⟨rfl, rfl⟩
theorem RdB.at {w : World} {a : Option Addr} {x : List Bool} (h : RdB w a x) {i : Nat} (hi : i < x.length) : ∃ b off, a = some ⟨b, off, none⟩ ∧ w.cell? ⟨b, off + i, none⟩ = some (.bool (x.getD i false)) := by
  obtain ⟨b, off, e, hc⟩ := h i hi
  exact ⟨b, off, e, by rw [hc, getD_is hi]⟩
theorem ref11_Has (l : BL) (i : Int) (w : World) (h : BlOk w l) : Does Tryd.prog 20 #[blV l, .int .i64 i] w (Same (.bool (hasM l.x i)) w) := by
  obtain ⟨a, cap, x⟩ := l
  have hl := h.len
  simp only at hl
  show Does Tryd.prog 20 #[.slice a x.length cap, .int .i64 i] w _
  refine Does.enter Tryd.func20 rfl Tryd.ntmps20 rfl rfl ?_
  refine Goes.adv hTT 400 rfl ?_
  refine Goes.fork hTT rfl rfl rfl (fun h1 => ?_) (fun h1 => ?_)
  · have g1 : 0 ≤ i := of_decide_eq_true h1
    refine Goes.fork hTT rfl rfl rfl (fun h2 => ?_) (fun h2 => ?_)
    · have g2 := of_decide_eq_true h2
      obtain ⟨i, rfl⟩ := Int.eq_ofNat_of_zero_le g1
      obtain ⟨b, off, e, hc⟩ := h.rd.at (i := i) (by simp only; omega)
      simp only at e hc
      subst e
      refine Goes.index hTT rfl (j := i) (by omega) (by omega) (by first | rfl | omega | (simp; done) | (simp; omega)) rfl ?_
      refine Goes.load hTT rfl hc rfl ?_
      exact Goes.ret1 hTT rfl Tryd.func20 rfl rfl ⟨bool_v (by unfold hasM; rw [decide_eq_true g1]; simp), rfl⟩
    · have g2 := of_decide_eq_false h2
      exact Goes.ret1 hTT rfl Tryd.func20 rfl rfl ⟨bool_v (by unfold hasM; rw [decide_eq_true g1, List.getD_eq_getElem?_getD, List.getElem?_eq_none (by simp only; omega)]; rfl), rfl⟩
  · have g1 : ¬ 0 ≤ i := of_decide_eq_false h1
    exact Goes.ret1 hTT rfl Tryd.func20 rfl rfl ⟨bool_v (by unfold hasM; rw [decide_eq_false g1]; rfl), rfl⟩
theorem ref11_Low (l : BL) (w : World) (h : BlOk w l) : Does Tryd.prog 39 #[blV l] w (Same (.int .i64 (lowM l.x)) w) := by
  obtain ⟨a, cap, x⟩ := l
  have hl := h.len
  have hr := h.rd
  simp only at hl hr
  show Does Tryd.prog 39 #[.slice a x.length cap] w _
  refine Does.enter Tryd.func39 rfl Tryd.ntmps39 rfl rfl ?_
  refine Goes.adv hTT 400 rfl ?_
  refine Goes.loop (α := Nat) (fun k => [(0, false, .slice a x.length cap), (3, false, .int .i64 k)])
    (fun k w' => w' = w ∧ k ≤ x.length ∧ ∀ j (h : j < x.length), j < k → x[j] = true) (fun k => x.length - k) 0 ⟨rfl, rfl, trivial⟩ ⟨rfl, Nat.zero_le _, fun _ _ h => by omega⟩ ?_
  rintro k w1 ⟨hw, hk, hpre⟩ ih
  subst hw
  refine Goes.adv hTT 400 rfl ?_
  refine Goes.fork hTT rfl rfl rfl (fun h0 => ?_) (fun h0 => ?_)
  · have hlt : k < x.length := by have := of_decide_eq_true h0; omega
    obtain ⟨b, off, rfl, hc⟩ := hr k hlt
    refine Goes.index hTT rfl (j := k) (by omega) (by omega) (by first | rfl | omega | (simp; done) | (simp; omega)) rfl ?_
    refine Goes.load hTT rfl hc rfl ?_
    refine Goes.fork hTT rfl rfl rfl (fun hb => ?_) (fun hb => ?_)
    · exact Goes.ret1 hTT rfl Tryd.func39 rfl rfl ⟨int_v (idx_at (p := fun b => !b) hlt (fun j hj hjk => by rw [hpre j hj hjk]; rfl) (by simpa using hb)).symm, rfl⟩
    · refine Goes.arith hTT rfl (w64 (by omega)) rfl ?_
      exact ih (k + 1) _ _ ⟨rfl, hlt, fun j hj hjk => by
        by_cases e : j = k
        · subst e; simpa using hb
        · exact hpre j hj (by omega)⟩ (by omega) ⟨rfl, rfl, trivial⟩
  · have hge : k = x.length := by have := of_decide_eq_false h0; omega
    exact Goes.ret1 hTT rfl Tryd.func39 rfl rfl ⟨int_v (idx_none (p := fun b => !b) (fun j hj => by rw [hpre j hj (by rw [hge]; exact hj)]; rfl)).symm, rfl⟩
theorem ref11_High (l : BL) (w : World) (h : BlOk w l) : Does Tryd.prog 40 #[blV l] w (Same (.int .i64 (highM l.x)) w) := by
  obtain ⟨a, cap, x⟩ := l
  have hl := h.len
  have hr := h.rd
  simp only at hl hr
  show Does Tryd.prog 40 #[.slice a x.length cap] w _
  refine Does.enter Tryd.func40 rfl Tryd.ntmps40 rfl rfl ?_
  refine Goes.adv hTT 400 rfl ?_
  refine Goes.arith hTT rfl (w64 (by omega)) rfl ?_
  refine Goes.loop (α := Nat) (fun k => [(0, false, .slice a x.length cap), (3, false, .int .i64 ((k : Int) - 1))])
    (fun k w' => w' = w ∧ k ≤ x.length ∧ ∀ j (h : j < x.length), k ≤ j → x[j] = false) (fun k => k) x.length ⟨rfl, rfl, trivial⟩ ⟨rfl, Nat.le_refl _, fun _ h1 h2 => absurd h1 (Nat.not_lt.2 h2)⟩ ?_
  rintro k w1 ⟨hw, hk, hpre⟩ ih
  subst hw
  refine Goes.adv hTT 400 rfl ?_
  refine Goes.fork hTT rfl rfl rfl (fun h0 => ?_) (fun h0 => ?_)
  · have hlt : 0 < k := by have := of_decide_eq_true h0; omega
    obtain ⟨k, rfl⟩ : ∃ m, k = m + 1 := ⟨k - 1, by omega⟩
    obtain ⟨b, off, rfl, hc⟩ := hr k (by omega)
    rw [show (((k + 1 : Nat) : Int) - 1) = (k : Int) from by omega]
    refine Goes.index hTT rfl (j := k) (by omega) (by omega) (by first | rfl | omega | (simp; done) | (simp; omega)) rfl ?_
    refine Goes.load hTT rfl hc rfl ?_
    refine Goes.fork hTT rfl rfl rfl (fun hb => ?_) (fun hb => ?_)
    · exact Goes.ret1 hTT rfl Tryd.func40 rfl rfl ⟨int_v (ridx_at (p := id) (by omega) (fun j hj hjk => hpre j hj (by omega)) hb).symm, rfl⟩
    · refine Goes.arith hTT rfl (w64 (by omega)) rfl ?_
      exact ih k _ _ ⟨rfl, by omega, fun j hj hjk => by
        by_cases e : j = k
        · subst e; exact hb
        · exact hpre j hj (by omega)⟩ (by omega) ⟨rfl, rfl, trivial⟩
  · have hge : k = 0 := by have := of_decide_eq_false h0; omega
    exact Goes.ret1 hTT rfl Tryd.func40 rfl rfl ⟨int_v (ridx_none (p := id) (fun j hj => hpre j hj (by omega))).symm, rfl⟩
theorem cnt_take_succ : ∀ (x : List Bool) (k : Nat) (h : k < x.length), cnt (x.take (k + 1)) = cnt (x.take k) + (if x[k] then 1 else 0)
  | [], k, h => by simp at h
  | a :: r, 0, h => by simp [cnt]
  | a :: r, k + 1, h => by
    have := cnt_take_succ r k (by simpa using h)
    simp only [List.take_succ_cons, cnt, List.getElem_cons_succ]
    rw [this]; omega
theorem ref11_Count (l : BL) (w : World) (h : BlOk w l) : Does Tryd.prog 41 #[blV l] w (Same (.int .i64 (cnt l.x)) w) := by
  obtain ⟨a, cap, x⟩ := l
  have hl := h.len
  have hr := h.rd
  simp only at hl hr
  show Does Tryd.prog 41 #[.slice a x.length cap] w _
  refine Does.enter Tryd.func41 rfl Tryd.ntmps41 rfl rfl ?_
  refine Goes.adv hTT 400 rfl ?_
  refine Goes.loop (α := Nat) (fun k => [(0, false, .slice a x.length cap), (3, false, .int .i64 (cnt (x.take k))), (4, false, .int .i64 k)])
    (fun k w' => w' = w ∧ k ≤ x.length) (fun k => x.length - k) 0 ⟨rfl, rfl, rfl, trivial⟩ ⟨rfl, Nat.zero_le _⟩ ?_
  rintro k w1 ⟨hw, hk⟩ ih
  subst hw
  have hcl := cnt_le (x.take k)
  rw [List.length_take] at hcl
  refine Goes.adv hTT 400 rfl ?_
  refine Goes.fork hTT rfl rfl rfl (fun h0 => ?_) (fun h0 => ?_)
  · have hlt : k < x.length := by have := of_decide_eq_true h0; omega
    obtain ⟨b, off, rfl, hc⟩ := hr k hlt
    have hs := cnt_take_succ x k hlt
    refine Goes.index hTT rfl (j := k) (by omega) (by omega) (by first | rfl | omega | (simp; done) | (simp; omega)) rfl ?_
    refine Goes.load hTT rfl hc rfl ?_
    refine Goes.fork hTT rfl rfl rfl (fun hb => ?_) (fun hb => ?_)
    · rw [if_pos hb] at hs
      refine Goes.arith hTT rfl (w64 (by omega)) rfl ?_
      refine Goes.arith hTT rfl (w64 (by omega)) rfl ?_
      exact ih (k + 1) _ _ ⟨rfl, hlt⟩ (by omega) ⟨rfl, by rw [hs]; rfl, rfl, trivial⟩
    · rw [if_neg (by simpa using hb)] at hs
      refine Goes.arith hTT rfl (w64 (by omega)) rfl ?_
      exact ih (k + 1) _ _ ⟨rfl, hlt⟩ (by omega) ⟨rfl, by rw [hs]; rfl, rfl, trivial⟩
  · have hge : k = x.length := by have := of_decide_eq_false h0; omega
    subst hge
    exact Goes.ret1 hTT rfl Tryd.func41 rfl rfl ⟨int_v (by rw [List.take_length]), rfl⟩
theorem plain_bools {x : List Bool} : ∀ u ∈ x.map Value.bool, u.oneCell' = true := by
  intro u hu
  obtain ⟨z, _, rfl⟩ := List.mem_map.1 hu
  rfl
theorem ref11_Set (l : BL) (i : Int) (is : Bool) (w : World) (h : BlOk w l) : Does Tryd.prog 17 #[blV l, .int .i64 i, .bool is] w
    (fun v w' => ∃ l', v = .tuple #[blV l', .int .i64 (setE l.x i is)] ∧ l'.x = setB l.x i is ∧ BlOk w' l' ∧ Chg None' w w') := by
  obtain ⟨a, cap, x⟩ := l
  have hl := h.len
  have hr := h.rd
  simp only at hl hr
  show Does Tryd.prog 17 #[.slice a x.length cap, .int .i64 i, .bool is] w _
  have hsame : setE x i is ≠ 0 → setB x i is = x := fun hn => by unfold setB; rw [if_neg hn]
  have hml : maxLen = 9223372036854775807 := rfl
  refine Does.enter Tryd.func17 rfl Tryd.ntmps17 rfl rfl ?_
  refine Goes.adv hTT 400 rfl ?_
  refine Goes.fork hTT rfl rfl rfl (fun h1 => ?_) (fun h1 => ?_)
  · have he : setE x i is = 1 := by unfold setE; rw [if_pos (by unfold inM; rw [decide_eq_false (show ¬ 0 ≤ i by have := of_decide_eq_true h1; omega)]; rfl)]
    exact Goes.ret2 hTT rfl Tryd.func17 rfl rfl rfl ⟨⟨a, cap, x⟩, by simp only [he], (hsame (by rw [he]; decide)).symm, h, Chg.refl _ _⟩
  have g1 := of_decide_eq_false h1
  refine Goes.fork hTT rfl rfl rfl (fun h2 => ?_) (fun h2 => ?_)
  · have he : setE x i is = 1 := by unfold setE; rw [if_pos (by unfold inM; rw [decide_eq_false (show ¬ i < x.length by have := of_decide_eq_true h2; omega)]; simp)]
    exact Goes.ret2 hTT rfl Tryd.func17 rfl rfl rfl ⟨⟨a, cap, x⟩, by simp only [he], (hsame (by rw [he]; decide)).symm, h, Chg.refl _ _⟩
  have g2 := of_decide_eq_false h2
  obtain ⟨i, rfl⟩ := Int.eq_ofNat_of_zero_le (show 0 ≤ i by omega)
  have hi : i < x.length := by omega
  have hin : inM x i = true := by unfold inM; simp; omega
  have hhas : hasM x i = x[i] := by unfold hasM; simp [hi]
  obtain ⟨b, off, rfl, hc⟩ := hr i hi
  cases is with
  | true =>
    refine Goes.yes hTT rfl rfl rfl ?_
    refine Goes.index hTT rfl (j := i) (by omega) (by omega) (by first | rfl | omega | (simp; done) | (simp; omega)) rfl ?_
    refine Goes.load hTT rfl hc rfl ?_
    cases hx : x[i] with
    | true =>
      have he : setE x i true = 10 := by unfold setE; rw [hin, hhas, hx]; rfl
      refine Goes.yes hTT rfl rfl rfl ?_
      exact Goes.ret2 hTT rfl Tryd.func17 rfl rfl rfl ⟨⟨_, cap, x⟩, by simp only [he], (hsame (by rw [he]; decide)).symm, h, Chg.refl _ _⟩
    | false =>
      refine Goes.no hTT rfl rfl rfl ?_
      refine Goes.no hTT rfl rfl rfl ?_
      have he : setE x i true = 0 := by unfold setE; rw [hin, hhas, hx]; rfl
      have hxs : setB x i true = x.set i true := by unfold setB; rw [if_pos he]; simp
      refine Goes.buildSlice hTT rfl ?_
      intro b3 w3 e3 hb3 hw3 hz3
      refine Goes.adv hTT 400 rfl ?_
      have ho : Own w.heap.size 4 1 w3 (.slice (some ⟨b3, 0, none⟩) 0 0) 0 [] := Own.empty (by omega) hb3
      refine Goes.append (base := w.heap.size) (xs := []) (news := x.map Value.bool) hTT rfl ho hw3.size (by simp) (hr.chg hw3).cells plain_bools (by simp only; omega) ?_
      intro v4 w4 ho4 hs4 hv4
      refine Goes.adv hTT 400 rfl ?_
      have hw4 := ho.since hw3 (Nat.le_refl _) hs4
      obtain ⟨g, cap4, cur, rfl, hg1, hg2, hg3, hg4, hg5⟩ := ho4.form (by omega)
      have hcur : cur.toList = x.map Value.bool ++ cur.toList.drop x.length := by
        have e := List.take_append_drop x.length cur.toList
        rw [show cur.toList.take x.length = x.map Value.bool from by simpa using hg5] at e
        exact e.symm
      obtain ⟨rest, hrest⟩ : ∃ rest, rest = cur.toList.drop x.length := ⟨_, rfl⟩
      rw [← hrest] at hcur
      have hg2' : w4.heap[g]? = some (.cells (x.map Value.bool ++ rest).toArray 4 (0, 0)) := by rw [← hcur]; exact hg2
      have hl4 : 0 + x.length = x.length := by omega
      rw [hl4] at hg3 ⊢
      refine Goes.index hTT rfl (j := i) (by omega) (by omega) (by first | rfl | omega | (simp; done) | (simp; omega)) rfl ?_
      refine Goes.store hTT rfl hg2' (show setV (x.map Value.bool ++ rest) (0 + i) [.bool true] = some ((x.set i true).map Value.bool ++ rest) from by rw [Nat.zero_add, setV_oneL _ _ _ (by simp; omega), List.set_append_left _ _ (by simpa using hi), List.map_set]) rfl ?_
      intro w5 hg5' hs5 hz5
      refine Goes.adv hTT 400 rfl ?_
      have hw5 : Chg None' w w5 := hw4.since hs5 (fun z hz hze => by omega)
      have hsl : (x.set i true).length = x.length := by simp
      exact Goes.ret2 hTT rfl Tryd.func17 rfl rfl rfl ⟨⟨some ⟨g, 0, none⟩, cap4, x.set i true⟩, by show _ = Value.tuple #[.slice _ (x.set i true).length _, _]; rw [hsl, he], hxs.symm, ⟨RdB.of_take hg5' (by simp), by simp only; omega⟩, hw5⟩
  | false =>
    refine Goes.no hTT rfl rfl rfl ?_
    refine Goes.yes hTT rfl rfl rfl ?_
    refine Goes.index hTT rfl (j := i) (by omega) (by omega) (by first | rfl | omega | (simp; done) | (simp; omega)) rfl ?_
    refine Goes.load hTT rfl hc rfl ?_
    cases hx : x[i] with
    | false =>
      have he : setE x i false = 9 := by unfold setE; rw [hin, hhas, hx]; rfl
      refine Goes.yes hTT rfl rfl rfl ?_
      exact Goes.ret2 hTT rfl Tryd.func17 rfl rfl rfl ⟨⟨_, cap, x⟩, by simp only [he], (hsame (by rw [he]; decide)).symm, h, Chg.refl _ _⟩
    | true =>
      refine Goes.no hTT rfl rfl rfl ?_
      have he : setE x i false = 0 := by unfold setE; rw [hin, hhas, hx]; rfl
      have hxs : setB x i false = x.set i false := by unfold setB; rw [if_pos he]; simp
      refine Goes.buildSlice hTT rfl ?_
      intro b3 w3 e3 hb3 hw3 hz3
      refine Goes.adv hTT 400 rfl ?_
      have ho : Own w.heap.size 4 1 w3 (.slice (some ⟨b3, 0, none⟩) 0 0) 0 [] := Own.empty (by omega) hb3
      refine Goes.append (base := w.heap.size) (xs := []) (news := x.map Value.bool) hTT rfl ho hw3.size (by simp) (hr.chg hw3).cells plain_bools (by simp only; omega) ?_
      intro v4 w4 ho4 hs4 hv4
      refine Goes.adv hTT 400 rfl ?_
      have hw4 := ho.since hw3 (Nat.le_refl _) hs4
      obtain ⟨g, cap4, cur, rfl, hg1, hg2, hg3, hg4, hg5⟩ := ho4.form (by omega)
      have hcur : cur.toList = x.map Value.bool ++ cur.toList.drop x.length := by
        have e := List.take_append_drop x.length cur.toList
        rw [show cur.toList.take x.length = x.map Value.bool from by simpa using hg5] at e
        exact e.symm
      obtain ⟨rest, hrest⟩ : ∃ rest, rest = cur.toList.drop x.length := ⟨_, rfl⟩
      rw [← hrest] at hcur
      have hg2' : w4.heap[g]? = some (.cells (x.map Value.bool ++ rest).toArray 4 (0, 0)) := by rw [← hcur]; exact hg2
      have hl4 : 0 + x.length = x.length := by omega
      rw [hl4] at hg3 ⊢
      refine Goes.index hTT rfl (j := i) (by omega) (by omega) (by first | rfl | omega | (simp; done) | (simp; omega)) rfl ?_
      refine Goes.store hTT rfl hg2' (show setV (x.map Value.bool ++ rest) (0 + i) [.bool false] = some ((x.set i false).map Value.bool ++ rest) from by rw [Nat.zero_add, setV_oneL _ _ _ (by simp; omega), List.set_append_left _ _ (by simpa using hi), List.map_set]) rfl ?_
      intro w5 hg5' hs5 hz5
      refine Goes.adv hTT 400 rfl ?_
      have hw5 : Chg None' w w5 := hw4.since hs5 (fun z hz hze => by omega)
      have hsl : (x.set i false).length = x.length := by simp
      exact Goes.ret2 hTT rfl Tryd.func17 rfl rfl rfl ⟨⟨some ⟨g, 0, none⟩, cap4, x.set i false⟩, by show _ = Value.tuple #[.slice _ (x.set i false).length _, _]; rw [hsl, he], hxs.symm, ⟨RdB.of_take hg5' (by simp), by simp only; omega⟩, hw5⟩
end Go.Proofs.YtoileikhfgehcaaDoor
