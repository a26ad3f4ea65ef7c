/-
  Layer 11: whatever is set, or not.
-/
import Derived.Test.YtoileikhfgehcaaDoorLaws11
namespace Go.Proofs.YtoileikhfgehcaaDoor
open Go.RowKit

/-- Elements of so many cells each, one behind another. -/
def RowsB (w : World) (a : Option Addr) (xs : List (Int × Bool)) : Prop :=
  ∀ i (h : i < xs.length), ∃ b off, a = some ⟨b, off, none⟩ ∧ w.cell? ⟨b, off + i * 2, none⟩ = some (.int .i64 xs[i].1) ∧ w.cell? ⟨b, off + i * 2 + 1, none⟩ = some (.bool xs[i].2)
theorem RowsB.chg {w w' : World} {a : Option Addr} {xs : List (Int × Bool)} (h : RowsB w a xs) (hc : Chg None' w w') : RowsB w' a xs := fun i hi => by
  obtain ⟨b, off, e, h1, h2⟩ := h i hi
  exact ⟨b, off, e, below_cell hc.below h1, below_cell hc.below h2⟩
theorem law_BitsActs (n : Int) (a : Option Addr) (cap : Nat) (xs : List (Int × Bool)) (w : World) (hT0 : TabAt w) (hn : 0 ≤ n ∧ n < 256) (hr : RowsB w a xs) (hl : xs.length ≤ 9223372036854775807) :
    Does Tryd.prog 3 #[.int .u8 n, .slice a xs.length cap] w (Grow (.bool true) w) := by
  refine Does.enter Tryd.func3 rfl Tryd.ntmps3 rfl rfl ?_
  refine Goes.adv hTT 400 rfl ?_
  refine Goes.call rfl (law11_awake w hT0) ?_
  rintro _ w1 ⟨rfl, hw1⟩
  refine Goes.adv hTT 400 rfl ?_
  have hT1 := hT0.grow hw1
  refine Goes.fork hTT rfl rfl rfl (fun h0 => ?_) (fun h0 => ?_)
  · exact Goes.ret1 hTT rfl Tryd.func3 rfl rfl ⟨rfl, hw1⟩
  have g0 := of_decide_eq_false h0
  refine Goes.arith hTT rfl (w64 (by omega)) rfl ?_
  refine Goes.div hTT rfl (by omega) (rem_ (by omega)) rfl ?_
  refine Goes.arith hTT rfl (w64 (by omega)) rfl ?_
  obtain ⟨k, hk⟩ := Int.eq_ofNat_of_zero_le (show 0 ≤ 1 + n % 200 by omega)
  have hk1 : 1 ≤ k ∧ k ≤ 200 := by omega
  rw [hk]
  refine Goes.call rfl (bits_New k w1 hT1 (by omega)) ?_
  rintro _ w2 ⟨b, rfl, hb, hB2, hw2⟩
  refine Goes.adv hTT 400 rfl ?_
  refine Goes.call rfl (ref11_New k w2 (by omega)) ?_
  rintro _ w3 ⟨l, rfl, hlx, hl3, hw3⟩
  refine Goes.adv hTT 400 rfl ?_
  have hw03 := (hw1.trans hw2).trans hw3
  have hbS : ∀ z, z < w.heap.size → z = b → False := fun z hz h => by have := hw1.size; omega
  refine Goes.loop (α := Nat × BL) (fun p => [(1, false, .slice a xs.length cap), (5, false, .bool true), (7, false, .pointer (some ⟨b, 0, none⟩)), (9, false, .slice p.2.a p.2.x.length p.2.cap), (11, false, .int .i64 p.1)])
    (fun p w' => p.1 ≤ xs.length ∧ ∃ x, BitsOk w' b x ∧ BlOk w' p.2 ∧ p.2.x = x ∧ Chg None' w w') (fun p => xs.length - p.1) (0, l) ⟨rfl, rfl, rfl, rfl, rfl, trivial⟩ ⟨by simp, _, hB2.grow hw3, hl3, hlx, hw03⟩ ?_
  rintro ⟨i, l⟩ w4 ⟨hi, x, hB4, hl4, hlx4, hw04⟩ ih
  simp only at hi hlx4 hl4
  refine Goes.adv hTT 400 rfl ?_
  refine Goes.fork hTT rfl rfl rfl (fun hc => ?_) (fun hc => ?_)
  · have hlt : i < xs.length := by have := of_decide_eq_true hc; omega
    obtain ⟨ub, off, rfl, hc1, hc2⟩ := hr i hlt
    have hub : ub < w.heap.size := World.block_lt_of_cell? w _ hc1
    refine Goes.drawn (q := 11) None' hTT mixed (by kernel_rfl) rfl ?_
    intro hB
    refine Drawn.index hTT hB rfl (j := (i * 2)) (by omega) (by omega) (by first | rfl | omega | (simp; done) | (simp; omega)) rfl ?_
    refine Drawn.index hTT hB rfl (j := (i * 2)) (by omega) (by omega) (by first | rfl | omega | (simp; done) | (simp; omega)) rfl ?_
    refine Drawn.load hTT hB rfl (below_cell hw04.below hc1) (by first | exact fun h => h | (intro h; omega) | assumption) rfl ?_
    refine Drawn.load hTT hB rfl (below_cell hw04.below hc2) (by first | exact fun h => h | (intro h; omega) | assumption) rfl ?_
    refine Drawn.nil hB ?_
    intro w5 hw5
    refine Goes.adv hTT 400 rfl ?_
    have hw05 := hw04.trans hw5
    refine Goes.call rfl (bits_Set b x xs[i].1 xs[i].2 w5 (hB4.grow hw5)) ?_
    rintro _ w6 ⟨rfl, hB6, hs6⟩
    refine Goes.adv hTT 400 rfl ?_
    have hw06 : Chg None' w w6 := hw05.since hs6 hbS
    have hl6 : BlOk w6 l := (hl4.grow hw5).keep (hB4.grow hw5) hs6
    have hdS : ∀ w', Chg None' w6 w' → Does Tryd.prog 17 #[blV l, .int .i64 xs[i].1, .bool xs[i].2] w' (fun v w2 => Chg None' w' w2 ∧ ∃ l', v = .tuple #[blV l', .int .i64 (setE l.x xs[i].1 xs[i].2)] ∧ l'.x = setB l.x xs[i].1 xs[i].2 ∧ BlOk w2 l') := fun w' hw' => (ref11_Set l xs[i].1 xs[i].2 w' (hl6.grow hw')).mono fun v w2 ⟨l', h1, h2, h3, h4⟩ => ⟨h4, l', h1, h2, h3⟩
    refine Goes.drawn (q := 17) None' hTT mixed (by kernel_rfl) rfl ?_
    intro hB
    refine Drawn.index hTT hB rfl (j := (i * 2)) (by omega) (by omega) (by first | rfl | omega | (simp; done) | (simp; omega)) rfl ?_
    refine Drawn.index hTT hB rfl (j := (i * 2)) (by omega) (by omega) (by first | rfl | omega | (simp; done) | (simp; omega)) rfl ?_
    refine Drawn.load hTT hB rfl (below_cell hw06.below hc1) (by first | exact fun h => h | (intro h; omega) | assumption) rfl ?_
    refine Drawn.load hTT hB rfl (below_cell hw06.below hc2) (by first | exact fun h => h | (intro h; omega) | assumption) rfl ?_
    refine Drawn.callQ hB rfl rfl (hdS) ?_
    rintro _ w7 hw7 ⟨l', rfl, hl'x, hl7⟩
    refine Drawn.adv hTT hB rfl ?_
    refine Drawn.nil hB ?_
    intro w8 hw8
    refine Goes.adv hTT 400 rfl ?_
    have hw78 := hw7.trans hw8
    have hw08 := hw06.trans hw78
    have hB8 := hB6.grow hw78
    have hl8 := hl7.grow hw8
    rw [hlx4] at hl'x
    refine Goes.quiet mixed (by kernel_rfl) ?_
    refine Quiet.adv hTT rfl ?_
    refine Quiet.no hTT rfl (by rw [hlx4]; exact bne_self_eq_false _) rfl ?_
    refine Quiet.call hTT rfl (fun w' hw' => law11_same b _ l' w' (hB8.grow hw') (hl8.grow hw') hl'x) rfl ?_
    refine Quiet.no hTT rfl rfl rfl ?_
    refine Quiet.index hTT rfl (j := (i * 2)) (by omega) (by omega) (by first | rfl | omega | (simp; done) | (simp; omega)) rfl ?_
    refine Quiet.load hTT rfl (below_cell hw08.below hc1) rfl ?_
    have hq1 : ∀ w', Chg None' w8 w' → Does Tryd.prog 19 #[.pointer (some ⟨b, 0, none⟩), .int .i64 xs[i].1] w' (Grow (.bool (hasM (setB x xs[i].1 xs[i].2) xs[i].1)) w') := fun w' hw' => (bits_Has b _ xs[i].1 w' (hB8.grow hw')).grow
    refine Quiet.call hTT rfl (fun w' hw' => hq1 w' hw') rfl ?_
    refine Quiet.index hTT rfl (j := (i * 2)) (by omega) (by omega) (by first | rfl | omega | (simp; done) | (simp; omega)) rfl ?_
    refine Quiet.load hTT rfl (below_cell hw08.below hc1) rfl ?_
    have hq2 : ∀ w', Chg None' w8 w' → Does Tryd.prog 20 #[blV l', .int .i64 xs[i].1] w' (Grow (.bool (hasM l'.x xs[i].1)) w') := fun w' hw' => (ref11_Has l' xs[i].1 w' (hl8.grow hw')).grow
    refine Quiet.call hTT rfl (fun w' hw' => hq2 w' hw') rfl ?_
    refine Quiet.nil ?_
    intro w9 hw9
    refine Goes.adv hTT 400 rfl ?_
    refine Goes.no hTT rfl (by rw [hl'x]; exact bne_self_eq_false _) rfl ?_
    refine Goes.arith hTT rfl (w64 (by omega)) rfl ?_
    exact ih (i + 1, l') _ _ ⟨by simp only; omega, _, hB8.grow hw9, hl8.grow hw9, hl'x, hw08.trans hw9⟩ (by simp only; omega) ⟨rfl, rfl, rfl, rfl, rfl, trivial⟩
  · refine Goes.yes hTT rfl rfl rfl ?_
    refine Goes.call rfl (law11_same b x l w4 hB4 hl4 hlx4) ?_
    rintro _ w5 ⟨rfl, hw5⟩
    refine Goes.adv hTT 400 rfl ?_
    exact Goes.ret1 hTT rfl Tryd.func3 rfl rfl ⟨rfl, hw04.trans hw5⟩
/-- So many places, the first ones set. -/
def fillX (k i : Nat) : List Bool := List.replicate i true ++ List.replicate (k - i) false
theorem fillX_len {k i : Nat} (h : i ≤ k) : (fillX k i).length = k := by simp [fillX]; omega
theorem fillX_get {k i j : Nat} (h : i ≤ k) (hj : j < k) : (fillX k i)[j]? = some (decide (j < i)) := by
  unfold fillX
  rw [List.getElem?_append]
  simp only [List.length_replicate, List.getElem?_replicate]
  by_cases h1 : j < i
  · simp [h1]
  · rw [if_neg h1, if_pos (by omega)]; simp [h1]
theorem fillX_at {k i j : Nat} (h : i ≤ k) (hj : j < (fillX k i).length) : (fillX k i)[j] = decide (j < i) := by
  rw [fillX_len h] at hj
  have := fillX_get h hj
  rw [List.getElem?_eq_getElem (by rw [fillX_len h]; exact hj)] at this
  exact Option.some.inj this
theorem fillX_low {k i : Nat} (h : i < k) : lowM (fillX k i) = i :=
  idx_at (p := fun b => !b) (by rw [fillX_len (by omega)]; exact h) (fun j hj hji => by rw [fillX_at (by omega) hj, decide_eq_true hji]; rfl) (by rw [fillX_at (by omega)]; simp)
theorem fillX_low' {k : Nat} : lowM (fillX k k) = -1 := idx_none (p := fun b => !b) (fun j hj => by rw [fillX_at (Nat.le_refl _) hj, decide_eq_true (by rw [fillX_len (Nat.le_refl _)] at hj; exact hj)]; rfl)
theorem fillX_high {k i : Nat} (h : i < k) : highM (fillX k (i + 1)) = i :=
  ridx_at (p := id) (by rw [fillX_len (by omega)]; omega) (fun j hj hji => by rw [fillX_at (by omega) hj, decide_eq_false (by omega)]; rfl) (by rw [fillX_at (by omega)]; simp)
theorem fillX_high' {k : Nat} : highM (fillX k 0) = -1 := ridx_none (p := id) (fun j hj => by rw [fillX_at (by omega) hj]; simp)
theorem fillX_setE {k i : Nat} (h : i < k) : setE (fillX k i) i true = 0 ∧ setE (fillX k (i + 1)) i false = 0 := by
  constructor
  · unfold setE inM hasM
    rw [fillX_len (by omega), List.getD_eq_getElem?_getD, Int.toNat_natCast, fillX_get (by omega) h]
    simp; omega
  · unfold setE inM hasM
    rw [fillX_len (by omega), List.getD_eq_getElem?_getD, Int.toNat_natCast, fillX_get (by omega) h]
    simp; omega
theorem fillX_set {k i : Nat} (h : i < k) : setB (fillX k i) i true = fillX k (i + 1) ∧ setB (fillX k (i + 1)) i false = fillX k i := by
  obtain ⟨h1, h2⟩ := fillX_setE h
  unfold setB
  rw [if_pos h1, if_pos h2, Int.toNat_natCast]
  constructor
  · apply List.ext_getElem?
    intro j
    rw [List.getElem?_set]
    by_cases hj : j < k
    · rw [fillX_get (by omega) hj, fillX_get (by omega) hj]
      by_cases e : i = j
      · subst e; rw [if_pos rfl, if_pos (by rw [fillX_len (by omega)]; exact hj)]; simp
      · rw [if_neg e]; congr 1; rw [decide_eq_decide]; omega
    · rw [if_neg (by omega), List.getElem?_eq_none (by rw [fillX_len (by omega)]; omega), List.getElem?_eq_none (by rw [fillX_len (by omega)]; omega)]
  · apply List.ext_getElem?
    intro j
    rw [List.getElem?_set]
    by_cases hj : j < k
    · rw [fillX_get (by omega) hj, fillX_get (by omega) hj]
      by_cases e : i = j
      · subst e; rw [if_pos rfl, if_pos (by rw [fillX_len (by omega)]; exact hj)]; simp
      · rw [if_neg e]; congr 1; rw [decide_eq_decide]; omega
    · rw [if_neg (by omega), List.getElem?_eq_none (by rw [fillX_len (by omega)]; omega), List.getElem?_eq_none (by rw [fillX_len (by omega)]; omega)]
theorem law_BitsFill (n : Int) (w : World) (hT0 : TabAt w) (hn : 0 ≤ n ∧ n < 65536) : Does Tryd.prog 5 #[.int .u16 n] w (Grow (.bool true) w) := by
  refine Does.enter Tryd.func5 rfl Tryd.ntmps5 rfl rfl ?_
  refine Goes.adv hTT 400 rfl ?_
  refine Goes.call rfl (law11_awake w hT0) ?_
  rintro _ w1 ⟨rfl, hw1⟩
  refine Goes.adv hTT 400 rfl ?_
  have hT1 := hT0.grow hw1
  refine Goes.arith hTT rfl (w64 (by omega)) rfl ?_
  refine Goes.div hTT rfl (by omega) (rem_ (by omega)) rfl ?_
  refine Goes.arith hTT rfl (w64 (by omega)) rfl ?_
  obtain ⟨k, hk⟩ := Int.eq_ofNat_of_zero_le (show 0 ≤ 1 + n % 512 by omega)
  have hk1 : 1 ≤ k ∧ k ≤ 512 := by omega
  rw [hk]
  refine Goes.call rfl (bits_New k w1 hT1 (by omega)) ?_
  rintro _ w2 ⟨b, rfl, hb, hB2, hw2⟩
  refine Goes.adv hTT 400 rfl ?_
  have hw02 := hw1.trans hw2
  have hbS : ∀ z, z < w.heap.size → z = b → False := fun z hz h => by have := hw1.size; omega
  refine Goes.loop (α := Nat) (fun i => [(3, false, .bool true), (4, false, .int .i64 k), (5, false, .pointer (some ⟨b, 0, none⟩)), (7, false, .int .i64 i)])
    (fun i w' => i ≤ k ∧ BitsOk w' b (fillX k i) ∧ Chg None' w w') (fun i => k - i) 0 ⟨rfl, rfl, rfl, rfl, trivial⟩ ⟨by omega, by unfold fillX; simpa using hB2, hw02⟩ ?_
  rintro i w3 ⟨hi, hB3, hw03⟩ ih
  refine Goes.adv hTT 400 rfl ?_
  refine Goes.fork hTT rfl rfl rfl (fun hc => ?_) (fun hc => ?_)
  · have hlt : i < k := by have := of_decide_eq_true hc; omega
    refine Goes.call rfl (bits_Low b _ w3 hB3) ?_
    rintro _ w4 ⟨rfl, hw4⟩
    refine Goes.adv hTT 400 rfl ?_
    rw [fillX_low hlt]
    refine Goes.no hTT rfl (bne_self_eq_false _) rfl ?_
    refine Goes.call rfl (bits_Set b _ i true w4 (hB3.grow hw4)) ?_
    rintro _ w5 ⟨rfl, hB5, hs5⟩
    refine Goes.adv hTT 400 rfl ?_
    rw [(fillX_setE hlt).1]
    rw [(fillX_set hlt).1] at hB5
    have hw05 : Chg None' w w5 := (hw03.trans hw4).since hs5 hbS
    refine Goes.no hTT rfl rfl rfl ?_
    refine Goes.call rfl (bits_High b _ w5 hB5) ?_
    rintro _ _ ⟨rfl, rfl⟩
    refine Goes.adv hTT 400 rfl ?_
    rw [fillX_high hlt]
    refine Goes.no hTT rfl (bne_self_eq_false _) rfl ?_
    refine Goes.arith hTT rfl (w64 (by omega)) rfl ?_
    exact ih (i + 1) _ _ ⟨by omega, hB5, hw05⟩ (by omega) ⟨rfl, rfl, rfl, rfl, trivial⟩
  · have hik : i = k := by have := of_decide_eq_false hc; omega
    subst hik
    refine Goes.call rfl (bits_Low b _ w3 hB3) ?_
    rintro _ w4 ⟨rfl, hw4⟩
    refine Goes.adv hTT 400 rfl ?_
    rw [fillX_low']
    refine Goes.arith hTT rfl (w64 (by omega)) rfl ?_
    refine Goes.loop (α := Nat) (fun j => [(3, false, .bool true), (5, false, .pointer (some ⟨b, 0, none⟩)), (8, false, .int .i64 (-1)), (9, false, .int .i64 ((j : Int) - 1))])
      (fun j w' => j ≤ i ∧ BitsOk w' b (fillX i j) ∧ Chg None' w w') (fun j => j) i ⟨rfl, rfl, rfl, rfl, trivial⟩ ⟨by omega, hB3.grow hw4, hw03.trans hw4⟩ ?_
    rintro j w5 ⟨hj, hB5, hw05⟩ ih2
    refine Goes.adv hTT 400 rfl ?_
    refine Goes.fork hTT rfl rfl rfl (fun hd => ?_) (fun hd => ?_)
    · have hlt : 0 < j := by have := of_decide_eq_true hd; omega
      obtain ⟨j, rfl⟩ : ∃ m, j = m + 1 := ⟨j - 1, by omega⟩
      rw [show (((j + 1 : Nat) : Int) - 1) = (j : Int) from by omega]
      refine Goes.call rfl (bits_High b _ w5 hB5) ?_
      rintro _ _ ⟨rfl, rfl⟩
      refine Goes.adv hTT 400 rfl ?_
      rw [fillX_high (by omega)]
      refine Goes.no hTT rfl (bne_self_eq_false _) rfl ?_
      refine Goes.call rfl (bits_Set b _ j false w5 hB5) ?_
      rintro _ w6 ⟨rfl, hB6, hs6⟩
      refine Goes.adv hTT 400 rfl ?_
      rw [(fillX_setE (by omega)).2]
      rw [(fillX_set (by omega)).2] at hB6
      have hw06 : Chg None' w w6 := hw05.since hs6 hbS
      refine Goes.no hTT rfl rfl rfl ?_
      refine Goes.call rfl (bits_Low b _ w6 hB6) ?_
      rintro _ w7 ⟨rfl, hw7⟩
      refine Goes.adv hTT 400 rfl ?_
      rw [fillX_low (by omega)]
      refine Goes.no hTT rfl (bne_self_eq_false _) rfl ?_
      refine Goes.arith hTT rfl (w64 (by omega)) rfl ?_
      exact ih2 j _ _ ⟨by omega, hB6.grow hw7, hw06.trans hw7⟩ (by omega) ⟨rfl, rfl, rfl, rfl, trivial⟩
    · have hj0 : j = 0 := by have := of_decide_eq_false hd; omega
      subst hj0
      refine Goes.yes hTT rfl rfl rfl ?_
      refine Goes.yes hTT rfl rfl rfl ?_
      refine Goes.call rfl (bits_High b _ w5 hB5) ?_
      rintro _ _ ⟨rfl, rfl⟩
      refine Goes.adv hTT 400 rfl ?_
      rw [fillX_high']
      refine Goes.yes hTT rfl rfl rfl ?_
      refine Goes.call rfl (bits_Count b _ w5 hB5) ?_
      rintro _ _ ⟨rfl, rfl⟩
      refine Goes.adv hTT 400 rfl ?_
      exact Goes.ret1 hTT rfl Tryd.func5 rfl rfl ⟨bool_v (by unfold fillX; rw [show List.replicate 0 true ++ List.replicate (i - 0) false = List.replicate i false from by simp, cnt_replicate]; rfl), hw05⟩
theorem law_BitsBetween (n : Int) (a : Option Addr) (cap : Nat) (xs : List (Int × Bool)) (w : World) (hT0 : TabAt w) (hn : 0 ≤ n ∧ n < 256) (hr : RowsB w a xs) (hl : xs.length ≤ 9223372036854775807) :
    Does Tryd.prog 6 #[.int .u8 n, .slice a xs.length cap] w (Grow (.bool true) w) := by
  refine Does.enter Tryd.func6 rfl Tryd.ntmps6 rfl rfl ?_
  refine Goes.adv hTT 400 rfl ?_
  refine Goes.call rfl (law11_awake w hT0) ?_
  rintro _ w1 ⟨rfl, hw1⟩
  refine Goes.adv hTT 400 rfl ?_
  have hT1 := hT0.grow hw1
  refine Goes.fork hTT rfl rfl rfl (fun h0 => ?_) (fun h0 => ?_)
  · exact Goes.ret1 hTT rfl Tryd.func6 rfl rfl ⟨rfl, hw1⟩
  have g0 := of_decide_eq_false h0
  refine Goes.arith hTT rfl (w64 (by omega)) rfl ?_
  refine Goes.div hTT rfl (by omega) (rem_ (by omega)) rfl ?_
  refine Goes.arith hTT rfl (w64 (by omega)) rfl ?_
  obtain ⟨k, hk⟩ := Int.eq_ofNat_of_zero_le (show 0 ≤ 1 + n % 200 by omega)
  have hk1 : 1 ≤ k ∧ k ≤ 200 := by omega
  rw [hk]
  refine Goes.call rfl (bits_New k w1 hT1 (by omega)) ?_
  rintro _ w2 ⟨b, rfl, hb, hB2, hw2⟩
  refine Goes.adv hTT 400 rfl ?_
  have hw02 := hw1.trans hw2
  have hbS : ∀ z, z < w.heap.size → z = b → False := fun z hz h => by have := hw1.size; omega
  refine Goes.loop (α := Nat) (fun i => [(1, false, .slice a xs.length cap), (5, false, .bool true), (6, false, .int .i64 k), (7, false, .pointer (some ⟨b, 0, none⟩)), (9, false, .int .i64 i)])
    (fun i w' => i ≤ xs.length ∧ ∃ x, BitsOk w' b x ∧ x.length = k ∧ Chg None' w w') (fun i => xs.length - i) 0 ⟨rfl, rfl, rfl, rfl, rfl, trivial⟩ ⟨by omega, _, hB2, by simp, hw02⟩ ?_
  rintro i w4 ⟨hi, x, hB4, hxl, hw04⟩ ih
  refine Goes.adv hTT 400 rfl ?_
  refine Goes.fork hTT rfl rfl rfl (fun hc => ?_) (fun hc => ?_)
  · have hlt : i < xs.length := by have := of_decide_eq_true hc; omega
    obtain ⟨ub, off, rfl, hc1, hc2⟩ := hr i hlt
    refine Goes.drawn (q := 11) None' hTT mixed (by kernel_rfl) rfl ?_
    intro hB
    refine Drawn.index hTT hB rfl (j := (i * 2)) (by omega) (by omega) (by first | rfl | omega | (simp; done) | (simp; omega)) rfl ?_
    refine Drawn.index hTT hB rfl (j := (i * 2)) (by omega) (by omega) (by first | rfl | omega | (simp; done) | (simp; omega)) rfl ?_
    refine Drawn.load hTT hB rfl (below_cell hw04.below hc1) (by first | exact fun h => h | (intro h; omega) | assumption) rfl ?_
    refine Drawn.load hTT hB rfl (below_cell hw04.below hc2) (by first | exact fun h => h | (intro h; omega) | assumption) rfl ?_
    refine Drawn.nil hB ?_
    intro w5 hw5
    refine Goes.adv hTT 400 rfl ?_
    refine Goes.call rfl (bits_Set b x xs[i].1 xs[i].2 w5 (hB4.grow hw5)) ?_
    rintro _ w6 ⟨rfl, hB6, hs6⟩
    refine Goes.adv hTT 400 rfl ?_
    refine Goes.arith hTT rfl (w64 (by omega)) rfl ?_
    exact ih (i + 1) _ _ ⟨by omega, _, hB6, by rw [setB_length]; exact hxl, (hw04.trans hw5).since hs6 hbS⟩ (by omega) ⟨rfl, rfl, rfl, rfl, rfl, trivial⟩
  · refine Goes.call rfl (bits_Low b x w4 hB4) ?_
    rintro _ w5 ⟨rfl, hw5⟩
    refine Goes.adv hTT 400 rfl ?_
    have hB5 := hB4.grow hw5
    have hw05 := hw04.trans hw5
    obtain ⟨lo, hlo, hloL, hpre, hat⟩ : ∃ lo : Nat, (lowM x = -1 ∧ lo = k ∨ lowM x = lo ∧ lo < k) ∧ lo ≤ k ∧ (∀ j, j < lo → hasM x j = true) ∧ (lo < k → hasM x lo = false) := by
      by_cases hfull : cnt x = x.length
      · exact ⟨k, .inl ⟨idx_none (p := fun b => !b) (fun j hj => by rw [cnt_full hfull j hj]; rfl), rfl⟩, Nat.le_refl _, fun j hj => by unfold hasM; rw [Int.toNat_natCast, ← getD_is (by omega), cnt_full hfull j (by omega)]; simp, fun h => absurd h (Nat.lt_irrefl _)⟩
      · obtain ⟨j0, hj0, hjf⟩ := cnt_not_full hfull
        have hex : ∃ t, t < x.length ∧ x.getD t false = false ∧ ∀ j, j < t → x.getD j false = true := by
          have key : ∀ m t, t ≤ m → t < x.length → x.getD t false = false → ∃ t, t < x.length ∧ x.getD t false = false ∧ ∀ j, j < t → x.getD j false = true := by
            intro m
            induction m with
            | zero => intro t ht htl htf; exact ⟨t, htl, htf, fun j hj => by omega⟩
            | succ m ihm =>
              intro t ht htl htf
              by_cases hall : ∀ j, j < t → x.getD j false = true
              · exact ⟨t, htl, htf, hall⟩
              · have : ∃ j, j < t ∧ x.getD j false = false := by
                  apply Classical.byContradiction
                  intro hno
                  apply hall
                  intro j hj
                  cases hh : x.getD j false with
                  | true => rfl
                  | false => exact (hno ⟨j, hj, hh⟩).elim
                obtain ⟨j, hj, hjf⟩ := this
                exact ihm j (by omega) (by omega) hjf
          exact key j0 j0 (Nat.le_refl _) hj0 (by rw [← getD_is hj0]; exact hjf)
        obtain ⟨t, ht1, ht2, ht3⟩ := hex
        exact ⟨t, .inr ⟨idx_at (p := fun b => !b) ht1 (fun j hj hjt => by rw [getD_is hj, ht3 j hjt]; rfl) (by rw [getD_is ht1, ht2]; rfl), by omega⟩, by omega, fun j hj => by unfold hasM; rw [Int.toNat_natCast, ht3 j hj]; simp, fun _ => by unfold hasM; rw [Int.toNat_natCast, ht2]; simp⟩
    obtain ⟨hh, hhigh⟩ : ∃ hh : Int, highM x = hh ∧ (hh = -1 ∨ hasM x hh = true) ∧ (∀ j : Nat, hh < j → hasM x j = false) := by
      by_cases hz : cnt x = 0
      · refine ⟨-1, ridx_none (p := id) (fun j hj => cnt_zero hz j hj), .inl rfl, fun j _ => ?_⟩
        unfold hasM
        rw [Int.toNat_natCast]
        by_cases hj : j < x.length
        · rw [← getD_is hj, cnt_zero hz j hj]; simp
        · rw [List.getD_eq_getElem?_getD, List.getElem?_eq_none (by omega)]; simp
      · have hex : ∃ t, t < x.length ∧ x.getD t false = true ∧ ∀ j, t < j → x.getD j false = false := by
          have key : ∀ m, m ≤ x.length → (∀ j, m ≤ j → x.getD j false = false) → (∀ j, x.getD j false = false) ∨ ∃ t, t < x.length ∧ x.getD t false = true ∧ ∀ j, t < j → x.getD j false = false := by
            intro m
            induction m with
            | zero => intro _ h; exact .inl fun j => h j (Nat.zero_le _)
            | succ m ihm =>
              intro hm h
              cases hb : x.getD m false with
              | true => exact .inr ⟨m, by omega, hb, fun j hj => h j hj⟩
              | false => exact ihm (by omega) fun j hj => (Nat.eq_or_lt_of_le hj).elim (fun e => e ▸ hb) (fun e => h j e)
          rcases key x.length (Nat.le_refl _) (fun j hj => by rw [List.getD_eq_getElem?_getD, List.getElem?_eq_none hj]; rfl) with h | h
          · exfalso
            apply hz
            have hall : x = List.replicate x.length false := by
              apply List.ext_getElem (by simp)
              intro j h1 h2
              rw [getD_is h1, h j]; simp
            rw [hall, cnt_replicate]
          · exact h
        obtain ⟨t, ht1, ht2, ht3⟩ := hex
        refine ⟨t, ridx_at (p := id) ht1 (fun j hj hjt => by rw [getD_is hj]; exact ht3 j hjt) (by rw [getD_is ht1]; exact ht2), .inr (by unfold hasM; rw [Int.toNat_natCast, ht2]; simp), fun j hj => by unfold hasM; rw [Int.toNat_natCast, ht3 j (by omega)]; simp⟩
    obtain ⟨hh1, hh2, hh3⟩ := hhigh
    rcases hlo with ⟨hl1, hl2⟩ | ⟨hl1, hl2⟩
    · replace hl2 := hl2.symm
      subst hl2
      rw [hl1]
      refine Goes.yes hTT rfl rfl rfl ?_
      refine Goes.loop (α := Nat) (fun j => [(5, false, .bool true), (6, false, .int .i64 k), (7, false, .pointer (some ⟨b, 0, none⟩)), (10, false, .int .i64 k), (11, false, .int .i64 j)])
        (fun j w' => j ≤ k ∧ w' = w5) (fun j => k - j) 0 ⟨rfl, rfl, rfl, rfl, rfl, trivial⟩ ⟨by omega, rfl⟩ ?_
      rintro j w6 ⟨hj, hw⟩ ih2
      subst hw
      refine Goes.adv hTT 400 rfl ?_
      refine Goes.fork hTT rfl rfl rfl (fun hd => ?_) (fun hd => ?_)
      · have hlt : j < k := by have := of_decide_eq_true hd; omega
        by_cases h1 : j < k
        · refine Goes.yes hTT rfl (decide_eq_true (by omega)) rfl ?_
          refine Goes.call rfl (bits_Has b x j w6 hB5) ?_
          rintro _ _ ⟨rfl, rfl⟩
          refine Goes.adv hTT 400 rfl ?_
          refine Goes.no hTT rfl (by rw [hpre j h1]; rfl) rfl ?_
          refine Goes.no hTT rfl (by simp; omega) rfl ?_
          refine Goes.call rfl (bits_High b x w6 hB5) ?_
          rintro _ _ ⟨rfl, rfl⟩
          refine Goes.adv hTT 400 rfl ?_
          rw [hh1]
          by_cases h2 : hh < (j : Int)
          · refine Goes.yes hTT rfl (decide_eq_true (by omega)) rfl ?_
            refine Goes.call rfl (bits_Has b x j w6 hB5) ?_
            rintro _ _ ⟨rfl, rfl⟩
            refine Goes.adv hTT 400 rfl ?_
            refine Goes.no hTT rfl (hh3 j h2) rfl ?_
            refine Goes.arith hTT rfl (w64 (by omega)) rfl ?_
            exact ih2 (j + 1) _ _ ⟨by omega, rfl⟩ (by omega) ⟨rfl, rfl, rfl, rfl, rfl, trivial⟩
          · refine Goes.no hTT rfl (decide_eq_false (by omega)) rfl ?_
            refine Goes.arith hTT rfl (w64 (by omega)) rfl ?_
            exact ih2 (j + 1) _ _ ⟨by omega, rfl⟩ (by omega) ⟨rfl, rfl, rfl, rfl, rfl, trivial⟩
        · refine Goes.no hTT rfl (decide_eq_false (by omega)) rfl ?_
          by_cases h3 : j = k
          · subst h3
            refine Goes.yes hTT rfl (beq_self_eq_true _) rfl ?_
            refine Goes.call rfl (bits_Has b x j w6 hB5) ?_
            rintro _ _ ⟨rfl, rfl⟩
            refine Goes.adv hTT 400 rfl ?_
            refine Goes.no hTT rfl (hat hlt) rfl ?_
            refine Goes.call rfl (bits_High b x w6 hB5) ?_
            rintro _ _ ⟨rfl, rfl⟩
            refine Goes.adv hTT 400 rfl ?_
            rw [hh1]
            by_cases h2 : hh < (j : Int)
            · refine Goes.yes hTT rfl (decide_eq_true (by omega)) rfl ?_
              refine Goes.call rfl (bits_Has b x j w6 hB5) ?_
              rintro _ _ ⟨rfl, rfl⟩
              refine Goes.adv hTT 400 rfl ?_
              refine Goes.no hTT rfl (hh3 j h2) rfl ?_
              refine Goes.arith hTT rfl (w64 (by omega)) rfl ?_
              exact ih2 (j + 1) _ _ ⟨by omega, rfl⟩ (by omega) ⟨rfl, rfl, rfl, rfl, rfl, trivial⟩
            · refine Goes.no hTT rfl (decide_eq_false (by omega)) rfl ?_
              refine Goes.arith hTT rfl (w64 (by omega)) rfl ?_
              exact ih2 (j + 1) _ _ ⟨by omega, rfl⟩ (by omega) ⟨rfl, rfl, rfl, rfl, rfl, trivial⟩
          · refine Goes.no hTT rfl (by simp; omega) rfl ?_
            refine Goes.call rfl (bits_High b x w6 hB5) ?_
            rintro _ _ ⟨rfl, rfl⟩
            refine Goes.adv hTT 400 rfl ?_
            rw [hh1]
            by_cases h2 : hh < (j : Int)
            · refine Goes.yes hTT rfl (decide_eq_true (by omega)) rfl ?_
              refine Goes.call rfl (bits_Has b x j w6 hB5) ?_
              rintro _ _ ⟨rfl, rfl⟩
              refine Goes.adv hTT 400 rfl ?_
              refine Goes.no hTT rfl (hh3 j h2) rfl ?_
              refine Goes.arith hTT rfl (w64 (by omega)) rfl ?_
              exact ih2 (j + 1) _ _ ⟨by omega, rfl⟩ (by omega) ⟨rfl, rfl, rfl, rfl, rfl, trivial⟩
            · refine Goes.no hTT rfl (decide_eq_false (by omega)) rfl ?_
              refine Goes.arith hTT rfl (w64 (by omega)) rfl ?_
              exact ih2 (j + 1) _ _ ⟨by omega, rfl⟩ (by omega) ⟨rfl, rfl, rfl, rfl, rfl, trivial⟩
      · refine Goes.yes hTT rfl rfl rfl ?_
        refine Goes.yes hTT rfl (decide_eq_true (by omega)) rfl ?_
        refine Goes.yes hTT rfl (decide_eq_true (by omega)) rfl ?_
        refine Goes.call rfl (bits_High b x w6 hB5) ?_
        rintro _ _ ⟨rfl, rfl⟩
        refine Goes.adv hTT 400 rfl ?_
        rw [hh1]
        have hko : hasM x k = false := by unfold hasM; rw [Int.toNat_natCast, List.getD_eq_getElem?_getD, List.getElem?_eq_none (by omega)]; simp
        by_cases h4 : hh = -1
        · subst h4
          refine Goes.yes hTT rfl rfl rfl ?_
          refine Goes.call rfl (bits_Has b x k w6 hB5) ?_
          rintro _ _ ⟨rfl, rfl⟩
          refine Goes.adv hTT 400 rfl ?_
          refine Goes.yes hTT rfl (by rw [hko]; rfl) rfl ?_
          refine Goes.call rfl (bits_Has b x (-1) w6 hB5) ?_
          rintro _ _ ⟨rfl, rfl⟩
          refine Goes.adv hTT 400 rfl ?_
          exact Goes.ret1 hTT rfl Tryd.func6 rfl rfl ⟨rfl, hw05⟩
        · refine Goes.no hTT rfl (by simpa using h4) rfl ?_
          refine Goes.call rfl (bits_High b x w6 hB5) ?_
          rintro _ _ ⟨rfl, rfl⟩
          refine Goes.adv hTT 400 rfl ?_
          rw [hh1]
          refine Goes.call rfl (bits_Has b x hh w6 hB5) ?_
          rintro _ _ ⟨rfl, rfl⟩
          refine Goes.adv hTT 400 rfl ?_
          have hhas : hasM x hh = true := by rcases hh2 with h | h; exact absurd h h4; exact h
          refine Goes.yes hTT rfl hhas rfl ?_
          refine Goes.call rfl (bits_Has b x k w6 hB5) ?_
          rintro _ _ ⟨rfl, rfl⟩
          refine Goes.adv hTT 400 rfl ?_
          refine Goes.yes hTT rfl (by rw [hko]; rfl) rfl ?_
          refine Goes.call rfl (bits_Has b x (-1) w6 hB5) ?_
          rintro _ _ ⟨rfl, rfl⟩
          refine Goes.adv hTT 400 rfl ?_
          exact Goes.ret1 hTT rfl Tryd.func6 rfl rfl ⟨rfl, hw05⟩
    · rw [hl1]
      refine Goes.no hTT rfl (beq_eq_false_iff_ne.mpr (by omega)) rfl ?_
      refine Goes.loop (α := Nat) (fun j => [(5, false, .bool true), (6, false, .int .i64 k), (7, false, .pointer (some ⟨b, 0, none⟩)), (10, false, .int .i64 lo), (11, false, .int .i64 j)])
        (fun j w' => j ≤ k ∧ w' = w5) (fun j => k - j) 0 ⟨rfl, rfl, rfl, rfl, rfl, trivial⟩ ⟨by omega, rfl⟩ ?_
      rintro j w6 ⟨hj, hw⟩ ih2
      subst hw
      refine Goes.adv hTT 400 rfl ?_
      refine Goes.fork hTT rfl rfl rfl (fun hd => ?_) (fun hd => ?_)
      · have hlt : j < k := by have := of_decide_eq_true hd; omega
        by_cases h1 : j < lo
        · refine Goes.yes hTT rfl (decide_eq_true (by omega)) rfl ?_
          refine Goes.call rfl (bits_Has b x j w6 hB5) ?_
          rintro _ _ ⟨rfl, rfl⟩
          refine Goes.adv hTT 400 rfl ?_
          refine Goes.no hTT rfl (by rw [hpre j h1]; rfl) rfl ?_
          refine Goes.no hTT rfl (by simp; omega) rfl ?_
          refine Goes.call rfl (bits_High b x w6 hB5) ?_
          rintro _ _ ⟨rfl, rfl⟩
          refine Goes.adv hTT 400 rfl ?_
          rw [hh1]
          by_cases h2 : hh < (j : Int)
          · refine Goes.yes hTT rfl (decide_eq_true (by omega)) rfl ?_
            refine Goes.call rfl (bits_Has b x j w6 hB5) ?_
            rintro _ _ ⟨rfl, rfl⟩
            refine Goes.adv hTT 400 rfl ?_
            refine Goes.no hTT rfl (hh3 j h2) rfl ?_
            refine Goes.arith hTT rfl (w64 (by omega)) rfl ?_
            exact ih2 (j + 1) _ _ ⟨by omega, rfl⟩ (by omega) ⟨rfl, rfl, rfl, rfl, rfl, trivial⟩
          · refine Goes.no hTT rfl (decide_eq_false (by omega)) rfl ?_
            refine Goes.arith hTT rfl (w64 (by omega)) rfl ?_
            exact ih2 (j + 1) _ _ ⟨by omega, rfl⟩ (by omega) ⟨rfl, rfl, rfl, rfl, rfl, trivial⟩
        · refine Goes.no hTT rfl (decide_eq_false (by omega)) rfl ?_
          by_cases h3 : j = lo
          · subst h3
            refine Goes.yes hTT rfl (beq_self_eq_true _) rfl ?_
            refine Goes.call rfl (bits_Has b x j w6 hB5) ?_
            rintro _ _ ⟨rfl, rfl⟩
            refine Goes.adv hTT 400 rfl ?_
            refine Goes.no hTT rfl (hat hlt) rfl ?_
            refine Goes.call rfl (bits_High b x w6 hB5) ?_
            rintro _ _ ⟨rfl, rfl⟩
            refine Goes.adv hTT 400 rfl ?_
            rw [hh1]
            by_cases h2 : hh < (j : Int)
            · refine Goes.yes hTT rfl (decide_eq_true (by omega)) rfl ?_
              refine Goes.call rfl (bits_Has b x j w6 hB5) ?_
              rintro _ _ ⟨rfl, rfl⟩
              refine Goes.adv hTT 400 rfl ?_
              refine Goes.no hTT rfl (hh3 j h2) rfl ?_
              refine Goes.arith hTT rfl (w64 (by omega)) rfl ?_
              exact ih2 (j + 1) _ _ ⟨by omega, rfl⟩ (by omega) ⟨rfl, rfl, rfl, rfl, rfl, trivial⟩
            · refine Goes.no hTT rfl (decide_eq_false (by omega)) rfl ?_
              refine Goes.arith hTT rfl (w64 (by omega)) rfl ?_
              exact ih2 (j + 1) _ _ ⟨by omega, rfl⟩ (by omega) ⟨rfl, rfl, rfl, rfl, rfl, trivial⟩
          · refine Goes.no hTT rfl (by simp; omega) rfl ?_
            refine Goes.call rfl (bits_High b x w6 hB5) ?_
            rintro _ _ ⟨rfl, rfl⟩
            refine Goes.adv hTT 400 rfl ?_
            rw [hh1]
            by_cases h2 : hh < (j : Int)
            · refine Goes.yes hTT rfl (decide_eq_true (by omega)) rfl ?_
              refine Goes.call rfl (bits_Has b x j w6 hB5) ?_
              rintro _ _ ⟨rfl, rfl⟩
              refine Goes.adv hTT 400 rfl ?_
              refine Goes.no hTT rfl (hh3 j h2) rfl ?_
              refine Goes.arith hTT rfl (w64 (by omega)) rfl ?_
              exact ih2 (j + 1) _ _ ⟨by omega, rfl⟩ (by omega) ⟨rfl, rfl, rfl, rfl, rfl, trivial⟩
            · refine Goes.no hTT rfl (decide_eq_false (by omega)) rfl ?_
              refine Goes.arith hTT rfl (w64 (by omega)) rfl ?_
              exact ih2 (j + 1) _ _ ⟨by omega, rfl⟩ (by omega) ⟨rfl, rfl, rfl, rfl, rfl, trivial⟩
      · refine Goes.yes hTT rfl rfl rfl ?_
        refine Goes.yes hTT rfl (decide_eq_true (by omega)) rfl ?_
        refine Goes.yes hTT rfl (decide_eq_true (by omega)) rfl ?_
        refine Goes.call rfl (bits_High b x w6 hB5) ?_
        rintro _ _ ⟨rfl, rfl⟩
        refine Goes.adv hTT 400 rfl ?_
        rw [hh1]
        have hko : hasM x k = false := by unfold hasM; rw [Int.toNat_natCast, List.getD_eq_getElem?_getD, List.getElem?_eq_none (by omega)]; simp
        by_cases h4 : hh = -1
        · subst h4
          refine Goes.yes hTT rfl rfl rfl ?_
          refine Goes.call rfl (bits_Has b x k w6 hB5) ?_
          rintro _ _ ⟨rfl, rfl⟩
          refine Goes.adv hTT 400 rfl ?_
          refine Goes.yes hTT rfl (by rw [hko]; rfl) rfl ?_
          refine Goes.call rfl (bits_Has b x (-1) w6 hB5) ?_
          rintro _ _ ⟨rfl, rfl⟩
          refine Goes.adv hTT 400 rfl ?_
          exact Goes.ret1 hTT rfl Tryd.func6 rfl rfl ⟨rfl, hw05⟩
        · refine Goes.no hTT rfl (by simpa using h4) rfl ?_
          refine Goes.call rfl (bits_High b x w6 hB5) ?_
          rintro _ _ ⟨rfl, rfl⟩
          refine Goes.adv hTT 400 rfl ?_
          rw [hh1]
          refine Goes.call rfl (bits_Has b x hh w6 hB5) ?_
          rintro _ _ ⟨rfl, rfl⟩
          refine Goes.adv hTT 400 rfl ?_
          have hhas : hasM x hh = true := by rcases hh2 with h | h; exact absurd h h4; exact h
          refine Goes.yes hTT rfl hhas rfl ?_
          refine Goes.call rfl (bits_Has b x k w6 hB5) ?_
          rintro _ _ ⟨rfl, rfl⟩
          refine Goes.adv hTT 400 rfl ?_
          refine Goes.yes hTT rfl (by rw [hko]; rfl) rfl ?_
          refine Goes.call rfl (bits_Has b x (-1) w6 hB5) ?_
          rintro _ _ ⟨rfl, rfl⟩
          refine Goes.adv hTT 400 rfl ?_
          exact Goes.ret1 hTT rfl Tryd.func6 rfl rfl ⟨rfl, hw05⟩
end Go.Proofs.YtoileikhfgehcaaDoor
