/-
  Layer 3: the statements' own functions answer true.
-/
import Derived.Test.YteklfgglcbdpnaaRef3
namespace Go.Proofs.Yteklfgglcbdpnaa
open Go.RowKit

theorem law_ConfMay (c : Conf) (p : ConfAt) (w : World) (hc : ConfOk w c p) : Does Try.prog 3 #[.agg (confL c p).toArray] w (Grow (.bool true) w) := by
  refine Does.enter Try.func3 rfl Try.ntmps3 rfl rfl ?_
  refine Goes.adv hTT 400 rfl ?_
  refine Goes.alloc hTT rfl ?_
  intro b w1 e1 hb hw1 hz1
  refine Goes.adv hTT 400 rfl ?_
  refine Goes.call rfl (law03_awake w1) ?_
  rintro _ w2 ⟨rfl, hw2⟩
  refine Goes.adv hTT 400 rfl ?_
  refine Goes.loads hTT rfl (hw2.heap' hb) rfl rfl ?_
  refine Goes.call rfl (law03_few c p w2) ?_
  rintro _ w3 ⟨rfl, hw3⟩
  refine Goes.adv hTT 400 rfl ?_
  have hw13 := (hw1.trans hw2).trans hw3
  refine Goes.fork hTT rfl rfl rfl (fun h => ?_) (fun h => ?_)
  · exact Goes.ret1 hTT rfl Try.func3 rfl rfl ⟨rfl, hw13⟩
  · refine Goes.quiet mixed (by kernel_rfl) ?_
    refine Quiet.adv hTT rfl ?_
    refine Quiet.yes hTT rfl rfl rfl ?_
    refine Quiet.loads hTT rfl (hw3.heap' (hw2.heap' hb)) rfl rfl ?_
    refine Quiet.call hTT rfl (fun w' hw' => conf_May c p w' ((hc.chg hw13).chg hw')) rfl ?_
    refine Quiet.loads hTT rfl (hw3.heap' (hw2.heap' hb)) rfl rfl ?_
    refine Quiet.call hTT rfl (fun w' hw' => ref03_May c p w' ((hc.chg hw13).chg hw')) rfl ?_
    refine Quiet.nil ?_
    intro w4 hw4
    refine Goes.adv hTT 400 rfl ?_
    exact Goes.ret1 hTT rfl Try.func3 rfl rfl ⟨bool_v (by simp), hw13.trans hw4⟩
theorem law_ConfTells (c : Conf) (p : ConfAt) (k : Int) (w : World) (hc : ConfOk w c p) : Does Try.prog 4 #[.agg (confL c p).toArray, .int .i64 k] w (Grow (.bool true) w) := by
  refine Does.enter Try.func4 rfl Try.ntmps4 rfl rfl ?_
  refine Goes.adv hTT 400 rfl ?_
  refine Goes.alloc hTT rfl ?_
  intro b w1 e1 hb hw1 hz1
  refine Goes.adv hTT 400 rfl ?_
  refine Goes.call rfl (law03_awake w1) ?_
  rintro _ w2 ⟨rfl, hw2⟩
  refine Goes.adv hTT 400 rfl ?_
  refine Goes.loads hTT rfl (hw2.heap' hb) rfl rfl ?_
  refine Goes.call rfl (law03_few c p w2) ?_
  rintro _ w3 ⟨rfl, hw3⟩
  refine Goes.adv hTT 400 rfl ?_
  have hw13 := (hw1.trans hw2).trans hw3
  refine Goes.fork hTT rfl rfl rfl (fun h => ?_) (fun h => ?_)
  · exact Goes.ret1 hTT rfl Try.func4 rfl rfl ⟨rfl, hw13⟩
  · have hb3 := hw3.heap' (hw2.heap' hb)
    refine Goes.quiet mixed (by kernel_rfl) ?_
    refine Quiet.adv hTT rfl ?_
    refine Quiet.yes hTT rfl rfl rfl ?_
    refine Quiet.loads hTT rfl hb3 rfl rfl ?_
    refine Quiet.call hTT rfl (fun w' hw' => conf_Blocks c p k w' ((hc.chg hw13).chg hw')) rfl ?_
    refine Quiet.loads hTT rfl hb3 rfl rfl ?_
    refine Quiet.call hTT rfl (fun w' hw' => ref03_Blocks c p k w' ((hc.chg hw13).chg hw')) rfl ?_
    refine Quiet.yes hTT rfl (by simp) rfl ?_
    refine Quiet.loads hTT rfl hb3 rfl rfl ?_
    refine Quiet.call hTT rfl (fun w' hw' => conf_Small c p w' ((hc.chg hw13).chg hw')) rfl ?_
    refine Quiet.loads hTT rfl hb3 rfl rfl ?_
    refine Quiet.call hTT rfl (fun w' hw' => ref03_Small c p w' ((hc.chg hw13).chg hw')) rfl ?_
    refine Quiet.yes hTT rfl (by simp) rfl ?_
    refine Quiet.loads hTT rfl hb3 rfl rfl ?_
    refine Quiet.call hTT rfl (fun w' hw' => conf_Large c p w') rfl ?_
    refine Quiet.loads hTT rfl hb3 rfl rfl ?_
    refine Quiet.call hTT rfl (fun w' hw' => ref03_Large c p w') rfl ?_
    refine Quiet.nil ?_
    intro w4 hw4
    refine Goes.adv hTT 400 rfl ?_
    exact Goes.ret1 hTT rfl Try.func4 rfl rfl ⟨bool_v (by simp), hw13.trans hw4⟩
theorem okL_get {page : Int} : ∀ {zs : List Int} {ahead : Int}, okL page ahead zs = true → ∀ i (h : i < zs.length), 8 ≤ zs[i] ∧ zs[i] % 8 = 0 ∧ zs[i] ≤ page ∧ ahead < zs[i] ∧ ∀ j (hj : j < i), zs[j] < zs[i]
  | n :: r, ahead, h, i, hi => by
    simp only [okL, Bool.and_eq_true, decide_eq_true_eq, beq_iff_eq] at h
    obtain ⟨⟨⟨⟨h1, h2⟩, h3⟩, h4⟩, h5⟩ := h
    cases i with
    | zero => exact ⟨h1, h2, h3, h4, fun j hj => by omega⟩
    | succ i =>
      obtain ⟨g1, g2, g3, g4, g5⟩ := okL_get h5 i (by simpa using hi)
      refine ⟨g1, g2, g3, by simp only [List.getElem_cons_succ]; omega, fun j hj => ?_⟩
      cases j with
      | zero => exact g4
      | succ j => exact g5 j (by omega)
theorem classOk_len {zs : List Int} {page : Int} (h : classOk zs page = true) : 0 < zs.length ∧ zs.length ≤ 16 := by
  unfold classOk at h; simp only [Bool.and_eq_true, decide_eq_true_eq] at h; exact h.1
theorem classOk_get {zs : List Int} {page : Int} (h : classOk zs page = true) (i : Nat) (hi : i < zs.length) : 8 ≤ zs.getD i 0 ∧ zs.getD i 0 % 8 = 0 ∧ zs.getD i 0 ≤ page := by
  unfold classOk at h; simp only [Bool.and_eq_true, decide_eq_true_eq] at h
  obtain ⟨g1, g2, g3, _⟩ := okL_get h.2 i hi
  rw [getD_at hi]; exact ⟨g1, g2, g3⟩
theorem classOk_up {zs : List Int} {page : Int} (h : classOk zs page = true) (i : Nat) (hi : i + 1 < zs.length) : zs.getD i 0 < zs.getD (i + 1) 0 := by
  unfold classOk at h; simp only [Bool.and_eq_true, decide_eq_true_eq] at h
  obtain ⟨_, _, _, _, g⟩ := okL_get h.2 (i + 1) hi
  rw [getD_at hi, getD_at (show i < zs.length by omega)]; exact g i (by omega)
theorem mayB_of_zero {c : Conf} (h : (mayM c != 0) = false) : mayB c = true := by
  unfold mayM at h
  cases hh : mayB c with
  | true => rfl
  | false => rw [hh] at h; simp at h
theorem largeM_of {c : Conf} (h : mayB c = true) : largeM c = c.size * (c.size / 8) ∧ 64 ≤ c.size ∧ c.size ≤ 4096 ∧ c.size % 8 = 0 := by
  have h1 := (mayB_iff.1 h).1
  have h2 := sizedM_iff.1 h1
  exact ⟨by unfold largeM; rw [if_pos h1], h2⟩
theorem largeM_le {c : Conf} (h : mayB c = true) : 0 ≤ largeM c ∧ largeM c ≤ 4096 * 512 := by
  obtain ⟨h1, h2, h3, h4⟩ := largeM_of h
  rw [h1]
  exact ⟨Int.mul_nonneg (by omega) (by omega), Int.mul_le_mul (by omega) (by omega) (by omega) (by omega)⟩
theorem smallM_of {c : Conf} (h : mayB c = true) : 8 ≤ smallM c ∧ smallM c ≤ c.size := by
  have h1 := (mayB_iff.1 h).2.2.1
  have h2 := classOk_len h1
  unfold smallM
  rw [if_neg (by omega)]
  have := classOk_get h1 (c.classes.length - 1) (by omega)
  exact ⟨this.1, this.2.2⟩
theorem law_ConfMost (c : Conf) (p : ConfAt) (w : World) (hc : ConfOk w c p) : Does Try.prog 7 #[.agg (confL c p).toArray] w (Grow (.bool true) w) := by
  refine Does.enter Try.func7 rfl Try.ntmps7 rfl rfl ?_
  refine Goes.adv hTT 400 rfl ?_
  refine Goes.alloc hTT rfl ?_
  intro b w1 e1 hb hw1 hz1
  refine Goes.adv hTT 400 rfl ?_
  refine Goes.call rfl (law03_awake w1) ?_
  rintro _ w2 ⟨rfl, hw2⟩
  refine Goes.adv hTT 400 rfl ?_
  refine Goes.loads hTT rfl (hw2.heap' hb) rfl rfl ?_
  refine Goes.call rfl (ref03_May c p w2 ((hc.chg hw1).chg hw2)) ?_
  rintro _ w3 ⟨rfl, hw3⟩
  refine Goes.adv hTT 400 rfl ?_
  have hw13 := (hw1.trans hw2).trans hw3
  refine Goes.fork hTT rfl rfl rfl (fun h => ?_) (fun h => ?_)
  · exact Goes.ret1 hTT rfl Try.func7 rfl rfl ⟨rfl, hw13⟩
  · have hm := mayB_of_zero h
    obtain ⟨l1, l2, l3, l4⟩ := largeM_of hm
    obtain ⟨m1, m2⟩ := largeM_le hm
    obtain ⟨s1, s2⟩ := smallM_of hm
    have hmost := (mayB_iff.1 hm).2.2.2.2.2.2.2.2
    have hb3 := hw3.heap' (hw2.heap' hb)
    refine Goes.loads hTT rfl hb3 rfl rfl ?_
    refine Goes.call rfl (conf_Large c p w3) ?_
    rintro _ w4 ⟨rfl, hw4⟩
    refine Goes.adv hTT 400 rfl ?_
    have hw14 := hw13.trans hw4
    have hb4 := hw4.heap' hb3
    have hc4 := hc.chg hw14
    refine Goes.quiet mixed (by kernel_rfl) ?_
    refine Quiet.adv hTT rfl ?_
    refine Quiet.yes hTT rfl rfl rfl ?_
    refine Quiet.loadb hTT rfl hb4 rfl rfl ?_
    refine Quiet.div hTT rfl (by omega) (rem_ (by omega)) rfl ?_
    refine Quiet.yes hTT rfl (by rw [l1, Int.mul_emod_right]; rfl) rfl ?_
    refine Quiet.loadb hTT rfl hb4 rfl rfl ?_
    refine Quiet.div hTT rfl (by omega) (quo64 (by omega) (by omega)) rfl ?_
    refine Quiet.loadb hTT rfl hb4 rfl rfl ?_
    refine Quiet.div hTT rfl (by omega) (quo64 (by omega) (by omega)) rfl ?_
    refine Quiet.yes hTT rfl (by rw [l1, Int.mul_ediv_cancel_left _ (by omega)]; simp) rfl ?_
    refine Quiet.loads hTT rfl hb4 rfl rfl ?_
    refine Quiet.call hTT rfl (fun w' hw' => conf_Small c p w' (hc4.chg hw')) rfl ?_
    refine Quiet.loadb hTT rfl hb4 rfl rfl ?_
    refine Quiet.yes hTT rfl (decide_eq_true s2) rfl ?_
    refine Quiet.loads hTT rfl hb4 rfl rfl ?_
    refine Quiet.call hTT rfl (fun w' hw' => conf_Small c p w' (hc4.chg hw')) rfl ?_
    refine Quiet.yes hTT rfl (decide_eq_true s1) rfl ?_
    refine Quiet.loadb hTT rfl hb4 rfl rfl ?_
    refine Quiet.nil ?_
    intro w5 hw5
    refine Goes.adv hTT 400 rfl ?_
    exact Goes.ret1 hTT rfl Try.func7 rfl rfl ⟨bool_v (decide_eq_true hmost.2), hw14.trans hw5⟩
theorem law_ConfBlocks (c : Conf) (p : ConfAt) (k : Int) (w : World) (hc : ConfOk w c p) (wk : (Lit.int .u8 k).wf = true) : Does Try.prog 5 #[.agg (confL c p).toArray, .int .u8 k] w (Grow (.bool true) w) := by
  have hk : 0 ≤ k ∧ k ≤ 255 := by simp only [Lit.wf, Bool.and_eq_true, decide_eq_true_eq] at wk; exact wk
  refine Does.enter Try.func5 rfl Try.ntmps5 rfl rfl ?_
  refine Goes.adv hTT 400 rfl ?_
  refine Goes.alloc hTT rfl ?_
  intro b w1 e1 hb hw1 hz1
  refine Goes.adv hTT 400 rfl ?_
  refine Goes.call rfl (law03_awake w1) ?_
  rintro _ w2 ⟨rfl, hw2⟩
  refine Goes.adv hTT 400 rfl ?_
  refine Goes.loads hTT rfl (hw2.heap' hb) rfl rfl ?_
  refine Goes.call rfl (ref03_May c p w2 ((hc.chg hw1).chg hw2)) ?_
  rintro _ w3 ⟨rfl, hw3⟩
  refine Goes.adv hTT 400 rfl ?_
  have hw13 := (hw1.trans hw2).trans hw3
  refine Goes.fork hTT rfl rfl rfl (fun h => ?_) (fun h => ?_)
  · exact Goes.ret1 hTT rfl Try.func5 rfl rfl ⟨rfl, hw13⟩
  · have hm := mayB_of_zero h
    have hb3 := hw3.heap' (hw2.heap' hb)
    have hc3 := hc.chg hw13
    have hcl := (mayB_iff.1 hm).2.2.1
    have hlen := classOk_len hcl
    have hl := hc.lc
    have hsz := largeM_of hm
    have hj : 0 ≤ k % (c.classes.length : Int) ∧ k % (c.classes.length : Int) < c.classes.length := ⟨Int.emod_nonneg _ (by omega), Int.emod_lt_of_pos _ (by omega)⟩
    obtain ⟨j, hje⟩ : ∃ j, j = k % (c.classes.length : Int) := ⟨_, rfl⟩
    rw [← hje] at hj
    have hcls := classOk_get hcl j.toNat (by omega)
    have hb0 : blocksM c j = c.size / c.classes.getD j.toNat 0 := by unfold blocksM; rw [if_pos hj, whole_yes (by omega) (by omega)]
    obtain ⟨q, hq⟩ : ∃ q, q = c.classes.getD j.toNat 0 := ⟨_, rfl⟩
    have hq8 : 8 ≤ q ∧ q ≤ c.size := by rw [hq]; omega
    obtain ⟨v, hv⟩ : ∃ v, v = c.size / q := ⟨_, rfl⟩
    have hb1 : blocksM c j = v := by rw [hb0, ← hq, hv]
    have hv1 : 1 ≤ v := by rw [hv]; exact (Int.le_ediv_iff_mul_le (by omega)).2 (by omega)
    have hv2 : v * q ≤ c.size := by rw [hv]; exact Int.ediv_mul_le _ (by omega)
    have hv0 : 0 ≤ v * q := Int.mul_nonneg (by omega) (by omega)
    have hv3 : c.size < (v + 1) * q := by rw [hv]; exact Int.lt_ediv_add_one_mul_self _ (by omega)
    have hv4 : v ≤ c.size / 8 := (Int.le_ediv_iff_mul_le (by omega)).2 (Int.le_trans (Int.mul_le_mul_of_nonneg_left hq8.1 (by omega)) hv2)
    have hv5 : (v + 1) * q ≤ c.size + q := by rw [Int.add_mul]; omega
    have hmore : blocksM c (j + 1) ≤ v := by
      unfold blocksM
      split
      · rename_i hj1
        have g1 := classOk_get hcl (j + 1).toNat (by omega)
        have g2 := classOk_up hcl j.toNat (by omega)
        rw [whole_yes (by omega) (by omega), hv, hq]
        rw [show (j + 1).toNat = j.toNat + 1 from by omega] at g1 ⊢
        refine (Int.le_ediv_iff_mul_le (by omega)).2 ?_
        exact Int.le_trans (Int.mul_le_mul_of_nonneg_left (by omega) (Int.ediv_nonneg (by omega) (by omega))) (Int.ediv_mul_le _ (by omega))
      · omega
    have hneg : blocksM c (-1 - j) = 0 := by unfold blocksM; rw [if_neg (by omega)]
    refine Goes.arith hTT rfl (w64 (by omega)) rfl ?_
    refine Goes.loadb hTT rfl hb3 rfl rfl ?_
    refine Goes.div hTT rfl (by omega) (rem_ (by omega)) rfl ?_
    rw [← hje]
    refine Goes.loads hTT rfl hb3 rfl rfl ?_
    refine Goes.call rfl (conf_Blocks c p j w3 hc3) ?_
    rintro _ w4 ⟨rfl, hw4⟩
    refine Goes.adv hTT 400 rfl ?_
    have hw14 := hw13.trans hw4
    have hb4 := hw4.heap' hb3
    have hc4 := hc.chg hw14
    rw [hb1]
    refine Goes.loads hTT rfl hb4 rfl rfl ?_
    refine Goes.arith hTT rfl (w64 (by omega)) rfl ?_
    refine Goes.call rfl (conf_Blocks c p (j + 1) w4 hc4) ?_
    rintro _ w5 ⟨rfl, hw5⟩
    refine Goes.adv hTT 400 rfl ?_
    have hw15 := hw14.trans hw5
    have hb5 := hw5.heap' hb4
    have hc5 := hc.chg hw15
    obtain ⟨b1, off, ea, hcell⟩ := hc5.classes j.toNat (by omega)
    obtain ⟨ca, cc, ka, kc⟩ := p
    simp only at ea
    subst ea
    rw [← hq] at hcell
    refine Goes.quiet mixed (by kernel_rfl) ?_
    refine Quiet.adv hTT rfl ?_
    refine Quiet.yes hTT rfl rfl rfl ?_
    refine Quiet.yes hTT rfl (decide_eq_true (by omega)) rfl ?_
    refine Quiet.loadb hTT rfl hb5 rfl rfl ?_
    refine Quiet.div hTT rfl (by omega) (quo64 (by omega) (by omega)) rfl ?_
    refine Quiet.yes hTT rfl (decide_eq_true hv4) rfl ?_
    refine Quiet.loadb hTT rfl hb5 rfl rfl ?_
    refine Quiet.index hTT rfl (j := j.toNat) (by omega) (by omega) (by first | rfl | omega | simp) rfl ?_
    refine Quiet.load hTT rfl hcell rfl ?_
    refine Quiet.arith hTT rfl (w64 (by omega)) rfl ?_
    refine Quiet.loadb hTT rfl hb5 rfl rfl ?_
    refine Quiet.yes hTT rfl (decide_eq_true hv2) rfl ?_
    refine Quiet.arith hTT rfl (w64 (by omega)) rfl ?_
    refine Quiet.loadb hTT rfl hb5 rfl rfl ?_
    refine Quiet.index hTT rfl (j := j.toNat) (by omega) (by omega) (by first | rfl | omega | simp) rfl ?_
    refine Quiet.load hTT rfl hcell rfl ?_
    refine Quiet.arith hTT rfl (w64 (by omega)) rfl ?_
    refine Quiet.loadb hTT rfl hb5 rfl rfl ?_
    refine Quiet.yes hTT rfl (decide_eq_true hv3) rfl ?_
    refine Quiet.yes hTT rfl (decide_eq_true hmore) rfl ?_
    refine Quiet.loads hTT rfl hb5 rfl rfl ?_
    refine Quiet.arith hTT rfl (w64 (by omega)) rfl ?_
    refine Quiet.call hTT rfl (fun w' hw' => conf_Blocks c _ (-1 - j) w' (hc5.chg hw')) rfl ?_
    refine Quiet.nil ?_
    intro w6 hw6
    refine Goes.adv hTT 400 rfl ?_
    exact Goes.ret1 hTT rfl Try.func5 rfl rfl ⟨bool_v (by rw [hneg]; rfl), hw15.trans hw6⟩
end Go.Proofs.Yteklfgglcbdpnaa
