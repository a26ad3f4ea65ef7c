/-
  Texts put together: Ref21, Ref21b, Ref21d, Cut16, Ref21e, Ref21f, Ref21g, Ref21h, Ref21i, Plain21, Plain21b, Plain21c, Ref21c.
-/
import Derived.Test.YtffimkpllchfcaaPt1
import Derived.Test.YtffimkpllchfcaaRule12
/-
  Layer 21: what the document's functions answer of places.
-/
namespace Go.Proofs.Ytffimkpllchfcaa
open Go.RowKit

def fewM (c : Conf) : Bool := mayB c && decide (c.size ≤ 256) && decide (c.pages ≤ 24) && decide (c.slots ≤ 20)
theorem ref03_Few (c : Conf) (p : ConfAt) (w : World) (hc : ConfOk w c p) : Does Try.prog 9 #[.agg (confL c p).toArray] w (Grow (.bool (fewM c)) w) := by
  refine Does.enter Try.func9 rfl Try.ntmps9 rfl rfl ?_
  refine Goes.adv hTT 400 rfl ?_
  refine Goes.alloc hTT rfl ?_
  intro cb w1 e1 hcb hw1 hz1
  refine Goes.adv hTT 400 rfl ?_
  replace hcb : w1.heap[cb]? = some (.cells (confL c p).toArray 24 (0, 0)) := hcb
  refine Goes.loads hTT rfl hcb rfl rfl ?_
  refine Goes.call rfl (ref03_May c p w1 (hc.chg hw1)) ?_
  rintro _ w2 ⟨rfl, hw2⟩
  refine Goes.adv hTT 400 rfl ?_
  have hw := hw1.trans hw2
  have hcb2 := hw2.heap' hcb
  unfold fewM
  cases hm : mayB c with
  | false =>
    rw [show mayM c = 1 from by unfold mayM; rw [hm]; rfl]
    refine Goes.no hTT rfl rfl rfl ?_
    exact Goes.ret1 hTT rfl Try.func9 rfl rfl ⟨rfl, hw⟩
  | true =>
    rw [show mayM c = 0 from by unfold mayM; rw [hm]; rfl]
    refine Goes.yes hTT rfl rfl rfl ?_
    refine Goes.loadb hTT rfl hcb2 rfl rfl ?_
    refine Goes.fork hTT rfl rfl rfl (fun h1 => ?_) (fun h1 => ?_)
    · refine Goes.loadb hTT rfl hcb2 rfl rfl ?_
      rw [h1]
      refine Goes.fork hTT rfl rfl rfl (fun h2 => ?_) (fun h2 => ?_)
      · refine Goes.loadb hTT rfl hcb2 rfl rfl ?_
        rw [h2]
        exact Goes.ret1 hTT rfl Try.func9 rfl rfl ⟨rfl, hw⟩
      · rw [h2]
        exact Goes.ret1 hTT rfl Try.func9 rfl rfl ⟨rfl, hw⟩
    · rw [h1]
      exact Goes.ret1 hTT rfl Try.func9 rfl rfl ⟨rfl, hw⟩
theorem few_may {c : Conf} (h : fewM c = true) : mayB c = true ∧ c.size ≤ 256 ∧ c.pages ≤ 24 := by
  unfold fewM at h
  simp only [Bool.and_eq_true, decide_eq_true_eq] at h
  exact ⟨h.1.1.1, h.1.1.2, h.1.2⟩
theorem ref21_Is (c : Conf) (p : ConfAt) (q : Plc) (w : World) (hc : ConfOk w c p) (hq : PlcOk w q) : Does Try.prog 35 #[.agg (confL c p).toArray, .agg (plL q).toArray] w (Grow (.bool (viewIs c q)) w) := by
  have hql := hq.len
  have hcl := hc.lc
  refine Does.enter Try.func35 rfl Try.ntmps35 rfl rfl ?_
  refine Goes.adv hTT 400 rfl ?_
  refine Goes.alloc hTT rfl ?_
  intro cb w1 e1 hcb hw1 hz1
  refine Goes.adv hTT 400 rfl ?_
  refine Goes.alloc hTT rfl ?_
  intro qb w2 e2 hqb hw2 hz2
  refine Goes.adv hTT 400 rfl ?_
  have hw := hw1.trans hw2
  replace hcb : w1.heap[cb]? = some (.cells (confL c p).toArray 24 (0, 0)) := hcb
  have hcb2 := hw2.heap' hcb
  have hq2 := hq.grow hw
  have hc2 := hc.chg hw
  obtain ⟨cls, page, idx, pa, pc, pages⟩ := q
  replace hqb : w2.heap[qb]? = some (.cells ([.int .i64 cls, .int .i64 page, .int .i64 idx, .slice pa pages.length pc] : List Value).toArray 26 (0, 0)) := hqb
  replace hq2 : Rd .i64 w2 pa pages := hq2.rd
  replace hql : pages.length ≤ 9223372036854775807 := hql
  refine Goes.loadb hTT rfl hqb rfl rfl ?_
  refine Goes.fork hTT rfl rfl rfl (fun hcl1 => ?_) (fun hcl1 => ?_)
  · have g : cls = -1 := by simpa using hcl1
    have hvi : viewIs c ⟨cls, page, idx, pa, pc, pages⟩ = (decide (0 < pages.length) && !pages.any (fun n => !inT n c.pages)) := by unfold viewIs; simp only; rw [if_pos g]
    rw [hvi]
    refine Goes.loop (α := Nat) (fun k => [(2, false, .pointer (some ⟨cb, 0, none⟩)), (3, false, .pointer (some ⟨qb, 0, none⟩)), (5, false, .int .i64 k)])
      (fun k w' => k ≤ pages.length ∧ Chg None' w2 w' ∧ ∀ j (h : j < pages.length), j < k → inT pages[j] c.pages = true) (fun k => pages.length - k) 0 ⟨rfl, rfl, rfl, trivial⟩ ⟨Nat.zero_le _, Chg.refl _ _, fun _ _ h => by omega⟩ ?_
    rintro k w3 ⟨hk, hw3, hpre⟩ ih
    refine Goes.adv hTT 400 rfl ?_
    refine Goes.loadb hTT rfl (hw3.heap' hqb) rfl rfl ?_
    refine Goes.fork hTT rfl rfl rfl (fun h0 => ?_) (fun h0 => ?_)
    · have hlt : k < pages.length := by have := of_decide_eq_true h0; omega
      obtain ⟨b, off, rfl, hcell⟩ := (hq2.chg hw3) k hlt
      have hgd : pages.getD k 0 = pages[k] := by rw [List.getD_eq_getElem?_getD, List.getElem?_eq_getElem hlt]; rfl
      rw [hgd] at hcell
      refine Goes.drawn (q := 16) None' hTT mixed (by kernel_rfl) rfl ?_
      intro hB
      refine Drawn.loadb hTT hB rfl (hw3.heap' hqb) (by first | exact fun h => h | (intro h; omega) | assumption) rfl rfl ?_
      refine Drawn.index hTT hB rfl (j := k) (by omega) (by omega) (by first | rfl | omega | (simp; done) | (simp; omega)) rfl ?_
      refine Drawn.load hTT hB rfl hcell (by first | exact fun h => h | (intro h; omega) | assumption) rfl ?_
      refine Drawn.fork hTT hB rfl rfl rfl (fun hn => ?_) (fun hn => ?_)
      · have g1 : pages[k] < 0 := of_decide_eq_true hn
        refine Drawn.nil hB ?_
        intro w4 hw4
        refine Goes.adv hTT 400 rfl ?_
        exact Goes.ret1 hTT rfl Try.func35 rfl rfl ⟨bool_v (by
          have : pages.any (fun n => !inT n c.pages) = true := List.any_eq_true.2 ⟨pages[k], List.getElem_mem hlt, by cases hh : inT pages[k] c.pages; rfl; have := inT_iff.1 hh; omega⟩
          rw [this]; simp), hw.trans (hw3.trans hw4)⟩
      · have g1 : ¬ pages[k] < 0 := of_decide_eq_false hn
        refine Drawn.loadb hTT hB rfl (hw3.heap' hqb) (by first | exact fun h => h | (intro h; omega) | assumption) rfl rfl ?_
        refine Drawn.index hTT hB rfl (j := k) (by omega) (by omega) (by first | rfl | omega | (simp; done) | (simp; omega)) rfl ?_
        refine Drawn.load hTT hB rfl hcell (by first | exact fun h => h | (intro h; omega) | assumption) rfl ?_
        refine Drawn.loadb hTT hB rfl (hw3.heap' hcb2) (by first | exact fun h => h | (intro h; omega) | assumption) rfl rfl ?_
        refine Drawn.nil hB ?_
        intro w4 hw4
        refine Goes.adv hTT 400 rfl ?_
        refine Goes.fork hTT rfl rfl rfl (fun hp => ?_) (fun hp => ?_)
        · have g2 : c.pages ≤ pages[k] := of_decide_eq_true hp
          exact Goes.ret1 hTT rfl Try.func35 rfl rfl ⟨bool_v (by
            have : pages.any (fun n => !inT n c.pages) = true := List.any_eq_true.2 ⟨pages[k], List.getElem_mem hlt, by cases hh : inT pages[k] c.pages; rfl; have := inT_iff.1 hh; omega⟩
            rw [this]; simp), hw.trans (hw3.trans hw4)⟩
        · have g2 : ¬ c.pages ≤ pages[k] := of_decide_eq_false hp
          refine Goes.arith hTT rfl (w64 (by omega)) rfl ?_
          exact ih (k + 1) _ _ ⟨hlt, hw3.trans hw4, fun j hj hjk => by
            by_cases e : j = k
            · subst e; exact inT_iff.2 ⟨by omega, by omega⟩
            · exact hpre j hj (by omega)⟩ (by omega) ⟨rfl, rfl, rfl, trivial⟩
    · have hge : k = pages.length := by have := of_decide_eq_false h0; omega
      refine Goes.loadb hTT rfl (hw3.heap' hqb) rfl rfl ?_
      exact Goes.ret1 hTT rfl Try.func35 rfl rfl ⟨bool_v (by
        have : pages.any (fun n => !inT n c.pages) = false := List.any_eq_false.2 (fun n hn => by obtain ⟨j, hj, rfl⟩ := List.getElem_of_mem hn; rw [hpre j hj (by omega)]; decide)
        rw [this, Bool.not_false, Bool.and_true]
        by_cases h : 0 < pages.length
        · rw [decide_eq_true h, decide_eq_true (by omega)]
        · rw [decide_eq_false h, decide_eq_false (by omega)]), hw.trans hw3⟩
  · have g : ¬ cls = -1 := by simpa using hcl1
    have hvi : viewIs c ⟨cls, page, idx, pa, pc, pages⟩ = (inT cls c.classes.length && inT page c.pages && inT idx (blocksM c cls)) := by unfold viewIs; simp only; rw [if_neg g]
    rw [hvi]
    unfold inT
    refine Goes.drawn (q := 38) None' hTT mixed (by kernel_rfl) rfl ?_
    intro hB
    refine Drawn.loadb hTT hB rfl hqb (by first | exact fun h => h | (intro h; omega) | assumption) rfl rfl ?_
    refine Drawn.fork hTT hB rfl rfl rfl (fun h1 => ?_) (fun h1 => ?_)
    · rw [h1]
      refine Drawn.loadb hTT hB rfl hqb (by first | exact fun h => h | (intro h; omega) | assumption) rfl rfl ?_
      refine Drawn.loadb hTT hB rfl hcb2 (by first | exact fun h => h | (intro h; omega) | assumption) rfl rfl ?_
      refine Drawn.fork hTT hB rfl rfl rfl (fun h2 => ?_) (fun h2 => ?_)
      · rw [h2]
        refine Drawn.loadb hTT hB rfl hqb (by first | exact fun h => h | (intro h; omega) | assumption) rfl rfl ?_
        refine Drawn.fork hTT hB rfl rfl rfl (fun h3 => ?_) (fun h3 => ?_)
        · rw [h3]
          refine Drawn.loadb hTT hB rfl hqb (by first | exact fun h => h | (intro h; omega) | assumption) rfl rfl ?_
          refine Drawn.loadb hTT hB rfl hcb2 (by first | exact fun h => h | (intro h; omega) | assumption) rfl rfl ?_
          refine Drawn.fork hTT hB rfl rfl rfl (fun h4 => ?_) (fun h4 => ?_)
          · rw [h4]
            refine Drawn.loadb hTT hB rfl hqb (by first | exact fun h => h | (intro h; omega) | assumption) rfl rfl ?_
            refine Drawn.fork hTT hB rfl rfl rfl (fun h5 => ?_) (fun h5 => ?_)
            · rw [h5]
              refine Drawn.loadb hTT hB rfl hqb (by first | exact fun h => h | (intro h; omega) | assumption) rfl rfl ?_
              refine Drawn.loads hTT hB rfl hcb2 (by first | exact fun h => h | (intro h; omega) | assumption) rfl rfl ?_
              refine Drawn.loadb hTT hB rfl hqb (by first | exact fun h => h | (intro h; omega) | assumption) rfl rfl ?_
              refine Drawn.call hTT hB rfl (fun w' hw' => ref03_Blocks c p cls w' (hc2.chg hw')) rfl ?_
              refine Drawn.nil hB ?_
              intro w3 hw3
              refine Goes.adv hTT 400 rfl ?_
              exact Goes.ret1 hTT rfl Try.func35 rfl rfl ⟨rfl, hw.trans hw3⟩
            · rw [h5]
              refine Drawn.nil hB ?_
              intro w3 hw3
              refine Goes.adv hTT 400 rfl ?_
              exact Goes.ret1 hTT rfl Try.func35 rfl rfl ⟨rfl, hw.trans hw3⟩
          · rw [h4]
            refine Drawn.nil hB ?_
            intro w3 hw3
            refine Goes.adv hTT 400 rfl ?_
            exact Goes.ret1 hTT rfl Try.func35 rfl rfl ⟨rfl, hw.trans hw3⟩
        · rw [h3]
          refine Drawn.nil hB ?_
          intro w3 hw3
          refine Goes.adv hTT 400 rfl ?_
          exact Goes.ret1 hTT rfl Try.func35 rfl rfl ⟨rfl, hw.trans hw3⟩
      · rw [h2]
        refine Drawn.nil hB ?_
        intro w3 hw3
        refine Goes.adv hTT 400 rfl ?_
        exact Goes.ret1 hTT rfl Try.func35 rfl rfl ⟨rfl, hw.trans hw3⟩
    · rw [h1]
      refine Drawn.nil hB ?_
      intro w3 hw3
      refine Goes.adv hTT 400 rfl ?_
      exact Goes.ret1 hTT rfl Try.func35 rfl rfl ⟨rfl, hw.trans hw3⟩
end Go.Proofs.Ytffimkpllchfcaa
/-
  Layer 21: what the document's functions answer of places: how many bytes, where.
-/
namespace Go.Proofs.Ytffimkpllchfcaa
open Go.RowKit

theorem conf_cls {w : World} {c : Conf} {p : ConfAt} (h : ConfOk w c p) {k : Nat} (hk : k < c.classes.length) : ∃ b off, p.ca = some ⟨b, off, none⟩ ∧ w.cell? ⟨b, off + k, none⟩ = some (.int .i64 (clsM c k)) := h.classes k hk
theorem ref21_Holds (c : Conf) (p : ConfAt) (q : Plc) (w : World) (hc : ConfOk w c p) (hq : PlcOk w q) (hm : mayB c = true) (hfew : q.pages.length ≤ 1000000000) : Does Try.prog 13 #[.agg (confL c p).toArray, .agg (plL q).toArray] w (Grow (.int .i64 (viewHolds c q)) w) := by
  obtain ⟨m1, m2, m3⟩ := may_facts hm
  refine Does.enter Try.func13 rfl Try.ntmps13 rfl rfl ?_
  refine Goes.adv hTT 400 rfl ?_
  refine Goes.alloc hTT rfl ?_
  intro cb w1 e1 hcb hw1 hz1
  refine Goes.adv hTT 400 rfl ?_
  refine Goes.alloc hTT rfl ?_
  intro qb w2 e2 hqb hw2 hz2
  refine Goes.adv hTT 400 rfl ?_
  have hw := hw1.trans hw2
  replace hcb : w1.heap[cb]? = some (.cells (confL c p).toArray 24 (0, 0)) := hcb
  replace hqb : w2.heap[qb]? = some (.cells (plL q).toArray 26 (0, 0)) := hqb
  refine Goes.loads hTT rfl (hw2.heap' hcb) rfl rfl ?_
  refine Goes.loads hTT rfl hqb rfl rfl ?_
  refine Goes.call rfl (ref21_Is c p q w2 (hc.chg hw) (hq.grow hw)) ?_
  rintro _ w3 ⟨rfl, hw3⟩
  refine Goes.adv hTT 400 rfl ?_
  have hwa := hw.trans hw3
  have hcb3 := (hw2.trans hw3).heap' hcb
  have hqb3 := hw3.heap' hqb
  cases hi : viewIs c q with
  | false =>
    refine Goes.yes hTT rfl rfl rfl ?_
    exact Goes.ret1 hTT rfl Try.func13 rfl rfl ⟨int_v (by unfold viewHolds; rw [hi]; rfl), hwa⟩
  | true =>
    refine Goes.no hTT rfl rfl rfl ?_
    refine Goes.loadb hTT rfl hqb3 rfl rfl ?_
    refine Goes.fork hTT rfl rfl rfl (fun hcl1 => ?_) (fun hcl1 => ?_)
    · have g : q.cls = -1 := by simpa using hcl1
      have hl0 : 0 ≤ (q.pages.length : Int) * c.size := Int.mul_nonneg (by omega) (by omega)
      have hl1 : (q.pages.length : Int) * c.size ≤ 1000000000 * 4096 := Int.mul_le_mul (by omega) (by omega) (by omega) (by omega)
      refine Goes.loadb hTT rfl hqb3 rfl rfl ?_
      refine Goes.loadb hTT rfl hcb3 rfl rfl ?_
      refine Goes.arith hTT rfl (w64 (by omega)) rfl ?_
      exact Goes.ret1 hTT rfl Try.func13 rfl rfl ⟨int_v (by unfold viewHolds; rw [if_pos hi, if_pos g]), hwa⟩
    · have g : ¬ q.cls = -1 := by simpa using hcl1
      obtain ⟨k, pg, ix, hk, hpg, hix, hkl, _, _, _, _, _, _, _⟩ := is_small hm hi g
      obtain ⟨cb', off, hca, hcc⟩ := conf_cls (hc.chg hwa) hkl
      obtain ⟨ca, cc, ka, kc⟩ := p
      simp only at hca
      subst hca
      obtain ⟨cls, page, idx, pa, pc, pages⟩ := q
      simp only at hk
      subst hk
      refine Goes.loadb hTT rfl hcb3 rfl rfl ?_
      refine Goes.loadb hTT rfl hqb3 rfl rfl ?_
      refine Goes.index hTT rfl (j := k) (show (0 : Int) ≤ k by omega) (show (k : Int) < c.classes.length by omega) (by simp) rfl ?_
      refine Goes.load hTT rfl hcc rfl ?_
      exact Goes.ret1 hTT rfl Try.func13 rfl rfl ⟨int_v (by unfold viewHolds; rw [if_pos hi]; simp only; rw [if_neg g]), hwa⟩
theorem ref21_At (c : Conf) (p : ConfAt) (q : Plc) (w : World) (hc : ConfOk w c p) (hq : PlcOk w q) (hm : mayB c = true) : Does Try.prog 15 #[.agg (confL c p).toArray, .agg (plL q).toArray] w (Grow (.int .i64 (viewAt c q)) w) := by
  obtain ⟨m1, m2, m3⟩ := may_facts hm
  have htot := size_total hm
  refine Does.enter Try.func15 rfl Try.ntmps15 rfl rfl ?_
  refine Goes.adv hTT 400 rfl ?_
  refine Goes.alloc hTT rfl ?_
  intro cb w1 e1 hcb hw1 hz1
  refine Goes.adv hTT 400 rfl ?_
  refine Goes.alloc hTT rfl ?_
  intro qb w2 e2 hqb hw2 hz2
  refine Goes.adv hTT 400 rfl ?_
  have hw := hw1.trans hw2
  replace hcb : w1.heap[cb]? = some (.cells (confL c p).toArray 24 (0, 0)) := hcb
  replace hqb : w2.heap[qb]? = some (.cells (plL q).toArray 26 (0, 0)) := hqb
  refine Goes.loads hTT rfl (hw2.heap' hcb) rfl rfl ?_
  refine Goes.loads hTT rfl hqb rfl rfl ?_
  refine Goes.call rfl (ref21_Is c p q w2 (hc.chg hw) (hq.grow hw)) ?_
  rintro _ w3 ⟨rfl, hw3⟩
  refine Goes.adv hTT 400 rfl ?_
  have hwa := hw.trans hw3
  have hcb3 := (hw2.trans hw3).heap' hcb
  have hqb3 := hw3.heap' hqb
  cases hi : viewIs c q with
  | false =>
    refine Goes.yes hTT rfl rfl rfl ?_
    exact Goes.ret1 hTT rfl Try.func15 rfl rfl ⟨int_v (by unfold viewAt; rw [hi, if_neg (by simp)]), hwa⟩
  | true =>
    refine Goes.no hTT rfl rfl rfl ?_
    refine Goes.loadb hTT rfl hqb3 rfl rfl ?_
    refine Goes.fork hTT rfl rfl rfl (fun hcl1 => ?_) (fun hcl1 => ?_)
    · have g : q.cls = -1 := by simpa using hcl1
      exact Goes.ret1 hTT rfl Try.func15 rfl rfl ⟨int_v (by unfold viewAt; rw [if_neg (fun hh => hh.2 g)]), hwa⟩
    · have g : ¬ q.cls = -1 := by simpa using hcl1
      obtain ⟨k, pg, ix, hk, hpg, hix, hkl, g1, g2, g3, g4, g5, g6, g7⟩ := is_small hm hi g
      obtain ⟨cb', off, hca, hcc⟩ := conf_cls (hc.chg hwa) hkl
      obtain ⟨ca, cc, ka, kc⟩ := p
      simp only at hca
      subst hca
      obtain ⟨cls, page, idx, pa, pc, pages⟩ := q
      simp only at hk hpg hix
      subst hk
      subst hpg
      subst hix
      refine Goes.drawn (q := 16) None' hTT mixed (by kernel_rfl) rfl ?_
      intro hB
      refine Drawn.loadb hTT hB rfl hqb3 (by first | exact fun h => h | (intro h; omega) | assumption) rfl rfl ?_
      refine Drawn.loadb hTT hB rfl hcb3 (by first | exact fun h => h | (intro h; omega) | assumption) rfl rfl ?_
      refine Drawn.arith hTT hB rfl (w64 (by show _ ∧ _; simp only; omega)) rfl ?_
      refine Drawn.loadb hTT hB rfl hqb3 (by first | exact fun h => h | (intro h; omega) | assumption) rfl rfl ?_
      refine Drawn.loadb hTT hB rfl hcb3 (by first | exact fun h => h | (intro h; omega) | assumption) rfl rfl ?_
      refine Drawn.loadb hTT hB rfl hqb3 (by first | exact fun h => h | (intro h; omega) | assumption) rfl rfl ?_
      refine Drawn.index hTT hB rfl (j := k) (show (0 : Int) ≤ k by omega) (show (k : Int) < c.classes.length by omega) (by simp) rfl ?_
      refine Drawn.load hTT hB rfl hcc (by first | exact fun h => h | (intro h; omega) | assumption) rfl ?_
      refine Drawn.arith hTT hB rfl (w64 (by show _ ∧ _; simp only; omega)) rfl ?_
      refine Drawn.arith hTT hB rfl (w64 (by show _ ∧ _; simp only; omega)) rfl ?_
      refine Drawn.nil hB ?_
      intro w4 hw4
      refine Goes.adv hTT 400 rfl ?_
      exact Goes.ret1 hTT rfl Try.func15 rfl rfl ⟨int_v (by unfold viewAt; rw [if_pos ⟨hi, g⟩]), hwa.trans hw4⟩
theorem law_ViewPlaces (c : Conf) (p : ConfAt) (q : Plc) (w : World) (hc : ConfOk w c p) (hq : PlcOk w q) : Does Try.prog 3 #[.agg (confL c p).toArray, .agg (plL q).toArray] w (Grow (.bool true) w) := by
  refine Does.enter Try.func3 rfl Try.ntmps3 rfl rfl ?_
  refine Goes.adv hTT 400 rfl ?_
  refine Goes.alloc hTT rfl ?_
  intro cb w1 e1 hcb hw1 hz1
  refine Goes.adv hTT 400 rfl ?_
  refine Goes.alloc hTT rfl ?_
  intro qb w2 e2 hqb hw2 hz2
  refine Goes.adv hTT 400 rfl ?_
  have hw := hw1.trans hw2
  replace hcb : w1.heap[cb]? = some (.cells (confL c p).toArray 24 (0, 0)) := hcb
  replace hqb : w2.heap[qb]? = some (.cells (plL q).toArray 26 (0, 0)) := hqb
  refine Goes.call rfl (law21_awake w2) ?_
  rintro _ w3 ⟨rfl, hw3⟩
  refine Goes.adv hTT 400 rfl ?_
  have hwa := hw.trans hw3
  have hcb3 := (hw2.trans hw3).heap' hcb
  have hqb3 := hw3.heap' hqb
  refine Goes.loads hTT rfl hcb3 rfl rfl ?_
  refine Goes.call rfl (ref03_Few c p w3 (hc.chg hwa)) ?_
  rintro _ w4 ⟨rfl, hw4⟩
  refine Goes.adv hTT 400 rfl ?_
  have hwb := hwa.trans hw4
  cases hf : fewM c with
  | false =>
    refine Goes.yes hTT rfl rfl rfl ?_
    exact Goes.ret1 hTT rfl Try.func3 rfl rfl ⟨rfl, hwb⟩
  | true =>
    obtain ⟨hm, _, _⟩ := few_may hf
    obtain ⟨m1, m2, m3⟩ := may_facts hm
    have htot := size_total hm
    have hcb4 := hw4.heap' hcb3
    have hqb4 := hw4.heap' hqb3
    refine Goes.no hTT rfl rfl rfl ?_
    refine Goes.loadb hTT rfl hqb4 rfl rfl ?_
    refine Goes.fork hTT rfl rfl rfl (fun h30 => ?_) (fun h30 => ?_)
    · exact Goes.ret1 hTT rfl Try.func3 rfl rfl ⟨rfl, hwb⟩
    · have g30 := of_decide_eq_false h30
      refine Goes.loadb hTT rfl hcb4 rfl rfl ?_
      refine Goes.loadb hTT rfl hcb4 rfl rfl ?_
      refine Goes.call rfl (arena_New none 0 0 c.pages c.size w4 (fun b hb => by cases hb) (arMay_iff.2 (by omega))) ?_
      rintro _ w5 ⟨A, rfl, hmb, ha1, ha2, ha3, hA5, hw5⟩
      refine Goes.adv hTT 400 rfl ?_
      have hlen : (zeros (c.pages * c.size).toNat).length = (c.pages * c.size).toNat := List.length_replicate
      have hcomm : c.pages * c.size = c.size * c.pages := Int.mul_comm _ _
      have hcond : mayB c = true ∧ (((⟨zeros (c.pages * c.size).toNat, 0, 0⟩ : ArV).bs.length : Nat) : Int) = c.size * c.pages := ⟨hm, by show (((zeros (c.pages * c.size).toNat).length : Nat) : Int) = _; rw [hlen]; omega⟩
      have hwc := hwb.trans hw5
      have hVN : Does Try.prog 11 #[.agg (confL c p).toArray, .pointer (some ⟨A.ab, 0, none⟩), ptr A.mb] w5 (fun u w' => Chg None' w5 w' ∧ ∃ vb, u = .tuple #[.pointer (some ⟨vb, 0, none⟩), .int .i64 0] ∧ w5.heap.size ≤ vb ∧ VwOk w' ⟨vb, c, p, A.ab, A.mb⟩) :=
        (view_New c p A _ w5 (hc.chg hwc) hA5).mono fun u w' h => ⟨h.1, by have h2 := h.2; rw [if_pos hcond] at h2; exact h2⟩
      rw [hmb] at hVN
      refine Goes.loads hTT rfl (hw5.heap' hcb4) rfl rfl ?_
      refine Goes.call rfl (hVN) ?_
      rintro _ w6 ⟨hw6, vb, rfl, hvb, hv6⟩
      refine Goes.adv hTT 400 rfl ?_
      have hwd := hwc.trans hw6
      have hcb6 := (hw5.trans hw6).heap' hcb4
      have hqb6 := (hw5.trans hw6).heap' hqb4
      obtain ⟨v, hvv⟩ : ∃ v : Vw, v = ⟨vb, c, p, A.ab, none⟩ := ⟨_, rfl⟩
      rw [← hvv] at hv6
      have hvc : v.c = c := by rw [hvv]
      have hvvb : vwV v = .pointer (some ⟨vb, 0, none⟩) := by rw [hvv]
      rw [← hvvb]
      refine Goes.drawn (q := 24) None' hTT mixed (by kernel_rfl) rfl ?_
      intro hB
      refine Drawn.yes hTT hB rfl rfl rfl ?_
      refine Drawn.yes hTT hB rfl rfl rfl ?_
      refine Drawn.loads hTT hB rfl hqb6 (by first | exact fun h => h | (intro h; omega) | assumption) rfl rfl ?_
      refine Drawn.call hTT hB rfl (fun w' hw' => view_Holds v q w' (hv6.grow hw') ((hq.grow hwd).grow hw') (by omega)) rfl ?_
      refine Drawn.loads hTT hB rfl hcb6 (by first | exact fun h => h | (intro h; omega) | assumption) rfl rfl ?_
      refine Drawn.loads hTT hB rfl hqb6 (by first | exact fun h => h | (intro h; omega) | assumption) rfl rfl ?_
      refine Drawn.call hTT hB rfl (fun w' hw' => ref21_Holds c p q w' ((hc.chg hwd).chg hw') ((hq.grow hwd).grow hw') hm (by omega)) rfl ?_
      rw [hvc]
      refine Drawn.yes hTT hB rfl (beq_self_eq_true _) rfl ?_
      refine Drawn.loads hTT hB rfl hqb6 (by first | exact fun h => h | (intro h; omega) | assumption) rfl rfl ?_
      refine Drawn.call hTT hB rfl (fun w' hw' => view_At v q w' (hv6.grow hw') ((hq.grow hwd).grow hw')) rfl ?_
      refine Drawn.loads hTT hB rfl hcb6 (by first | exact fun h => h | (intro h; omega) | assumption) rfl rfl ?_
      refine Drawn.loads hTT hB rfl hqb6 (by first | exact fun h => h | (intro h; omega) | assumption) rfl rfl ?_
      refine Drawn.call hTT hB rfl (fun w' hw' => ref21_At c p q w' ((hc.chg hwd).chg hw') ((hq.grow hwd).grow hw') hm) rfl ?_
      rw [hvc]
      refine Drawn.nil hB ?_
      intro w7 hw7
      refine Goes.adv hTT 400 rfl ?_
      exact Goes.ret1 hTT rfl Try.func3 rfl rfl ⟨bool_v (beq_self_eq_true _), hwd.trans hw7⟩
end Go.Proofs.Ytffimkpllchfcaa
/-
  Layer 21: where a byte stands; what forbids bytes of a place.
-/
namespace Go.Proofs.Ytffimkpllchfcaa
open Go.RowKit

theorem ref21_check (c : Conf) (p : ConfAt) (q : Plc) (at' n : Int) (w : World) (hc : ConfOk w c p) (hq : PlcOk w q) (hm : mayB c = true) (hfew : q.pages.length ≤ 4096) :
    Does Try.prog 64 #[.agg (confL c p).toArray, .agg (plL q).toArray, .int .i64 at', .int .i64 n] w (Grow (.int .i64 (checkM c q at' n)) w) := by
  have hb := viewHolds_bound (c := c) (q := q) hm hfew
  refine Does.enter Try.func64 rfl Try.ntmps64 rfl rfl ?_
  refine Goes.adv hTT 400 rfl ?_
  refine Goes.alloc hTT rfl ?_
  intro cb w1 e1 hcb hw1 hz1
  refine Goes.adv hTT 400 rfl ?_
  refine Goes.alloc hTT rfl ?_
  intro qb w2 e2 hqb hw2 hz2
  refine Goes.adv hTT 400 rfl ?_
  have hw := hw1.trans hw2
  replace hcb : w1.heap[cb]? = some (.cells (confL c p).toArray 24 (0, 0)) := hcb
  replace hqb : w2.heap[qb]? = some (.cells (plL q).toArray 26 (0, 0)) := hqb
  refine Goes.loads hTT rfl (hw2.heap' hcb) rfl rfl ?_
  refine Goes.loads hTT rfl hqb rfl rfl ?_
  refine Goes.call rfl (ref21_Is c p q w2 (hc.chg hw) (hq.grow hw)) ?_
  rintro _ w3 ⟨rfl, hw3⟩
  refine Goes.adv hTT 400 rfl ?_
  have hwa := hw.trans hw3
  have hcb3 := (hw2.trans hw3).heap' hcb
  have hqb3 := hw3.heap' hqb
  cases hi : viewIs c q with
  | false =>
    refine Goes.yes hTT rfl rfl rfl ?_
    exact Goes.ret1 hTT rfl Try.func64 rfl rfl ⟨int_v (by unfold checkM; rw [if_pos hi]), hwa⟩
  | true =>
    have hck : checkM c q at' n = if at' < 0 ∨ n < 0 ∨ viewHolds c q < n ∨ viewHolds c q - n < at' then 8 else 0 := by unfold checkM; rw [if_neg (by rw [hi]; decide)]
    rw [hck]
    refine Goes.no hTT rfl rfl rfl ?_
    by_cases h1 : at' < 0
    · refine Goes.yes hTT rfl (decide_eq_true h1) rfl ?_
      exact Goes.ret1 hTT rfl Try.func64 rfl rfl ⟨int_v (by rw [if_pos (by omega)]), hwa⟩
    refine Goes.no hTT rfl (decide_eq_false h1) rfl ?_
    by_cases h2 : n < 0
    · refine Goes.yes hTT rfl (decide_eq_true h2) rfl ?_
      exact Goes.ret1 hTT rfl Try.func64 rfl rfl ⟨int_v (by rw [if_pos (by omega)]), hwa⟩
    refine Goes.no hTT rfl (decide_eq_false h2) rfl ?_
    refine Goes.loads hTT rfl hcb3 rfl rfl ?_
    refine Goes.loads hTT rfl hqb3 rfl rfl ?_
    refine Goes.call rfl (ref21_Holds c p q w3 (hc.chg hwa) (hq.grow hwa) hm (by omega)) ?_
    rintro _ w4 ⟨rfl, hw4⟩
    refine Goes.adv hTT 400 rfl ?_
    have hwb := hwa.trans hw4
    by_cases h3 : viewHolds c q < n
    · refine Goes.yes hTT rfl (decide_eq_true h3) rfl ?_
      exact Goes.ret1 hTT rfl Try.func64 rfl rfl ⟨int_v (by rw [if_pos (by omega)]), hwb⟩
    refine Goes.no hTT rfl (decide_eq_false h3) rfl ?_
    refine Goes.loads hTT rfl (hw4.heap' hcb3) rfl rfl ?_
    refine Goes.loads hTT rfl (hw4.heap' hqb3) rfl rfl ?_
    refine Goes.call rfl (ref21_Holds c p q w4 (hc.chg hwb) (hq.grow hwb) hm (by omega)) ?_
    rintro _ w5 ⟨rfl, hw5⟩
    refine Goes.adv hTT 400 rfl ?_
    refine Goes.arith hTT rfl (w64 (by omega)) rfl ?_
    by_cases h4 : viewHolds c q - n < at'
    · refine Goes.yes hTT rfl (decide_eq_true h4) rfl ?_
      exact Goes.ret1 hTT rfl Try.func64 rfl rfl ⟨int_v (by rw [if_pos (by omega)]), hwb.trans hw5⟩
    · refine Goes.no hTT rfl (decide_eq_false h4) rfl ?_
      exact Goes.ret1 hTT rfl Try.func64 rfl rfl ⟨int_v (by rw [if_neg (by omega)]), hwb.trans hw5⟩
/-- Where a place's byte stands. -/
def whereM (c : Conf) (q : Plc) (i : Nat) : Int := if q.cls = -1 then q.pages.getD (i / c.size.toNat) 0 * c.size + ((i % c.size.toNat : Nat) : Int) else viewAt c q + i
theorem ref21_Where (c : Conf) (p : ConfAt) (q : Plc) (i : Nat) (w : World) (hc : ConfOk w c p) (hq : PlcOk w q) (hm : mayB c = true) (hin : viewIs c q = true) (hfew : q.pages.length ≤ 4096) (hi : (i : Int) < viewHolds c q) :
    Does Try.prog 41 #[.agg (confL c p).toArray, .agg (plL q).toArray, .int .i64 i] w (Grow (.int .i64 (whereM c q i)) w) := by
  obtain ⟨m1, m2, m3⟩ := may_facts hm
  have htot := size_total hm
  refine Does.enter Try.func41 rfl Try.ntmps41 rfl rfl ?_
  refine Goes.adv hTT 400 rfl ?_
  refine Goes.alloc hTT rfl ?_
  intro cb w1 e1 hcb hw1 hz1
  refine Goes.adv hTT 400 rfl ?_
  refine Goes.alloc hTT rfl ?_
  intro qb w2 e2 hqb hw2 hz2
  refine Goes.adv hTT 400 rfl ?_
  have hw := hw1.trans hw2
  replace hcb : w1.heap[cb]? = some (.cells (confL c p).toArray 24 (0, 0)) := hcb
  replace hqb : w2.heap[qb]? = some (.cells (plL q).toArray 26 (0, 0)) := hqb
  have hcb2 := hw2.heap' hcb
  refine Goes.loadb hTT rfl hqb rfl rfl ?_
  by_cases hcl : q.cls = -1
  · obtain ⟨hpos, hpg⟩ := is_large hin hcl
    have hho : viewHolds c q = (q.pages.length : Int) * c.size := by unfold viewHolds; rw [if_pos hin, if_pos hcl]
    rw [hho] at hi
    obtain ⟨sz, hsz⟩ := Int.eq_ofNat_of_zero_le (show 0 ≤ c.size by omega)
    have hszt : c.size.toNat = sz := by omega
    have hd1 : i / sz < q.pages.length := by
      apply Nat.div_lt_of_lt_mul
      have : ((sz * q.pages.length : Nat) : Int) = (q.pages.length : Int) * c.size := by rw [hsz, Int.mul_comm]; rfl
      omega
    have hmod := Nat.mod_lt i (show 0 < sz by omega)
    have hil : i ≤ 16777216 := by
      have : (q.pages.length : Int) * c.size ≤ 4096 * 4096 := Int.mul_le_mul (by omega) (by omega) (by omega) (by omega)
      omega
    have hq1 : (i : Int) / c.size = ((i / sz : Nat) : Int) := by rw [hsz]; rfl
    have hr1 : (i : Int) % c.size = ((i % sz : Nat) : Int) := by rw [hsz]; rfl
    have hwh : whereM c q i = q.pages.getD (i / sz) 0 * c.size + ((i % sz : Nat) : Int) := by unfold whereM; rw [if_pos hcl, hszt]
    obtain ⟨D, hD⟩ : ∃ D, D = i / sz := ⟨_, rfl⟩
    obtain ⟨M, hM⟩ : ∃ M, M = i % sz := ⟨_, rfl⟩
    rw [← hD] at hd1 hq1 hwh
    rw [← hM] at hmod hr1 hwh
    clear hD hM
    obtain ⟨gb, goff, hga, hgc⟩ := (hq.grow hw).rd D hd1
    have hpn : 0 ≤ q.pages.getD D 0 ∧ q.pages.getD D 0 < c.pages := hpg _ (by rw [List.getD_eq_getElem?_getD, List.getElem?_eq_getElem hd1]; exact List.getElem_mem hd1)
    have hmul : 0 ≤ q.pages.getD D 0 * c.size ∧ q.pages.getD D 0 * c.size ≤ 1024 * 4096 := ⟨Int.mul_nonneg hpn.1 (by omega), Int.mul_le_mul (by omega) (by omega) (by omega) (by omega)⟩
    rw [hwh]
    obtain ⟨cls, page, idx, pa, pc, pages⟩ := q
    simp only at hga
    subst hga
    refine Goes.yes hTT rfl (show (cls == -1) = true by rw [show cls = -1 from hcl]; rfl) rfl ?_
    refine Goes.drawn (q := 17) None' hTT mixed (by kernel_rfl) rfl ?_
    intro hB
    refine Drawn.loadb hTT hB rfl hqb (by first | exact fun h => h | (intro h; omega) | assumption) rfl rfl ?_
    refine Drawn.loadb hTT hB rfl hcb2 (by first | exact fun h => h | (intro h; omega) | assumption) rfl rfl ?_
    refine Drawn.div hTT hB rfl (by omega) (quo64 (by omega) (by omega)) rfl ?_
    rw [hq1]
    refine Drawn.index hTT hB rfl (j := D) (show (0 : Int) ≤ (D : Int) by omega) (show (D : Int) < pages.length by have : D < pages.length := hd1; omega) (by simp) rfl ?_
    refine Drawn.load hTT hB rfl hgc (by first | exact fun h => h | (intro h; omega) | assumption) rfl ?_
    refine Drawn.loadb hTT hB rfl hcb2 (by first | exact fun h => h | (intro h; omega) | assumption) rfl rfl ?_
    refine Drawn.arith hTT hB rfl (w64 (by show _ ∧ _; simp only at hmul ⊢; omega)) rfl ?_
    refine Drawn.loadb hTT hB rfl hcb2 (by first | exact fun h => h | (intro h; omega) | assumption) rfl rfl ?_
    refine Drawn.div hTT hB rfl (by omega) (rem_ (by omega)) rfl ?_
    rw [hr1]
    refine Drawn.arith hTT hB rfl (w64 (by show _ ∧ _; simp only at hmul ⊢; omega)) rfl ?_
    refine Drawn.nil hB ?_
    intro w3 hw3
    refine Goes.adv hTT 400 rfl ?_
    exact Goes.ret1 hTT rfl Try.func41 rfl rfl ⟨rfl, hw.trans hw3⟩
  · obtain ⟨k, pg, ix, hk, hpg, hix, hkl, g1, g2, g3, g4, g5, g6, g7⟩ := is_small hm hin hcl
    have hat : viewAt c q = (pg : Int) * c.size + (ix : Int) * clsM c k := by unfold viewAt; rw [if_pos ⟨hin, hcl⟩, hk, hpg, hix]
    have hho : viewHolds c q = clsM c k := by unfold viewHolds; rw [if_pos hin, if_neg hcl, hk]
    rw [hho] at hi
    refine Goes.no hTT rfl (show (q.cls == -1) = false by simpa using hcl) rfl ?_
    refine Goes.loads hTT rfl hcb2 rfl rfl ?_
    refine Goes.loads hTT rfl hqb rfl rfl ?_
    refine Goes.call rfl (ref21_At c p q w2 (hc.chg hw) (hq.grow hw) hm) ?_
    rintro _ w3 ⟨rfl, hw3⟩
    refine Goes.adv hTT 400 rfl ?_
    refine Goes.arith hTT rfl (w64 (by rw [hat]; omega)) rfl ?_
    exact Goes.ret1 hTT rfl Try.func41 rfl rfl ⟨int_v (by unfold whereM; rw [if_neg hcl]), hw.trans hw3⟩
end Go.Proofs.Ytffimkpllchfcaa
/-
  Layer 16: the document's list of spans: how many there are.
-/
namespace Go.Proofs.Ytffimkpllchfcaa
open Go.RowKit

theorem spansM_count {page : Nat} (hp : 1 ≤ page) : ∀ (n at' : Nat), 0 < n → (spansM at' n page).length + at' / page = (at' + n - 1) / page + 1 := by
  intro n
  induction n using Nat.strongRecOn with
  | _ n ih =>
    intro at' hn
    have hpos := headS_pos (at' := at') hp hn
    have hmod := Nat.mod_lt at' (show 0 < page by omega)
    have hdm := Nat.div_add_mod at' page
    rw [spansM_cons hp hn, List.length_cons]
    by_cases hle : n ≤ page - at' % page
    · rw [Nat.min_eq_left hle, Nat.sub_self, spansM_nil]
      have : (at' + n - 1) / page = at' / page := by
        apply Nat.div_eq_of_lt_le
        · rw [Nat.mul_comm]; omega
        · rw [Nat.add_mul, Nat.one_mul, Nat.mul_comm]; omega
      rw [this]
      simp
      omega
    · rw [Nat.min_eq_right (by omega)]
      have h1 := ih (n - (page - at' % page)) (by omega) (at' + (page - at' % page)) (by omega)
      have h2 : (at' + (page - at' % page)) / page = at' / page + 1 := by
        have e : at' + (page - at' % page) = (at' / page + 1) * page := by rw [Nat.add_mul, Nat.one_mul, Nat.mul_comm (at' / page)]; omega
        rw [e, Nat.mul_div_cancel _ (by omega)]
      rw [h2, show at' + (page - at' % page) + (n - (page - at' % page)) - 1 = at' + n - 1 from by omega] at h1
      omega
theorem ref16_Cut (at' n page : Nat) (w : World) (hb : at' + n ≤ 16777216 ∧ 1 ≤ page ∧ page ≤ 16777216) : Does Try.prog 73 #[.int .i64 at', .int .i64 n, .int .i64 page] w
    (fun v w' => ∃ a cap, v = .slice a (spansM at' n page).length cap ∧ Chg None' w w') := by
  have hml : maxLen = 9223372036854775807 := rfl
  refine Does.enter Try.func73 rfl Try.ntmps73 rfl rfl ?_
  refine Goes.adv hTT 400 rfl ?_
  refine Goes.no hTT rfl (decide_eq_false (by omega)) rfl ?_
  by_cases hn : n = 0
  · subst hn
    refine Goes.yes hTT rfl (decide_eq_true (by omega)) rfl ?_
    exact Goes.ret1 hTT rfl Try.func73 rfl rfl ⟨none, 0, by rw [spansM_nil]; rfl, Chg.refl _ _⟩
  refine Goes.no hTT rfl (decide_eq_false (by omega)) rfl ?_
  refine Goes.no hTT rfl (decide_eq_false (by omega)) rfl ?_
  refine Goes.no hTT rfl (decide_eq_false (by omega)) rfl ?_
  refine Goes.arith hTT rfl (w64 (by omega)) rfl ?_
  refine Goes.no hTT rfl (decide_eq_false (by omega)) rfl ?_
  refine Goes.div hTT rfl (by omega) (quo64 (by omega) (by omega)) rfl ?_
  have hcount := spansM_count (page := page) hb.2.1 n at' (by omega)
  have hsl := spansM_length (page := page) hb.2.1 n at'
  obtain ⟨L, hL⟩ : ∃ L, L = (spansM at' n page).length := ⟨_, rfl⟩
  rw [← hL] at hcount hsl ⊢
  have hq0 : (at' : Int) / page = ((at' / page : Nat) : Int) := rfl
  rw [hq0]
  obtain ⟨d0, hd0⟩ : ∃ d0, d0 = at' / page := ⟨_, rfl⟩
  rw [← hd0] at hcount ⊢
  have hdm1 := Nat.div_mul_le_self (at' + n - 1) page
  have hq1' : ((at' : Int) + n - 1) / page = (((at' + n - 1) / page : Nat) : Int) := by
    rw [show (at' : Int) + n - 1 = ((at' + n - 1 : Nat) : Int) from by omega]; rfl
  obtain ⟨E, hE⟩ : ∃ E, E = (at' + n - 1) / page := ⟨_, rfl⟩
  rw [← hE] at hcount hdm1 hq1'
  clear hE
  have hLE : L = 0 → False := fun h => by
    subst h
    have : spansM at' n page = [] := List.length_eq_zero_iff.1 hL.symm
    rw [spansM_cons hb.2.1 (by omega)] at this
    cases this
  have hL1 : 1 ≤ L := Nat.pos_of_ne_zero hLE
  have hEd : E = d0 + L - 1 := by omega
  have hq1 : ((at' : Int) + n - 1) / page = ((d0 + L - 1 : Nat) : Int) := by rw [hq1', hEd]
  have hdle : (d0 + L - 1) * page ≤ at' + n := by rw [← hEd]; omega
  refine Goes.loop (α := Nat × Value) (fun x => [(0, false, .int .i64 at'), (1, false, .int .i64 n), (2, false, .int .i64 page), (7, false, x.2), (8, false, .int .i64 ((d0 + x.1 : Nat) : Int))])
    (fun x w' => x.1 ≤ L ∧ (∃ xs, Own w.heap.size 110 3 w' x.2 x.1 xs) ∧ Chg None' w w') (fun x => L - x.1) (0, .slice none 0 0) ⟨rfl, rfl, rfl, rfl, rfl, trivial⟩ ⟨Nat.zero_le _, ⟨[], World.ownsRow_nil _ _ _ _⟩, Chg.refl _ _⟩ ?_
  rintro ⟨j, v⟩ w1 ⟨hj, ⟨xs, ho⟩, hw1⟩ ih
  simp only at hj ho
  refine Goes.adv hTT 400 rfl ?_
  refine Goes.arith hTT rfl (w64 (by omega)) rfl ?_
  refine Goes.arith hTT rfl (w64 (by omega)) rfl ?_
  refine Goes.div hTT rfl (by omega) (quo64 (by omega) (by omega)) rfl ?_
  rw [hq1]
  refine Goes.fork hTT rfl rfl rfl (fun hc => ?_) (fun hc => ?_)
  · have hlt : j < L := by have := of_decide_eq_true hc; simp only at this; omega
    have hjm : ((d0 + j : Nat) : Int) * page ≤ at' + n := by
      have h1 : (d0 + j) * page ≤ (d0 + L - 1) * page := Nat.mul_le_mul_right _ (by omega)
      have h2 : (((d0 + j) * page : Nat) : Int) = ((d0 + j : Nat) : Int) * page := rfl
      omega
    have hj0 : 0 ≤ ((d0 + j : Nat) : Int) * page := Int.mul_nonneg (by omega) (by omega)
    have hjm' : ((d0 + (j, v).fst : Nat) : Int) * page ≤ at' + n := hjm
    have hj0' : 0 ≤ ((d0 + (j, v).fst : Nat) : Int) * page := hj0
    have hjf : (j, v).fst ≤ 16777216 := by show j ≤ 16777216; omega
    have hd0l : d0 ≤ 16777216 := by rw [hd0]; exact Nat.le_trans (Nat.div_le_self _ _) (by omega)
    refine Goes.arith hTT rfl (w64 (by omega)) rfl ?_
    refine Goes.arith hTT rfl (w64 (by omega)) rfl ?_
    refine Goes.arith hTT rfl (w64 (by omega)) rfl ?_
    refine Goes.arith hTT rfl (w64 (by omega)) rfl ?_
    refine Goes.fork hTT rfl rfl rfl (fun h9 => ?_) (fun h9 => ?_)
    · refine Goes.arith hTT rfl (w64 (by omega)) rfl ?_
      refine Goes.arith hTT rfl (w64 (by omega)) rfl ?_
      refine Goes.arith hTT rfl (w64 (by omega)) rfl ?_
      refine Goes.arith hTT rfl (w64 (by first | omega | (split <;> omega))) rfl ?_
      refine Goes.arith hTT rfl (w64 (by first | omega | (split <;> omega))) rfl ?_
      refine Goes.build hTT rfl rfl ?_
      refine Goes.buildSlice hTT rfl ?_
      intro b2 w2 e2 hb2 hw2 hz2
      refine Goes.adv hTT 400 rfl ?_
      have ho2 := ho.chg hw2 (fun _ _ h => h)
      refine Goes.append (base := w.heap.size) (news := (_ : List Value)) hTT rfl ho2 (by have := hw1.size; have := hw2.size; omega) rfl (fun i u hu => by rw [add_off, cell_of hb2]; simpa [zeroRow] using hu) (fun u hu => by simp at hu; rcases hu with rfl | rfl | rfl <;> rfl) (by simp only; omega) ?_
      intro v3 w3 ho3 hs3 hv3
      refine Goes.adv hTT 400 rfl ?_
      refine Goes.arith hTT rfl (w64 (by omega)) rfl ?_
      exact ih (j + 1, v3) _ _ ⟨hlt, ⟨_, ho3⟩, ho2.since (hw1.trans hw2) (Nat.le_refl _) hs3⟩ (by simp only; omega) ⟨rfl, rfl, rfl, rfl, by show some (Value.int .i64 (((d0 + j : Nat) : Int) + 1)) = some (.int .i64 ((d0 + (j + 1) : Nat) : Int)); exact int_s (by omega), trivial⟩
    · refine Goes.arith hTT rfl (w64 (by omega)) rfl ?_
      refine Goes.arith hTT rfl (w64 (by first | omega | (split <;> omega))) rfl ?_
      refine Goes.arith hTT rfl (w64 (by first | omega | (split <;> omega))) rfl ?_
      refine Goes.build hTT rfl rfl ?_
      refine Goes.buildSlice hTT rfl ?_
      intro b2 w2 e2 hb2 hw2 hz2
      refine Goes.adv hTT 400 rfl ?_
      have ho2 := ho.chg hw2 (fun _ _ h => h)
      refine Goes.append (base := w.heap.size) (news := (_ : List Value)) hTT rfl ho2 (by have := hw1.size; have := hw2.size; omega) rfl (fun i u hu => by rw [add_off, cell_of hb2]; simpa [zeroRow] using hu) (fun u hu => by simp at hu; rcases hu with rfl | rfl | rfl <;> rfl) (by simp only; omega) ?_
      intro v3 w3 ho3 hs3 hv3
      refine Goes.adv hTT 400 rfl ?_
      refine Goes.arith hTT rfl (w64 (by omega)) rfl ?_
      exact ih (j + 1, v3) _ _ ⟨hlt, ⟨_, ho3⟩, ho2.since (hw1.trans hw2) (Nat.le_refl _) hs3⟩ (by simp only; omega) ⟨rfl, rfl, rfl, rfl, by show some (Value.int .i64 (((d0 + j : Nat) : Int) + 1)) = some (.int .i64 ((d0 + (j + 1) : Nat) : Int)); exact int_s (by omega), trivial⟩
  · have hge : j = L := by have := of_decide_eq_false hc; simp only at this; omega
    subst hge
    rcases ho.2 with ⟨rfl, h0⟩ | ⟨g, cap, cur, rfl, _⟩
    · exact absurd h0 (by omega)
    · exact Goes.ret1 hTT rfl Try.func73 rfl rfl ⟨_, cap, rfl, hw1⟩
end Go.Proofs.Ytffimkpllchfcaa
/-
  Layer 21: what is charged.
-/
namespace Go.Proofs.Ytffimkpllchfcaa
open Go.RowKit

def vrL (c : Conf) (p : ConfAt) (r : RA) : List Value := confL c p ++ raL r
def chargeM (c : Conf) (q : Plc) (at' n : Nat) : Int := n + (if q.cls = -1 then ((spansM at' n c.size.toNat).length : Int) else 0)
theorem ref21_charge (c : Conf) (p : ConfAt) (r : RA) (q : Plc) (at' n : Nat) (w : World) (hm : mayB c = true) (hb : at' + n ≤ 16777216) (hst : 0 ≤ r.steps ∧ r.steps ≤ 1152921504606846976) :
    Does Try.prog 65 #[.agg (vrL c p r).toArray, .agg (plL q).toArray, .int .i64 at', .int .i64 n] w (Grow (.agg (vrL c p { r with steps := r.steps + chargeM c q at' n }).toArray) w) := by
  obtain ⟨m1, m2, m3⟩ := may_facts hm
  obtain ⟨ra, rcap, rbs, st⟩ := r
  replace hst : 0 ≤ st ∧ st ≤ 1152921504606846976 := hst
  refine Does.enter Try.func65 rfl Try.ntmps65 rfl rfl ?_
  refine Goes.adv hTT 400 rfl ?_
  refine Goes.alloc hTT rfl ?_
  intro xb w1 e1 hxb hw1 hz1
  refine Goes.adv hTT 400 rfl ?_
  refine Goes.alloc hTT rfl ?_
  intro qb w2 e2 hqb hw2 hz2
  refine Goes.adv hTT 400 rfl ?_
  refine Goes.alloc hTT rfl ?_
  intro ob w3 e3 hob hw3 hz3
  refine Goes.adv hTT 400 rfl ?_
  replace hqb : w2.heap[qb]? = some (.cells (plL q).toArray 26 (0, 0)) := hqb
  replace hxb : w1.heap[xb]? = some (.cells (vrL c p ⟨ra, rcap, rbs, st⟩).toArray 43 (0, 0)) := hxb
  have hxb3 := hw3.heap' (hw2.heap' hxb)
  have hw := (hw1.trans hw2).trans hw3
  refine Goes.loadb hTT rfl hxb3 rfl rfl ?_
  refine Goes.arith hTT rfl (w64 (by show _ ∧ _; simp only; omega)) rfl ?_
  refine Goes.store hTT rfl hxb3 rfl rfl ?_
  intro w4 hxb4 hs4 hz4
  refine Goes.adv hTT 400 rfl ?_
  have hwa : Chg None' w w4 := hw.since hs4 (fun z hz e => by omega)
  have hqb4 := hs4.heap (hw3.heap' hqb) (by omega)
  have hob4 := hs4.heap hob (by omega)
  refine Goes.loadb hTT rfl hqb4 rfl rfl ?_
  by_cases hcl : q.cls = -1
  · obtain ⟨sz, hsz⟩ := Int.eq_ofNat_of_zero_le (show 0 ≤ c.size by omega)
    have hszt : c.size.toNat = sz := by omega
    have hsl := spansM_length (page := sz) (by omega) n at'
    refine Goes.yes hTT rfl (show (q.cls == -1) = true by rw [hcl]; rfl) rfl ?_
    refine Goes.drawn (q := 13) None' hTT mixed (by kernel_rfl) rfl ?_
    intro hB
    refine Drawn.loadb hTT hB rfl hxb4 (by first | exact fun h => h | (intro h; omega) | assumption) rfl rfl ?_
    refine Drawn.loadb hTT hB rfl hxb4 (by first | exact fun h => h | (intro h; omega) | assumption) rfl rfl ?_
    have hd : ∀ w', Chg None' w4 w' → Does Try.prog 73 #[.int .i64 at', .int .i64 n, .int .i64 c.size] w' (fun u w2 => Chg None' w' w2 ∧ ∃ a cap, u = .slice a (spansM at' n sz).length cap) := fun w' hw' => by
      rw [hsz]
      exact (ref16_Cut at' n sz w' (by omega)).mono fun u w2 ⟨a, cap, h1, h2⟩ => ⟨h2, a, cap, h1⟩
    refine Drawn.callQ hB rfl rfl (hd) ?_
    rintro _ w5 hw5 ⟨sa, scap, rfl⟩
    refine Drawn.adv hTT hB rfl ?_
    refine Drawn.arith hTT hB rfl (w64 (by show _ ∧ _; simp only; omega)) rfl ?_
    refine Drawn.adv hTT hB rfl ?_
    refine Drawn.nil hB ?_
    intro w6 hw6
    refine Goes.adv hTT 400 rfl ?_
    have hw46 := hw5.trans hw6
    refine Goes.store hTT rfl (hw46.heap' hxb4) rfl rfl ?_
    intro w7 hxb7 hs7 hz7
    refine Goes.adv hTT 400 rfl ?_
    have hw7 : Chg None' w w7 := (hwa.trans hw46).since hs7 (fun z hz e => by omega)
    have hob7 := hs7.heap (hw46.heap' hob4) (by omega)
    refine Goes.loads hTT rfl hxb7 rfl rfl ?_
    refine Goes.store hTT rfl hob7 rfl rfl ?_
    intro w8 hob8 hs8 hz8
    refine Goes.adv hTT 400 rfl ?_
    have hwb : Chg None' w w8 := hw7.since hs8 (fun z hz e => by have := hw1.size; omega)
    have he : st + (n : Int) + ((spansM at' n sz).length : Int) = st + chargeM c q at' n := by unfold chargeM; rw [if_pos hcl, hszt]; omega
    replace hob8 : w8.heap[ob]? = some (.cells (vrL c p ⟨ra, rcap, rbs, st + (n : Int) + ((spansM at' n sz).length : Int)⟩).toArray 43 (0, 0)) := hob8
    rw [he] at hob8
    exact Goes.ret hTT rfl Try.func65 (ResOk.cell rfl rfl rfl hob8 rfl .nil) ⟨rfl, hwb⟩
  · refine Goes.no hTT rfl (show (q.cls == -1) = false by simpa using hcl) rfl ?_
    refine Goes.loads hTT rfl hxb4 rfl rfl ?_
    refine Goes.store hTT rfl hob4 rfl rfl ?_
    intro w5 hob5 hs5 hz5
    refine Goes.adv hTT 400 rfl ?_
    have hwb : Chg None' w w5 := hwa.since hs5 (fun z hz e => by have := hw1.size; omega)
    have he : st + (n : Int) = st + chargeM c q at' n := by unfold chargeM; rw [if_neg hcl]; omega
    rw [he] at hob5
    exact Goes.ret hTT rfl Try.func65 (ResOk.cell rfl rfl rfl hob5 rfl .nil) ⟨rfl, hwb⟩
end Go.Proofs.Ytffimkpllchfcaa
/-
  Layer 21: what the document's reading answers.
-/
namespace Go.Proofs.Ytffimkpllchfcaa
open Go.RowKit

theorem where_in {c : Conf} {q : Plc} {i : Nat} (hm : mayB c = true) (hin : viewIs c q = true) (hi : (i : Int) < viewHolds c q) : 0 ≤ whereM c q i ∧ whereM c q i < c.size * c.pages := by
  obtain ⟨m1, m2, m3⟩ := may_facts hm
  unfold whereM
  by_cases hcl : q.cls = -1
  · rw [if_pos hcl]
    obtain ⟨hpos, hpg⟩ := is_large hin hcl
    have hho : viewHolds c q = (q.pages.length : Int) * c.size := by unfold viewHolds; rw [if_pos hin, if_pos hcl]
    rw [hho] at hi
    obtain ⟨sz, hsz⟩ := Int.eq_ofNat_of_zero_le (show 0 ≤ c.size by omega)
    have hszt : c.size.toNat = sz := by omega
    rw [hszt]
    have hd1 : i / sz < q.pages.length := by
      apply Nat.div_lt_of_lt_mul
      have : ((sz * q.pages.length : Nat) : Int) = (q.pages.length : Int) * c.size := by rw [hsz, Int.mul_comm]; rfl
      omega
    have hmod := Nat.mod_lt i (show 0 < sz by omega)
    obtain ⟨D, hD⟩ : ∃ D, D = i / sz := ⟨_, rfl⟩
    obtain ⟨M, hM⟩ : ∃ M, M = i % sz := ⟨_, rfl⟩
    rw [← hD] at hd1 ⊢
    rw [← hM] at hmod ⊢
    have hpn : 0 ≤ q.pages.getD D 0 ∧ q.pages.getD D 0 < c.pages := hpg _ (by rw [List.getD_eq_getElem?_getD, List.getElem?_eq_getElem hd1]; exact List.getElem_mem hd1)
    have h1 : 0 ≤ q.pages.getD D 0 * c.size := Int.mul_nonneg hpn.1 (by omega)
    have e2 : q.pages.getD D 0 * c.size + c.size ≤ c.size * c.pages := by
      have : (q.pages.getD D 0 + 1) * c.size ≤ c.pages * c.size := Int.mul_le_mul_of_nonneg_right (by omega) (by omega)
      rw [Int.add_mul, Int.one_mul, Int.mul_comm c.pages] at this
      exact this
    omega
  · rw [if_neg hcl]
    obtain ⟨k, pg, ix, hk, hpg, hix, hkl, g1, g2, g3, g4, g5, g6, g7⟩ := is_small hm hin hcl
    have hat : viewAt c q = (pg : Int) * c.size + (ix : Int) * clsM c k := by unfold viewAt; rw [if_pos ⟨hin, hcl⟩, hk, hpg, hix]
    have hho : viewHolds c q = clsM c k := by unfold viewHolds; rw [if_pos hin, if_neg hcl, hk]
    omega
/-- The bytes of a place, one by one. -/
def toldM (c : Conf) (q : Plc) (bs : List Int) (at' n : Nat) : List Int := (List.range n).map fun i => bs.getD (whereM c q (at' + i)).toNat 0
theorem toldM_succ (c : Conf) (q : Plc) (bs : List Int) (at' n : Nat) : toldM c q bs at' (n + 1) = toldM c q bs at' n ++ [bs.getD (whereM c q (at' + n)).toNat 0] := by
  unfold toldM
  rw [List.range_succ, List.map_append]
  rfl
theorem check_zero {c : Conf} {q : Plc} {at' n : Int} (h : checkM c q at' n = 0) : viewIs c q = true ∧ 0 ≤ at' ∧ 0 ≤ n ∧ at' + n ≤ viewHolds c q := by
  have hi : viewIs c q = true := by
    cases hi : viewIs c q with
    | true => rfl
    | false => unfold checkM at h; rw [if_pos hi] at h; cases h
  have hgood : ¬ (at' < 0 ∨ n < 0 ∨ viewHolds c q < n ∨ viewHolds c q - n < at') := fun hh => by
    unfold checkM at h; rw [if_neg (by rw [hi]; decide), if_pos hh] at h; cases h
  exact ⟨hi, by omega, by omega, by omega⟩
end Go.Proofs.Ytffimkpllchfcaa
/-
  Layer 21: the document's reading.
-/
namespace Go.Proofs.Ytffimkpllchfcaa
open Go.RowKit

theorem ref21_Read_no (c : Conf) (p : ConfAt) (r : RA) (q : Plc) (at' n : Int) (w : World) (hc : ConfOk w c p) (hq : PlcOk w q) (hm : mayB c = true) (hfew : q.pages.length ≤ 4096) (hn : checkM c q at' n ≠ 0) :
    Does Try.prog 42 #[.agg (vrL c p r).toArray, .agg (plL q).toArray, .int .i64 at', .int .i64 n] w (Grow (.tuple #[.agg (vrL c p r).toArray, .slice none 0 0, .int .i64 (checkM c q at' n)]) w) := by
  refine Does.enter Try.func42 rfl Try.ntmps42 rfl rfl ?_
  refine Goes.adv hTT 400 rfl ?_
  refine Goes.alloc hTT rfl ?_
  intro xb w1 e1 hxb hw1 hz1
  refine Goes.adv hTT 400 rfl ?_
  refine Goes.alloc hTT rfl ?_
  intro qb w2 e2 hqb hw2 hz2
  refine Goes.adv hTT 400 rfl ?_
  refine Goes.alloc hTT rfl ?_
  intro ob w3 e3 hob hw3 hz3
  refine Goes.adv hTT 400 rfl ?_
  replace hqb : w2.heap[qb]? = some (.cells (plL q).toArray 26 (0, 0)) := hqb
  replace hxb : w1.heap[xb]? = some (.cells (vrL c p r).toArray 43 (0, 0)) := hxb
  have hxb3 := hw3.heap' (hw2.heap' hxb)
  have hw := (hw1.trans hw2).trans hw3
  refine Goes.loads hTT rfl hxb3 rfl rfl ?_
  refine Goes.loads hTT rfl (hw3.heap' hqb) rfl rfl ?_
  refine Goes.call rfl (ref21_check c p q at' n w3 (hc.chg hw) (hq.grow hw) hm hfew) ?_
  rintro _ w4 ⟨rfl, hw4⟩
  refine Goes.adv hTT 400 rfl ?_
  have hwa := hw.trans hw4
  refine Goes.yes hTT rfl (show (checkM c q at' n != 0) = true by simpa using hn) rfl ?_
  refine Goes.loads hTT rfl (hw4.heap' hxb3) rfl rfl ?_
  refine Goes.store hTT rfl (hw4.heap' hob) rfl rfl ?_
  intro w5 hob5 hs5 hz5
  refine Goes.adv hTT 400 rfl ?_
  replace hob5 : w5.heap[ob]? = some (.cells (vrL c p r).toArray 43 (0, 0)) := hob5
  exact Goes.ret hTT rfl Try.func42 (ResOk.cell rfl rfl rfl hob5 rfl (.tmp rfl (.tmp rfl .nil))) ⟨rfl, hwa.since hs5 (fun z hz e => by have := hw1.size; omega)⟩
set_option maxRecDepth 100000 in
theorem ref21_Read (c : Conf) (p : ConfAt) (r : RA) (q : Plc) (at' n : Nat) (w : World) (hc : ConfOk w c p) (hq : PlcOk w q) (hm : mayB c = true) (hfew : q.pages.length ≤ 4096) (hck : checkM c q at' n = 0)
    (hR : RaOk w r) (hrl : (r.bs.length : Int) = c.size * c.pages) (hst : 0 ≤ r.steps ∧ r.steps ≤ 1152921504606846976) :
    Does Try.prog 42 #[.agg (vrL c p r).toArray, .agg (plL q).toArray, .int .i64 at', .int .i64 n] w (fun u w' => ∃ u1, u = .tuple #[.agg (vrL c p { r with steps := r.steps + chargeM c q at' n }).toArray, u1, .int .i64 0] ∧ Own w.heap.size 5 1 w' u1 n ((toldM c q r.bs at' n).map (Value.int .u8)) ∧ Chg None' w w') := by
  have hml : maxLen = 9223372036854775807 := rfl
  obtain ⟨hin, _, _, hle⟩ := check_zero hck
  have hhb := viewHolds_bound (c := c) (q := q) hm hfew
  refine Does.enter Try.func42 rfl Try.ntmps42 rfl rfl ?_
  refine Goes.adv hTT 400 rfl ?_
  refine Goes.alloc hTT rfl ?_
  intro xb w1 e1 hxb hw1 hz1
  refine Goes.adv hTT 400 rfl ?_
  refine Goes.alloc hTT rfl ?_
  intro qb w2 e2 hqb hw2 hz2
  refine Goes.adv hTT 400 rfl ?_
  refine Goes.alloc hTT rfl ?_
  intro ob w3 e3 hob hw3 hz3
  refine Goes.adv hTT 400 rfl ?_
  replace hqb : w2.heap[qb]? = some (.cells (plL q).toArray 26 (0, 0)) := hqb
  replace hxb : w1.heap[xb]? = some (.cells (vrL c p r).toArray 43 (0, 0)) := hxb
  have hxb3 := hw3.heap' (hw2.heap' hxb)
  have hqb3 := hw3.heap' hqb
  have hw := (hw1.trans hw2).trans hw3
  refine Goes.loads hTT rfl hxb3 rfl rfl ?_
  refine Goes.loads hTT rfl hqb3 rfl rfl ?_
  refine Goes.call rfl (ref21_check c p q at' n w3 (hc.chg hw) (hq.grow hw) hm hfew) ?_
  rintro _ w4 ⟨rfl, hw4⟩
  refine Goes.adv hTT 400 rfl ?_
  have hwa := hw.trans hw4
  rw [hck]
  refine Goes.no hTT rfl rfl rfl ?_
  refine Goes.loop (α := Nat × Value) (fun x => [(2, false, .int .i64 at'), (3, false, .int .i64 n), (4, false, .pointer (some ⟨xb, 0, none⟩)), (5, false, .pointer (some ⟨qb, 0, none⟩)), (8, false, .pointer (some ⟨ob, 0, none⟩)), (12, false, x.2), (13, false, .int .i64 ((at' + x.1 : Nat) : Int))])
    (fun x w' => x.1 ≤ n ∧ Own w4.heap.size 5 1 w' x.2 x.1 ((toldM c q r.bs at' x.1).map (Value.int .u8)) ∧ Chg None' w4 w') (fun x => n - x.1) (0, .slice none 0 0) ⟨rfl, rfl, rfl, rfl, rfl, rfl, rfl, trivial⟩ ⟨Nat.zero_le _, World.ownsRow_nil _ _ _ _, Chg.refl _ _⟩ ?_
  rintro ⟨j, v⟩ w5 ⟨hj, ho, hw5⟩ ih
  simp only at hj ho
  have hw35 := hw4.trans hw5
  have hwb := hwa.trans hw5
  refine Goes.adv hTT 400 rfl ?_
  refine Goes.arith hTT rfl (w64 (by omega)) rfl ?_
  refine Goes.fork hTT rfl rfl rfl (fun h0 => ?_) (fun h0 => ?_)
  · have hlt : j < n := by have := of_decide_eq_true h0; simp only at this; omega
    have hwi := where_in (i := at' + j) hm hin (by omega)
    obtain ⟨x, hx⟩ := Int.eq_ofNat_of_zero_le hwi.1
    have hxl : x < r.bs.length := by omega
    have htd : toldM c q r.bs at' (j + 1) = toldM c q r.bs at' j ++ [r.bs.getD x 0] := by rw [toldM_succ, hx]; rfl
    obtain ⟨bb, boff, hba, hbc⟩ := (hR.rd.chg (hwb)) x hxl
    obtain ⟨ra, rcap, rbs, st⟩ := r
    simp only at hba
    subst hba
    replace hxl : x < rbs.length := hxl
    refine Goes.drawn (q := 12) None' hTT mixed (by kernel_rfl) rfl ?_
    intro hB
    refine Drawn.loadb hTT hB rfl (hw35.heap' hxb3) (by first | exact fun h => h | (intro h; omega) | assumption) rfl rfl ?_
    refine Drawn.loads hTT hB rfl (hw35.heap' hxb3) (by first | exact fun h => h | (intro h; omega) | assumption) rfl rfl ?_
    refine Drawn.loads hTT hB rfl (hw35.heap' hqb3) (by first | exact fun h => h | (intro h; omega) | assumption) rfl rfl ?_
    refine Drawn.call hTT hB rfl (fun w' hw' => ref21_Where c p q (at' + j) w' ((hc.chg hwb).chg hw') ((hq.grow hwb).grow hw') hm hin hfew (by omega)) rfl ?_
    rw [hx]
    refine Drawn.index hTT hB rfl (j := x) (show (0 : Int) ≤ (x : Int) by omega) (show (x : Int) < rbs.length by omega) (by simp) rfl ?_
    refine Drawn.load hTT hB rfl hbc (by first | exact fun h => h | (intro h; omega) | assumption) rfl ?_
    refine Drawn.turn1 hB rfl ?_
    intro w6 hw6
    refine Turn.buildSlice hTT hB rfl (fun _ => rfl) ?_
    intro b7 w7 e7 hb7 hw7 hz7
    refine Drawn.nil hB ?_
    intro w8 hw8
    refine Goes.adv hTT 400 rfl ?_
    have hw58 := (hw6.trans hw7).trans hw8
    have ho8 := ho.chg hw58 (fun _ _ h => h)
    refine Goes.append (base := w4.heap.size) (news := [.int .u8 (rbs.getD x 0)]) hTT rfl ho8 (by have := hw5.size; have := hw58.size; omega) rfl (cells1 (hw8.heap' hb7)) (by simp [Value.oneCell']) (by simp only; omega) ?_
    intro v9 w9 ho9 hs9 hv9
    refine Goes.adv hTT 400 rfl ?_
    refine Goes.arith hTT rfl (w64 (by omega)) rfl ?_
    exact ih (j + 1, v9) _ _ ⟨hlt, by rw [htd, List.map_append]; exact ho9, ho8.since (hw5.trans hw58) (Nat.le_refl _) hs9⟩ (by simp only; omega) ⟨rfl, rfl, rfl, rfl, rfl, rfl, by show some (Value.int .i64 (((at' + j : Nat) : Int) + 1)) = some (.int .i64 ((at' + (j + 1) : Nat) : Int)); exact int_s (by omega), trivial⟩
  · have hge : j = n := by have := of_decide_eq_false h0; simp only at this; omega
    subst hge
    refine Goes.loads hTT rfl (hw35.heap' hxb3) rfl rfl ?_
    refine Goes.loads hTT rfl (hw35.heap' hqb3) rfl rfl ?_
    refine Goes.call rfl (ref21_charge c p r q at' j w5 hm (by omega) hst) ?_
    rintro _ w6 ⟨rfl, hw6⟩
    refine Goes.adv hTT 400 rfl ?_
    have hob6 := (hw35.trans hw6).heap' hob
    refine Goes.store hTT rfl hob6 rfl rfl ?_
    intro w7 hob7 hs7 hz7
    refine Goes.adv hTT 400 rfl ?_
    replace hob7 : w7.heap[ob]? = some (.cells (vrL c p { r with steps := r.steps + chargeM c q at' j }).toArray 43 (0, 0)) := hob7
    have ho7 := (ho.chg hw6 (fun _ _ h => h)).chg hs7 (fun b hb e => by have := (World.ownsRow.lt ho b hb.symm).1; have := hw4.size; omega)
    have hs04 := hwa.size
    have ho' : Own w.heap.size 5 1 w7 v j ((toldM c q r.bs at' j).map (Value.int .u8)) := by
      refine ⟨ho7.1, ?_⟩
      rcases ho7.2 with h | ⟨g, cap, cur, a1, a2, a3⟩
      · exact .inl h
      · exact .inr ⟨g, cap, cur, a1, by omega, a3⟩
    exact Goes.ret hTT rfl Try.func42 (ResOk.cell rfl rfl rfl hob7 rfl (.tmp rfl (.tmp rfl .nil))) ⟨v, rfl, ho', (hwb.trans hw6).since hs7 (fun z hz e => by have := hw1.size; omega)⟩
end Go.Proofs.Ytffimkpllchfcaa
/-
  Layer 21: the document's writing.
-/
namespace Go.Proofs.Ytffimkpllchfcaa
open Go.RowKit

/-- The bytes behind k bytes laid one by one. -/
def layM (c : Conf) (q : Plc) (bs : List Int) (at' : Nat) (l : List Int) : Nat → List Int
  | 0 => bs
  | k + 1 => (layM c q bs at' l k).set (whereM c q (at' + k)).toNat (l.getD k 0)
theorem layM_len (c : Conf) (q : Plc) (bs : List Int) (at' : Nat) (l : List Int) : ∀ k, (layM c q bs at' l k).length = bs.length
  | 0 => rfl
  | k + 1 => by show (List.set _ _ _).length = _; rw [List.length_set, layM_len c q bs at' l k]
theorem mem_set_i {l : List Int} {i : Nat} {v x : Int} (h : x ∈ l.set i v) : x ∈ l ∨ x = v := by
  rcases List.mem_or_eq_of_mem_set h with h | h
  · exact .inl h
  · exact .inr h
theorem layM_in {c : Conf} {q : Plc} {bs l : List Int} {at' : Nat} (hb : InB bs) (hl : InB l) : ∀ {k : Nat}, k ≤ l.length → InB (layM c q bs at' l k)
  | 0, _ => hb
  | k + 1, h => fun x hx => by
    rcases mem_set_i hx with hx | hx
    · exact layM_in hb hl (k := k) (by omega) x hx
    · have hk : k < l.length := h
      rw [List.getD_eq_getElem?_getD, List.getElem?_eq_getElem hk] at hx
      rw [hx]
      exact hl _ (List.getElem_mem hk)
theorem ref21_Write_no (c : Conf) (p : ConfAt) (r : RA) (q : Plc) (at' : Int) (a : Option Addr) (n cap : Nat) (w : World) (hc : ConfOk w c p) (hq : PlcOk w q) (hm : mayB c = true) (hfew : q.pages.length ≤ 4096) (hn : checkM c q at' n ≠ 0) :
    Does Try.prog 43 #[.agg (vrL c p r).toArray, .agg (plL q).toArray, .int .i64 at', .slice a n cap] w (Grow (.tuple #[.agg (vrL c p r).toArray, .int .i64 (checkM c q at' n)]) w) := by
  refine Does.enter Try.func43 rfl Try.ntmps43 rfl rfl ?_
  refine Goes.adv hTT 400 rfl ?_
  refine Goes.alloc hTT rfl ?_
  intro xb w1 e1 hxb hw1 hz1
  refine Goes.adv hTT 400 rfl ?_
  refine Goes.alloc hTT rfl ?_
  intro qb w2 e2 hqb hw2 hz2
  refine Goes.adv hTT 400 rfl ?_
  refine Goes.alloc hTT rfl ?_
  intro ob w3 e3 hob hw3 hz3
  refine Goes.adv hTT 400 rfl ?_
  replace hqb : w2.heap[qb]? = some (.cells (plL q).toArray 26 (0, 0)) := hqb
  replace hxb : w1.heap[xb]? = some (.cells (vrL c p r).toArray 43 (0, 0)) := hxb
  have hxb3 := hw3.heap' (hw2.heap' hxb)
  have hw := (hw1.trans hw2).trans hw3
  refine Goes.loads hTT rfl hxb3 rfl rfl ?_
  refine Goes.loads hTT rfl (hw3.heap' hqb) rfl rfl ?_
  refine Goes.call rfl (ref21_check c p q at' n w3 (hc.chg hw) (hq.grow hw) hm hfew) ?_
  rintro _ w4 ⟨rfl, hw4⟩
  refine Goes.adv hTT 400 rfl ?_
  have hwa := hw.trans hw4
  refine Goes.yes hTT rfl (show (checkM c q at' n != 0) = true by simpa using hn) rfl ?_
  refine Goes.loads hTT rfl (hw4.heap' hxb3) rfl rfl ?_
  refine Goes.store hTT rfl (hw4.heap' hob) rfl rfl ?_
  intro w5 hob5 hs5 hz5
  refine Goes.adv hTT 400 rfl ?_
  replace hob5 : w5.heap[ob]? = some (.cells (vrL c p r).toArray 43 (0, 0)) := hob5
  exact Goes.ret hTT rfl Try.func43 (ResOk.cell rfl rfl rfl hob5 rfl (.tmp rfl .nil)) ⟨rfl, hwa.since hs5 (fun z hz e => by have := hw1.size; omega)⟩
set_option maxRecDepth 100000 in
theorem ref21_Write (c : Conf) (p : ConfAt) (r : RA) (q : Plc) (at' : Nat) (a : Option Addr) (cap : Nat) (l : List Int) (w : World) (hc : ConfOk w c p) (hq : PlcOk w q) (hm : mayB c = true) (hfew : q.pages.length ≤ 4096) (hck : checkM c q at' l.length = 0)
    (hR : RaOk w r) (hrl : (r.bs.length : Int) = c.size * c.pages) (hst : 0 ≤ r.steps ∧ r.steps ≤ 1152921504606846976) (hr : Rd .u8 w a l) (hin8 : InB l) :
    Does Try.prog 43 #[.agg (vrL c p r).toArray, .agg (plL q).toArray, .int .i64 at', .slice a l.length cap] w (fun u w' => ∃ r' : RA, u = .tuple #[.agg (vrL c p r').toArray, .int .i64 0] ∧ r'.bs = layM c q r.bs at' l l.length ∧ r'.steps = r.steps + chargeM c q at' l.length ∧ RaOk w' r' ∧ Newer w r.a r'.a ∧ Chg None' w w') := by
  have hml : maxLen = 9223372036854775807 := rfl
  obtain ⟨hin, _, _, hle⟩ := check_zero hck
  have hhb := viewHolds_bound (c := c) (q := q) hm hfew
  have htot := size_total hm
  have hrlen := hR.len
  obtain ⟨ra, rcap, rbs, st⟩ := r
  replace hst : 0 ≤ st ∧ st ≤ 1152921504606846976 := hst
  replace hrl : (rbs.length : Int) = c.size * c.pages := hrl
  replace hrlen : rbs.length ≤ 4194304 := hrlen
  refine Does.enter Try.func43 rfl Try.ntmps43 rfl rfl ?_
  refine Goes.adv hTT 400 rfl ?_
  refine Goes.alloc hTT rfl ?_
  intro xb w1 e1 hxb hw1 hz1
  refine Goes.adv hTT 400 rfl ?_
  refine Goes.alloc hTT rfl ?_
  intro qb w2 e2 hqb hw2 hz2
  refine Goes.adv hTT 400 rfl ?_
  refine Goes.alloc hTT rfl ?_
  intro ob w3 e3 hob hw3 hz3
  refine Goes.adv hTT 400 rfl ?_
  replace hqb : w2.heap[qb]? = some (.cells (plL q).toArray 26 (0, 0)) := hqb
  replace hxb : w1.heap[xb]? = some (.cells (vrL c p ⟨ra, rcap, rbs, st⟩).toArray 43 (0, 0)) := hxb
  have hxb3 := hw3.heap' (hw2.heap' hxb)
  have hqb3 := hw3.heap' hqb
  have hw := (hw1.trans hw2).trans hw3
  refine Goes.loads hTT rfl hxb3 rfl rfl ?_
  refine Goes.loads hTT rfl hqb3 rfl rfl ?_
  refine Goes.call rfl (ref21_check c p q at' l.length w3 (hc.chg hw) (hq.grow hw) hm hfew) ?_
  rintro _ w4 ⟨rfl, hw4⟩
  refine Goes.adv hTT 400 rfl ?_
  have hwa := hw.trans hw4
  rw [hck]
  refine Goes.no hTT rfl rfl rfl ?_
  refine Goes.buildSlice hTT rfl ?_
  intro b5 w5 e5 hb5 hw5 hz5
  refine Goes.adv hTT 400 rfl ?_
  have hwb := hwa.trans hw5
  have hw35 := hw4.trans hw5
  have ho5 : Own w.heap.size 5 1 w5 (.slice (some ⟨b5, 0, none⟩) 0 0) 0 [] := Own.empty (by have := hwa.size; omega) hb5
  obtain ⟨gb0, goff0, hra, _⟩ := hR.rd 0 (by show 0 < rbs.length; omega)
  replace hra : ra = some ⟨gb0, goff0, none⟩ := hra
  subst hra
  refine Goes.loadb hTT rfl (hw35.heap' hxb3) rfl rfl ?_
  have hrd5 : Rd .u8 w5 (some ⟨gb0, goff0, none⟩) rbs := hR.rd.chg hwb
  refine Goes.append (base := w.heap.size) (xs := []) (news := rbs.map (Value.int .u8)) hTT rfl ho5 hwb.size (by simp) hrd5.cells plain_ints (by simp only; omega) ?_
  intro v6 w6 ho6 hs6 hv6
  obtain ⟨g, gcap, cur, hv6e, hg1, hg2, hg3, hg4, hg5⟩ := ho6.form (by show 0 < 0 + rbs.length; omega)
  subst hv6e
  refine Goes.adv hTT 400 rfl ?_
  have hw6 : Chg None' w w6 := ho5.since hwb (Nat.le_refl _) hs6
  have hb5n : ∀ z, z < b5 → ¬ ownS (.slice (some ⟨b5, 0, none⟩) 0 0) z := fun z hz h => by have e : some z = some b5 := h; have := Option.some.inj e; omega
  have hlx := lt_of_heap (hw4.heap' hxb3)
  have hlq := lt_of_heap (hw4.heap' hqb3)
  have hlo := lt_of_heap (hw4.heap' hob)
  have hxb6 := hs6.heap (hw35.heap' hxb3) (hb5n xb (by omega))
  have hqb6 := hs6.heap (hw35.heap' hqb3) (hb5n qb (by omega))
  have hob6 := hs6.heap (hw35.heap' hob) (hb5n ob (by omega))
  have hcur : cur.toList = rbs.map (Value.int .u8) ++ cur.toList.drop rbs.length := by
    have e := List.take_append_drop rbs.length cur.toList
    rw [show cur.toList.take rbs.length = rbs.map (Value.int .u8) from by simpa using hg5] at e
    exact e.symm
  obtain ⟨rest, hrest⟩ : ∃ rest, rest = cur.toList.drop rbs.length := ⟨_, rfl⟩
  rw [← hrest] at hcur
  have hg2' : w6.heap[g]? = some (.cells (rbs.map (Value.int .u8) ++ rest).toArray 5 (0, 0)) := by rw [← hcur]; exact hg2
  have hl4 : 0 + rbs.length = rbs.length := by omega
  rw [hl4] at hg3 ⊢
  have hgn : w4.heap.size ≤ g := by
    rcases hv6.2 with h | h
    · have e : some g = some b5 := h
      have := Option.some.inj e
      omega
    · have e : some g = some w5.heap.size := h
      have := Option.some.inj e
      omega
  have hge4 := hw4.size
  have hwg := hwa.size
  refine Goes.loop (α := Nat) (fun k => [(2, false, .int .i64 at'), (3, false, .slice a l.length cap), (4, false, .pointer (some ⟨xb, 0, none⟩)), (5, false, .pointer (some ⟨qb, 0, none⟩)), (8, false, .pointer (some ⟨ob, 0, none⟩)), (11, false, .slice (some ⟨g, 0, none⟩) rbs.length gcap), (12, false, .int .i64 k)])
    (fun k w' => k ≤ l.length ∧ w'.heap[g]? = some (.cells ((layM c q rbs at' l k).map (Value.int .u8) ++ rest).toArray 5 (0, 0)) ∧ Chg (fun z => z = g) w6 w') (fun k => l.length - k) 0 ⟨rfl, rfl, rfl, rfl, rfl, rfl, rfl, trivial⟩ ⟨Nat.zero_le _, hg2', Chg.refl _ _⟩ ?_
  rintro k w7 ⟨hk, hgk, hs7⟩ ih
  have hc7 : Chg None' w w7 := hw6.since hs7 (fun z hz e => by omega)
  have hxb7 := hs7.heap hxb6 (by omega)
  have hqb7 := hs7.heap hqb6 (by omega)
  have hob7 := hs7.heap hob6 (by omega)
  have hll := layM_len c q rbs at' l k
  refine Goes.adv hTT 400 rfl ?_
  refine Goes.fork hTT rfl rfl rfl (fun h0 => ?_) (fun h0 => ?_)
  · have hlt : k < l.length := by have := of_decide_eq_true h0; omega
    have hwi := where_in (i := at' + k) hm hin (by omega)
    obtain ⟨x, hx⟩ := Int.eq_ofNat_of_zero_le hwi.1
    have hxl : x < rbs.length := by omega
    obtain ⟨sb, soff, rfl, hsc⟩ := (hr.chg hc7) k hlt
    have hla : layM c q rbs at' l (k + 1) = (layM c q rbs at' l k).set x (l.getD k 0) := by show (layM c q rbs at' l k).set (whereM c q (at' + k)).toNat (l.getD k 0) = _; rw [hx]; rfl
    refine Goes.drawn (q := 13) None' hTT mixed (by kernel_rfl) rfl ?_
    intro hB
    refine Drawn.loads hTT hB rfl hxb7 (by first | exact fun h => h | (intro h; omega) | assumption) rfl rfl ?_
    refine Drawn.loads hTT hB rfl hqb7 (by first | exact fun h => h | (intro h; omega) | assumption) rfl rfl ?_
    refine Drawn.arith hTT hB rfl (w64 (by omega)) rfl ?_
    refine Drawn.call hTT hB rfl (fun w' hw' => ref21_Where c p q (at' + k) w' ((hc.chg hc7).chg hw') ((hq.grow hc7).grow hw') hm hin hfew (by omega)) rfl ?_
    rw [hx]
    refine Drawn.index hTT hB rfl (j := k) (by omega) (by omega) (by first | rfl | omega | (simp; done) | (simp; omega)) rfl ?_
    refine Drawn.load hTT hB rfl hsc (by first | exact fun h => h | (intro h; omega) | assumption) rfl ?_
    refine Drawn.index hTT hB rfl (j := x) (show (0 : Int) ≤ (x : Int) by omega) (show (x : Int) < rbs.length by omega) (by simp) rfl ?_
    refine Drawn.nil hB ?_
    intro w8 hw8
    refine Goes.adv hTT 400 rfl ?_
    refine Goes.store hTT rfl (hw8.heap' hgk) (show setV ((layM c q rbs at' l k).map (Value.int .u8) ++ rest) (0 + x) [.int .u8 (l.getD k 0)] = some (((layM c q rbs at' l k).set x (l.getD k 0)).map (Value.int .u8) ++ rest) from by rw [Nat.zero_add, setV_one _ _ _ (by simp; omega), List.set_append_left _ _ (by simp; omega), List.map_set]) rfl ?_
    intro w9 hg9 hs9 hz9
    refine Goes.adv hTT 400 rfl ?_
    refine Goes.arith hTT rfl (w64 (by omega)) rfl ?_
    exact ih (k + 1) _ _ ⟨hlt, by rw [hla]; exact hg9, (hs7.trans (hw8.mono fun _ _ h => h.elim)).trans hs9⟩ (by omega) ⟨rfl, rfl, rfl, rfl, rfl, rfl, rfl, trivial⟩
  · have hge : k = l.length := by have := of_decide_eq_false h0; omega
    subst hge
    refine Goes.loadb hTT rfl hxb7 rfl rfl ?_
    refine Goes.build hTT rfl rfl ?_
    rw [← hll]
    refine Goes.store hTT rfl hxb7 rfl rfl ?_
    intro w8 hxb8 hs8 hz8
    refine Goes.adv hTT 400 rfl ?_
    replace hxb8 : w8.heap[xb]? = some (.cells (vrL c p ⟨some ⟨g, 0, none⟩, gcap, layM c q rbs at' l l.length, st⟩).toArray 43 (0, 0)) := hxb8
    have hqb8 := hs8.heap hqb7 (by omega)
    have hob8 := hs8.heap hob7 (by omega)
    have hg8 := hs8.heap hgk (by omega)
    have hc8 : Chg None' w w8 := hc7.since hs8 (fun z hz e => by omega)
    refine Goes.loads hTT rfl hxb8 rfl rfl ?_
    refine Goes.loads hTT rfl hqb8 rfl rfl ?_
    refine Goes.call rfl (ref21_charge c p ⟨some ⟨g, 0, none⟩, gcap, layM c q rbs at' l l.length, st⟩ q at' l.length w8 hm (by omega) hst) ?_
    rintro _ w9 ⟨rfl, hw9⟩
    refine Goes.adv hTT 400 rfl ?_
    refine Goes.store hTT rfl (hw9.heap' hob8) rfl rfl ?_
    intro w10 hob10 hs10 hz10
    refine Goes.adv hTT 400 rfl ?_
    replace hob10 : w10.heap[ob]? = some (.cells (vrL c p ⟨some ⟨g, 0, none⟩, gcap, layM c q rbs at' l l.length, st + chargeM c q at' l.length⟩).toArray 43 (0, 0)) := hob10
    have hg10 := hs10.heap (hw9.heap' hg8) (by omega)
    have hc10 : Chg None' w w10 := (hc8.trans hw9).since hs10 (fun z hz e => by have := hw1.size; omega)
    have hok : RaOk w10 ⟨some ⟨g, 0, none⟩, gcap, layM c q rbs at' l l.length, st + chargeM c q at' l.length⟩ := ⟨Rd.of_take hg10 (by simp), by simp only [hll]; omega, by simp only [hll]; omega, layM_in hR.rng hin8 (Nat.le_refl _)⟩
    exact Goes.ret hTT rfl Try.func43 (ResOk.cell rfl rfl rfl hob10 rfl (.tmp rfl .nil)) ⟨_, rfl, rfl, rfl, hok, .inr ⟨g, 0, rfl, by omega⟩, hc10⟩
end Go.Proofs.Ytffimkpllchfcaa
/-
  Layer 21: the document's clearing.
-/
namespace Go.Proofs.Ytffimkpllchfcaa
open Go.RowKit

theorem ref21_Zero_no (c : Conf) (p : ConfAt) (r : RA) (q : Plc) (at' n : Int) (w : World) (hc : ConfOk w c p) (hq : PlcOk w q) (hm : mayB c = true) (hfew : q.pages.length ≤ 4096) (hn : checkM c q at' n ≠ 0) :
    Does Try.prog 44 #[.agg (vrL c p r).toArray, .agg (plL q).toArray, .int .i64 at', .int .i64 n] w (Grow (.tuple #[.agg (vrL c p r).toArray, .int .i64 (checkM c q at' n)]) w) := by
  refine Does.enter Try.func44 rfl Try.ntmps44 rfl rfl ?_
  refine Goes.adv hTT 400 rfl ?_
  refine Goes.alloc hTT rfl ?_
  intro xb w1 e1 hxb hw1 hz1
  refine Goes.adv hTT 400 rfl ?_
  refine Goes.alloc hTT rfl ?_
  intro qb w2 e2 hqb hw2 hz2
  refine Goes.adv hTT 400 rfl ?_
  refine Goes.alloc hTT rfl ?_
  intro ob w3 e3 hob hw3 hz3
  refine Goes.adv hTT 400 rfl ?_
  replace hqb : w2.heap[qb]? = some (.cells (plL q).toArray 26 (0, 0)) := hqb
  replace hxb : w1.heap[xb]? = some (.cells (vrL c p r).toArray 43 (0, 0)) := hxb
  have hxb3 := hw3.heap' (hw2.heap' hxb)
  have hw := (hw1.trans hw2).trans hw3
  refine Goes.loads hTT rfl hxb3 rfl rfl ?_
  refine Goes.loads hTT rfl (hw3.heap' hqb) rfl rfl ?_
  refine Goes.call rfl (ref21_check c p q at' n w3 (hc.chg hw) (hq.grow hw) hm hfew) ?_
  rintro _ w4 ⟨rfl, hw4⟩
  refine Goes.adv hTT 400 rfl ?_
  have hwa := hw.trans hw4
  refine Goes.yes hTT rfl (show (checkM c q at' n != 0) = true by simpa using hn) rfl ?_
  refine Goes.loads hTT rfl (hw4.heap' hxb3) rfl rfl ?_
  refine Goes.store hTT rfl (hw4.heap' hob) rfl rfl ?_
  intro w5 hob5 hs5 hz5
  refine Goes.adv hTT 400 rfl ?_
  replace hob5 : w5.heap[ob]? = some (.cells (vrL c p r).toArray 43 (0, 0)) := hob5
  exact Goes.ret hTT rfl Try.func44 (ResOk.cell rfl rfl rfl hob5 rfl (.tmp rfl .nil)) ⟨rfl, hwa.since hs5 (fun z hz e => by have := hw1.size; omega)⟩
set_option maxRecDepth 100000 in
theorem ref21_Zero (c : Conf) (p : ConfAt) (r : RA) (q : Plc) (at' n : Nat) (w : World) (hc : ConfOk w c p) (hq : PlcOk w q) (hm : mayB c = true) (hfew : q.pages.length ≤ 4096) (hck : checkM c q at' n = 0)
    (hR : RaOk w r) (hrl : (r.bs.length : Int) = c.size * c.pages) (hst : 0 ≤ r.steps ∧ r.steps ≤ 1152921504606846976) :
    Does Try.prog 44 #[.agg (vrL c p r).toArray, .agg (plL q).toArray, .int .i64 at', .int .i64 n] w (fun u w' => ∃ r' : RA, u = .tuple #[.agg (vrL c p r').toArray, .int .i64 0] ∧ r'.bs = layM c q r.bs at' (zeros n) n ∧ r'.steps = r.steps + chargeM c q at' n ∧ RaOk w' r' ∧ Newer w r.a r'.a ∧ Chg None' w w') := by
  obtain ⟨hin, _, _, hle⟩ := check_zero hck
  have hhb := viewHolds_bound (c := c) (q := q) hm hfew
  have hzl : (zeros n).length = n := List.length_replicate
  refine Does.enter Try.func44 rfl Try.ntmps44 rfl rfl ?_
  refine Goes.adv hTT 400 rfl ?_
  refine Goes.alloc hTT rfl ?_
  intro xb w1 e1 hxb hw1 hz1
  refine Goes.adv hTT 400 rfl ?_
  refine Goes.alloc hTT rfl ?_
  intro qb w2 e2 hqb hw2 hz2
  refine Goes.adv hTT 400 rfl ?_
  refine Goes.alloc hTT rfl ?_
  intro ob w3 e3 hob hw3 hz3
  refine Goes.adv hTT 400 rfl ?_
  replace hqb : w2.heap[qb]? = some (.cells (plL q).toArray 26 (0, 0)) := hqb
  replace hxb : w1.heap[xb]? = some (.cells (vrL c p r).toArray 43 (0, 0)) := hxb
  have hxb3 := hw3.heap' (hw2.heap' hxb)
  have hqb3 := hw3.heap' hqb
  have hw := (hw1.trans hw2).trans hw3
  refine Goes.loads hTT rfl hxb3 rfl rfl ?_
  refine Goes.loads hTT rfl hqb3 rfl rfl ?_
  refine Goes.call rfl (ref21_check c p q at' n w3 (hc.chg hw) (hq.grow hw) hm hfew) ?_
  rintro _ w4 ⟨rfl, hw4⟩
  refine Goes.adv hTT 400 rfl ?_
  have hwa := hw.trans hw4
  rw [hck]
  refine Goes.no hTT rfl rfl rfl ?_
  refine Goes.drawn (q := 8) None' hTT mixed (by kernel_rfl) rfl ?_
  intro hB
  refine Drawn.loads hTT hB rfl (hw4.heap' hxb3) (by first | exact fun h => h | (intro h; omega) | assumption) rfl rfl ?_
  refine Drawn.loads hTT hB rfl (hw4.heap' hqb3) (by first | exact fun h => h | (intro h; omega) | assumption) rfl rfl ?_
  refine Drawn.turn1 hB rfl ?_
  intro w5 hw5
  refine Turn.make hTT hB rfl (m := n) (kk := n) rfl rfl (Nat.le_refl _) (by simp only; omega) (by omega) (fun _ => rfl) ?_
  intro b6 w6 e6 hb6 hw6 hz6
  have hwb := hwa.trans (hw5.trans hw6)
  have hd : ∀ w', Chg None' w6 w' → Does Try.prog 43 #[.agg (vrL c p r).toArray, .agg (plL q).toArray, .int .i64 at', .slice (some ⟨b6, 0, none⟩) n n] w' (fun u w2 => Chg None' w' w2 ∧ ∃ r' : RA, u = .tuple #[.agg (vrL c p r').toArray, .int .i64 0] ∧ r'.bs = layM c q r.bs at' (zeros n) n ∧ r'.steps = r.steps + chargeM c q at' n ∧ RaOk w2 r' ∧ Newer w r.a r'.a ∧ OutA (fun z => z = ob) r'.a) := fun w' hw' => by
    have hz : zeroRow (cellsL (Value.int .u8 0)) n = (zeros n).map (Value.int .u8) := zeroRow_zeros _
    rw [hz] at hb6
    have hW := ref21_Write c p r q at' (some ⟨b6, 0, none⟩) n (zeros n) w' ((hc.chg hwb).chg hw') ((hq.grow hwb).grow hw') hm hfew (by rw [hzl]; exact hck) ((hR.grow hwb).grow hw') hrl hst (Rd.of (hw'.heap' hb6) rfl) (fun x hx => by rw [List.eq_of_mem_replicate hx]; omega)
    rw [hzl] at hW
    exact hW.mono fun u w2 ⟨r', a1, a2, a3, a4, a5, a6⟩ => ⟨a6, r', a1, a2, a3, a4, a5.imp id (fun ⟨g, off, h1, h2⟩ => ⟨g, off, h1, by have := hwb.size; have := hw'.size; omega⟩), fun b off s e hb => by
      rcases a5 with h | ⟨g, off', h1, h2⟩
      · rw [h] at e
        have htot := size_total hm
        obtain ⟨b', off', e', hcl⟩ := hR.rd 0 (by omega)
        rw [e] at e'
        cases e'
        have := World.block_lt_of_cell? w _ hcl
        simp only at this
        omega
      · rw [h1] at e
        cases e
        have := lt_of_heap hob
        have := hw4.size; have := hw5.size; have := hw6.size; have := hw'.size
        omega⟩
  refine Drawn.callQ hB rfl rfl (hd) ?_
  rintro _ w7 hw7 ⟨r', rfl, a2, a3, a4, a5, a6⟩
  refine Drawn.adv hTT hB rfl ?_
  refine Drawn.nil hB ?_
  intro w8 hw8
  refine Goes.adv hTT 400 rfl ?_
  have hwc := hwb.trans (hw7.trans hw8)
  have hob8 := (hw4.trans (hw5.trans hw6)).heap' hob
  refine Goes.store hTT rfl ((hw7.trans hw8).heap' hob8) rfl rfl ?_
  intro w9 hob9 hs9 hz9
  refine Goes.adv hTT 400 rfl ?_
  replace hob9 : w9.heap[ob]? = some (.cells (vrL c p r').toArray 43 (0, 0)) := hob9
  have a48 := a4.grow hw8
  have hok : RaOk w9 r' := ⟨a48.rd.far a6 hs9, a48.len, a48.lc, a48.rng⟩
  exact Goes.ret hTT rfl Try.func44 (ResOk.cell rfl rfl rfl hob9 rfl (.tmp rfl .nil)) ⟨r', rfl, a2, a3, hok, a5, hwc.since hs9 (fun z hz e => by have := hw1.size; omega)⟩
end Go.Proofs.Ytffimkpllchfcaa
/-
  Layer 21: the parts' bytes are the place's bytes, one by one.
-/
namespace Go.Proofs.Ytffimkpllchfcaa
open Go.RowKit

theorem toldM_add (c : Conf) (q : Plc) (bs : List Int) (at' m k : Nat) : toldM c q bs at' (m + k) = toldM c q bs at' m ++ toldM c q bs (at' + m) k := by
  unfold toldM
  rw [List.range_add, List.map_append, List.map_map]
  congr 1
  apply List.map_congr_left
  intro i _
  simp only [Function.comp]
  rw [Nat.add_assoc]
theorem sub_range {bs : List Int} {x m : Nat} (h : x + m ≤ bs.length) : sub bs x m = (List.range m).map fun i => bs.getD (x + i) 0 := by
  apply List.ext_getElem
  · rw [sub_length h]; simp
  · intro i h1 h2
    rw [sub_length h] at h1
    simp only [List.getElem_map, List.getElem_range]
    have e : (sub bs x m)[i]? = some (bs.getD (x + i) 0) := by
      unfold sub
      rw [List.getElem?_take, if_pos h1, List.getElem?_drop, List.getElem?_eq_getElem (show x + i < bs.length by omega), List.getD_eq_getElem?_getD, List.getElem?_eq_getElem (show x + i < bs.length by omega)]
      rfl
    exact Option.some.inj ((List.getElem?_eq_getElem _).symm.trans e)
theorem where_large {c : Conf} {q : Plc} {sz at' i : Nat} (hcl : q.cls = -1) (hsz : c.size = sz) (hi : at' % sz + i < sz) : whereM c q (at' + i) = q.pages.getD (at' / sz) 0 * c.size + ((at' % sz : Nat) : Int) + i := by
  unfold whereM
  rw [if_pos hcl, show c.size.toNat = sz from by omega]
  have hd : (at' + i) / sz = at' / sz := by
    have hdm := Nat.div_add_mod at' sz
    apply Nat.div_eq_of_lt_le
    · rw [Nat.mul_comm]; omega
    · rw [Nat.add_mul, Nat.one_mul, Nat.mul_comm]; omega
  have hm : (at' + i) % sz = at' % sz + i := by
    have h1 := Nat.div_add_mod at' sz
    have h2 := Nat.div_add_mod (at' + i) sz
    rw [hd] at h2
    omega
  rw [hd, hm]
  omega
theorem read_large {c : Conf} {q : Plc} {bs : List Int} {sz : Nat} (hcl : q.cls = -1) (hsz : c.size = sz) (hp : 1 ≤ sz) : ∀ (n at' : Nat), (∀ i, i < n → 0 ≤ whereM c q (at' + i) ∧ whereM c q (at' + i) < bs.length) →
    readM bs ((spansM at' n sz).map fun s => (q.pages.getD s.1 0 * c.size + s.2.1, (s.2.2 : Int))) = toldM c q bs at' n := by
  intro n
  induction n using Nat.strongRecOn with
  | _ n ih =>
    intro at' hw
    by_cases hn : n = 0
    · subst hn; rfl
    · have hpos := headS_pos (at' := at') hp (show 0 < n by omega)
      have hmod := Nat.mod_lt at' (show 0 < sz by omega)
      rw [spansM_cons hp (by omega), List.map_cons]
      obtain ⟨m, hm⟩ : ∃ m, m = min n (sz - at' % sz) := ⟨_, rfl⟩
      have hhd : headS at' n sz = (at' / sz, at' % sz, m) := by unfold headS; rw [hm]
      rw [hhd, ← hm]
      rw [← hm] at hpos
      have hw0 := hw 0 (by omega)
      have hwl := hw (m - 1) (by omega)
      rw [where_large hcl hsz (by omega)] at hw0 hwl
      obtain ⟨x, hx⟩ := Int.eq_ofNat_of_zero_le (show 0 ≤ q.pages.getD (at' / sz) 0 * c.size + ((at' % sz : Nat) : Int) by omega)
      rw [hx] at hwl
      have hsub : sub bs x m = toldM c q bs at' m := by
        rw [sub_range (by omega)]
        unfold toldM
        apply List.map_congr_left
        intro i hi
        rw [List.mem_range] at hi
        rw [where_large hcl hsz (by omega), hx]
        congr 1
      have hrec := ih (n - m) (by omega) (at' + m) (fun i hi => by rw [Nat.add_assoc]; exact hw (m + i) (by omega))
      have hnm : n = m + (n - m) := by omega
      conv => rhs; rw [hnm]
      rw [toldM_add, ← hsub, ← hrec]
      unfold readM
      rw [List.flatMap_cons]
      simp only
      rw [hx]
      rfl
theorem read_told {c : Conf} {q : Plc} {bs : List Int} {at' n : Nat} (hm : mayB c = true) (hck : checkM c q at' n = 0) (hlen : (bs.length : Int) = c.size * c.pages) : readM bs (partsM c q at' n) = toldM c q bs at' n := by
  obtain ⟨m1, m2, m3⟩ := may_facts hm
  obtain ⟨hin, _, _, hle⟩ := check_zero hck
  have hw : ∀ i, i < n → 0 ≤ whereM c q (at' + i) ∧ whereM c q (at' + i) < bs.length := fun i hi => by
    have := where_in (i := at' + i) hm hin (by omega)
    omega
  unfold partsM
  by_cases hcl : q.cls = -1
  · rw [if_pos hcl]
    obtain ⟨sz, hsz⟩ := Int.eq_ofNat_of_zero_le (show 0 ≤ c.size by omega)
    rw [show c.size.toNat = sz from by omega]
    exact read_large hcl hsz (by omega) n at' hw
  · rw [if_neg hcl]
    unfold readM
    simp only [List.flatMap_cons, List.flatMap_nil, List.append_nil, Int.toNat_natCast]
    by_cases hn : n = 0
    · subst hn; simp [sub, toldM]
    · have h0 := hw 0 (by omega)
      have h1 := hw (n - 1) (by omega)
      have hwh : ∀ i, whereM c q (at' + i) = viewAt c q + at' + i := fun i => by unfold whereM; rw [if_neg hcl]; omega
      rw [hwh] at h0 h1
      obtain ⟨x, hx⟩ := Int.eq_ofNat_of_zero_le (show 0 ≤ viewAt c q + (at' : Int) by omega)
      rw [hx, Int.toNat_natCast, sub_range (by omega)]
      unfold toldM
      apply List.map_congr_left
      intro i _
      rw [hwh, hx]
      congr 1
end Go.Proofs.Ytffimkpllchfcaa
/-
  Layer 21: laying the parts is laying the bytes, one by one.
-/
namespace Go.Proofs.Ytffimkpllchfcaa
open Go.RowKit

theorem spans_off {sz : Nat} (hp : 1 ≤ sz) : ∀ (n at' k : Nat) (h : k < (spansM at' n sz).length), (spansM at' n sz)[k].1 * sz + (spansM at' n sz)[k].2.1 = at' + (((spansM at' n sz).take k).map fun s => s.2.2).sum := by
  intro n
  induction n using Nat.strongRecOn with
  | _ n ih =>
    intro at' k h
    by_cases hn : n = 0
    · subst hn; simp [spansM_nil] at h
    · have hpos := headS_pos (at' := at') hp (show 0 < n by omega)
      have hdm := Nat.div_add_mod at' sz
      have hcons := spansM_cons (at' := at') hp (show 0 < n by omega)
      cases k with
      | zero =>
        simp only [hcons, List.getElem_cons_zero, List.take_zero, List.map_nil, List.sum_nil]
        unfold headS
        simp only
        rw [Nat.mul_comm]; omega
      | succ k =>
        have hk : k < (spansM (at' + min n (sz - at' % sz)) (n - min n (sz - at' % sz)) sz).length := by rw [hcons] at h; simpa using h
        have := ih _ (by omega) _ k hk
        simp only [hcons, List.getElem_cons_succ, List.take_succ_cons, List.map_cons, List.sum_cons]
        rw [this]
        unfold headS
        simp only
        omega
theorem part_where {c : Conf} {q : Plc} {at' n k i m : Nat} (hm : mayB c = true) (hk : k < (partsM c q at' n).length) (hp : (partsM c q at' n)[k] = ((i : Int), (m : Int))) :
    ∀ j, j < m → whereM c q (at' + (totalM ((partsM c q at' n).take k) + j)) = (i : Int) + j := by
  obtain ⟨m1, m2, m3⟩ := may_facts hm
  intro j hj
  by_cases hcl : q.cls = -1
  · obtain ⟨sz, hsz⟩ := Int.eq_ofNat_of_zero_le (show 0 ≤ c.size by omega)
    have hpe : partsM c q at' n = (spansM at' n sz).map fun s => (q.pages.getD s.1 0 * c.size + s.2.1, (s.2.2 : Int)) := by unfold partsM; rw [if_pos hcl, show c.size.toNat = sz from by omega]
    have hk' : k < (spansM at' n sz).length := by rw [hpe, List.length_map] at hk; exact hk
    have hoff := spans_off (sz := sz) (by omega) n at' k hk'
    obtain ⟨i1, i2, i3, i4⟩ := span_in (page := sz) (by omega) n at' _ (List.getElem_mem hk')
    have htt : totalM ((partsM c q at' n).take k) = (((spansM at' n sz).take k).map fun s => s.2.2).sum := by
      unfold totalM
      rw [hpe, ← List.map_take, List.map_map]
      rfl
    have hpk : (q.pages.getD (spansM at' n sz)[k].1 0 * c.size + ((spansM at' n sz)[k].2.1 : Int), ((spansM at' n sz)[k].2.2 : Int)) = ((i : Int), (m : Int)) := by
      rw [← hp]; simp only [hpe, List.getElem_map]
    obtain ⟨e1, e2⟩ := Prod.mk.inj hpk
    rw [htt, ← Nat.add_assoc, ← hoff]
    obtain ⟨s, hs⟩ : ∃ s, s = (spansM at' n sz)[k] := ⟨_, rfl⟩
    rw [← hs] at e1 e2 i1 i2 i3 ⊢
    clear hs hoff i4
    obtain ⟨N, A, L⟩ := s
    simp only at e1 e2 i1 i2 i3 ⊢
    have hmodN : (N * sz + A) % sz = A := by rw [Nat.mul_comm, Nat.mul_add_mod]; exact Nat.mod_eq_of_lt (by omega)
    have hdivN : (N * sz + A) / sz = N := by rw [Nat.mul_comm, Nat.mul_add_div (by omega), Nat.div_eq_of_lt (by omega)]; rfl
    rw [where_large hcl hsz (by rw [hmodN]; omega), hmodN, hdivN]
    omega
  · have hpe : partsM c q at' n = [(viewAt c q + at', (n : Int))] := by unfold partsM; rw [if_neg hcl]
    have hk0 : k = 0 := by rw [hpe] at hk; simpa using hk
    subst hk0
    have hp' : (viewAt c q + (at' : Int), (n : Int)) = ((i : Int), (m : Int)) := by rw [← hp]; simp only [hpe]; rfl
    obtain ⟨e1, e2⟩ := Prod.mk.inj hp'
    unfold whereM
    rw [if_neg hcl]
    simp only [List.take_zero, totalM, List.map_nil, List.sum_nil]
    omega
theorem lay_run {c : Conf} {q : Plc} {bs l : List Int} {at' off i m : Nat} (him : i + m ≤ bs.length) (hol : off + m ≤ l.length) (hw : ∀ j, j < m → whereM c q (at' + (off + j)) = (i : Int) + j) :
    ∀ j, j ≤ m → layM c q bs at' l (off + j) = partW (layM c q bs at' l off) i (sub l off m) j
  | 0, _ => by rw [partW_zero]; rfl
  | j + 1, h => by
    have hsl : (sub l off m).length = m := sub_length hol
    have ih := lay_run him hol hw j (by omega)
    have hg : (sub l off m).getD j 0 = l.getD (off + j) 0 := by
      rw [sub_range hol, List.getD_eq_getElem?_getD, List.getElem?_map, List.getElem?_range (by omega)]; rfl
    rw [← partW_step (by rw [hsl, layM_len]; exact him) (by rw [hsl]; omega), hg, ← ih]
    show (layM c q bs at' l (off + j)).set (whereM c q (at' + (off + j))).toNat (l.getD (off + j) 0) = _
    rw [hw j (by omega)]
    rfl
theorem write_lay {c : Conf} {q : Plc} {A : Ar} {V : ArV} {at' : Nat} {l : List Int} (hm : mayB c = true) (hck : checkM c q at' l.length = 0) (hfew : q.pages.length ≤ 4096) (hlen : (V.bs.length : Int) = c.size * c.pages) :
    ∀ k, k ≤ (partsM c q at' l.length).length → (vsW q A V (partsM c q at' l.length) l k).bs = layM c q V.bs at' l (totalM ((partsM c q at' l.length).take k))
  | 0, _ => rfl
  | k + 1, h => by
    have hk : k < (partsM c q at' l.length).length := h
    obtain ⟨i, m, hp, him⟩ := parts_in hm hck hfew _ (List.getElem_mem hk)
    have ih := write_lay (A := A) hm hck hfew hlen k (by omega)
    have htot : totalM (partsM c q at' l.length) = l.length := parts_total hm
    have htk := totalM_take hk
    rw [hp] at htk
    simp only [Int.toNat_natCast] at htk
    have hoff : totalM ((partsM c q at' l.length).take (k + 1)) = totalM ((partsM c q at' l.length).take k) + m := by
      rw [List.take_add_one, List.getElem?_eq_getElem hk, hp, totalM_append]; simp [totalM]
    have him' : i + m ≤ V.bs.length := by omega
    have hol : totalM ((partsM c q at' l.length).take k) + m ≤ l.length := by omega
    rw [vsW_succ hk hp, hoff, lay_run him' hol (part_where hm hk hp) m (Nat.le_refl _)]
    show wrB _ i (sub l _ m) = _
    rw [ih]
    have := partW_all (bs := layM c q V.bs at' l (totalM ((partsM c q at' l.length).take k))) (l := sub l (totalM ((partsM c q at' l.length).take k)) m) (i := i)
    rw [sub_length hol] at this
    exact this.symm
theorem write_lay_all {c : Conf} {q : Plc} {A : Ar} {V : ArV} {at' : Nat} {l : List Int} (hm : mayB c = true) (hck : checkM c q at' l.length = 0) (hfew : q.pages.length ≤ 4096) (hlen : (V.bs.length : Int) = c.size * c.pages) :
    (vsW q A V (partsM c q at' l.length) l (partsM c q at' l.length).length).bs = layM c q V.bs at' l l.length := by
  rw [write_lay hm hck hfew hlen _ (Nat.le_refl _), List.take_length, parts_total hm]
end Go.Proofs.Ytffimkpllchfcaa
/-
  Layer 21: what the meter tells behind the parts.
-/
namespace Go.Proofs.Ytffimkpllchfcaa
open Go.RowKit

theorem charged_sum {t m : Int} (h : 0 ≤ t ∧ 0 ≤ m ∧ t + m ≤ 4611686018427387904) : charged t m = t + m := by unfold charged; split <;> omega
theorem charge_sum {V : ArV} {A : Ar} {b : Nat} {n : Int} (hb : A.mb = some b) (h : 0 ≤ V.total ∧ 0 ≤ n ∧ V.total + n ≤ 4611686018427387904) : (V.charge A n).total = V.total + n := by
  unfold ArV.charge
  rw [hb]
  exact charged_sum h
def bigN (q : Plc) (k : Nat) : Int := if q.cls = -1 then (k : Int) else 0
theorem chgL_sum {q : Plc} {V : ArV} {A : Ar} {b : Nat} (hb : A.mb = some b) (h : 0 ≤ V.total ∧ V.total + 1 ≤ 4611686018427387904) : (chgL q A V).total = V.total + bigN q 1 := by
  unfold chgL bigN
  split
  · exact charge_sum hb (by omega)
  · omega
theorem vsT_total {q : Plc} {A : Ar} {V : ArV} {ps : List (Int × Int)} {b : Nat} (hb : A.mb = some b) (hps : ∀ p ∈ ps, ∃ i m : Nat, p = ((i : Int), (m : Int))) (hV : 0 ≤ V.total ∧ V.total + totalM ps + ps.length ≤ 4611686018427387904) :
    ∀ k, k ≤ ps.length → (vsT q A V ps k).total = V.total + totalM (ps.take k) + bigN q k
  | 0, _ => by
    show V.total = _
    unfold bigN
    simp [totalM]
  | k + 1, h => by
    have hk : k < ps.length := h
    obtain ⟨i, m, hp⟩ := hps _ (List.getElem_mem hk)
    have ih := vsT_total (q := q) hb hps hV k (by omega)
    have htk := totalM_take hk
    rw [hp] at htk
    simp only [Int.toNat_natCast] at htk
    have hoff : totalM (ps.take (k + 1)) = totalM (ps.take k) + m := by rw [List.take_add_one, List.getElem?_eq_getElem hk, hp, totalM_append]; simp [totalM]
    have hbg : bigN q (k + 1) = bigN q k + bigN q 1 ∧ 0 ≤ bigN q k ∧ bigN q k ≤ k ∧ 0 ≤ bigN q 1 ∧ bigN q 1 ≤ 1 := by unfold bigN; split <;> omega
    have h1 := chgL_sum (q := q) (V := vsT q A V ps k) hb (by omega)
    rw [vsT_succ hk, hp]
    simp only
    rw [charge_sum hb (by omega), h1, ih, hoff]
    omega
theorem vsW_total {q : Plc} {A : Ar} {V : ArV} {ps : List (Int × Int)} {l : List Int} {b : Nat} (hb : A.mb = some b) (hps : ∀ p ∈ ps, ∃ i m : Nat, p = ((i : Int), (m : Int))) (hV : 0 ≤ V.total ∧ V.total + totalM ps + ps.length ≤ 4611686018427387904) :
    ∀ k, k ≤ ps.length → (vsW q A V ps l k).total = V.total + totalM (ps.take k) + bigN q k
  | 0, _ => by
    show V.total = _
    unfold bigN
    simp [totalM]
  | k + 1, h => by
    have hk : k < ps.length := h
    obtain ⟨i, m, hp⟩ := hps _ (List.getElem_mem hk)
    have ih := vsW_total (q := q) (l := l) hb hps hV k (by omega)
    have htk := totalM_take hk
    rw [hp] at htk
    simp only [Int.toNat_natCast] at htk
    have hoff : totalM (ps.take (k + 1)) = totalM (ps.take k) + m := by rw [List.take_add_one, List.getElem?_eq_getElem hk, hp, totalM_append]; simp [totalM]
    have hbg : bigN q (k + 1) = bigN q k + bigN q 1 ∧ 0 ≤ bigN q k ∧ bigN q k ≤ k ∧ 0 ≤ bigN q 1 ∧ bigN q 1 ≤ 1 := by unfold bigN; split <;> omega
    have h1 := chgL_sum (q := q) (V := vsW q A V ps l k) hb (by omega)
    rw [vsW_succ hk hp]
    show ((chgL q A (vsW q A V ps l k)).charge A m).total = _
    rw [charge_sum hb (by omega), h1, ih, hoff]
    omega
theorem parts_charge {c : Conf} {q : Plc} {at' n : Nat} (hm : mayB c = true) : ((totalM (partsM c q at' n) : Nat) : Int) + bigN q (partsM c q at' n).length = chargeM c q at' n := by
  rw [parts_total hm]
  unfold bigN chargeM partsM
  by_cases hcl : q.cls = -1
  · rw [if_pos hcl, if_pos hcl, if_pos hcl, List.length_map]
  · rw [if_neg hcl, if_neg hcl]
end Go.Proofs.Ytffimkpllchfcaa
/-
  Layer 21: a new one, or what forbids it.
-/
namespace Go.Proofs.Ytffimkpllchfcaa
open Go.RowKit

def zero21 : List Value := [.int .i64 0, .int .i64 0, .slice none 0 0, .slice none 0 0, .int .i64 0, .int .i64 0, .int .i64 0, .int .i64 0, .slice none 0 0, .int .i64 0]
theorem ref21_New (c : Conf) (p : ConfAt) (n k : Int) (w : World) (hc : ConfOk w c p) (ht : arMay n k = true) : Does Try.prog 16 #[.agg (confL c p).toArray, .int .i64 n, .int .i64 k] w
    (fun u w' => Chg None' w w' ∧ (((mayB c = true ∧ n * k = c.size * c.pages) ∧ ∃ r : RA, u = .tuple #[.agg (confL c p ++ raL r).toArray, .int .i64 0]) ∨ (¬ (mayB c = true ∧ n * k = c.size * c.pages) ∧ u = .tuple #[.agg zero21.toArray, .int .i64 1]))) := by
  have g := arMay_iff.1 ht
  have h0 : 0 ≤ n * k := Int.mul_nonneg (by omega) (by omega)
  have hlen : (zeros (n * k).toNat).length = (n * k).toNat := List.length_replicate
  refine Does.enter Try.func16 rfl Try.ntmps16 rfl rfl ?_
  refine Goes.adv hTT 400 rfl ?_
  refine Goes.alloc hTT rfl ?_
  intro cb w1 e1 hcb hw1 hz1
  refine Goes.adv hTT 400 rfl ?_
  refine Goes.alloc hTT rfl ?_
  intro xb w2 e2 hxb hw2 hz2
  refine Goes.adv hTT 400 rfl ?_
  replace hcb : w1.heap[cb]? = some (.cells (confL c p).toArray 24 (0, 0)) := hcb
  have hw := hw1.trans hw2
  refine Goes.call rfl (ref06_New n k w2 ht) ?_
  rintro _ w3 ⟨b, rfl, hb, hR, hw3⟩
  refine Goes.adv hTT 400 rfl ?_
  refine Goes.alloc hTT rfl ?_
  intro ab w4 e4 hab hw4 hz4
  refine Goes.adv hTT 400 rfl ?_
  refine Goes.store hTT rfl hab rfl rfl ?_
  intro w5 hab5 hs5 hz5
  refine Goes.adv hTT 400 rfl ?_
  have hwa : Chg None' w w5 := ((hw.trans hw3).trans hw4).since hs5 (fun z hz e => by have := hw.size; have := hw3.size; omega)
  have hw25 : Chg None' w2 w5 := (hw3.trans hw4).since hs5 (fun z hz e => by have := hw3.size; omega)
  have hcb5 := (hw2.heap' hcb)
  have hcb5 := hw25.heap' hcb5
  refine Goes.loads hTT rfl hcb5 rfl rfl ?_
  refine Goes.call rfl (ref03_May c p w5 (hc.chg hwa)) ?_
  rintro _ w6 ⟨rfl, hw6⟩
  refine Goes.adv hTT 400 rfl ?_
  have hwb := hwa.trans hw6
  have hw26 := hw25.trans hw6
  have hlx := lt_of_heap hxb
  cases hm : mayB c with
  | false =>
    rw [show mayM c = 1 from by unfold mayM; rw [hm]; rfl]
    refine Goes.yes hTT rfl rfl rfl ?_
    refine Goes.build hTT rfl rfl ?_
    refine Goes.store hTT rfl (hw26.heap' hxb) rfl rfl ?_
    intro w7 hx7 hs7 hz7
    refine Goes.adv hTT 400 rfl ?_
    exact Goes.ret hTT rfl Try.func16 (ResOk.cell rfl rfl rfl hx7 rfl (.tmp rfl .nil)) ⟨hwb.since hs7 (fun z hz e => by have := hw1.size; omega), .inr ⟨fun h => by simp at h, rfl⟩⟩
  | true =>
    rw [show mayM c = 0 from by unfold mayM; rw [hm]; rfl]
    have htot := size_total hm
    refine Goes.no hTT rfl rfl rfl ?_
    refine Goes.no hTT rfl rfl rfl ?_
    refine Goes.loadb hTT rfl (hw6.heap' hab5) rfl rfl ?_
    refine Goes.loadb hTT rfl (hw6.heap' hcb5) rfl rfl ?_
    refine Goes.loadb hTT rfl (hw6.heap' hcb5) rfl rfl ?_
    refine Goes.arith hTT rfl (w64 (by omega)) rfl ?_
    by_cases hl : n * k = c.size * c.pages
    · refine Goes.no hTT rfl (show ((((zeros (n * k).toNat).length : Nat) : Int) != c.size * c.pages) = false by rw [hlen, show (((n * k).toNat : Nat) : Int) = c.size * c.pages by omega]; exact bne_self_eq_false _) rfl ?_
      refine Goes.loads hTT rfl (hw6.heap' hcb5) rfl rfl ?_
      refine Goes.loads hTT rfl (hw6.heap' hab5) rfl rfl ?_
      refine Goes.build hTT rfl rfl ?_
      refine Goes.store hTT rfl (hw26.heap' hxb) rfl rfl ?_
      intro w7 hx7 hs7 hz7
      refine Goes.adv hTT 400 rfl ?_
      exact Goes.ret hTT rfl Try.func16 (ResOk.cell rfl rfl rfl hx7 rfl (.tmp rfl .nil)) ⟨hwb.since hs7 (fun z hz e => by have := hw1.size; omega), .inl ⟨⟨rfl, hl⟩, _, rfl⟩⟩
    · refine Goes.yes hTT rfl (show ((((zeros (n * k).toNat).length : Nat) : Int) != c.size * c.pages) = true by rw [hlen]; simp; omega) rfl ?_
      refine Goes.build hTT rfl rfl ?_
      refine Goes.store hTT rfl (hw26.heap' hxb) rfl rfl ?_
      intro w7 hx7 hs7 hz7
      refine Goes.adv hTT 400 rfl ?_
      exact Goes.ret hTT rfl Try.func16 (ResOk.cell rfl rfl rfl hx7 rfl (.tmp rfl .nil)) ⟨hwb.since hs7 (fun z hz e => by have := hw1.size; omega), .inr ⟨fun h => hl h.2, rfl⟩⟩
theorem law_ViewNew (c : Conf) (p : ConfAt) (a b : Int) (w : World) (hc : ConfOk w c p) (ha : 0 ≤ a ∧ a < 256) (hb : 0 ≤ b ∧ b < 256) : Does Try.prog 4 #[.agg (confL c p).toArray, .int .u8 a, .int .u8 b] w (Grow (.bool true) w) := by
  refine Does.enter Try.func4 rfl Try.ntmps4 rfl rfl ?_
  refine Goes.adv hTT 400 rfl ?_
  refine Goes.alloc hTT rfl ?_
  intro cb w1 e1 hcb hw1 hz1
  refine Goes.adv hTT 400 rfl ?_
  replace hcb : w1.heap[cb]? = some (.cells (confL c p).toArray 24 (0, 0)) := hcb
  refine Goes.call rfl (law21_awake w1) ?_
  rintro _ w2 ⟨rfl, hw2⟩
  refine Goes.adv hTT 400 rfl ?_
  have hw := hw1.trans hw2
  have hcb2 := hw2.heap' hcb
  refine Goes.loadb hTT rfl hcb2 rfl rfl ?_
  refine Goes.fork hTT rfl rfl rfl (fun h1 => ?_) (fun h1 => ?_)
  · exact Goes.ret1 hTT rfl Try.func4 rfl rfl ⟨rfl, hw⟩
  refine Goes.loadb hTT rfl hcb2 rfl rfl ?_
  refine Goes.fork hTT rfl rfl rfl (fun h2 => ?_) (fun h2 => ?_)
  · exact Goes.ret1 hTT rfl Try.func4 rfl rfl ⟨rfl, hw⟩
  refine Goes.arith hTT rfl (w64 (by omega)) rfl ?_
  refine Goes.div hTT rfl (by omega) (rem_ (by omega)) rfl ?_
  refine Goes.arith hTT rfl (w64 (by omega)) rfl ?_
  refine Goes.arith hTT rfl (w64 (by omega)) rfl ?_
  refine Goes.div hTT rfl (by omega) (rem_ (by omega)) rfl ?_
  refine Goes.arith hTT rfl (w64 (by omega)) rfl ?_
  refine Goes.arith hTT rfl (w64 (by omega)) rfl ?_
  have hmay : arMay (1 + a % 24) (64 + 8 * (b % 25)) = true := arMay_iff.2 (by omega)
  refine Goes.call rfl (arena_New none 0 0 (1 + a % 24) (64 + 8 * (b % 25)) w2 (fun b hb => by cases hb) hmay) ?_
  rintro _ w3 ⟨A, rfl, hmb, ha1, ha2, ha3, hA3, hw3⟩
  refine Goes.adv hTT 400 rfl ?_
  have hwa := hw.trans hw3
  have hcb3 := hw3.heap' hcb2
  have h0 : 0 ≤ (1 + a % 24) * (64 + 8 * (b % 25)) := Int.mul_nonneg (by omega) (by omega)
  have hlen : (zeros ((1 + a % 24) * (64 + 8 * (b % 25))).toNat).length = ((1 + a % 24) * (64 + 8 * (b % 25))).toNat := List.length_replicate
  refine Goes.loads hTT rfl hcb3 rfl rfl ?_
  by_cases hcnd : mayB c = true ∧ (1 + a % 24) * (64 + 8 * (b % 25)) = c.size * c.pages
  · have hcond : mayB c = true ∧ (((⟨zeros ((1 + a % 24) * (64 + 8 * (b % 25))).toNat, 0, 0⟩ : ArV).bs.length : Nat) : Int) = c.size * c.pages := ⟨hcnd.1, by show (((zeros ((1 + a % 24) * (64 + 8 * (b % 25))).toNat).length : Nat) : Int) = _; rw [hlen]; omega⟩
    have hVN : Does Try.prog 11 #[.agg (confL c p).toArray, .pointer (some ⟨A.ab, 0, none⟩), ptr A.mb] w3 (fun u w' => Chg None' w3 w' ∧ ∃ vb, u = .tuple #[.pointer (some ⟨vb, 0, none⟩), .int .i64 0]) :=
      (view_New c p A _ w3 (hc.chg hwa) hA3).mono fun u w' h => ⟨h.1, by have h2 := h.2; rw [if_pos hcond] at h2; obtain ⟨vb, h3, _⟩ := h2; exact ⟨vb, h3⟩⟩
    rw [hmb] at hVN
    refine Goes.call rfl (hVN) ?_
    rintro _ w4 ⟨hw4, vb, rfl⟩
    refine Goes.adv hTT 400 rfl ?_
    refine Goes.loads hTT rfl (hw4.heap' hcb3) rfl rfl ?_
    have hRN : Does Try.prog 16 #[.agg (confL c p).toArray, .int .i64 (1 + a % 24), .int .i64 (64 + 8 * (b % 25))] w4 (fun u w' => Chg None' w4 w' ∧ ∃ r : RA, u = .tuple #[.agg (confL c p ++ raL r).toArray, .int .i64 0]) :=
      (ref21_New c p _ _ w4 (hc.chg (hwa.trans hw4)) hmay).mono fun u w' h => ⟨h.1, by rcases h.2 with h | h; exact h.2; exact absurd hcnd h.1⟩
    refine Goes.call rfl (hRN) ?_
    rintro _ w5 ⟨hw5, r, rfl⟩
    refine Goes.adv hTT 400 rfl ?_
    refine Goes.alloc hTT rfl ?_
    intro yb w6 e6 hyb hw6 hz6
    refine Goes.adv hTT 400 rfl ?_
    refine Goes.store hTT rfl hyb rfl rfl ?_
    intro w7 hy7 hs7 hz7
    refine Goes.adv hTT 400 rfl ?_
    refine Goes.yes hTT rfl rfl rfl ?_
    refine Goes.yes hTT rfl rfl rfl ?_
    exact Goes.ret1 hTT rfl Try.func4 rfl rfl ⟨rfl, (((hwa.trans hw4).trans hw5).trans hw6).since hs7 (fun z hz e => by have := hwa.size; have := hw4.size; have := hw5.size; omega)⟩
  · have hcond : ¬ (mayB c = true ∧ (((⟨zeros ((1 + a % 24) * (64 + 8 * (b % 25))).toNat, 0, 0⟩ : ArV).bs.length : Nat) : Int) = c.size * c.pages) := fun h => hcnd ⟨h.1, by
      have h2 : (((zeros ((1 + a % 24) * (64 + 8 * (b % 25))).toNat).length : Nat) : Int) = c.size * c.pages := h.2
      rw [hlen] at h2; omega⟩
    have hVN : Does Try.prog 11 #[.agg (confL c p).toArray, .pointer (some ⟨A.ab, 0, none⟩), ptr A.mb] w3 (Grow (.tuple #[.pointer none, .int .i64 1]) w3) :=
      (view_New c p A _ w3 (hc.chg hwa) hA3).mono fun u w' h => ⟨by have h2 := h.2; rw [if_neg hcond] at h2; exact h2, h.1⟩
    rw [hmb] at hVN
    refine Goes.call rfl (hVN) ?_
    rintro _ w4 ⟨rfl, hw4⟩
    refine Goes.adv hTT 400 rfl ?_
    refine Goes.loads hTT rfl (hw4.heap' hcb3) rfl rfl ?_
    have hRN : Does Try.prog 16 #[.agg (confL c p).toArray, .int .i64 (1 + a % 24), .int .i64 (64 + 8 * (b % 25))] w4 (Grow (.tuple #[.agg zero21.toArray, .int .i64 1]) w4) :=
      (ref21_New c p _ _ w4 (hc.chg (hwa.trans hw4)) hmay).mono fun u w' h => ⟨by rcases h.2 with h | h; exact absurd h.1 hcnd; exact h.2, h.1⟩
    refine Goes.call rfl (hRN) ?_
    rintro _ w5 ⟨rfl, hw5⟩
    refine Goes.adv hTT 400 rfl ?_
    refine Goes.alloc hTT rfl ?_
    intro yb w6 e6 hyb hw6 hz6
    refine Goes.adv hTT 400 rfl ?_
    refine Goes.store hTT rfl hyb rfl rfl ?_
    intro w7 hy7 hs7 hz7
    refine Goes.adv hTT 400 rfl ?_
    refine Goes.yes hTT rfl rfl rfl ?_
    refine Goes.yes hTT rfl rfl rfl ?_
    exact Goes.ret1 hTT rfl Try.func4 rfl rfl ⟨rfl, (((hwa.trans hw4).trans hw5).trans hw6).since hs7 (fun z hz e => by have := hwa.size; have := hw4.size; have := hw5.size; omega)⟩
end Go.Proofs.Ytffimkpllchfcaa
