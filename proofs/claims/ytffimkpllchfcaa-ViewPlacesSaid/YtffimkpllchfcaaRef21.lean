/-
  Layer 21: what the document's functions answer of places.
-/
import Derived.Test.YtffimkpllchfcaaLaws21
import Derived.Test.YtffimkpllchfcaaRef6
namespace Go.Proofs.Ytffimkpllchfcaa
open Go.RowKit

def fewM (c : Conf) : Bool := mayB c && decide (c.size ≤ 256) && decide (c.pages ≤ 24) && decide (c.slots ≤ 20)
theorem ref03_Few (c : Conf) (p : ConfAt) (w : World) (hc : ConfOk w c p) : Does Try.prog 9 #[.agg (confL c p).toArray] w (Grow (.bool (fewM c)) w) := by
  refine Does.enter Try.func9 rfl Try.ntmps9 rfl rfl ?_
  refine Goes.adv hTT 400 rfl ?_
  refine Goes.alloc hTT rfl ?_
  intro cb w1 e1 hcb hw1 hz1
  refine Goes.adv hTT 400 rfl ?_
  replace hcb : w1.heap[cb]? = some (.cells (confL c p).toArray 24 (0, 0)) := hcb
  refine Goes.loads hTT rfl hcb rfl rfl ?_
  refine Goes.call rfl (ref03_May c p w1 (hc.chg hw1)) ?_
  rintro _ w2 ⟨rfl, hw2⟩
  refine Goes.adv hTT 400 rfl ?_
  have hw := hw1.trans hw2
  have hcb2 := hw2.heap' hcb
  unfold fewM
  cases hm : mayB c with
  | false =>
    rw [show mayM c = 1 from by unfold mayM; rw [hm]; rfl]
    refine Goes.no hTT rfl rfl rfl ?_
    exact Goes.ret1 hTT rfl Try.func9 rfl rfl ⟨rfl, hw⟩
  | true =>
    rw [show mayM c = 0 from by unfold mayM; rw [hm]; rfl]
    refine Goes.yes hTT rfl rfl rfl ?_
    refine Goes.loadb hTT rfl hcb2 rfl rfl ?_
    refine Goes.fork hTT rfl rfl rfl (fun h1 => ?_) (fun h1 => ?_)
    · refine Goes.loadb hTT rfl hcb2 rfl rfl ?_
      rw [h1]
      refine Goes.fork hTT rfl rfl rfl (fun h2 => ?_) (fun h2 => ?_)
      · refine Goes.loadb hTT rfl hcb2 rfl rfl ?_
        rw [h2]
        exact Goes.ret1 hTT rfl Try.func9 rfl rfl ⟨rfl, hw⟩
      · rw [h2]
        exact Goes.ret1 hTT rfl Try.func9 rfl rfl ⟨rfl, hw⟩
    · rw [h1]
      exact Goes.ret1 hTT rfl Try.func9 rfl rfl ⟨rfl, hw⟩
theorem few_may {c : Conf} (h : fewM c = true) : mayB c = true ∧ c.size ≤ 256 ∧ c.pages ≤ 24 := by
  unfold fewM at h
  simp only [Bool.and_eq_true, decide_eq_true_eq] at h
  exact ⟨h.1.1.1, h.1.1.2, h.1.2⟩
theorem ref21_Is (c : Conf) (p : ConfAt) (q : Plc) (w : World) (hc : ConfOk w c p) (hq : PlcOk w q) : Does Try.prog 35 #[.agg (confL c p).toArray, .agg (plL q).toArray] w (Grow (.bool (viewIs c q)) w) := by
  have hql := hq.len
  have hcl := hc.lc
  refine Does.enter Try.func35 rfl Try.ntmps35 rfl rfl ?_
  refine Goes.adv hTT 400 rfl ?_
  refine Goes.alloc hTT rfl ?_
  intro cb w1 e1 hcb hw1 hz1
  refine Goes.adv hTT 400 rfl ?_
  refine Goes.alloc hTT rfl ?_
  intro qb w2 e2 hqb hw2 hz2
  refine Goes.adv hTT 400 rfl ?_
  have hw := hw1.trans hw2
  replace hcb : w1.heap[cb]? = some (.cells (confL c p).toArray 24 (0, 0)) := hcb
  have hcb2 := hw2.heap' hcb
  have hq2 := hq.grow hw
  have hc2 := hc.chg hw
  obtain ⟨cls, page, idx, pa, pc, pages⟩ := q
  replace hqb : w2.heap[qb]? = some (.cells ([.int .i64 cls, .int .i64 page, .int .i64 idx, .slice pa pages.length pc] : List Value).toArray 26 (0, 0)) := hqb
  replace hq2 : Rd .i64 w2 pa pages := hq2.rd
  replace hql : pages.length ≤ 9223372036854775807 := hql
  refine Goes.loadb hTT rfl hqb rfl rfl ?_
  refine Goes.fork hTT rfl rfl rfl (fun hcl1 => ?_) (fun hcl1 => ?_)
  · have g : cls = -1 := by simpa using hcl1
    have hvi : viewIs c ⟨cls, page, idx, pa, pc, pages⟩ = (decide (0 < pages.length) && !pages.any (fun n => !inT n c.pages)) := by unfold viewIs; simp only; rw [if_pos g]
    rw [hvi]
    refine Goes.loop (α := Nat) (fun k => [(2, false, .pointer (some ⟨cb, 0, none⟩)), (3, false, .pointer (some ⟨qb, 0, none⟩)), (5, false, .int .i64 k)])
      (fun k w' => k ≤ pages.length ∧ Chg None' w2 w' ∧ ∀ j (h : j < pages.length), j < k → inT pages[j] c.pages = true) (fun k => pages.length - k) 0 ⟨rfl, rfl, rfl, trivial⟩ ⟨Nat.zero_le _, Chg.refl _ _, fun _ _ h => by omega⟩ ?_
    rintro k w3 ⟨hk, hw3, hpre⟩ ih
    refine Goes.adv hTT 400 rfl ?_
    refine Goes.loadb hTT rfl (hw3.heap' hqb) rfl rfl ?_
    refine Goes.fork hTT rfl rfl rfl (fun h0 => ?_) (fun h0 => ?_)
    · have hlt : k < pages.length := by have := of_decide_eq_true h0; omega
      obtain ⟨b, off, rfl, hcell⟩ := (hq2.chg hw3) k hlt
      have hgd : pages.getD k 0 = pages[k] := by rw [List.getD_eq_getElem?_getD, List.getElem?_eq_getElem hlt]; rfl
      rw [hgd] at hcell
      refine Goes.drawn (q := 16) None' hTT mixed (by kernel_rfl) rfl ?_
      intro hB
      refine Drawn.loadb hTT hB rfl (hw3.heap' hqb) (by first | exact fun h => h | (intro h; omega) | assumption) rfl rfl ?_
      refine Drawn.index hTT hB rfl (j := k) (by omega) (by omega) (by first | rfl | omega | (simp; done) | (simp; omega)) rfl ?_
      refine Drawn.load hTT hB rfl hcell (by first | exact fun h => h | (intro h; omega) | assumption) rfl ?_
      refine Drawn.fork hTT hB rfl rfl rfl (fun hn => ?_) (fun hn => ?_)
      · have g1 : pages[k] < 0 := of_decide_eq_true hn
        refine Drawn.nil hB ?_
        intro w4 hw4
        refine Goes.adv hTT 400 rfl ?_
        exact Goes.ret1 hTT rfl Try.func35 rfl rfl ⟨bool_v (by
          have : pages.any (fun n => !inT n c.pages) = true := List.any_eq_true.2 ⟨pages[k], List.getElem_mem hlt, by cases hh : inT pages[k] c.pages; rfl; have := inT_iff.1 hh; omega⟩
          rw [this]; simp), hw.trans (hw3.trans hw4)⟩
      · have g1 : ¬ pages[k] < 0 := of_decide_eq_false hn
        refine Drawn.loadb hTT hB rfl (hw3.heap' hqb) (by first | exact fun h => h | (intro h; omega) | assumption) rfl rfl ?_
        refine Drawn.index hTT hB rfl (j := k) (by omega) (by omega) (by first | rfl | omega | (simp; done) | (simp; omega)) rfl ?_
        refine Drawn.load hTT hB rfl hcell (by first | exact fun h => h | (intro h; omega) | assumption) rfl ?_
        refine Drawn.loadb hTT hB rfl (hw3.heap' hcb2) (by first | exact fun h => h | (intro h; omega) | assumption) rfl rfl ?_
        refine Drawn.nil hB ?_
        intro w4 hw4
        refine Goes.adv hTT 400 rfl ?_
        refine Goes.fork hTT rfl rfl rfl (fun hp => ?_) (fun hp => ?_)
        · have g2 : c.pages ≤ pages[k] := of_decide_eq_true hp
          exact Goes.ret1 hTT rfl Try.func35 rfl rfl ⟨bool_v (by
            have : pages.any (fun n => !inT n c.pages) = true := List.any_eq_true.2 ⟨pages[k], List.getElem_mem hlt, by cases hh : inT pages[k] c.pages; rfl; have := inT_iff.1 hh; omega⟩
            rw [this]; simp), hw.trans (hw3.trans hw4)⟩
        · have g2 : ¬ c.pages ≤ pages[k] := of_decide_eq_false hp
          refine Goes.arith hTT rfl (w64 (by omega)) rfl ?_
          exact ih (k + 1) _ _ ⟨hlt, hw3.trans hw4, fun j hj hjk => by
            by_cases e : j = k
            · subst e; exact inT_iff.2 ⟨by omega, by omega⟩
            · exact hpre j hj (by omega)⟩ (by omega) ⟨rfl, rfl, rfl, trivial⟩
    · have hge : k = pages.length := by have := of_decide_eq_false h0; omega
      refine Goes.loadb hTT rfl (hw3.heap' hqb) rfl rfl ?_
      exact Goes.ret1 hTT rfl Try.func35 rfl rfl ⟨bool_v (by
        have : pages.any (fun n => !inT n c.pages) = false := List.any_eq_false.2 (fun n hn => by obtain ⟨j, hj, rfl⟩ := List.getElem_of_mem hn; rw [hpre j hj (by omega)]; decide)
        rw [this, Bool.not_false, Bool.and_true]
        by_cases h : 0 < pages.length
        · rw [decide_eq_true h, decide_eq_true (by omega)]
        · rw [decide_eq_false h, decide_eq_false (by omega)]), hw.trans hw3⟩
  · have g : ¬ cls = -1 := by simpa using hcl1
    have hvi : viewIs c ⟨cls, page, idx, pa, pc, pages⟩ = (inT cls c.classes.length && inT page c.pages && inT idx (blocksM c cls)) := by unfold viewIs; simp only; rw [if_neg g]
    rw [hvi]
    unfold inT
    refine Goes.drawn (q := 38) None' hTT mixed (by kernel_rfl) rfl ?_
    intro hB
    refine Drawn.loadb hTT hB rfl hqb (by first | exact fun h => h | (intro h; omega) | assumption) rfl rfl ?_
    refine Drawn.fork hTT hB rfl rfl rfl (fun h1 => ?_) (fun h1 => ?_)
    · rw [h1]
      refine Drawn.loadb hTT hB rfl hqb (by first | exact fun h => h | (intro h; omega) | assumption) rfl rfl ?_
      refine Drawn.loadb hTT hB rfl hcb2 (by first | exact fun h => h | (intro h; omega) | assumption) rfl rfl ?_
      refine Drawn.fork hTT hB rfl rfl rfl (fun h2 => ?_) (fun h2 => ?_)
      · rw [h2]
        refine Drawn.loadb hTT hB rfl hqb (by first | exact fun h => h | (intro h; omega) | assumption) rfl rfl ?_
        refine Drawn.fork hTT hB rfl rfl rfl (fun h3 => ?_) (fun h3 => ?_)
        · rw [h3]
          refine Drawn.loadb hTT hB rfl hqb (by first | exact fun h => h | (intro h; omega) | assumption) rfl rfl ?_
          refine Drawn.loadb hTT hB rfl hcb2 (by first | exact fun h => h | (intro h; omega) | assumption) rfl rfl ?_
          refine Drawn.fork hTT hB rfl rfl rfl (fun h4 => ?_) (fun h4 => ?_)
          · rw [h4]
            refine Drawn.loadb hTT hB rfl hqb (by first | exact fun h => h | (intro h; omega) | assumption) rfl rfl ?_
            refine Drawn.fork hTT hB rfl rfl rfl (fun h5 => ?_) (fun h5 => ?_)
            · rw [h5]
              refine Drawn.loadb hTT hB rfl hqb (by first | exact fun h => h | (intro h; omega) | assumption) rfl rfl ?_
              refine Drawn.loads hTT hB rfl hcb2 (by first | exact fun h => h | (intro h; omega) | assumption) rfl rfl ?_
              refine Drawn.loadb hTT hB rfl hqb (by first | exact fun h => h | (intro h; omega) | assumption) rfl rfl ?_
              refine Drawn.call hTT hB rfl (fun w' hw' => ref03_Blocks c p cls w' (hc2.chg hw')) rfl ?_
              refine Drawn.nil hB ?_
              intro w3 hw3
              refine Goes.adv hTT 400 rfl ?_
              exact Goes.ret1 hTT rfl Try.func35 rfl rfl ⟨rfl, hw.trans hw3⟩
            · rw [h5]
              refine Drawn.nil hB ?_
              intro w3 hw3
              refine Goes.adv hTT 400 rfl ?_
              exact Goes.ret1 hTT rfl Try.func35 rfl rfl ⟨rfl, hw.trans hw3⟩
          · rw [h4]
            refine Drawn.nil hB ?_
            intro w3 hw3
            refine Goes.adv hTT 400 rfl ?_
            exact Goes.ret1 hTT rfl Try.func35 rfl rfl ⟨rfl, hw.trans hw3⟩
        · rw [h3]
          refine Drawn.nil hB ?_
          intro w3 hw3
          refine Goes.adv hTT 400 rfl ?_
          exact Goes.ret1 hTT rfl Try.func35 rfl rfl ⟨rfl, hw.trans hw3⟩
      · rw [h2]
        refine Drawn.nil hB ?_
        intro w3 hw3
        refine Goes.adv hTT 400 rfl ?_
        exact Goes.ret1 hTT rfl Try.func35 rfl rfl ⟨rfl, hw.trans hw3⟩
    · rw [h1]
      refine Drawn.nil hB ?_
      intro w3 hw3
      refine Goes.adv hTT 400 rfl ?_
      exact Goes.ret1 hTT rfl Try.func35 rfl rfl ⟨rfl, hw.trans hw3⟩
end Go.Proofs.Ytffimkpllchfcaa
