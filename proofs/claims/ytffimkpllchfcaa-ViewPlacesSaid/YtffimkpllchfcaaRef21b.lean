/-
  Layer 21: what the document's functions answer of places: how many bytes, where.
-/
import Derived.Test.YtffimkpllchfcaaRef21
namespace Go.Proofs.Ytffimkpllchfcaa
open Go.RowKit

theorem conf_cls {w : World} {c : Conf} {p : ConfAt} (h : ConfOk w c p) {k : Nat} (hk : k < c.classes.length) : ∃ b off, p.ca = some ⟨b, off, none⟩ ∧ w.cell? ⟨b, off + k, none⟩ = some (.int .i64 (clsM c k)) := h.classes k hk
theorem ref21_Holds (c : Conf) (p : ConfAt) (q : Plc) (w : World) (hc : ConfOk w c p) (hq : PlcOk w q) (hm : mayB c = true) (hfew : q.pages.length ≤ 1000000000) : Does Try.prog 13 #[.agg (confL c p).toArray, .agg (plL q).toArray] w (Grow (.int .i64 (viewHolds c q)) w) := by
  obtain ⟨m1, m2, m3⟩ := may_facts hm
  refine Does.enter Try.func13 rfl Try.ntmps13 rfl rfl ?_
  refine Goes.adv hTT 400 rfl ?_
  refine Goes.alloc hTT rfl ?_
  intro cb w1 e1 hcb hw1 hz1
  refine Goes.adv hTT 400 rfl ?_
  refine Goes.alloc hTT rfl ?_
  intro qb w2 e2 hqb hw2 hz2
  refine Goes.adv hTT 400 rfl ?_
  have hw := hw1.trans hw2
  replace hcb : w1.heap[cb]? = some (.cells (confL c p).toArray 24 (0, 0)) := hcb
  replace hqb : w2.heap[qb]? = some (.cells (plL q).toArray 26 (0, 0)) := hqb
  refine Goes.loads hTT rfl (hw2.heap' hcb) rfl rfl ?_
  refine Goes.loads hTT rfl hqb rfl rfl ?_
  refine Goes.call rfl (ref21_Is c p q w2 (hc.chg hw) (hq.grow hw)) ?_
  rintro _ w3 ⟨rfl, hw3⟩
  refine Goes.adv hTT 400 rfl ?_
  have hwa := hw.trans hw3
  have hcb3 := (hw2.trans hw3).heap' hcb
  have hqb3 := hw3.heap' hqb
  cases hi : viewIs c q with
  | false =>
    refine Goes.yes hTT rfl rfl rfl ?_
    exact Goes.ret1 hTT rfl Try.func13 rfl rfl ⟨int_v (by unfold viewHolds; rw [hi]; rfl), hwa⟩
  | true =>
    refine Goes.no hTT rfl rfl rfl ?_
    refine Goes.loadb hTT rfl hqb3 rfl rfl ?_
    refine Goes.fork hTT rfl rfl rfl (fun hcl1 => ?_) (fun hcl1 => ?_)
    · have g : q.cls = -1 := by simpa using hcl1
      have hl0 : 0 ≤ (q.pages.length : Int) * c.size := Int.mul_nonneg (by omega) (by omega)
      have hl1 : (q.pages.length : Int) * c.size ≤ 1000000000 * 4096 := Int.mul_le_mul (by omega) (by omega) (by omega) (by omega)
      refine Goes.loadb hTT rfl hqb3 rfl rfl ?_
      refine Goes.loadb hTT rfl hcb3 rfl rfl ?_
      refine Goes.arith hTT rfl (w64 (by omega)) rfl ?_
      exact Goes.ret1 hTT rfl Try.func13 rfl rfl ⟨int_v (by unfold viewHolds; rw [if_pos hi, if_pos g]), hwa⟩
    · have g : ¬ q.cls = -1 := by simpa using hcl1
      obtain ⟨k, pg, ix, hk, hpg, hix, hkl, _, _, _, _, _, _, _⟩ := is_small hm hi g
      obtain ⟨cb', off, hca, hcc⟩ := conf_cls (hc.chg hwa) hkl
      obtain ⟨ca, cc, ka, kc⟩ := p
      simp only at hca
      subst hca
      obtain ⟨cls, page, idx, pa, pc, pages⟩ := q
      simp only at hk
      subst hk
      refine Goes.loadb hTT rfl hcb3 rfl rfl ?_
      refine Goes.loadb hTT rfl hqb3 rfl rfl ?_
      refine Goes.index hTT rfl (j := k) (show (0 : Int) ≤ k by omega) (show (k : Int) < c.classes.length by omega) (by simp) rfl ?_
      refine Goes.load hTT rfl hcc rfl ?_
      exact Goes.ret1 hTT rfl Try.func13 rfl rfl ⟨int_v (by unfold viewHolds; rw [if_pos hi]; simp only; rw [if_neg g]), hwa⟩
theorem ref21_At (c : Conf) (p : ConfAt) (q : Plc) (w : World) (hc : ConfOk w c p) (hq : PlcOk w q) (hm : mayB c = true) : Does Try.prog 15 #[.agg (confL c p).toArray, .agg (plL q).toArray] w (Grow (.int .i64 (viewAt c q)) w) := by
  obtain ⟨m1, m2, m3⟩ := may_facts hm
  have htot := size_total hm
  refine Does.enter Try.func15 rfl Try.ntmps15 rfl rfl ?_
  refine Goes.adv hTT 400 rfl ?_
  refine Goes.alloc hTT rfl ?_
  intro cb w1 e1 hcb hw1 hz1
  refine Goes.adv hTT 400 rfl ?_
  refine Goes.alloc hTT rfl ?_
  intro qb w2 e2 hqb hw2 hz2
  refine Goes.adv hTT 400 rfl ?_
  have hw := hw1.trans hw2
  replace hcb : w1.heap[cb]? = some (.cells (confL c p).toArray 24 (0, 0)) := hcb
  replace hqb : w2.heap[qb]? = some (.cells (plL q).toArray 26 (0, 0)) := hqb
  refine Goes.loads hTT rfl (hw2.heap' hcb) rfl rfl ?_
  refine Goes.loads hTT rfl hqb rfl rfl ?_
  refine Goes.call rfl (ref21_Is c p q w2 (hc.chg hw) (hq.grow hw)) ?_
  rintro _ w3 ⟨rfl, hw3⟩
  refine Goes.adv hTT 400 rfl ?_
  have hwa := hw.trans hw3
  have hcb3 := (hw2.trans hw3).heap' hcb
  have hqb3 := hw3.heap' hqb
  cases hi : viewIs c q with
  | false =>
    refine Goes.yes hTT rfl rfl rfl ?_
    exact Goes.ret1 hTT rfl Try.func15 rfl rfl ⟨int_v (by unfold viewAt; rw [hi, if_neg (by simp)]), hwa⟩
  | true =>
    refine Goes.no hTT rfl rfl rfl ?_
    refine Goes.loadb hTT rfl hqb3 rfl rfl ?_
    refine Goes.fork hTT rfl rfl rfl (fun hcl1 => ?_) (fun hcl1 => ?_)
    · have g : q.cls = -1 := by simpa using hcl1
      exact Goes.ret1 hTT rfl Try.func15 rfl rfl ⟨int_v (by unfold viewAt; rw [if_neg (fun hh => hh.2 g)]), hwa⟩
    · have g : ¬ q.cls = -1 := by simpa using hcl1
      obtain ⟨k, pg, ix, hk, hpg, hix, hkl, g1, g2, g3, g4, g5, g6, g7⟩ := is_small hm hi g
      obtain ⟨cb', off, hca, hcc⟩ := conf_cls (hc.chg hwa) hkl
      obtain ⟨ca, cc, ka, kc⟩ := p
      simp only at hca
      subst hca
      obtain ⟨cls, page, idx, pa, pc, pages⟩ := q
      simp only at hk hpg hix
      subst hk
      subst hpg
      subst hix
      refine Goes.drawn (q := 16) None' hTT mixed (by kernel_rfl) rfl ?_
      intro hB
      refine Drawn.loadb hTT hB rfl hqb3 (by first | exact fun h => h | (intro h; omega) | assumption) rfl rfl ?_
      refine Drawn.loadb hTT hB rfl hcb3 (by first | exact fun h => h | (intro h; omega) | assumption) rfl rfl ?_
      refine Drawn.arith hTT hB rfl (w64 (by show _ ∧ _; simp only; omega)) rfl ?_
      refine Drawn.loadb hTT hB rfl hqb3 (by first | exact fun h => h | (intro h; omega) | assumption) rfl rfl ?_
      refine Drawn.loadb hTT hB rfl hcb3 (by first | exact fun h => h | (intro h; omega) | assumption) rfl rfl ?_
      refine Drawn.loadb hTT hB rfl hqb3 (by first | exact fun h => h | (intro h; omega) | assumption) rfl rfl ?_
      refine Drawn.index hTT hB rfl (j := k) (show (0 : Int) ≤ k by omega) (show (k : Int) < c.classes.length by omega) (by simp) rfl ?_
      refine Drawn.load hTT hB rfl hcc (by first | exact fun h => h | (intro h; omega) | assumption) rfl ?_
      refine Drawn.arith hTT hB rfl (w64 (by show _ ∧ _; simp only; omega)) rfl ?_
      refine Drawn.arith hTT hB rfl (w64 (by show _ ∧ _; simp only; omega)) rfl ?_
      refine Drawn.nil hB ?_
      intro w4 hw4
      refine Goes.adv hTT 400 rfl ?_
      exact Goes.ret1 hTT rfl Try.func15 rfl rfl ⟨int_v (by unfold viewAt; rw [if_pos ⟨hi, g⟩]), hwa.trans hw4⟩
theorem law_ViewPlaces (c : Conf) (p : ConfAt) (q : Plc) (w : World) (hc : ConfOk w c p) (hq : PlcOk w q) : Does Try.prog 3 #[.agg (confL c p).toArray, .agg (plL q).toArray] w (Grow (.bool true) w) := by
  refine Does.enter Try.func3 rfl Try.ntmps3 rfl rfl ?_
  refine Goes.adv hTT 400 rfl ?_
  refine Goes.alloc hTT rfl ?_
  intro cb w1 e1 hcb hw1 hz1
  refine Goes.adv hTT 400 rfl ?_
  refine Goes.alloc hTT rfl ?_
  intro qb w2 e2 hqb hw2 hz2
  refine Goes.adv hTT 400 rfl ?_
  have hw := hw1.trans hw2
  replace hcb : w1.heap[cb]? = some (.cells (confL c p).toArray 24 (0, 0)) := hcb
  replace hqb : w2.heap[qb]? = some (.cells (plL q).toArray 26 (0, 0)) := hqb
  refine Goes.call rfl (law21_awake w2) ?_
  rintro _ w3 ⟨rfl, hw3⟩
  refine Goes.adv hTT 400 rfl ?_
  have hwa := hw.trans hw3
  have hcb3 := (hw2.trans hw3).heap' hcb
  have hqb3 := hw3.heap' hqb
  refine Goes.loads hTT rfl hcb3 rfl rfl ?_
  refine Goes.call rfl (ref03_Few c p w3 (hc.chg hwa)) ?_
  rintro _ w4 ⟨rfl, hw4⟩
  refine Goes.adv hTT 400 rfl ?_
  have hwb := hwa.trans hw4
  cases hf : fewM c with
  | false =>
    refine Goes.yes hTT rfl rfl rfl ?_
    exact Goes.ret1 hTT rfl Try.func3 rfl rfl ⟨rfl, hwb⟩
  | true =>
    obtain ⟨hm, _, _⟩ := few_may hf
    obtain ⟨m1, m2, m3⟩ := may_facts hm
    have htot := size_total hm
    have hcb4 := hw4.heap' hcb3
    have hqb4 := hw4.heap' hqb3
    refine Goes.no hTT rfl rfl rfl ?_
    refine Goes.loadb hTT rfl hqb4 rfl rfl ?_
    refine Goes.fork hTT rfl rfl rfl (fun h30 => ?_) (fun h30 => ?_)
    · exact Goes.ret1 hTT rfl Try.func3 rfl rfl ⟨rfl, hwb⟩
    · have g30 := of_decide_eq_false h30
      refine Goes.loadb hTT rfl hcb4 rfl rfl ?_
      refine Goes.loadb hTT rfl hcb4 rfl rfl ?_
      refine Goes.call rfl (arena_New none 0 0 c.pages c.size w4 (fun b hb => by cases hb) (arMay_iff.2 (by omega))) ?_
      rintro _ w5 ⟨A, rfl, hmb, ha1, ha2, ha3, hA5, hw5⟩
      refine Goes.adv hTT 400 rfl ?_
      have hlen : (zeros (c.pages * c.size).toNat).length = (c.pages * c.size).toNat := List.length_replicate
      have hcomm : c.pages * c.size = c.size * c.pages := Int.mul_comm _ _
      have hcond : mayB c = true ∧ (((⟨zeros (c.pages * c.size).toNat, 0, 0⟩ : ArV).bs.length : Nat) : Int) = c.size * c.pages := ⟨hm, by show (((zeros (c.pages * c.size).toNat).length : Nat) : Int) = _; rw [hlen]; omega⟩
      have hwc := hwb.trans hw5
      have hVN : Does Try.prog 11 #[.agg (confL c p).toArray, .pointer (some ⟨A.ab, 0, none⟩), ptr A.mb] w5 (fun u w' => Chg None' w5 w' ∧ ∃ vb, u = .tuple #[.pointer (some ⟨vb, 0, none⟩), .int .i64 0] ∧ w5.heap.size ≤ vb ∧ VwOk w' ⟨vb, c, p, A.ab, A.mb⟩) :=
        (view_New c p A _ w5 (hc.chg hwc) hA5).mono fun u w' h => ⟨h.1, by have h2 := h.2; rw [if_pos hcond] at h2; exact h2⟩
      rw [hmb] at hVN
      refine Goes.loads hTT rfl (hw5.heap' hcb4) rfl rfl ?_
      refine Goes.call rfl (hVN) ?_
      rintro _ w6 ⟨hw6, vb, rfl, hvb, hv6⟩
      refine Goes.adv hTT 400 rfl ?_
      have hwd := hwc.trans hw6
      have hcb6 := (hw5.trans hw6).heap' hcb4
      have hqb6 := (hw5.trans hw6).heap' hqb4
      obtain ⟨v, hvv⟩ : ∃ v : Vw, v = ⟨vb, c, p, A.ab, none⟩ := ⟨_, rfl⟩
      rw [← hvv] at hv6
      have hvc : v.c = c := by rw [hvv]
      have hvvb : vwV v = .pointer (some ⟨vb, 0, none⟩) := by rw [hvv]
      rw [← hvvb]
      refine Goes.drawn (q := 24) None' hTT mixed (by kernel_rfl) rfl ?_
      intro hB
      refine Drawn.yes hTT hB rfl rfl rfl ?_
      refine Drawn.yes hTT hB rfl rfl rfl ?_
      refine Drawn.loads hTT hB rfl hqb6 (by first | exact fun h => h | (intro h; omega) | assumption) rfl rfl ?_
      refine Drawn.call hTT hB rfl (fun w' hw' => view_Holds v q w' (hv6.grow hw') ((hq.grow hwd).grow hw') (by omega)) rfl ?_
      refine Drawn.loads hTT hB rfl hcb6 (by first | exact fun h => h | (intro h; omega) | assumption) rfl rfl ?_
      refine Drawn.loads hTT hB rfl hqb6 (by first | exact fun h => h | (intro h; omega) | assumption) rfl rfl ?_
      refine Drawn.call hTT hB rfl (fun w' hw' => ref21_Holds c p q w' ((hc.chg hwd).chg hw') ((hq.grow hwd).grow hw') hm (by omega)) rfl ?_
      rw [hvc]
      refine Drawn.yes hTT hB rfl (beq_self_eq_true _) rfl ?_
      refine Drawn.loads hTT hB rfl hqb6 (by first | exact fun h => h | (intro h; omega) | assumption) rfl rfl ?_
      refine Drawn.call hTT hB rfl (fun w' hw' => view_At v q w' (hv6.grow hw') ((hq.grow hwd).grow hw')) rfl ?_
      refine Drawn.loads hTT hB rfl hcb6 (by first | exact fun h => h | (intro h; omega) | assumption) rfl rfl ?_
      refine Drawn.loads hTT hB rfl hqb6 (by first | exact fun h => h | (intro h; omega) | assumption) rfl rfl ?_
      refine Drawn.call hTT hB rfl (fun w' hw' => ref21_At c p q w' ((hc.chg hwd).chg hw') ((hq.grow hwd).grow hw') hm) rfl ?_
      rw [hvc]
      refine Drawn.nil hB ?_
      intro w7 hw7
      refine Goes.adv hTT 400 rfl ?_
      exact Goes.ret1 hTT rfl Try.func3 rfl rfl ⟨bool_v (beq_self_eq_true _), hwd.trans hw7⟩
end Go.Proofs.Ytffimkpllchfcaa
