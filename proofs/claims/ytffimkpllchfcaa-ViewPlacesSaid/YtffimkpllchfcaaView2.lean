/-
  Layer 21: a view: how many bytes a place has, where a block begins; a new one.
-/
import Derived.Test.YtffimkpllchfcaaView
import Derived.Test.YtffimkpllchfcaaRef3
namespace Go.Proofs.Ytffimkpllchfcaa
open Go.RowKit

theorem may_facts {c : Conf} (h : mayB c = true) : (64 ≤ c.size ∧ c.size ≤ 4096 ∧ c.size % 8 = 0) ∧ (1 ≤ c.pages ∧ c.pages ≤ 1024) ∧ classOk c.classes c.size = true := by
  obtain ⟨h1, h2, h3, _⟩ := mayB_iff.1 h
  exact ⟨sizedM_iff.1 h1, h2, h3⟩
/-- A block's place, in a layout that may be. -/
theorem is_small {c : Conf} {q : Plc} (hm : mayB c = true) (h : viewIs c q = true) (hc : q.cls ≠ -1) :
    ∃ k pg ix : Nat, q.cls = k ∧ q.page = pg ∧ q.idx = ix ∧ k < c.classes.length ∧ (pg : Int) < c.pages ∧ 8 ≤ clsM c k ∧ clsM c k ≤ c.size ∧ 0 ≤ (pg : Int) * c.size ∧ 0 ≤ (ix : Int) * clsM c k ∧ (ix : Int) * clsM c k + clsM c k ≤ c.size ∧ (pg : Int) * c.size + (ix : Int) * clsM c k + clsM c k ≤ c.size * c.pages := by
  obtain ⟨h1, h2, h3⟩ := may_facts hm
  unfold viewIs at h
  rw [if_neg hc] at h
  simp only [Bool.and_eq_true, inT_iff] at h
  obtain ⟨⟨⟨a1, a2⟩, b1, b2⟩, c1, c2⟩ := h
  obtain ⟨k, hk⟩ := Int.eq_ofNat_of_zero_le a1
  obtain ⟨pg, hpg⟩ := Int.eq_ofNat_of_zero_le b1
  obtain ⟨ix, hix⟩ := Int.eq_ofNat_of_zero_le c1
  have hkl : k < c.classes.length := by omega
  obtain ⟨d1, d2, d3⟩ := classOk_get h3 k hkl
  have hcls : clsM c k = c.classes.getD k 0 := rfl
  rw [← hcls] at d1 d3
  have hbl : blocksM c q.cls = c.size / clsM c k := by
    unfold blocksM
    rw [hk, if_pos (by omega), Int.toNat_natCast, ← hcls, whole_yes (by omega) (by omega)]
  rw [hbl, hix] at c2
  have e1 : (ix : Int) * clsM c k + clsM c k ≤ c.size := by
    have : ((ix : Int) + 1) * clsM c k ≤ c.size := by
      calc ((ix : Int) + 1) * clsM c k ≤ (c.size / clsM c k) * clsM c k := Int.mul_le_mul_of_nonneg_right (by omega) (by omega)
        _ ≤ c.size := Int.ediv_mul_le _ (by omega)
    rw [Int.add_mul, Int.one_mul] at this
    exact this
  have e2 : (pg : Int) * c.size + c.size ≤ c.size * c.pages := by
    have : ((pg : Int) + 1) * c.size ≤ c.pages * c.size := Int.mul_le_mul_of_nonneg_right (by omega) (by omega)
    rw [Int.add_mul, Int.one_mul, Int.mul_comm c.pages] at this
    exact this
  refine ⟨k, pg, ix, hk, hpg, hix, hkl, by omega, by omega, d3, Int.mul_nonneg (by omega) (by omega), Int.mul_nonneg (by omega) (by omega), e1, by omega⟩
/-- A large place. -/
theorem is_large {c : Conf} {q : Plc} (h : viewIs c q = true) (hc : q.cls = -1) : 0 < q.pages.length ∧ ∀ n ∈ q.pages, 0 ≤ n ∧ n < c.pages := by
  unfold viewIs at h
  rw [if_pos hc] at h
  simp only [Bool.and_eq_true, decide_eq_true_eq, Bool.not_eq_true'] at h
  refine ⟨h.1, fun n hn => ?_⟩
  have := List.any_eq_false.1 h.2 n hn
  simp at this
  exact inT_iff.1 this
theorem VwOk.cls {w : World} {v : Vw} (h : VwOk w v) {k : Nat} (hk : k < v.c.classes.length) : ∃ b off, v.p.ca = some ⟨b, off, none⟩ ∧ w.cell? ⟨b, off + k, none⟩ = some (.int .i64 (clsM v.c k)) := h.conf.classes k hk
theorem size_total {c : Conf} (hm : mayB c = true) : 64 ≤ c.size * c.pages ∧ c.size * c.pages ≤ 4194304 := by
  obtain ⟨h1, h2, _⟩ := may_facts hm
  constructor
  · calc (64 : Int) = 64 * 1 := rfl
      _ ≤ c.size * c.pages := Int.mul_le_mul (by omega) (by omega) (by omega) (by omega)
  · calc c.size * c.pages ≤ 4096 * 1024 := Int.mul_le_mul (by omega) (by omega) (by omega) (by omega)
      _ = 4194304 := rfl
theorem view_Holds (v : Vw) (q : Plc) (w : World) (h : VwOk w v) (hq : PlcOk w q) (hfew : q.pages.length ≤ 1000000000) : Does Try.prog 12 #[vwV v, .agg (plL q).toArray] w (Grow (.int .i64 (viewHolds v.c q)) w) := by
  obtain ⟨m1, m2, m3⟩ := may_facts h.may
  refine Does.enter Try.func12 rfl Try.ntmps12 rfl rfl ?_
  refine Goes.adv hTT 400 rfl ?_
  refine Goes.alloc hTT rfl ?_
  intro qb w1 e1 hqb hw1 hz1
  refine Goes.adv hTT 400 rfl ?_
  have hv1 := h.grow hw1
  replace hqb : w1.heap[qb]? = some (.cells (plL q).toArray 26 (0, 0)) := hqb
  refine Goes.loads hTT rfl hqb rfl rfl ?_
  refine Goes.call rfl (view_is v q w1 hv1 (hq.grow hw1)) ?_
  rintro _ w2 ⟨rfl, hw2⟩
  refine Goes.adv hTT 400 rfl ?_
  have hqb2 := hw2.heap' hqb
  have hv2 := hv1.grow hw2
  have hw := hw1.trans hw2
  cases hi : viewIs v.c q with
  | false =>
    refine Goes.yes hTT rfl rfl rfl ?_
    exact Goes.ret1 hTT rfl Try.func12 rfl rfl ⟨int_v (by unfold viewHolds; rw [hi]; rfl), hw⟩
  | true =>
    refine Goes.no hTT rfl rfl rfl ?_
    refine Goes.loadb hTT rfl hqb2 rfl rfl ?_
    refine Goes.fork hTT rfl rfl rfl (fun hcl1 => ?_) (fun hcl1 => ?_)
    · have g : q.cls = -1 := by simpa using hcl1
      have hl0 : 0 ≤ (q.pages.length : Int) * v.c.size := Int.mul_nonneg (by omega) (by omega)
      have hl1 : (q.pages.length : Int) * v.c.size ≤ 1000000000 * 4096 := Int.mul_le_mul (by omega) (by omega) (by omega) (by omega)
      refine Goes.drawn (q := 10) None' hTT mixed (by kernel_rfl) rfl ?_
      intro hB
      refine Drawn.loadb hTT hB rfl hqb2 (by first | exact fun h => h | (intro h; omega) | assumption) rfl rfl ?_
      refine Drawn.loadb hTT hB rfl hv2.obj (by first | exact fun h => h | (intro h; omega) | assumption) rfl rfl ?_
      refine Drawn.arith hTT hB rfl (w64 (by omega)) rfl ?_
      refine Drawn.nil hB ?_
      intro w3 hw3
      refine Goes.adv hTT 400 rfl ?_
      exact Goes.ret1 hTT rfl Try.func12 rfl rfl ⟨int_v (by unfold viewHolds; rw [if_pos hi, if_pos g]), hw.trans hw3⟩
    · have g : ¬ q.cls = -1 := by simpa using hcl1
      obtain ⟨k, pg, ix, hk, hpg, hix, hkl, _, _, _, _, _, _, _⟩ := is_small h.may hi g
      obtain ⟨cb, off, hca, hcc⟩ := hv2.cls hkl
      obtain ⟨vb, c, ⟨ca, cc, ka, kc⟩, ab, mb⟩ := v
      simp only at hca
      subst hca
      obtain ⟨cls, page, idx, pa, pc, pages⟩ := q
      simp only at hk
      subst hk
      replace hkl : k < c.classes.length := hkl
      refine Goes.drawn (q := 10) None' hTT mixed (by kernel_rfl) rfl ?_
      intro hB
      refine Drawn.loadb hTT hB rfl hv2.obj (by first | exact fun h => h | (intro h; omega) | assumption) rfl rfl ?_
      refine Drawn.loadb hTT hB rfl hqb2 (by first | exact fun h => h | (intro h; omega) | assumption) rfl rfl ?_
      refine Drawn.index hTT hB rfl (j := k) (show (0 : Int) ≤ k by omega) (show (k : Int) < c.classes.length by omega) (by simp) rfl ?_
      refine Drawn.load hTT hB rfl hcc (by first | exact fun h => h | (intro h; omega) | assumption) rfl ?_
      refine Drawn.nil hB ?_
      intro w3 hw3
      refine Goes.adv hTT 400 rfl ?_
      exact Goes.ret1 hTT rfl Try.func12 rfl rfl ⟨int_v (by unfold viewHolds; rw [if_pos hi]; simp only; rw [if_neg g]), hw.trans hw3⟩
theorem view_Holds_nil (q : Plc) (w : World) : Does Try.prog 12 #[.pointer none, .agg (plL q).toArray] w (Grow (.int .i64 0) w) := by
  refine Does.enter Try.func12 rfl Try.ntmps12 rfl rfl ?_
  refine Goes.adv hTT 400 rfl ?_
  refine Goes.alloc hTT rfl ?_
  intro qb w1 e1 hqb hw1 hz1
  refine Goes.adv hTT 400 rfl ?_
  replace hqb : w1.heap[qb]? = some (.cells (plL q).toArray 26 (0, 0)) := hqb
  refine Goes.loads hTT rfl hqb rfl rfl ?_
  refine Goes.call rfl (view_is_nil q w1) ?_
  rintro _ w2 ⟨rfl, hw2⟩
  refine Goes.adv hTT 400 rfl ?_
  refine Goes.yes hTT rfl rfl rfl ?_
  exact Goes.ret1 hTT rfl Try.func12 rfl rfl ⟨rfl, hw1.trans hw2⟩
theorem view_At (v : Vw) (q : Plc) (w : World) (h : VwOk w v) (hq : PlcOk w q) : Does Try.prog 14 #[vwV v, .agg (plL q).toArray] w (Grow (.int .i64 (viewAt v.c q)) w) := by
  obtain ⟨m1, m2, m3⟩ := may_facts h.may
  have htot := size_total h.may
  refine Does.enter Try.func14 rfl Try.ntmps14 rfl rfl ?_
  refine Goes.adv hTT 400 rfl ?_
  refine Goes.alloc hTT rfl ?_
  intro qb w1 e1 hqb hw1 hz1
  refine Goes.adv hTT 400 rfl ?_
  have hv1 := h.grow hw1
  replace hqb : w1.heap[qb]? = some (.cells (plL q).toArray 26 (0, 0)) := hqb
  refine Goes.loads hTT rfl hqb rfl rfl ?_
  refine Goes.call rfl (view_is v q w1 hv1 (hq.grow hw1)) ?_
  rintro _ w2 ⟨rfl, hw2⟩
  refine Goes.adv hTT 400 rfl ?_
  have hqb2 := hw2.heap' hqb
  have hv2 := hv1.grow hw2
  have hw := hw1.trans hw2
  cases hi : viewIs v.c q with
  | false =>
    refine Goes.yes hTT rfl rfl rfl ?_
    exact Goes.ret1 hTT rfl Try.func14 rfl rfl ⟨int_v (by unfold viewAt; rw [hi, if_neg (by simp)]), hw⟩
  | true =>
    refine Goes.no hTT rfl rfl rfl ?_
    refine Goes.loadb hTT rfl hqb2 rfl rfl ?_
    refine Goes.fork hTT rfl rfl rfl (fun hcl1 => ?_) (fun hcl1 => ?_)
    · have g : q.cls = -1 := by simpa using hcl1
      exact Goes.ret1 hTT rfl Try.func14 rfl rfl ⟨int_v (by unfold viewAt; rw [if_neg (fun hh => hh.2 g)]), hw⟩
    · have g : ¬ q.cls = -1 := by simpa using hcl1
      obtain ⟨k, pg, ix, hk, hpg, hix, hkl, g1, g2, g3, g4, g5, g6, g7⟩ := is_small h.may hi g
      obtain ⟨cb, off, hca, hcc⟩ := hv2.cls hkl
      obtain ⟨vb, c, ⟨ca, cc, ka, kc⟩, ab, mb⟩ := v
      simp only at hca
      subst hca
      obtain ⟨cls, page, idx, pa, pc, pages⟩ := q
      simp only at hk hpg hix
      subst hk
      subst hpg
      subst hix
      replace hkl : k < c.classes.length := hkl
      replace htot : 64 ≤ c.size * c.pages ∧ c.size * c.pages ≤ 4194304 := htot
      replace g4 : 0 ≤ (pg : Int) * c.size := g4
      replace g5 : 0 ≤ (ix : Int) * clsM c k := g5
      replace g6 : (ix : Int) * clsM c k + clsM c k ≤ c.size := g6
      replace g7 : (pg : Int) * c.size + (ix : Int) * clsM c k + clsM c k ≤ c.size * c.pages := g7
      replace g2 : 8 ≤ clsM c k := g2
      replace m1 : 64 ≤ c.size ∧ c.size ≤ 4096 ∧ c.size % 8 = 0 := m1
      refine Goes.drawn (q := 22) None' hTT mixed (by kernel_rfl) rfl ?_
      intro hB
      refine Drawn.loadb hTT hB rfl hqb2 (by first | exact fun h => h | (intro h; omega) | assumption) rfl rfl ?_
      refine Drawn.loadb hTT hB rfl hv2.obj (by first | exact fun h => h | (intro h; omega) | assumption) rfl rfl ?_
      refine Drawn.arith hTT hB rfl (w64 (by show _ ∧ _; simp only; omega)) rfl ?_
      refine Drawn.loadb hTT hB rfl hqb2 (by first | exact fun h => h | (intro h; omega) | assumption) rfl rfl ?_
      refine Drawn.loadb hTT hB rfl hv2.obj (by first | exact fun h => h | (intro h; omega) | assumption) rfl rfl ?_
      refine Drawn.loadb hTT hB rfl hqb2 (by first | exact fun h => h | (intro h; omega) | assumption) rfl rfl ?_
      refine Drawn.index hTT hB rfl (j := k) (show (0 : Int) ≤ k by omega) (show (k : Int) < c.classes.length by omega) (by simp) rfl ?_
      refine Drawn.load hTT hB rfl hcc (by first | exact fun h => h | (intro h; omega) | assumption) rfl ?_
      refine Drawn.arith hTT hB rfl (w64 (by show _ ∧ _; simp only; omega)) rfl ?_
      refine Drawn.arith hTT hB rfl (w64 (by show _ ∧ _; simp only; omega)) rfl ?_
      refine Drawn.nil hB ?_
      intro w3 hw3
      refine Goes.adv hTT 400 rfl ?_
      exact Goes.ret1 hTT rfl Try.func14 rfl rfl ⟨int_v (by unfold viewAt; rw [if_pos ⟨hi, g⟩]), hw.trans hw3⟩
theorem view_At_nil (q : Plc) (w : World) : Does Try.prog 14 #[.pointer none, .agg (plL q).toArray] w (Grow (.int .i64 (-1)) w) := by
  refine Does.enter Try.func14 rfl Try.ntmps14 rfl rfl ?_
  refine Goes.adv hTT 400 rfl ?_
  refine Goes.alloc hTT rfl ?_
  intro qb w1 e1 hqb hw1 hz1
  refine Goes.adv hTT 400 rfl ?_
  replace hqb : w1.heap[qb]? = some (.cells (plL q).toArray 26 (0, 0)) := hqb
  refine Goes.loads hTT rfl hqb rfl rfl ?_
  refine Goes.call rfl (view_is_nil q w1) ?_
  rintro _ w2 ⟨rfl, hw2⟩
  refine Goes.adv hTT 400 rfl ?_
  refine Goes.yes hTT rfl rfl rfl ?_
  exact Goes.ret1 hTT rfl Try.func14 rfl rfl ⟨rfl, hw1.trans hw2⟩
theorem view_New (c : Conf) (p : ConfAt) (A : Ar) (V : ArV) (w : World) (hc : ConfOk w c p) (hA : ArOk w A V) : Does Try.prog 11 #[.agg (confL c p).toArray, .pointer (some ⟨A.ab, 0, none⟩), ptr A.mb] w
    (fun v w' => Chg None' w w' ∧ if mayB c = true ∧ (V.bs.length : Int) = c.size * c.pages then ∃ vb, v = .tuple #[.pointer (some ⟨vb, 0, none⟩), .int .i64 0] ∧ w.heap.size ≤ vb ∧ VwOk w' ⟨vb, c, p, A.ab, A.mb⟩ else v = .tuple #[.pointer none, .int .i64 1]) := by
  refine Does.enter Try.func11 rfl Try.ntmps11 rfl rfl ?_
  refine Goes.adv hTT 400 rfl ?_
  refine Goes.alloc hTT rfl ?_
  intro cb w1 e1 hcb hw1 hz1
  refine Goes.adv hTT 400 rfl ?_
  replace hcb : w1.heap[cb]? = some (.cells (confL c p).toArray 24 (0, 0)) := hcb
  refine Goes.loads hTT rfl hcb rfl rfl ?_
  refine Goes.call rfl (conf_May c p w1 (hc.chg hw1)) ?_
  rintro _ w2 ⟨rfl, hw2⟩
  refine Goes.adv hTT 400 rfl ?_
  have hw := hw1.trans hw2
  have hcb2 := hw2.heap' hcb
  cases hm : mayB c with
  | false =>
    rw [show mayM c = 1 from by unfold mayM; rw [hm]; rfl]
    refine Goes.yes hTT rfl rfl rfl ?_
    exact Goes.ret2 hTT rfl Try.func11 rfl rfl rfl ⟨hw, by rw [if_neg (by simp)]⟩
  | true =>
    rw [show mayM c = 0 from by unfold mayM; rw [hm]; rfl]
    have htot := size_total hm
    refine Goes.no hTT rfl rfl rfl ?_
    refine Goes.drawn (q := 8) None' hTT mixed (by kernel_rfl) rfl ?_
    intro hB
    refine Drawn.call hTT hB rfl (fun w' hw' => (arena_Len A V w' ((hA.grow hw).grow hw')).grow) rfl ?_
    refine Drawn.loadb hTT hB rfl hcb2 (by first | exact fun h => h | (intro h; omega) | assumption) rfl rfl ?_
    refine Drawn.loadb hTT hB rfl hcb2 (by first | exact fun h => h | (intro h; omega) | assumption) rfl rfl ?_
    refine Drawn.arith hTT hB rfl (w64 (by show _ ∧ _; omega)) rfl ?_
    refine Drawn.adv hTT hB rfl ?_
    refine Drawn.nil hB ?_
    intro w3 hw3
    refine Goes.adv hTT 400 rfl ?_
    by_cases hl : (V.bs.length : Int) = c.size * c.pages
    · refine Goes.no hTT rfl (show ((V.bs.length : Int) != c.size * c.pages) = false by rw [hl]; exact bne_self_eq_false _) rfl ?_
      refine Goes.loads hTT rfl (hw3.heap' hcb2) rfl rfl ?_
      refine Goes.build hTT rfl rfl ?_
      refine Goes.alloc hTT rfl ?_
      intro vb w4 e4 hvb hw4 hz4
      refine Goes.adv hTT 400 rfl ?_
      have hwa := (hw.trans hw3).trans hw4
      exact Goes.ret2 hTT rfl Try.func11 rfl rfl rfl ⟨hwa, by rw [if_pos ⟨rfl, hl⟩]; exact ⟨vb, rfl, by have := hw.size; have := hw3.size; omega, ⟨hvb, hc.chg hwa, hm⟩⟩⟩
    · refine Goes.yes hTT rfl (show ((V.bs.length : Int) != c.size * c.pages) = true by simpa using hl) rfl ?_
      exact Goes.ret2 hTT rfl Try.func11 rfl rfl rfl ⟨hw.trans hw3, by rw [if_neg (fun hh => hl hh.2)]⟩
end Go.Proofs.Ytffimkpllchfcaa
