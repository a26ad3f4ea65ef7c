/-
  Layer 21: a view: where some bytes of a place stand.
-/
import Derived.Test.YtffimkpllchfcaaView2
import Derived.Test.YtffimkpllchfcaaChain2
import Derived.Test.YtffimkpllchfcaaRowsD
namespace Go.Proofs.Ytffimkpllchfcaa
open Go.RowKit

theorem Rd.far' {k : IntKind} {w w' : World} {a : Option Addr} {zs : List Int} {S : Nat → Prop} (h : Rd k w a zs) (hs : 0 < zs.length → OutA S a) (hc : Chg S w w') : Rd k w' a zs := (RdS.chg ⟨h, fun b off s e hl => hs hl b off s e⟩ hc).1
theorem PlcOk.far {w w' : World} {q : Plc} {S : Nat → Prop} (h : PlcOk w q) (hs : 0 < q.pages.length → OutA S q.pa) (hc : Chg S w w') : PlcOk w' q := ⟨h.rd.far' hs hc, h.len⟩
theorem ConfOk.far {w w' : World} {c : Conf} {p : ConfAt} {S : Nat → Prop} (h : ConfOk w c p) (h1 : 0 < c.classes.length → OutA S p.ca) (h2 : 0 < c.keep.length → OutA S p.ka) (hc : Chg S w w') : ConfOk w' c p := ⟨h.classes.far' h1 hc, h.keep.far' h2 hc, h.lc, h.lk, h.size⟩
theorem VwOk.far {w w' : World} {v : Vw} {S : Nat → Prop} (h : VwOk w v) (h0 : ¬ S v.vb) (h1 : 0 < v.c.classes.length → OutA S v.p.ca) (h2 : 0 < v.c.keep.length → OutA S v.p.ka) (hc : Chg S w w') : VwOk w' v := ⟨hc.heap h.obj h0, h.conf.far h1 h2 hc, h.may⟩
theorem Rd.outNew {k : IntKind} {w : World} {a : Option Addr} {zs : List Int} {S S' : Nat → Prop} (h : Rd k w a zs) (hs : 0 < zs.length → OutA S a) (hS : ∀ z, S' z → S z ∨ w.heap.size ≤ z) : 0 < zs.length → OutA S' a := fun hl b off s e hb => by
  rcases hS b hb with h1 | h1
  · exact hs hl b off s e h1
  · obtain ⟨b', off', e', hc⟩ := h 0 hl
    rw [e] at e'
    cases e'
    have := World.block_lt_of_cell? w _ hc
    simp only at this
    omega
theorem span_in {page : Nat} (hp : 1 ≤ page) : ∀ (n at' : Nat), ∀ s ∈ spansM at' n page, s.1 * page + s.2.1 + s.2.2 ≤ at' + n ∧ 0 < s.2.2 ∧ s.2.1 + s.2.2 ≤ page ∧ at' ≤ s.1 * page + s.2.1 := by
  intro n
  induction n using Nat.strongRecOn with
  | _ n ih =>
    intro at' s hs
    by_cases hn : n = 0
    · subst hn; cases hs
    · have hpos := headS_pos (at' := at') hp (show 0 < n by omega)
      have hmod := Nat.mod_lt at' (show 0 < page by omega)
      have hdm := Nat.div_add_mod at' page
      rw [spansM_cons hp (by omega)] at hs
      rcases List.mem_cons.1 hs with rfl | hs
      · unfold headS
        simp only
        rw [Nat.mul_comm] at hdm
        omega
      · have := ih _ (by omega) _ s hs
        omega
/-- The parts of some bytes of a place: where they stand, how many. -/
def partsM (c : Conf) (q : Plc) (at' n : Nat) : List (Int × Int) :=
  if q.cls = -1 then (spansM at' n c.size.toNat).map fun s => (q.pages.getD s.1 0 * c.size + s.2.1, (s.2.2 : Int)) else [(viewAt c q + at', (n : Int))]
theorem charge_Ar (A : Ar) (V : ArV) (n : Int) (w : World) (h : ArOk w A V) : Does Try.prog 32 #[ptr A.mb, .int .i64 n] w (fun _ w' => ArOk w' A (V.charge A n) ∧ Chg (mFoot A) w w') := by
  cases hb : A.mb with
  | none =>
    refine (meter_Charge0 n w).mono fun _ w' e => ?_
    subst e
    exact ⟨by unfold ArV.charge; rw [hb]; exact h, Chg.refl _ _⟩
  | some b =>
    refine (meter_Charge b V.total V.lap n w (h.met b hb)).mono fun _ w' ⟨hm, hs⟩ => ?_
    exact ⟨by unfold ArV.charge; rw [hb]; exact h.metered hb hm hs, hs.mono fun x _ hx => by unfold mFoot; rw [hx]; exact hb⟩
abbrev plcBox (w : World) (b : Nat) (q : Plc) : Prop := w.heap[b]? = some (.cells (plL q).toArray 26 (0, 0))
theorem view_parts (v : Vw) (q : Plc) (at' n : Int) (w : World) : Does Try.prog 63 #[vwV v, .agg (plL q).toArray, .int .i64 at', .int .i64 n] w (fun u w' => ∃ pb vb ab nb, u = .func (.func 71) #[] #[.pointer (some ⟨pb, 0, none⟩), .pointer (some ⟨vb, 0, none⟩), .pointer (some ⟨ab, 0, none⟩), .pointer (some ⟨nb, 0, none⟩)] ∧
    w.heap.size ≤ pb ∧ w.heap.size ≤ vb ∧ w.heap.size ≤ ab ∧ w.heap.size ≤ nb ∧ plcBox w' pb q ∧ ptrBox w' vb v ∧ intBox w' ab at' ∧ intBox w' nb n ∧ Chg None' w w') := by
  refine Does.enter Try.func63 rfl Try.ntmps63 rfl rfl ?_
  refine Goes.adv hTT 400 rfl ?_
  refine Goes.alloc hTT rfl ?_
  intro vb w1 e1 hv hw1 hz1
  refine Goes.adv hTT 400 rfl ?_
  refine Goes.alloc hTT rfl ?_
  intro pb w2 e2 hp hw2 hz2
  refine Goes.adv hTT 400 rfl ?_
  refine Goes.alloc hTT rfl ?_
  intro ab w3 e3 ha hw3 hz3
  refine Goes.adv hTT 400 rfl ?_
  refine Goes.alloc hTT rfl ?_
  intro nb w4 e4 hn hw4 hz4
  refine Goes.adv hTT 400 rfl ?_
  have hw24 := hw2.trans (hw3.trans hw4)
  exact Goes.ret1 hTT rfl Try.func63 rfl rfl ⟨pb, vb, ab, nb, rfl, by omega, by omega, by omega, by omega, (hw3.trans hw4).heap' hp, hw24.heap' hv, hw4.heap' ha, hn, hw1.trans hw24⟩
def chgL (q : Plc) (A : Ar) (V : ArV) : ArV := if q.cls = -1 then V.charge A 1 else V
theorem ArOk.mlt {w : World} {A : Ar} {V : ArV} (h : ArOk w A V) : ∀ z, mFoot A z → z < w.heap.size := fun z hz => lt_of_heap (h.met z hz).1
theorem view_parts1 (l : Nat) (v : Vw) (q : Plc) (at' n pb vb ab nb : Nat) (A : Ar) (Vs : Nat → ArV) (K : Nat → (Nat → Prop) → World → Prop) (Y0 : Nat → Prop) (w : World)
    (hv : VwOk w v) (hq : PlcOk w q) (hmb : v.mb = A.mb) (hin : viewIs v.c q = true) (hr : (at' : Int) + n ≤ viewHolds v.c q) (hfew : q.pages.length ≤ 4096)
    (hpb : plcBox w pb q) (hvb : ptrBox w vb v) (hab : intBox w ab at') (hnb : intBox w nb n)
    (hP1 : ∀ z, Y0 z ∨ mFoot A z → z ≠ pb ∧ z ≠ vb ∧ z ≠ v.vb) (hPq : 0 < q.pages.length → OutA (fun z => Y0 z ∨ mFoot A z) q.pa) (hPc : 0 < v.c.classes.length → OutA (fun z => Y0 z ∨ mFoot A z) v.p.ca) (hPk : 0 < v.c.keep.length → OutA (fun z => Y0 z ∨ mFoot A z) v.p.ka)
    (hKlt : ∀ k Y w, K k Y w → ∀ z, Y z → z < w.heap.size) (hK : ∀ k Y w w', K k Y w → Chg (mFoot A) w w' → K k Y w')
    (hy : ∀ k Y w0 w (h : k < (partsM v.c q at' n).length), ArOk w0 A (chgL q A (Vs k)) → K k Y w0 → Chg None' w0 w →
      YDoes Try.prog l [.int .i64 (partsM v.c q at' n)[k].1, .int .i64 (partsM v.c q at' n)[k].2] w (fun u w' => u = .bool true ∧ ArOk w' A (Vs (k + 1)) ∧ Chg Y w w' ∧ ∃ Y', K (k + 1) Y' w' ∧ ∀ z, Y' z → Y z ∨ w.heap.size ≤ z))
    (h0 : ArOk w A (Vs 0)) (hK0 : K 0 Y0 w) :
    Does Try.prog 71 #[yieldV l, .pointer (some ⟨pb, 0, none⟩), .pointer (some ⟨vb, 0, none⟩), .pointer (some ⟨ab, 0, none⟩), .pointer (some ⟨nb, 0, none⟩)] w
      (fun u w' => u = .tuple #[] ∧ ArOk w' A (Vs (partsM v.c q at' n).length) ∧ (∃ Y', K (partsM v.c q at' n).length Y' w' ∧ ∀ z, Y' z → Y0 z ∨ w.heap.size ≤ z) ∧ Chg (fun z => Y0 z ∨ mFoot A z) w w') := by
  obtain ⟨m1, m2, m3⟩ := may_facts hv.may
  have htot := size_total hv.may
  have hNm : ∀ {x y : World}, Chg None' x y → Chg (mFoot A) x y := fun h => h.mono fun _ _ h => h.elim
  refine Does.enter Try.func71 rfl Try.ntmps71 rfl rfl ?_
  refine Goes.adv hTT 400 rfl ?_
  refine Goes.loadb hTT rfl hpb rfl rfl ?_
  by_cases hcl : q.cls = -1
  · obtain ⟨hpos, hpg⟩ := is_large hin hcl
    have hho : viewHolds v.c q = (q.pages.length : Int) * v.c.size := by unfold viewHolds; rw [if_pos hin, if_pos hcl]
    rw [hho] at hr
    have hl1 : (q.pages.length : Int) * v.c.size ≤ 4096 * 4096 := Int.mul_le_mul (by omega) (by omega) (by omega) (by omega)
    obtain ⟨sz, hsz⟩ := Int.eq_ofNat_of_zero_le (show 0 ≤ v.c.size by omega)
    have hszt : v.c.size.toNat = sz := by omega
    have hpe : partsM v.c q at' n = (spansM at' n sz).map fun s => (q.pages.getD s.1 0 * v.c.size + s.2.1, (s.2.2 : Int)) := by unfold partsM; rw [if_pos hcl, hszt]
    have hplen : (partsM v.c q at' n).length = (spansM at' n sz).length := by rw [hpe, List.length_map]
    have hsl := spansM_length (page := sz) (by omega) n at'
    refine Goes.no hTT rfl (show (q.cls != -1) = false by rw [hcl]; rfl) rfl ?_
    refine Goes.drawn (q := 10) None' hTT mixed (by kernel_rfl) rfl ?_
    intro hB
    refine Drawn.loadb hTT hB rfl hab (by first | exact fun h => h | (intro h; omega) | assumption) rfl rfl ?_
    refine Drawn.loadb hTT hB rfl hnb (by first | exact fun h => h | (intro h; omega) | assumption) rfl rfl ?_
    refine Drawn.loadb hTT hB rfl hvb (by first | exact fun h => h | (intro h; omega) | assumption) rfl rfl ?_
    refine Drawn.loadb hTT hB rfl hv.obj (by first | exact fun h => h | (intro h; omega) | assumption) rfl rfl ?_
    have hd : ∀ w', Chg None' w w' → Does Try.prog 72 #[.int .i64 at', .int .i64 n, .int .i64 v.c.size] w' (fun u w2 => Chg None' w' w2 ∧ ∃ a cap, u = .slice a (spansM at' n sz).length cap ∧ Rows spanL 3 w2 a (spansM at' n sz) ∧ (∀ b off s, a = some ⟨b, off, s⟩ → w'.heap.size ≤ b)) := fun w' hw' => by
      rw [hsz]
      exact (chain_Cut at' n sz w' (by omega)).mono fun u w2 ⟨a, cap, h1, h2, h3, h4⟩ => ⟨h4, a, cap, h1, h2, h3⟩
    refine Drawn.callQ hB rfl rfl (fun w' hw' => (hd w' hw').mono fun u w2 ⟨h1, a, cap, h2, h3, h4⟩ => (⟨h1, a, cap, h2, h3, fun b off s e => Nat.le_trans hw'.size (h4 b off s e)⟩ : Chg None' w' w2 ∧ ∃ a cap, u = .slice a (spansM at' n sz).length cap ∧ Rows spanL 3 w2 a (spansM at' n sz) ∧ (∀ b off s, a = some ⟨b, off, s⟩ → w.heap.size ≤ b))) ?_
    rintro _ w1 hw1 ⟨sa, scap, rfl, hrows, hnew⟩
    refine Drawn.adv hTT hB rfl ?_
    refine Drawn.nil hB ?_
    intro w2 hw2
    refine Goes.adv hTT 400 rfl ?_
    have hw02 := hw1.trans hw2
    have hrows2 := hrows.chg hw2
    have hPr : OutA (fun z => Y0 z ∨ mFoot A z) sa := fun b off s e hb => by
      have := hnew b off s e
      rcases hb with hb | hb
      · have := hKlt _ _ _ hK0 b hb; omega
      · have := h0.mlt b hb; omega
    refine Goes.loop (α := Nat) (fun k => [(0, false, yieldV l), (1, false, .pointer (some ⟨pb, 0, none⟩)), (2, false, .pointer (some ⟨vb, 0, none⟩)), (26, false, .slice sa (spansM at' n sz).length scap), (27, false, .int .i64 (spansM at' n sz).length), (28, false, .int .i64 k)])
      (fun k w' => k ≤ (spansM at' n sz).length ∧ ArOk w' A (Vs k) ∧ (∃ Y, K k Y w' ∧ ∀ z, Y z → Y0 z ∨ w2.heap.size ≤ z) ∧ Chg (fun z => Y0 z ∨ mFoot A z) w2 w') (fun k => (spansM at' n sz).length - k) 0 ⟨rfl, rfl, rfl, rfl, rfl, rfl, trivial⟩
      ⟨Nat.zero_le _, h0.grow hw02, ⟨Y0, hK _ _ _ _ hK0 (hNm hw02), fun _ h => .inl h⟩, Chg.refl _ _⟩ ?_
    rintro k w3 ⟨hk, hA3, ⟨Y, hK3, hY3⟩, hs3⟩ ih
    refine Goes.adv hTT 400 rfl ?_
    refine Goes.fork hTT rfl rfl rfl (fun hc => ?_) (fun hc => ?_)
    · have hlt : k < (spansM at' n sz).length := by have := of_decide_eq_true hc; omega
      obtain ⟨s, hs⟩ : ∃ s, s = (spansM at' n sz)[k] := ⟨_, rfl⟩
      obtain ⟨i1, i2, i3, i4⟩ := span_in (page := sz) (by omega) n at' s (hs ▸ List.getElem_mem hlt)
      have hNl : s.1 < q.pages.length := by
        have h1 : (s.1 * sz : Nat) < q.pages.length * sz := by
          have : ((q.pages.length * sz : Nat) : Int) = (q.pages.length : Int) * v.c.size := by rw [hsz]; rfl
          omega
        exact Nat.lt_of_mul_lt_mul_right h1
      obtain ⟨rb, roff, hra, hcell⟩ := (hrows2.at hlt)
      subst hra
      rw [← hs] at hcell
      have hcell3 : ∀ j u, (spanL s)[j]? = some u → w3.cell? ⟨rb, roff + k * 3 + j, none⟩ = some u := fun j u hu => hs3.cell (hcell j u hu) (hPr rb roff none rfl)
      have hpb3 : plcBox w3 pb q := hs3.heap (hw02.heap' hpb) (fun e => (hP1 _ e).1 rfl)
      have hvb3 : ptrBox w3 vb v := hs3.heap (hw02.heap' hvb) (fun e => (hP1 _ e).2.1 rfl)
      have hv3 : VwOk w3 v := (hv.grow hw02).far (fun e => (hP1 _ e).2.2 rfl) hPc hPk hs3
      have hq3 : PlcOk w3 q := (hq.grow hw02).far hPq hs3
      refine Goes.index hTT rfl (j := (k * 3)) (by omega) (by omega) (by first | rfl | omega | (simp; done) | (simp; omega)) rfl ?_
      refine Goes.loadC hTT (spanL s) rfl (by first | rfl | (simp; done) | (simp [*]; done) | (simp; omega)) (hcell3) rfl ?_
      refine Goes.alloc hTT rfl ?_
      intro sb w4 e4 hsb hw4 hz4
      refine Goes.adv hTT 400 rfl ?_
      refine Goes.store hTT rfl hsb rfl rfl ?_
      intro w5 hsb5 hs5 hz5
      refine Goes.adv hTT 400 rfl ?_
      replace hsb5 : w5.heap[sb]? = some (.cells (spanL s).toArray 110 (0, 0)) := hsb5
      have hw35 : Chg None' w3 w5 := hw4.since hs5 (fun z hz e => by omega)
      refine Goes.loadb hTT rfl (hw35.heap' hvb3) rfl rfl ?_
      refine Goes.loadb hTT rfl (hv3.grow hw35).obj rfl rfl ?_
      rw [hmb]
      refine Goes.call rfl (charge_Ar A (Vs k) 1 w5 (hA3.grow hw35)) ?_
      rintro _ w6 ⟨hA6, hs6⟩
      refine Goes.adv hTT 400 rfl ?_
      have hK6 := hK _ _ _ _ (hK _ _ _ _ hK3 (hNm hw35)) hs6
      have hmP : ∀ {x y : World}, Chg (mFoot A) x y → Chg (fun z => Y0 z ∨ mFoot A z) x y := fun h => h.mono fun _ _ h => .inr h
      have hs36 : Chg (fun z => Y0 z ∨ mFoot A z) w3 w6 := (hw35.mono fun _ _ h => h.elim).trans (hmP hs6)
      have hpb6 : plcBox w6 pb q := hs36.heap hpb3 (fun e => (hP1 _ e).1 rfl)
      have hvb6 : ptrBox w6 vb v := hs36.heap hvb3 (fun e => (hP1 _ e).2.1 rfl)
      have hv6 : VwOk w6 v := hv3.far (fun e => (hP1 _ e).2.2 rfl) hPc hPk hs36
      have hq6 : PlcOk w6 q := hq3.far hPq hs36
      have hsb6 := hs6.heap hsb5 (fun e => by have := hA3.mlt _ e; omega)
      obtain ⟨gb, goff, hga, hgc⟩ := hq6.rd s.1 hNl
      have hpn : 0 ≤ q.pages.getD s.1 0 ∧ q.pages.getD s.1 0 < v.c.pages := hpg _ (by rw [List.getD_eq_getElem?_getD, List.getElem?_eq_getElem hNl]; exact List.getElem_mem hNl)
      have hmul : 0 ≤ q.pages.getD s.1 0 * v.c.size ∧ q.pages.getD s.1 0 * v.c.size ≤ 1024 * 4096 := ⟨Int.mul_nonneg hpn.1 (by omega), Int.mul_le_mul (by omega) (by omega) (by omega) (by omega)⟩
      have hpk : (partsM v.c q at' n)[k]'(by rw [hplen]; exact hlt) = (q.pages.getD s.1 0 * v.c.size + s.2.1, (s.2.2 : Int)) := by
        simp only [hpe, List.getElem_map, ← hs]
      obtain ⟨cls, page, idx, pa, pc, pages⟩ := q
      simp only at hga
      subst hga
      refine Goes.drawn (q := 18) None' hTT mixed (by kernel_rfl) rfl ?_
      intro hB
      refine Drawn.loadb hTT hB rfl hpb6 (by first | exact fun h => h | (intro h; omega) | assumption) rfl rfl ?_
      refine Drawn.loadb hTT hB rfl hsb6 (by first | exact fun h => h | (intro h; omega) | assumption) rfl rfl ?_
      refine Drawn.index hTT hB rfl (j := s.1) (show (0 : Int) ≤ (s.1 : Nat) by omega) (show ((s.1 : Nat) : Int) < pages.length by have : s.1 < pages.length := hNl; omega) (by simp) rfl ?_
      refine Drawn.load hTT hB rfl hgc (by first | exact fun h => h | (intro h; omega) | assumption) rfl ?_
      refine Drawn.loadb hTT hB rfl hvb6 (by first | exact fun h => h | (intro h; omega) | assumption) rfl rfl ?_
      refine Drawn.loadb hTT hB rfl hv6.obj (by first | exact fun h => h | (intro h; omega) | assumption) rfl rfl ?_
      refine Drawn.arith hTT hB rfl (w64 (by show _ ∧ _; simp only at hmul ⊢; omega)) rfl ?_
      refine Drawn.loadb hTT hB rfl hsb6 (by first | exact fun h => h | (intro h; omega) | assumption) rfl rfl ?_
      refine Drawn.arith hTT hB rfl (w64 (by show _ ∧ _; simp only at hmul ⊢; omega)) rfl ?_
      refine Drawn.loadb hTT hB rfl hsb6 (by first | exact fun h => h | (intro h; omega) | assumption) rfl rfl ?_
      refine Drawn.nil hB ?_
      intro w7 hw7
      refine Goes.adv hTT 400 rfl ?_
      have hyk := hy k Y w6 w7 (by rw [hplen]; exact hlt) (by unfold chgL; rw [if_pos hcl]; exact hA6) hK6 hw7
      rw [hpk] at hyk
      refine Goes.yield rfl hyk ?_
      rintro _ w8 ⟨rfl, hA8, hs8, Y', hK8, hY8⟩
      refine Goes.adv hTT 400 rfl ?_
      refine Goes.no hTT rfl rfl rfl ?_
      refine Goes.arith hTT rfl (w64 (by omega)) rfl ?_
      have hsz27 : w2.heap.size ≤ w7.heap.size := by have := hs3.size; have := hs36.size; have := hw7.size; omega
      exact ih (k + 1) _ _ ⟨hlt, hA8, ⟨Y', hK8, fun z hz => (hY8 z hz).elim (hY3 z) (fun h => .inr (by omega))⟩,
        ((hs3.trans hs36).trans (hw7.mono fun _ _ h => h.elim)).since hs8 (fun z hz h => .inl ((hY3 z h).elim id (fun h => by omega)))⟩ (by omega) ⟨rfl, rfl, rfl, rfl, rfl, rfl, trivial⟩
    · have hge : k = (spansM at' n sz).length := by have := of_decide_eq_false hc; omega
      subst hge
      have hsz02 := hw02.size
      rw [hplen]
      exact Goes.ret0 hTT rfl Try.func71 rfl ⟨rfl, hA3, ⟨Y, hK3, fun z hz => (hY3 z hz).imp id (fun h => by omega)⟩, (hw02.mono fun _ _ h => h.elim).trans hs3⟩
  · have hpe : partsM v.c q at' n = [(viewAt v.c q + at', (n : Int))] := by unfold partsM; rw [if_neg hcl]
    obtain ⟨kk, pg, ix, hkk, hpg, hix, hkl, g1, g2, g3, g4, g5, g6, g7⟩ := is_small hv.may hin hcl
    have hat : viewAt v.c q = (pg : Int) * v.c.size + (ix : Int) * clsM v.c kk := by unfold viewAt; rw [if_pos ⟨hin, hcl⟩, hkk, hpg, hix]
    have hho : viewHolds v.c q = clsM v.c kk := by unfold viewHolds; rw [if_pos hin, if_neg hcl, hkk]
    rw [hho] at hr
    refine Goes.yes hTT rfl (show (q.cls != -1) = true by simpa using hcl) rfl ?_
    refine Goes.drawn (q := 7) None' hTT mixed (by kernel_rfl) rfl ?_
    intro hB
    refine Drawn.loadb hTT hB rfl hvb (by first | exact fun h => h | (intro h; omega) | assumption) rfl rfl ?_
    refine Drawn.loads hTT hB rfl hpb (by first | exact fun h => h | (intro h; omega) | assumption) rfl rfl ?_
    refine Drawn.call hTT hB rfl (fun w' hw' => view_At v q w' (hv.grow hw') (hq.grow hw')) rfl ?_
    refine Drawn.loadb hTT hB rfl hab (by first | exact fun h => h | (intro h; omega) | assumption) rfl rfl ?_
    refine Drawn.arith hTT hB rfl (w64 (by show _ ∧ _; rw [hat]; omega)) rfl ?_
    refine Drawn.loadb hTT hB rfl hnb (by first | exact fun h => h | (intro h; omega) | assumption) rfl rfl ?_
    refine Drawn.nil hB ?_
    intro w2 hw2
    refine Goes.adv hTT 400 rfl ?_
    have hyk := hy 0 Y0 w w2 (by rw [hpe]; simp) (by unfold chgL; rw [if_neg hcl]; exact h0) hK0 hw2
    rw [show (partsM v.c q at' n)[0]'(by rw [hpe]; simp) = (viewAt v.c q + at', (n : Int)) from by simp only [hpe]; rfl] at hyk
    refine Goes.yield rfl hyk ?_
    rintro _ w8 ⟨rfl, hA8, hs8, Y', hK8, hY8⟩
    refine Goes.adv hTT 400 rfl ?_
    have hl1 : (partsM v.c q at' n).length = 1 := by rw [hpe]; rfl
    rw [hl1]
    have := hw2.size
    exact Goes.ret0 hTT rfl Try.func71 rfl ⟨rfl, hA8, ⟨Y', hK8, fun z hz => (hY8 z hz).imp id (fun h => by omega)⟩, (hw2.mono fun _ _ h => h.elim).trans (hs8.mono fun _ _ h => .inl h)⟩
end Go.Proofs.Ytffimkpllchfcaa
