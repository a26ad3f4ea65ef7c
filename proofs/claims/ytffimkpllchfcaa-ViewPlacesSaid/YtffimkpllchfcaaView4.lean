/-
  Layer 21: a view: something is done with each part of some bytes.
-/
import Derived.Test.YtffimkpllchfcaaView3
namespace Go.Proofs.Ytffimkpllchfcaa
open Go.RowKit

def checkM (c : Conf) (q : Plc) (at' n : Int) : Int := if viewIs c q = false then 1 else if at' < 0 ∨ n < 0 ∨ viewHolds c q < n ∨ viewHolds c q - n < at' then 8 else 0
theorem viewHolds_bound {c : Conf} {q : Plc} (hm : mayB c = true) (hfew : q.pages.length ≤ 4096) : 0 ≤ viewHolds c q ∧ viewHolds c q ≤ 16777216 := by
  obtain ⟨m1, m2, m3⟩ := may_facts hm
  unfold viewHolds
  split
  · rename_i hi
    split
    · have h1 : (q.pages.length : Int) * c.size ≤ 4096 * 4096 := Int.mul_le_mul (by omega) (by omega) (by omega) (by omega)
      exact ⟨Int.mul_nonneg (by omega) (by omega), by omega⟩
    · rename_i hcl
      obtain ⟨kk, pg, ix, hkk, _, _, hkl, _, g2, g3, _⟩ := is_small hm hi hcl
      rw [hkk]; omega
  · omega
theorem ArOk.blt {w : World} {A : Ar} {V : ArV} (h : ArOk w A V) : ∀ b, b = A.ab ∨ b = A.db ∨ b = A.mc ∨ A.mb = some b → b < w.heap.size := fun b hb => by
  rcases hb with rfl | rfl | rfl | hb
  · exact lt_of_heap h.obj
  · exact lt_of_heap h.dat
  · exact lt_of_heap h.cap
  · exact lt_of_heap (h.met b hb).1
theorem view_each_no (v : Vw) (q : Plc) (at' n : Int) (fk : Nat) (caps : List Value) (w : World) (hv : VwOk w v) (hq : PlcOk w q) (hfew : q.pages.length ≤ 4096) (hn : checkM v.c q at' n ≠ 0) :
    Does Try.prog 37 #[vwV v, .agg (plL q).toArray, .int .i64 at', .int .i64 n, .func (.func fk) #[] caps.toArray] w (Grow (.int .i64 (checkM v.c q at' n)) w) := by
  have hb := viewHolds_bound (c := v.c) (q := q) hv.may hfew
  refine Does.enter Try.func37 rfl Try.ntmps37 rfl rfl ?_
  refine Goes.adv hTT 400 rfl ?_
  refine Goes.alloc hTT rfl ?_
  intro qb w1 e1 hqb hw1 hz1
  refine Goes.adv hTT 400 rfl ?_
  refine Goes.alloc hTT rfl ?_
  intro db w2 e2 hdb hw2 hz2
  refine Goes.adv hTT 400 rfl ?_
  replace hqb : plcBox w1 qb q := hqb
  have hqb2 := hw2.heap' hqb
  have hw := hw1.trans hw2
  refine Goes.loads hTT rfl hqb2 rfl rfl ?_
  refine Goes.call rfl (view_is v q w2 (hv.grow hw) (hq.grow hw)) ?_
  rintro _ w3 ⟨rfl, hw3⟩
  refine Goes.adv hTT 400 rfl ?_
  have hwa := hw.trans hw3
  cases hi : viewIs v.c q with
  | false =>
    refine Goes.yes hTT rfl rfl rfl ?_
    exact Goes.ret1 hTT rfl Try.func37 rfl rfl ⟨int_v (by unfold checkM; rw [if_pos hi]), hwa⟩
  | true =>
    have hck : checkM v.c q at' n = 8 := by
      unfold checkM at hn ⊢
      rw [if_neg (by rw [hi]; decide)] at hn ⊢
      split
      · rfl
      · rename_i h; rw [if_neg h] at hn; exact absurd rfl hn
    have hbad : at' < 0 ∨ n < 0 ∨ viewHolds v.c q < n ∨ viewHolds v.c q - n < at' := by
      unfold checkM at hck
      rw [if_neg (by rw [hi]; decide)] at hck
      by_cases h : at' < 0 ∨ n < 0 ∨ viewHolds v.c q < n ∨ viewHolds v.c q - n < at'
      · exact h
      · rw [if_neg h] at hck; cases hck
    rw [hck]
    refine Goes.no hTT rfl rfl rfl ?_
    by_cases h1 : at' < 0
    · refine Goes.yes hTT rfl (decide_eq_true h1) rfl ?_
      exact Goes.ret1 hTT rfl Try.func37 rfl rfl ⟨rfl, hwa⟩
    refine Goes.no hTT rfl (decide_eq_false h1) rfl ?_
    by_cases h2 : n < 0
    · refine Goes.yes hTT rfl (decide_eq_true h2) rfl ?_
      exact Goes.ret1 hTT rfl Try.func37 rfl rfl ⟨rfl, hwa⟩
    refine Goes.no hTT rfl (decide_eq_false h2) rfl ?_
    refine Goes.loads hTT rfl (hw3.heap' hqb2) rfl rfl ?_
    refine Goes.call rfl (view_Holds v q w3 (hv.grow hwa) (hq.grow hwa) (by omega)) ?_
    rintro _ w4 ⟨rfl, hw4⟩
    refine Goes.adv hTT 400 rfl ?_
    have hwb := hwa.trans hw4
    by_cases h3 : viewHolds v.c q < n
    · refine Goes.yes hTT rfl (decide_eq_true h3) rfl ?_
      exact Goes.ret1 hTT rfl Try.func37 rfl rfl ⟨rfl, hwb⟩
    refine Goes.no hTT rfl (decide_eq_false h3) rfl ?_
    refine Goes.loads hTT rfl ((hw3.trans hw4).heap' hqb2) rfl rfl ?_
    refine Goes.call rfl (view_Holds v q w4 (hv.grow hwb) (hq.grow hwb) (by omega)) ?_
    rintro _ w5 ⟨rfl, hw5⟩
    refine Goes.adv hTT 400 rfl ?_
    refine Goes.arith hTT rfl (w64 (by omega)) rfl ?_
    refine Goes.yes hTT rfl (decide_eq_true (by omega)) rfl ?_
    exact Goes.ret1 hTT rfl Try.func37 rfl rfl ⟨rfl, hwb.trans hw5⟩
theorem view_each_nil (q : Plc) (at' n : Int) (fk : Nat) (caps : List Value) (w : World) : Does Try.prog 37 #[.pointer none, .agg (plL q).toArray, .int .i64 at', .int .i64 n, .func (.func fk) #[] caps.toArray] w (Grow (.int .i64 1) w) := by
  refine Does.enter Try.func37 rfl Try.ntmps37 rfl rfl ?_
  refine Goes.adv hTT 400 rfl ?_
  refine Goes.alloc hTT rfl ?_
  intro qb w1 e1 hqb hw1 hz1
  refine Goes.adv hTT 400 rfl ?_
  refine Goes.alloc hTT rfl ?_
  intro db w2 e2 hdb hw2 hz2
  refine Goes.adv hTT 400 rfl ?_
  replace hqb : plcBox w1 qb q := hqb
  refine Goes.loads hTT rfl (hw2.heap' hqb) rfl rfl ?_
  refine Goes.call rfl (view_is_nil q w2) ?_
  rintro _ w3 ⟨rfl, hw3⟩
  refine Goes.adv hTT 400 rfl ?_
  refine Goes.yes hTT rfl rfl rfl ?_
  exact Goes.ret1 hTT rfl Try.func37 rfl rfl ⟨rfl, (hw1.trans hw2).trans hw3⟩
theorem view_each (v : Vw) (q : Plc) (at' n fk : Nat) (caps : List Value) (A : Ar) (Vs : Nat → ArV) (K : Nat → (Nat → Prop) → World → Prop) (Y0 : Nat → Prop) (w : World)
    (hv : VwOk w v) (hq : PlcOk w q) (hmb : v.mb = A.mb) (hck : checkM v.c q at' n = 0) (hfew : q.pages.length ≤ 4096)
    (hPv : ¬ (Y0 v.vb ∨ mFoot A v.vb)) (hPq : 0 < q.pages.length → OutA (fun z => Y0 z ∨ mFoot A z) q.pa) (hPc : 0 < v.c.classes.length → OutA (fun z => Y0 z ∨ mFoot A z) v.p.ca) (hPk : 0 < v.c.keep.length → OutA (fun z => Y0 z ∨ mFoot A z) v.p.ka)
    (hKlt : ∀ k Y w, K k Y w → ∀ z, Y z → z < w.heap.size) (hK : ∀ k Y w1 w2 S, K k Y w1 → Chg S w1 w2 → (∀ z, S z → mFoot A z ∨ (¬ Y z ∧ w.heap.size ≤ z)) → K k Y w2)
    (hdo : ∀ k Y w0 (h : k < (partsM v.c q at' n).length), ArOk w0 A (chgL q A (Vs k)) → K k Y w0 →
      Does Try.prog fk (.int .i64 (partsM v.c q at' n)[k].1 :: .int .i64 (partsM v.c q at' n)[k].2 :: caps).toArray w0 (fun _ w' => ArOk w' A (Vs (k + 1)) ∧ Chg Y w0 w' ∧ ∃ Y', K (k + 1) Y' w' ∧ ∀ z, Y' z → Y z ∨ w0.heap.size ≤ z))
    (h0 : ArOk w A (Vs 0)) (hK0 : K 0 Y0 w) :
    Does Try.prog 37 #[vwV v, .agg (plL q).toArray, .int .i64 at', .int .i64 n, .func (.func fk) #[] caps.toArray] w
      (fun u w' => u = .int .i64 0 ∧ ArOk w' A (Vs (partsM v.c q at' n).length) ∧ (∃ Y', K (partsM v.c q at' n).length Y' w' ∧ ∀ z, Y' z → Y0 z ∨ w.heap.size ≤ z) ∧ Chg (fun z => Y0 z ∨ mFoot A z) w w') := by
  have hb := viewHolds_bound (c := v.c) (q := q) hv.may hfew
  have hi : viewIs v.c q = true := by
    cases hi : viewIs v.c q with
    | true => rfl
    | false => unfold checkM at hck; rw [if_pos hi] at hck; cases hck
  have hgood : ¬ ((at' : Int) < 0 ∨ (n : Int) < 0 ∨ viewHolds v.c q < n ∨ viewHolds v.c q - n < at') := fun h => by
    unfold checkM at hck; rw [if_neg (by rw [hi]; decide), if_pos h] at hck; cases hck
  refine Does.enter Try.func37 rfl Try.ntmps37 rfl rfl ?_
  refine Goes.adv hTT 400 rfl ?_
  refine Goes.alloc hTT rfl ?_
  intro qb w1 e1 hqb hw1 hz1
  refine Goes.adv hTT 400 rfl ?_
  refine Goes.alloc hTT rfl ?_
  intro db w2 e2 hdb hw2 hz2
  refine Goes.adv hTT 400 rfl ?_
  replace hqb : plcBox w1 qb q := hqb
  have hqb2 := hw2.heap' hqb
  have hw := hw1.trans hw2
  refine Goes.loads hTT rfl hqb2 rfl rfl ?_
  refine Goes.call rfl (view_is v q w2 (hv.grow hw) (hq.grow hw)) ?_
  rintro _ w3 ⟨rfl, hw3⟩
  refine Goes.adv hTT 400 rfl ?_
  have hwa := hw.trans hw3
  rw [hi]
  refine Goes.no hTT rfl rfl rfl ?_
  refine Goes.no hTT rfl (decide_eq_false (by omega)) rfl ?_
  refine Goes.no hTT rfl (decide_eq_false (by omega)) rfl ?_
  refine Goes.loads hTT rfl (hw3.heap' hqb2) rfl rfl ?_
  refine Goes.call rfl (view_Holds v q w3 (hv.grow hwa) (hq.grow hwa) (by omega)) ?_
  rintro _ w4 ⟨rfl, hw4⟩
  refine Goes.adv hTT 400 rfl ?_
  have hwb := hwa.trans hw4
  refine Goes.no hTT rfl (decide_eq_false (by omega)) rfl ?_
  refine Goes.loads hTT rfl ((hw3.trans hw4).heap' hqb2) rfl rfl ?_
  refine Goes.call rfl (view_Holds v q w4 (hv.grow hwb) (hq.grow hwb) (by omega)) ?_
  rintro _ w5 ⟨rfl, hw5⟩
  refine Goes.adv hTT 400 rfl ?_
  have hwc := hwb.trans hw5
  refine Goes.arith hTT rfl (w64 (by omega)) rfl ?_
  refine Goes.no hTT rfl (decide_eq_false (by omega)) rfl ?_
  have hq25 := (hw3.trans hw4).trans hw5
  refine Goes.loads hTT rfl (hq25.heap' hqb2) rfl rfl ?_
  refine Goes.call rfl (view_parts v q at' n w5) ?_
  rintro _ w6 ⟨pb, vb, ab, nb, rfl, hpb, hvb, hab, hnb, bpb, bvb, bab, bnb, hw6⟩
  refine Goes.adv hTT 400 rfl ?_
  have hwd := hwc.trans hw6
  have hdb6 := (hq25.trans hw6).heap' hdb
  have l1 := lt_of_heap bpb
  have l2 := lt_of_heap bvb
  have hsz5 := hwc.size
  have hsz6 := hwd.size
  have hldb := lt_of_heap hdb6
  refine Goes.rangeFunc rfl rfl ⟨Try.f71, Try.func71, rfl, rfl⟩ ?_
  intro r0 B tmps w7 hr0 hB hfit hmk hlr hw7 hz7
  have hwe := hwd.trans hw7
  have hY0w : ∀ z, Y0 z → z < w.heap.size := hKlt _ _ _ hK0
  have hmw := h0.mlt
  have hvw := lt_of_heap hv.obj
  have hN : ∀ {x y : World} {k Y}, K k Y x → Chg None' x y → K k Y y := fun hk hc => hK _ _ _ _ _ hk hc (fun _ h => h.elim)
  have hr0s : r0.state = .ready := by rw [hr0]
  have hr0r : ({ r0 with state := .ready, pending := none } : Loop) = r0 := by rw [hr0]
  have hr0p : r0.pending = none := by rw [hr0]
  refine (view_parts1 (B + 1) v q at' n pb vb ab nb A Vs
    (fun k Y2 x => ∃ Y, K k Y x ∧ (∀ z, Y2 z ↔ Y z ∨ z = B + 1) ∧ x.heap[B + 1]? = some (.loop r0) ∧ x.heap[B]? = some (.deferred (some [])) ∧ x.heap[db]? = some (.cells ([.func (.func fk) #[] caps.toArray] : List Value).toArray 80 (0, 0)) ∧ (∀ z, Y z → z ≠ B ∧ z ≠ B + 1 ∧ z ≠ db))
    (fun z => Y0 z ∨ z = B + 1) w7 (hv.grow hwe) (hq.grow hwe) hmb hi (by omega) hfew (hw7.heap' bpb) (hw7.heap' bvb) (hw7.heap' bab) (hw7.heap' bnb) ?_ ?_ ?_ ?_ ?_ ?_ ?_ (h0.grow hwe) ?_).mono ?_
  · intro z hz
    rcases hz with (hz | hz) | hz
    · have := hY0w z hz
      exact ⟨by omega, by omega, fun e => hPv (.inl (e ▸ hz))⟩
    · exact ⟨by omega, by omega, by omega⟩
    · have := hmw z hz
      exact ⟨by omega, by omega, fun e => hPv (.inr (e ▸ hz))⟩
  · exact hq.rd.outNew hPq (fun z hz => by rcases hz with (hz | hz) | hz; exact .inl (.inl hz); exact .inr (by omega); exact .inl (.inr hz))
  · exact hv.conf.classes.outNew hPc (fun z hz => by rcases hz with (hz | hz) | hz; exact .inl (.inl hz); exact .inr (by omega); exact .inl (.inr hz))
  · exact hv.conf.keep.outNew hPk (fun z hz => by rcases hz with (hz | hz) | hz; exact .inl (.inl hz); exact .inr (by omega); exact .inl (.inr hz))
  · rintro k Y2 x ⟨Y, h1, h2, h3, h4, h5, h6⟩ z hz
    rcases (h2 z).1 hz with hz | rfl
    · exact hKlt _ _ _ h1 z hz
    · exact lt_of_heap h3
  · rintro k Y2 x y ⟨Y, h1, h2, h3, h4, h5, h6⟩ hs
    exact ⟨Y, hK _ _ _ _ _ h1 hs (fun z h => .inl h), h2, hs.heap h3 (fun e => by have := hmw _ e; omega), hs.heap h4 (fun e => by have := hmw _ e; omega), hs.heap h5 (fun e => by have := hmw _ e; omega), h6⟩
  · rintro k Y2 x0 x hk hA0 ⟨Y, h1, h2, h3, h4, h5, h6⟩ hx
    have hlt3 := lt_of_heap h3
    have hA := hA0.grow hx
    have hlx3 := hx.heap' h3
    have hlx4 := hx.heap' h4
    have hlx5 := hx.heap' h5
    have hKx := hN h1 hx
    subst hr0
    refine YDoes.enter (ps := [46, 47]) hlx3 rfl rfl hfit rfl ?_
    refine Goes.adv hTT 400 rfl ?_
    refine Goes.beginRound rfl hlx3 rfl ?_
    intro x1 hl1 hs1 hz1
    refine Goes.adv hTT 400 rfl ?_
    have hKx1 : K k Y x1 := hK _ _ _ _ _ hKx hs1 (fun z e => .inr ⟨fun hy => (h6 z hy).2.1 e, by omega⟩)
    have hA1 : ArOk x1 A (chgL q A (Vs k)) := hA.chg hs1 (fun b hb e => by have := h0.blt b hb; omega)
    refine Goes.loadb hTT rfl (hs1.heap hlx5 (by omega)) rfl rfl ?_
    refine Goes.call rfl (hdo k Y x1 hk hA1 hKx1) ?_
    rintro _ x2 ⟨hA2, hs2, Y', hK2, hY'⟩
    refine Goes.adv hTT 400 rfl ?_
    have hl2 := hs2.heap hl1 (fun hy => (h6 _ hy).2.1 rfl)
    refine Goes.roundEnd rfl hl2 ?_
    intro x3 hl3 hs3 hz3
    have hxs := hx.size
    have hlt4 := lt_of_heap hlx4
    have hlt5 := lt_of_heap hlx5
    have hltx3 := lt_of_heap hlx3
    have hY'6 : ∀ z, Y' z → z ≠ B ∧ z ≠ B + 1 ∧ z ≠ db := fun z hz => (hY' z hz).elim (h6 z) (fun h => by omega)
    have hA3 : ArOk x3 A (Vs (k + 1)) := hA2.chg hs3 (fun b hb e => by have := h0.blt b hb; omega)
    have hK3 : K (k + 1) Y' x3 := hK _ _ _ _ _ hK2 hs3 (fun z e => .inr ⟨fun hy => (hY'6 z hy).2.1 e, by omega⟩)
    refine ⟨_, rfl, rfl, hA3, ((hs1.mono fun z _ e => (h2 z).2 (.inr e)).trans (hs2.mono fun z _ e => (h2 z).2 (.inl e))).trans (hs3.mono fun z _ e => (h2 z).2 (.inr e)), fun z => Y' z ∨ z = B + 1, ⟨Y', hK3, fun z => Iff.rfl, hl3, hs3.heap (hs2.heap (hs1.heap hlx4 (by omega)) (fun hy => (h6 _ hy).1 rfl)) (by omega), hs3.heap (hs2.heap (hs1.heap hlx5 (by omega)) (fun hy => (h6 _ hy).2.2 rfl)) (by omega), hY'6⟩, fun z hz => ?_⟩
    rcases hz with hz | hz
    · exact (hY' z hz).elim (fun h => .inl ((h2 z).2 (.inl h))) (fun h => .inr (by omega))
    · exact .inl ((h2 z).2 (.inr hz))
  · exact ⟨Y0, hN hK0 hwe, fun z => Iff.rfl, hlr, hmk, hw7.heap' hdb6, fun z hz => by have := hY0w z hz; omega⟩
  · rintro _ w8 ⟨rfl, hA8, ⟨Y2, ⟨Y, h1, h2, h3, h4, h5, h6⟩, hY2⟩, hs8⟩
    refine ⟨_, h3, by rw [hr0s]; simp, ?_⟩
    intro w9 hs9 hz9
    rw [hr0p]
    refine Goes.adv hTT 400 rfl ?_
    refine Goes.retM hTT rfl Try.func37 (hs9.heap h4 (by omega)) (vs := [.int .i64 0]) (fun _ _ => .tmp rfl .nil) ?_
    intro w10 hs10 hz10
    have hA10 : ArOk w10 A _ := (hA8.chg hs9 (fun b hb e => by have := h0.blt b hb; omega)).chg hs10 (fun b hb e => by have := h0.blt b hb; omega)
    have hK10 := hK _ _ _ _ _ (hK _ _ _ _ _ h1 hs9 (fun z e => .inr ⟨fun hy => (h6 z hy).2.1 e, by omega⟩)) hs10 (fun z e => .inr ⟨fun hy => (h6 z hy).1 e, by omega⟩)
    refine ⟨rfl, hA10, ⟨Y, hK10, fun z hz => ?_⟩, ?_⟩
    · rcases hY2 z ((h2 z).2 (.inl hz)) with (h | h) | h
      · exact .inl h
      · exact .inr (by omega)
      · exact .inr (by omega)
    · exact ((((hwe.mono fun _ _ h => h.elim).since hs8 (fun z hz h => by rcases h with (h | h) | h; exact .inl h; exact absurd hz (by omega); exact .inr h))).since hs9 (fun z hz e => absurd hz (by omega))).since hs10 (fun z hz e => absurd hz (by omega))
end Go.Proofs.Ytffimkpllchfcaa
