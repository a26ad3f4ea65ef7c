/-
  Layer 6: what the document says of a use.
-/
import Derived.Test.YtommemplakcaaaaUse
namespace Go.Proofs.Ytommemplakcaaaa
open Go.RowKit

theorem RaOk.keep {w w' : World} {r : RA} {q t : Nat} {c : Array Value} {fz : Nat × Nat} (h : RaOk w r) (hq : w.heap[q]? = some (.cells c t fz)) (hc : ∀ x ∈ c.toList, ∀ z, x ≠ .int .u8 z) (hs : Chg (fun b => b = q) w w') : RaOk w' r :=
  ⟨h.rd.keepU hq hc hs, h.len, h.lc, h.rng⟩
/-- The document's arena behind a use. -/
def RefUsed (r : RA) (w : World) (o : Out) : Value → World → Prop := fun v w' =>
  ∃ (r' : RA) (a : Option Addr) (cap : Nat), v = .tuple #[.agg (raL r').toArray, .slice a o.told.length cap, .int .u64 o.word, .int .i64 o.err] ∧ r'.bs = o.bs ∧ r'.steps = r.steps + o.n ∧ RaOk w' r' ∧ Rd .u8 w' a o.told ∧ Chg None' w w' ∧ (NewA w r' ∨ r'.a = r.a)
theorem ref06_Do (r : RA) (u : Use) (w : World) (h : RaOk w r) (hst : StOk r.steps) (h0 : 0 < r.bs.length) (hu : UseOk w u) : Does Try.prog 34 #[.agg (raL r).toArray, .agg (useL u).toArray] w (RefUsed r w (useOut r.bs u)) := by
  have hk := hu.kind
  have hlen := h.len
  have hl := hu.len
  refine Does.enter Try.func34 rfl Try.ntmps34 rfl rfl ?_
  refine Goes.adv hTT 400 rfl ?_
  refine Goes.alloc hTT rfl ?_
  intro rb w1 e1 hrb hw1 hz1
  refine Goes.adv hTT 400 rfl ?_
  refine Goes.alloc hTT rfl ?_
  intro ub w2 e2 hub hw2 hz2
  refine Goes.adv hTT 400 rfl ?_
  refine Goes.alloc hTT rfl ?_
  intro qb w3 e3 hqb hw3 hz3
  refine Goes.adv hTT 400 rfl ?_
  have hc3 := (hw1.trans hw2).trans hw3
  have h3 := h.grow hc3
  have hu3 := hu.chg hc3
  obtain ⟨kind, at', frm, n, wd, a, cap, bs⟩ := u
  simp only at hk hl
  replace hub : w3.heap[ub]? = some (.cells ([.int .u8 kind, .int .i64 at', .int .i64 frm, .int .i64 n, .int .u64 wd, .slice a bs.length cap] : List Value).toArray 69 (0, 0)) := hw3.heap' hub
  replace hrb := hw3.heap' (hw2.heap' hrb)
  obtain ⟨m, hm⟩ : ∃ m, m = kind % 6 := ⟨_, rfl⟩
  have hmv : ∀ o, useOut r.bs ⟨kind, at', frm, n, wd, a, cap, bs⟩ = o → RefUsed r w o = RefUsed r w (useOut r.bs ⟨kind, at', frm, n, wd, a, cap, bs⟩) := fun o ho => by rw [ho]
  have hback : ∀ v w', RefUsed r w (useOut r.bs ⟨kind, at', frm, n, wd, a, cap, bs⟩) v w' → RefUsed r w (useOut r.bs ⟨kind, at', frm, n, wd, a, cap, bs⟩) v w' := fun v w' h => h
  refine Goes.loadb hTT rfl hub rfl rfl ?_
  refine Goes.div hTT rfl (by omega) (rem_ (by omega)) rfl ?_
  rw [← hm]
  refine Goes.fork hTT rfl rfl rfl (fun hf0 => ?_) (fun hf0 => ?_)
  · have g0 : m = 0 := by simpa using hf0
    refine Goes.loads hTT rfl hrb rfl rfl ?_
    refine Goes.loadb hTT rfl hub rfl rfl ?_
    refine Goes.loadb hTT rfl hub rfl rfl ?_
    cases ht : thereB r.bs.length at' n with
    | false =>
      refine Goes.call rfl (ref06_Read_no r at' n w3 hlen ht) ?_
      rintro _ w4 ⟨rfl, hw4⟩
      refine Goes.adv hTT 400 rfl ?_
      have hc4 := hc3.trans hw4
      have hqlt := lt_of_heap (hw4.heap' hqb)
      refine Goes.alloc hTT rfl ?_
      intro nb wa ea hnb hwa hza
      refine Goes.adv hTT 400 rfl ?_
      refine Goes.store hTT rfl hnb rfl rfl ?_
      intro wb hnb2 hsb hzb
      refine Goes.adv hTT 400 rfl ?_
      refine Goes.loads hTT rfl hnb2 rfl rfl ?_
      refine Goes.store hTT rfl (hsb.heap (hwa.heap' (hw4.heap' hqb)) (by omega)) rfl rfl ?_
      intro wc hqc hsc hzc
      refine Goes.adv hTT 400 rfl ?_
      have hcb : Chg None' w wb := (hc4.trans hwa).since hsb (fun x hx hxe => by have := hc4.size; omega)
      have hgb : Chg None' w4 wb := hwa.since hsb (fun x hx hxe => by omega)
      have hcc : Chg None' w wc := hcb.since hsc (fun x hx hxe => by omega)
      have hqb9 := hsb.heap (hwa.heap' (hw4.heap' hqb)) (show ¬ _ from by omega)
      exact Goes.ret hTT rfl Try.func34 (ResOk.cell rfl rfl rfl hqc rfl (.tmp rfl (.tmp rfl (.tmp rfl .nil)))) (hback _ _ (by rw [← hmv (outNo r.bs 8) (by unfold useOut; simp only; rw [← hm, if_pos g0, if_neg (by simp [ht])])]; exact ⟨r, none, 0, rfl, rfl, by simp [outNo], ((h3.grow hw4).grow hgb).keep hqb9 (by simp [cellsL]) hsc, Rd.nil _ _ _, hcc, .inr rfl⟩))
    | true =>
      have g := thereB_iff.1 ht
      obtain ⟨i, rfl⟩ := Int.eq_ofNat_of_zero_le g.1
      obtain ⟨k, rfl⟩ := Int.eq_ofNat_of_zero_le g.2.1
      refine Goes.call rfl (ref06_Read r i k w3 h3 hst h0 (by omega)) ?_
      rintro _ w4 ⟨x4, cx4, rfl, hr4, hx4, hw4⟩
      refine Goes.adv hTT 400 rfl ?_
      have hc4 := hc3.trans hw4
      have hqlt := lt_of_heap (hw4.heap' hqb)
      refine Goes.alloc hTT rfl ?_
      intro nb wa ea hnb hwa hza
      refine Goes.adv hTT 400 rfl ?_
      refine Goes.store hTT rfl hnb rfl rfl ?_
      intro wb hnb2 hsb hzb
      refine Goes.adv hTT 400 rfl ?_
      refine Goes.loads hTT rfl hnb2 rfl rfl ?_
      refine Goes.store hTT rfl (hsb.heap (hwa.heap' (hw4.heap' hqb)) (by omega)) rfl rfl ?_
      intro wc hqc hsc hzc
      refine Goes.adv hTT 400 rfl ?_
      have hcb : Chg None' w wb := (hc4.trans hwa).since hsb (fun x hx hxe => by have := hc4.size; omega)
      have hgb : Chg None' w4 wb := hwa.since hsb (fun x hx hxe => by omega)
      have hcc : Chg None' w wc := hcb.since hsc (fun x hx hxe => by omega)
      have hqb9 := hsb.heap (hwa.heap' (hw4.heap' hqb)) (show ¬ _ from by omega)
      have hsl : (sub r.bs i k).length = k := sub_length (by omega)
      exact Goes.ret hTT rfl Try.func34 (ResOk.cell rfl rfl rfl hqc rfl (.tmp rfl (.tmp rfl (.tmp rfl .nil)))) (hback _ _ (by rw [← hmv ⟨0, r.bs, k, sub r.bs i k, 0⟩ (by unfold useOut; simp only; rw [← hm, if_pos g0, if_pos ht]; simp)]; exact ⟨{ r with steps := r.steps + k }, x4, cx4, by show _ = Value.tuple #[_, .slice x4 (sub r.bs i k).length cx4, _, _]; rw [hsl]; rfl, rfl, rfl, (RaOk.grow (r := { r with steps := r.steps + k }) ⟨((h3.grow hw4)).rd, h.len, h.lc, h.rng⟩ hgb).keep hqb9 (by simp [cellsL]) hsc, ((hr4.chg hgb).keepU hqb9 (by simp [cellsL]) hsc), hcc, .inr rfl⟩))
  · have g0 : ¬ m = 0 := by simpa using hf0
    refine Goes.fork hTT rfl rfl rfl (fun hf1 => ?_) (fun hf1 => ?_)
    · have g1 : m = 1 := by simpa using hf1
      refine Goes.loads hTT rfl hrb rfl rfl ?_
      refine Goes.loadb hTT rfl hub rfl rfl ?_
      refine Goes.loadb hTT rfl hub rfl rfl ?_
      cases ht : thereB r.bs.length at' bs.length with
      | false =>
        refine Goes.call rfl (ref06_Write_no r at' a cap bs.length w3 hlen ht) ?_
        rintro _ w4 ⟨rfl, hw4⟩
        refine Goes.adv hTT 400 rfl ?_
        have hc4 := hc3.trans hw4
        have hqlt := lt_of_heap (hw4.heap' hqb)
        refine Goes.alloc hTT rfl ?_
        intro nb wa ea hnb hwa hza
        refine Goes.adv hTT 400 rfl ?_
        refine Goes.store hTT rfl hnb rfl rfl ?_
        intro wb hnb2 hsb hzb
        refine Goes.adv hTT 400 rfl ?_
        refine Goes.loads hTT rfl hnb2 rfl rfl ?_
        refine Goes.store hTT rfl (hsb.heap (hwa.heap' (hw4.heap' hqb)) (by omega)) rfl rfl ?_
        intro wc hqc hsc hzc
        refine Goes.adv hTT 400 rfl ?_
        have hcb : Chg None' w wb := (hc4.trans hwa).since hsb (fun x hx hxe => by have := hc4.size; omega)
        have hgb : Chg None' w4 wb := hwa.since hsb (fun x hx hxe => by omega)
        have hcc : Chg None' w wc := hcb.since hsc (fun x hx hxe => by omega)
        have hqb9 := hsb.heap (hwa.heap' (hw4.heap' hqb)) (show ¬ _ from by omega)
        exact Goes.ret hTT rfl Try.func34 (ResOk.cell rfl rfl rfl hqc rfl (.tmp rfl (.tmp rfl (.tmp rfl .nil)))) (hback _ _ (by rw [← hmv (outNo r.bs 8) (by unfold useOut; simp only; rw [← hm, if_neg g0, if_pos g1, if_neg (by simp [ht])])]; exact ⟨r, none, 0, rfl, rfl, by simp [outNo], ((h3.grow hw4).grow hgb).keep hqb9 (by simp [cellsL]) hsc, Rd.nil _ _ _, hcc, .inr rfl⟩))
      | true =>
        have g := thereB_iff.1 ht
        obtain ⟨i, rfl⟩ := Int.eq_ofNat_of_zero_le g.1
        refine Goes.call rfl (ref06_Write r i a cap bs w3 h3 hst h0 hu3.rd hu3.rng (by omega)) ?_
        rintro _ w4 ⟨r4, rfl, hb4, hs4, hR4, hw4, hn4⟩
        refine Goes.adv hTT 400 rfl ?_
        have hc4 := hc3.trans hw4
        have hqlt := lt_of_heap (hw4.heap' hqb)
        refine Goes.alloc hTT rfl ?_
        intro nb wa ea hnb hwa hza
        refine Goes.adv hTT 400 rfl ?_
        refine Goes.store hTT rfl hnb rfl rfl ?_
        intro wb hnb2 hsb hzb
        refine Goes.adv hTT 400 rfl ?_
        refine Goes.loads hTT rfl hnb2 rfl rfl ?_
        refine Goes.store hTT rfl (hsb.heap (hwa.heap' (hw4.heap' hqb)) (by omega)) rfl rfl ?_
        intro wc hqc hsc hzc
        refine Goes.adv hTT 400 rfl ?_
        have hcb : Chg None' w wb := (hc4.trans hwa).since hsb (fun x hx hxe => by have := hc4.size; omega)
        have hgb : Chg None' w4 wb := hwa.since hsb (fun x hx hxe => by omega)
        have hcc : Chg None' w wc := hcb.since hsc (fun x hx hxe => by omega)
        have hqb9 := hsb.heap (hwa.heap' (hw4.heap' hqb)) (show ¬ _ from by omega)
        exact Goes.ret hTT rfl Try.func34 (ResOk.cell rfl rfl rfl hqc rfl (.tmp rfl (.tmp rfl (.tmp rfl .nil)))) (hback _ _ (by rw [← hmv (⟨0, wrB r.bs i bs, bs.length, [], 0⟩) (by unfold useOut; simp only; rw [← hm, if_neg g0, if_pos g1, if_pos ht]; simp)]; exact ⟨r4, none, 0, rfl, hb4, hs4, (hR4.grow hgb).keep hqb9 (by simp [cellsL]) hsc, Rd.nil _ _ _, hcc, .inl (hn4.back hc3.size)⟩))
    · have g1 : ¬ m = 1 := by simpa using hf1
      refine Goes.fork hTT rfl rfl rfl (fun hf2 => ?_) (fun hf2 => ?_)
      · have g2 : m = 2 := by simpa using hf2
        refine Goes.loads hTT rfl hrb rfl rfl ?_
        refine Goes.loadb hTT rfl hub rfl rfl ?_
        refine Goes.loadb hTT rfl hub rfl rfl ?_
        refine Goes.loadb hTT rfl hub rfl rfl ?_
        refine Goes.arith hTT rfl wrap_u8 rfl ?_
        cases ht : thereB r.bs.length at' n with
        | false =>
          refine Goes.call rfl (ref06_Fill_no r at' n (wd % 256) w3 hlen ht) ?_
          rintro _ w4 ⟨rfl, hw4⟩
          refine Goes.adv hTT 400 rfl ?_
          have hc4 := hc3.trans hw4
          have hqlt := lt_of_heap (hw4.heap' hqb)
          refine Goes.alloc hTT rfl ?_
          intro nb wa ea hnb hwa hza
          refine Goes.adv hTT 400 rfl ?_
          refine Goes.store hTT rfl hnb rfl rfl ?_
          intro wb hnb2 hsb hzb
          refine Goes.adv hTT 400 rfl ?_
          refine Goes.loads hTT rfl hnb2 rfl rfl ?_
          refine Goes.store hTT rfl (hsb.heap (hwa.heap' (hw4.heap' hqb)) (by omega)) rfl rfl ?_
          intro wc hqc hsc hzc
          refine Goes.adv hTT 400 rfl ?_
          have hcb : Chg None' w wb := (hc4.trans hwa).since hsb (fun x hx hxe => by have := hc4.size; omega)
          have hgb : Chg None' w4 wb := hwa.since hsb (fun x hx hxe => by omega)
          have hcc : Chg None' w wc := hcb.since hsc (fun x hx hxe => by omega)
          have hqb9 := hsb.heap (hwa.heap' (hw4.heap' hqb)) (show ¬ _ from by omega)
          exact Goes.ret hTT rfl Try.func34 (ResOk.cell rfl rfl rfl hqc rfl (.tmp rfl (.tmp rfl (.tmp rfl .nil)))) (hback _ _ (by rw [← hmv (outNo r.bs 8) (by unfold useOut; simp only; rw [← hm, if_neg g0, if_neg g1, if_pos g2, if_neg (by simp [ht])])]; exact ⟨r, none, 0, rfl, rfl, by simp [outNo], ((h3.grow hw4).grow hgb).keep hqb9 (by simp [cellsL]) hsc, Rd.nil _ _ _, hcc, .inr rfl⟩))
        | true =>
          have g := thereB_iff.1 ht
          obtain ⟨i, rfl⟩ := Int.eq_ofNat_of_zero_le g.1
          obtain ⟨k, rfl⟩ := Int.eq_ofNat_of_zero_le g.2.1
          refine Goes.call rfl (ref06_Fill r i k (wd % 256) w3 h3 hst h0 (by omega) (by omega)) ?_
          rintro _ w4 ⟨r4, rfl, hb4, hs4, hR4, hw4, hn4⟩
          refine Goes.adv hTT 400 rfl ?_
          have hc4 := hc3.trans hw4
          have hqlt := lt_of_heap (hw4.heap' hqb)
          refine Goes.alloc hTT rfl ?_
          intro nb wa ea hnb hwa hza
          refine Goes.adv hTT 400 rfl ?_
          refine Goes.store hTT rfl hnb rfl rfl ?_
          intro wb hnb2 hsb hzb
          refine Goes.adv hTT 400 rfl ?_
          refine Goes.loads hTT rfl hnb2 rfl rfl ?_
          refine Goes.store hTT rfl (hsb.heap (hwa.heap' (hw4.heap' hqb)) (by omega)) rfl rfl ?_
          intro wc hqc hsc hzc
          refine Goes.adv hTT 400 rfl ?_
          have hcb : Chg None' w wb := (hc4.trans hwa).since hsb (fun x hx hxe => by have := hc4.size; omega)
          have hgb : Chg None' w4 wb := hwa.since hsb (fun x hx hxe => by omega)
          have hcc : Chg None' w wc := hcb.since hsc (fun x hx hxe => by omega)
          have hqb9 := hsb.heap (hwa.heap' (hw4.heap' hqb)) (show ¬ _ from by omega)
          exact Goes.ret hTT rfl Try.func34 (ResOk.cell rfl rfl rfl hqc rfl (.tmp rfl (.tmp rfl (.tmp rfl .nil)))) (hback _ _ (by rw [← hmv (⟨0, wrB r.bs i (List.replicate k (wd % 256)), k, [], 0⟩) (by unfold useOut; simp only; rw [← hm, if_neg g0, if_neg g1, if_pos g2, if_pos ht]; simp)]; exact ⟨r4, none, 0, rfl, hb4, hs4, (hR4.grow hgb).keep hqb9 (by simp [cellsL]) hsc, Rd.nil _ _ _, hcc, .inl (hn4.back hc3.size)⟩))
      · have g2 : ¬ m = 2 := by simpa using hf2
        refine Goes.fork hTT rfl rfl rfl (fun hf3 => ?_) (fun hf3 => ?_)
        · have g3 : m = 3 := by simpa using hf3
          refine Goes.loads hTT rfl hrb rfl rfl ?_
          refine Goes.loadb hTT rfl hub rfl rfl ?_
          refine Goes.loadb hTT rfl hub rfl rfl ?_
          refine Goes.loadb hTT rfl hub rfl rfl ?_
          cases hft : (thereB r.bs.length frm n && thereB r.bs.length at' n) with
          | false =>
            refine Goes.call rfl (ref06_Copy_no r at' frm n w3 hlen hft) ?_
            rintro _ w4 ⟨rfl, hw4⟩
            refine Goes.adv hTT 400 rfl ?_
            have hc4 := hc3.trans hw4
            have hqlt := lt_of_heap (hw4.heap' hqb)
            refine Goes.alloc hTT rfl ?_
            intro nb wa ea hnb hwa hza
            refine Goes.adv hTT 400 rfl ?_
            refine Goes.store hTT rfl hnb rfl rfl ?_
            intro wb hnb2 hsb hzb
            refine Goes.adv hTT 400 rfl ?_
            refine Goes.loads hTT rfl hnb2 rfl rfl ?_
            refine Goes.store hTT rfl (hsb.heap (hwa.heap' (hw4.heap' hqb)) (by omega)) rfl rfl ?_
            intro wc hqc hsc hzc
            refine Goes.adv hTT 400 rfl ?_
            have hcb : Chg None' w wb := (hc4.trans hwa).since hsb (fun x hx hxe => by have := hc4.size; omega)
            have hgb : Chg None' w4 wb := hwa.since hsb (fun x hx hxe => by omega)
            have hcc : Chg None' w wc := hcb.since hsc (fun x hx hxe => by omega)
            have hqb9 := hsb.heap (hwa.heap' (hw4.heap' hqb)) (show ¬ _ from by omega)
            exact Goes.ret hTT rfl Try.func34 (ResOk.cell rfl rfl rfl hqc rfl (.tmp rfl (.tmp rfl (.tmp rfl .nil)))) (hback _ _ (by rw [← hmv (outNo r.bs 8) (by unfold useOut; simp only; rw [← hm, if_neg g0, if_neg g1, if_neg g2, if_pos g3, if_neg (by simp only [hft]; simp)])]; exact ⟨r, none, 0, rfl, rfl, by simp [outNo], ((h3.grow hw4).grow hgb).keep hqb9 (by simp [cellsL]) hsc, Rd.nil _ _ _, hcc, .inr rfl⟩))
          | true =>
            have hft' := hft
            simp only [Bool.and_eq_true] at hft'
            have gf := thereB_iff.1 hft'.1
            have gt := thereB_iff.1 hft'.2
            obtain ⟨i, rfl⟩ := Int.eq_ofNat_of_zero_le gf.1
            obtain ⟨k, rfl⟩ := Int.eq_ofNat_of_zero_le gf.2.1
            obtain ⟨j, rfl⟩ := Int.eq_ofNat_of_zero_le gt.1
            refine Goes.call rfl (ref06_Copy r j i k w3 h3 hst h0 (by omega) (by omega)) ?_
            rintro _ w4 ⟨r4, rfl, hb4, hs4, hR4, hw4, hn4⟩
            refine Goes.adv hTT 400 rfl ?_
            have hc4 := hc3.trans hw4
            have hqlt := lt_of_heap (hw4.heap' hqb)
            refine Goes.alloc hTT rfl ?_
            intro nb wa ea hnb hwa hza
            refine Goes.adv hTT 400 rfl ?_
            refine Goes.store hTT rfl hnb rfl rfl ?_
            intro wb hnb2 hsb hzb
            refine Goes.adv hTT 400 rfl ?_
            refine Goes.loads hTT rfl hnb2 rfl rfl ?_
            refine Goes.store hTT rfl (hsb.heap (hwa.heap' (hw4.heap' hqb)) (by omega)) rfl rfl ?_
            intro wc hqc hsc hzc
            refine Goes.adv hTT 400 rfl ?_
            have hcb : Chg None' w wb := (hc4.trans hwa).since hsb (fun x hx hxe => by have := hc4.size; omega)
            have hgb : Chg None' w4 wb := hwa.since hsb (fun x hx hxe => by omega)
            have hcc : Chg None' w wc := hcb.since hsc (fun x hx hxe => by omega)
            have hqb9 := hsb.heap (hwa.heap' (hw4.heap' hqb)) (show ¬ _ from by omega)
            exact Goes.ret hTT rfl Try.func34 (ResOk.cell rfl rfl rfl hqc rfl (.tmp rfl (.tmp rfl (.tmp rfl .nil)))) (hback _ _ (by rw [← hmv (⟨0, wrB r.bs j (sub r.bs i k), k, [], 0⟩) (by unfold useOut; simp only; rw [← hm, if_neg g0, if_neg g1, if_neg g2, if_pos g3, if_pos (by simp only [hft])]; simp)]; exact ⟨r4, none, 0, rfl, hb4, hs4, (hR4.grow hgb).keep hqb9 (by simp [cellsL]) hsc, Rd.nil _ _ _, hcc, .inl (hn4.back hc3.size)⟩))
        · have g3 : ¬ m = 3 := by simpa using hf3
          refine Goes.fork hTT rfl rfl rfl (fun hf4 => ?_) (fun hf4 => ?_)
          · have g4 : m = 4 := by simpa using hf4
            refine Goes.loads hTT rfl hrb rfl rfl ?_
            refine Goes.loadb hTT rfl hub rfl rfl ?_
            by_cases hwo : wordedV r.bs.length at' = 0
            · have ht : thereB r.bs.length at' 8 = true := by cases hh : thereB r.bs.length at' 8 with | true => rfl | false => unfold wordedV at hwo; rw [if_pos hh] at hwo; cases hwo
              have g := thereB_iff.1 ht
              obtain ⟨i, rfl⟩ := Int.eq_ofNat_of_zero_le g.1
              have h8 : i % 8 = 0 := by unfold wordedV at hwo; rw [if_neg (by simp [ht])] at hwo; split at hwo <;> omega
              refine Goes.call rfl (ref06_Load r i w3 h3 hst (by omega) h8) ?_
              rintro _ w4 ⟨rfl, hw4⟩
              refine Goes.adv hTT 400 rfl ?_
              have hc4 := hc3.trans hw4
              have hqlt := lt_of_heap (hw4.heap' hqb)
              refine Goes.alloc hTT rfl ?_
              intro nb wa ea hnb hwa hza
              refine Goes.adv hTT 400 rfl ?_
              refine Goes.store hTT rfl hnb rfl rfl ?_
              intro wb hnb2 hsb hzb
              refine Goes.adv hTT 400 rfl ?_
              refine Goes.loads hTT rfl hnb2 rfl rfl ?_
              refine Goes.store hTT rfl (hsb.heap (hwa.heap' (hw4.heap' hqb)) (by omega)) rfl rfl ?_
              intro wc hqc hsc hzc
              refine Goes.adv hTT 400 rfl ?_
              have hcb : Chg None' w wb := (hc4.trans hwa).since hsb (fun x hx hxe => by have := hc4.size; omega)
              have hgb : Chg None' w4 wb := hwa.since hsb (fun x hx hxe => by omega)
              have hcc : Chg None' w wc := hcb.since hsc (fun x hx hxe => by omega)
              have hqb9 := hsb.heap (hwa.heap' (hw4.heap' hqb)) (show ¬ _ from by omega)
              exact Goes.ret hTT rfl Try.func34 (ResOk.cell rfl rfl rfl hqc rfl (.tmp rfl (.tmp rfl (.tmp rfl .nil)))) (hback _ _ (by rw [← hmv (⟨0, r.bs, 1, [], leK (sub r.bs i 8) 8⟩) (by unfold useOut; simp only; rw [← hm, if_neg g0, if_neg g1, if_neg g2, if_neg g3, if_neg (by rw [hwo]; decide), if_pos g4]; simp)]; exact ⟨{ r with steps := r.steps + 1 }, none, 0, rfl, rfl, by simp, (RaOk.grow (r := { r with steps := r.steps + 1 }) ⟨((h3.grow hw4)).rd, h.len, h.lc, h.rng⟩ hgb).keep hqb9 (by simp [cellsL]) hsc, Rd.nil _ _ _, hcc, .inr rfl⟩))
            · refine Goes.call rfl (ref06_Load_no r at' w3 hlen hwo) ?_
              rintro _ w4 ⟨rfl, hw4⟩
              refine Goes.adv hTT 400 rfl ?_
              have hc4 := hc3.trans hw4
              have hqlt := lt_of_heap (hw4.heap' hqb)
              refine Goes.alloc hTT rfl ?_
              intro nb wa ea hnb hwa hza
              refine Goes.adv hTT 400 rfl ?_
              refine Goes.store hTT rfl hnb rfl rfl ?_
              intro wb hnb2 hsb hzb
              refine Goes.adv hTT 400 rfl ?_
              refine Goes.loads hTT rfl hnb2 rfl rfl ?_
              refine Goes.store hTT rfl (hsb.heap (hwa.heap' (hw4.heap' hqb)) (by omega)) rfl rfl ?_
              intro wc hqc hsc hzc
              refine Goes.adv hTT 400 rfl ?_
              have hcb : Chg None' w wb := (hc4.trans hwa).since hsb (fun x hx hxe => by have := hc4.size; omega)
              have hgb : Chg None' w4 wb := hwa.since hsb (fun x hx hxe => by omega)
              have hcc : Chg None' w wc := hcb.since hsc (fun x hx hxe => by omega)
              have hqb9 := hsb.heap (hwa.heap' (hw4.heap' hqb)) (show ¬ _ from by omega)
              exact Goes.ret hTT rfl Try.func34 (ResOk.cell rfl rfl rfl hqc rfl (.tmp rfl (.tmp rfl (.tmp rfl .nil)))) (hback _ _ (by rw [← hmv (outNo r.bs (wordedV r.bs.length at')) (by unfold useOut; simp only; rw [← hm, if_neg g0, if_neg g1, if_neg g2, if_neg g3, if_pos hwo])]; exact ⟨r, none, 0, rfl, rfl, by simp [outNo], ((h3.grow hw4).grow hgb).keep hqb9 (by simp [cellsL]) hsc, Rd.nil _ _ _, hcc, .inr rfl⟩))
          · have g4 : ¬ m = 4 := by simpa using hf4
            refine Goes.loads hTT rfl hrb rfl rfl ?_
            refine Goes.loadb hTT rfl hub rfl rfl ?_
            refine Goes.loadb hTT rfl hub rfl rfl ?_
            by_cases hwo : wordedV r.bs.length at' = 0
            · have ht : thereB r.bs.length at' 8 = true := by cases hh : thereB r.bs.length at' 8 with | true => rfl | false => unfold wordedV at hwo; rw [if_pos hh] at hwo; cases hwo
              have g := thereB_iff.1 ht
              obtain ⟨i, rfl⟩ := Int.eq_ofNat_of_zero_le g.1
              have h8 : i % 8 = 0 := by unfold wordedV at hwo; rw [if_neg (by simp [ht])] at hwo; split at hwo <;> omega
              refine Goes.call rfl (ref06_Store r i wd w3 h3 hst hu3.w64 (by omega) h8) ?_
              rintro _ w4 ⟨r4, rfl, hb4, hs4, hR4, hw4, hn4⟩
              refine Goes.adv hTT 400 rfl ?_
              have hc4 := hc3.trans hw4
              have hqlt := lt_of_heap (hw4.heap' hqb)
              refine Goes.alloc hTT rfl ?_
              intro nb wa ea hnb hwa hza
              refine Goes.adv hTT 400 rfl ?_
              refine Goes.store hTT rfl hnb rfl rfl ?_
              intro wb hnb2 hsb hzb
              refine Goes.adv hTT 400 rfl ?_
              refine Goes.loads hTT rfl hnb2 rfl rfl ?_
              refine Goes.store hTT rfl (hsb.heap (hwa.heap' (hw4.heap' hqb)) (by omega)) rfl rfl ?_
              intro wc hqc hsc hzc
              refine Goes.adv hTT 400 rfl ?_
              have hcb : Chg None' w wb := (hc4.trans hwa).since hsb (fun x hx hxe => by have := hc4.size; omega)
              have hgb : Chg None' w4 wb := hwa.since hsb (fun x hx hxe => by omega)
              have hcc : Chg None' w wc := hcb.since hsc (fun x hx hxe => by omega)
              have hqb9 := hsb.heap (hwa.heap' (hw4.heap' hqb)) (show ¬ _ from by omega)
              exact Goes.ret hTT rfl Try.func34 (ResOk.cell rfl rfl rfl hqc rfl (.tmp rfl (.tmp rfl (.tmp rfl .nil)))) (hback _ _ (by rw [← hmv (⟨0, wrB r.bs i (leB wd), 1, [], 0⟩) (by unfold useOut; simp only; rw [← hm, if_neg g0, if_neg g1, if_neg g2, if_neg g3, if_neg (by rw [hwo]; decide), if_neg g4]; simp)]; exact ⟨r4, none, 0, rfl, hb4, hs4, (hR4.grow hgb).keep hqb9 (by simp [cellsL]) hsc, Rd.nil _ _ _, hcc, .inl (hn4.back hc3.size)⟩))
            · refine Goes.call rfl (ref06_Store_no r at' wd w3 hlen hwo) ?_
              rintro _ w4 ⟨rfl, hw4⟩
              refine Goes.adv hTT 400 rfl ?_
              have hc4 := hc3.trans hw4
              have hqlt := lt_of_heap (hw4.heap' hqb)
              refine Goes.alloc hTT rfl ?_
              intro nb wa ea hnb hwa hza
              refine Goes.adv hTT 400 rfl ?_
              refine Goes.store hTT rfl hnb rfl rfl ?_
              intro wb hnb2 hsb hzb
              refine Goes.adv hTT 400 rfl ?_
              refine Goes.loads hTT rfl hnb2 rfl rfl ?_
              refine Goes.store hTT rfl (hsb.heap (hwa.heap' (hw4.heap' hqb)) (by omega)) rfl rfl ?_
              intro wc hqc hsc hzc
              refine Goes.adv hTT 400 rfl ?_
              have hcb : Chg None' w wb := (hc4.trans hwa).since hsb (fun x hx hxe => by have := hc4.size; omega)
              have hgb : Chg None' w4 wb := hwa.since hsb (fun x hx hxe => by omega)
              have hcc : Chg None' w wc := hcb.since hsc (fun x hx hxe => by omega)
              have hqb9 := hsb.heap (hwa.heap' (hw4.heap' hqb)) (show ¬ _ from by omega)
              exact Goes.ret hTT rfl Try.func34 (ResOk.cell rfl rfl rfl hqc rfl (.tmp rfl (.tmp rfl (.tmp rfl .nil)))) (hback _ _ (by rw [← hmv (outNo r.bs (wordedV r.bs.length at')) (by unfold useOut; simp only; rw [← hm, if_neg g0, if_neg g1, if_neg g2, if_neg g3, if_pos hwo])]; exact ⟨r, none, 0, rfl, rfl, by simp [outNo], ((h3.grow hw4).grow hgb).keep hqb9 (by simp [cellsL]) hsc, Rd.nil _ _ _, hcc, .inr rfl⟩))
end Go.Proofs.Ytommemplakcaaaa
