/-
  Layer 21: a view: writing, whole.
-/
import Derived.Test.YtffimkpllchfcaaView7
namespace Go.Proofs.Ytffimkpllchfcaa
open Go.RowKit

theorem foot_lt {w : World} {A : Ar} {V : ArV} (h : ArOk w A V) : ∀ z, foot A z → z < w.heap.size := fun z hz => h.blt z (hz.elim (fun e => .inr (.inl e)) (fun e => .inr (.inr (.inr e))))
theorem view_Write (v : Vw) (q : Plc) (at' : Nat) (a : Option Addr) (cap : Nat) (l : List Int) (A : Ar) (V : ArV) (w : World) (hv : VwOk w v) (hq : PlcOk w q) (hmb : v.mb = A.mb) (hab : v.ab = A.ab) (hck : checkM v.c q at' l.length = 0) (hfew : q.pages.length ≤ 4096)
    (hPv : ¬ foot A v.vb) (hPq : 0 < q.pages.length → OutA (foot A) q.pa) (hPc : 0 < v.c.classes.length → OutA (foot A) v.p.ca) (hPk : 0 < v.c.keep.length → OutA (foot A) v.p.ka) (hA : ArOk w A V) (hlen : (V.bs.length : Int) = v.c.size * v.c.pages)
    (hr : Rd .u8 w a l) (hlc : l.length ≤ cap) (hin : InB l) (hout : 0 < l.length → OutA (foot A) a) :
    Does Try.prog 18 #[vwV v, .agg (plL q).toArray, .int .i64 at', .slice a l.length cap] w (fun u w' => u = .int .i64 0 ∧ ArOk w' A (vsW q A V (partsM v.c q at' l.length) l (partsM v.c q at' l.length).length) ∧ Chg (foot A) w w') := by
  obtain ⟨ps, hps⟩ : ∃ ps, ps = partsM v.c q at' l.length := ⟨_, rfl⟩
  have hpin : ∀ p ∈ ps, ∃ i m : Nat, p = ((i : Int), (m : Int)) ∧ i + m ≤ V.bs.length := fun p hp => by
    obtain ⟨i, m, h1, h2⟩ := parts_in hv.may hck hfew p (hps ▸ hp)
    exact ⟨i, m, h1, by omega⟩
  have htot : totalM ps = l.length := by rw [hps]; exact parts_total hv.may
  rw [← hps]
  refine Does.enter Try.func18 rfl Try.ntmps18 rfl rfl ?_
  refine Goes.adv hTT 400 rfl ?_
  refine Goes.alloc hTT rfl ?_
  intro vb w1 e1 hvb hw1 hz1
  refine Goes.adv hTT 400 rfl ?_
  refine Goes.alloc hTT rfl ?_
  intro qb w2 e2 hqb hw2 hz2
  refine Goes.adv hTT 400 rfl ?_
  refine Goes.alloc hTT rfl ?_
  intro bb w3 e3 hbb hw3 hz3
  refine Goes.adv hTT 400 rfl ?_
  replace hqb : plcBox w2 qb q := hqb
  replace hbb : w3.heap[bb]? = some (.cells ([.slice a l.length cap] : List Value).toArray 39 (0, 0)) := hbb
  have hw := (hw1.trans hw2).trans hw3
  have hvb3 : ptrBox w3 vb v := (hw2.trans hw3).heap' hvb
  refine Goes.loadb hTT rfl hvb3 rfl rfl ?_
  refine Goes.loads hTT rfl (hw3.heap' hqb) rfl rfl ?_
  refine Goes.loadb hTT rfl hbb rfl rfl ?_
  have hflt := foot_lt hA
  have hmf : ∀ z, mFoot A z → foot A z := fun z h => .inr h
  have hvl := lt_of_heap hv.obj
  have hbl := hA.blt
  have hE := view_each v q at' l.length 38 [.pointer (some ⟨vb, 0, none⟩), .pointer (some ⟨bb, 0, none⟩)] A (vsW q A V ps l)
    (fun k Y x => ∃ a' cap', x.heap[bb]? = some (.cells ([.slice a' (l.drop (totalM (ps.take k))).length cap'] : List Value).toArray 39 (0, 0)) ∧ Rd .u8 x a' (l.drop (totalM (ps.take k))) ∧ (l.drop (totalM (ps.take k))).length ≤ cap' ∧
      (0 < (l.drop (totalM (ps.take k))).length → OutA (fun z => z = bb ∨ foot A z ∨ w3.heap.size ≤ z) a') ∧ (∀ z, Y z ↔ z = bb ∨ foot A z) ∧ ptrBox x vb v ∧ x.heap[v.vb]? = some (.cells (vwL v).toArray 75 (0, 0)) ∧ w3.heap.size ≤ x.heap.size)
    (fun z => z = bb ∨ foot A z) w3 (hv.grow hw) (hq.grow hw) hmb hck hfew
    (by rintro ((h | h) | h); omega; exact hPv h; exact hPv (hmf _ h))
    (hq.rd.outNew hPq (fun z hz => by rcases hz with (h | h) | h; exact .inr (by omega); exact .inl h; exact .inl (hmf _ h)))
    (hv.conf.classes.outNew hPc (fun z hz => by rcases hz with (h | h) | h; exact .inr (by omega); exact .inl h; exact .inl (hmf _ h)))
    (hv.conf.keep.outNew hPk (fun z hz => by rcases hz with (h | h) | h; exact .inr (by omega); exact .inl h; exact .inl (hmf _ h)))
    (by
      rintro k Y x ⟨a', cap', h1, h2, h3, h4, h5, h6, h7, h8⟩ z hz
      rcases (h5 z).1 hz with rfl | h
      · exact lt_of_heap h1
      · have := hflt z h; omega)
    (by
      rintro k Y x y S ⟨a', cap', h1, h2, h3, h4, h5, h6, h7, h8⟩ hs hS
      have no : ∀ z, z < w3.heap.size → ¬ mFoot A z → ¬ S z := fun z hz hm h => (hS z h).elim hm (fun h => by omega)
      refine ⟨a', cap', hs.heap h1 (no _ (by omega) (fun h => by have := hflt _ (hmf _ h); omega)), h2.far' (fun hl b off s e hb => h4 hl b off s e ((hS b hb).elim (fun h => .inr (.inl (hmf _ h))) (fun h => .inr (.inr h.2)))) hs, h3, h4, h5, hs.heap h6 (no _ (by omega) (fun h => by have := hflt _ (hmf _ h); omega)), hs.heap h7 (no _ (by omega) (fun h => hPv (hmf _ h))), Nat.le_trans h8 hs.size⟩)
    (by
      rintro k Y x hk hAx ⟨a', cap', h1, h2, h3, h4, h5, h6, h7, h8⟩
      rw [← hps] at hk
      obtain ⟨i, m, hp, him⟩ := hpin ps[k] (List.getElem_mem hk)
      have hbs : (chgL q A (vsW q A V ps l k)).bs = (vsW q A V ps l k).bs := chgL_bs _ _ _
      have hbl2 : (vsW q A V ps l k).bs.length = V.bs.length := vsW_len hpin htot (by omega)
      have htk := totalM_take hk
      rw [hp] at htk
      simp only [Int.toNat_natCast] at htk
      have hdl : (l.drop (totalM (ps.take k))).length = l.length - totalM (ps.take k) := by simp
      have hR := view_Write1 v vb bb A (chgL q A (vsW q A V ps l k)) i m a' cap' (l.drop (totalM (ps.take k))) x h6 h7 hab h1 h2 h3 (fun y hy => hin y (List.mem_of_mem_drop hy)) (by omega) hAx (by rw [hbs, hbl2]; exact him)
        (fun z hz => by have := hflt z hz; omega) (fun b hb => by have := hbl b hb; omega) (fun z => z = bb ∨ foot A z ∨ w3.heap.size ≤ z) (fun z h => h.imp id .inl) h4
      simp only [← hps]
      rw [hp]
      refine hR.mono fun _ y ⟨a1, a2, a3, c3, b1, b2, b3, b4⟩ => ?_
      rw [hbs] at a1
      have hoff : totalM (ps.take (k + 1)) = totalM (ps.take k) + m := by
        rw [List.take_add_one, List.getElem?_eq_getElem hk, hp, totalM_append]; simp [totalM]
      have hdd : (l.drop (totalM (ps.take k))).drop m = l.drop (totalM (ps.take (k + 1))) := by rw [List.drop_drop, hoff]
      rw [hdd] at b1 b2 b3 b4
      refine ⟨by rw [vsW_succ hk hp]; exact a1, a2.mono fun z _ hz => (h5 z).2 hz, fun z => z = bb ∨ foot A z, ⟨a3, c3, b1, b2, b3, b4, fun z => Iff.rfl, ?_, ?_, Nat.le_trans h8 a2.size⟩, fun z hz => .inl ((h5 z).2 hz)⟩
      · exact a2.heap h6 (fun h => by rcases h with h | h; omega; have := hflt _ h; omega)
      · exact a2.heap h7 (fun h => by rcases h with h | h; omega; exact hPv h))
    (hA.grow hw) ⟨a, cap, by simpa [totalM] using hbb, by simpa [totalM] using hr.chg hw, by simpa [totalM] using hlc, fun h => by
      have := hr.outNew hout (S' := fun z => z = bb ∨ foot A z ∨ w3.heap.size ≤ z) (fun z hz => by rcases hz with h | h | h; exact .inr (by omega); exact .inl h; exact .inr (by have := hw.size; omega))
      exact this (by simpa [totalM] using h), fun z => Iff.rfl, hvb3, hw.heap' hv.obj, Nat.le_refl _⟩
  rw [← hps] at hE
  refine Goes.call rfl (hE) ?_
  rintro _ w4 ⟨rfl, hA4, _, hs4⟩
  refine Goes.adv hTT 400 rfl ?_
  have hch : Chg (foot A) w w4 := (hw.mono fun _ _ h => h.elim).since hs4 (fun z hz h => by rcases h with (h | h) | h; omega; exact h; exact hmf _ h)
  exact Goes.ret1 hTT rfl Try.func18 rfl rfl ⟨rfl, hA4, hch⟩
theorem view_Write_no (v : Vw) (q : Plc) (at' : Int) (a : Option Addr) (n cap : Nat) (w : World) (hv : VwOk w v) (hq : PlcOk w q) (hfew : q.pages.length ≤ 4096) (hn : checkM v.c q at' n ≠ 0) :
    Does Try.prog 18 #[vwV v, .agg (plL q).toArray, .int .i64 at', .slice a n cap] w (Grow (.int .i64 (checkM v.c q at' n)) w) := by
  refine Does.enter Try.func18 rfl Try.ntmps18 rfl rfl ?_
  refine Goes.adv hTT 400 rfl ?_
  refine Goes.alloc hTT rfl ?_
  intro vb w1 e1 hvb hw1 hz1
  refine Goes.adv hTT 400 rfl ?_
  refine Goes.alloc hTT rfl ?_
  intro qb w2 e2 hqb hw2 hz2
  refine Goes.adv hTT 400 rfl ?_
  refine Goes.alloc hTT rfl ?_
  intro bb w3 e3 hbb hw3 hz3
  refine Goes.adv hTT 400 rfl ?_
  replace hqb : plcBox w2 qb q := hqb
  have hw := (hw1.trans hw2).trans hw3
  refine Goes.loadb hTT rfl ((hw2.trans hw3).heap' hvb) rfl rfl ?_
  refine Goes.loads hTT rfl (hw3.heap' hqb) rfl rfl ?_
  refine Goes.loadb hTT rfl hbb rfl rfl ?_
  refine Goes.call rfl (view_each_no v q at' n 38 [.pointer (some ⟨vb, 0, none⟩), .pointer (some ⟨bb, 0, none⟩)] w3 (hv.grow hw) (hq.grow hw) hfew hn) ?_
  rintro _ w4 ⟨rfl, hw4⟩
  refine Goes.adv hTT 400 rfl ?_
  exact Goes.ret1 hTT rfl Try.func18 rfl rfl ⟨rfl, hw.trans hw4⟩
theorem view_Write_nil (q : Plc) (at' : Int) (a : Option Addr) (n cap : Nat) (w : World) : Does Try.prog 18 #[.pointer none, .agg (plL q).toArray, .int .i64 at', .slice a n cap] w (Grow (.int .i64 1) w) := by
  refine Does.enter Try.func18 rfl Try.ntmps18 rfl rfl ?_
  refine Goes.adv hTT 400 rfl ?_
  refine Goes.alloc hTT rfl ?_
  intro vb w1 e1 hvb hw1 hz1
  refine Goes.adv hTT 400 rfl ?_
  refine Goes.alloc hTT rfl ?_
  intro qb w2 e2 hqb hw2 hz2
  refine Goes.adv hTT 400 rfl ?_
  refine Goes.alloc hTT rfl ?_
  intro bb w3 e3 hbb hw3 hz3
  refine Goes.adv hTT 400 rfl ?_
  replace hqb : plcBox w2 qb q := hqb
  have hw := (hw1.trans hw2).trans hw3
  refine Goes.loadb hTT rfl ((hw2.trans hw3).heap' hvb) rfl rfl ?_
  refine Goes.loads hTT rfl (hw3.heap' hqb) rfl rfl ?_
  refine Goes.loadb hTT rfl hbb rfl rfl ?_
  refine Goes.call rfl (view_each_nil q at' n 38 [.pointer (some ⟨vb, 0, none⟩), .pointer (some ⟨bb, 0, none⟩)] w3) ?_
  rintro _ w4 ⟨rfl, hw4⟩
  refine Goes.adv hTT 400 rfl ?_
  exact Goes.ret1 hTT rfl Try.func18 rfl rfl ⟨rfl, hw.trans hw4⟩
theorem view_Zero_nil (q : Plc) (at' n : Int) (w : World) : Does Try.prog 28 #[.pointer none, .agg (plL q).toArray, .int .i64 at', .int .i64 n] w (Grow (.int .i64 1) w) := by
  refine Does.enter Try.func28 rfl Try.ntmps28 rfl rfl ?_
  refine Goes.adv hTT 400 rfl ?_
  refine Goes.alloc hTT rfl ?_
  intro vb w1 e1 hvb hw1 hz1
  refine Goes.adv hTT 400 rfl ?_
  refine Goes.alloc hTT rfl ?_
  intro qb w2 e2 hqb hw2 hz2
  refine Goes.adv hTT 400 rfl ?_
  replace hqb : plcBox w2 qb q := hqb
  have hw := hw1.trans hw2
  refine Goes.loadb hTT rfl (hw2.heap' hvb) rfl rfl ?_
  refine Goes.loads hTT rfl hqb rfl rfl ?_
  refine Goes.call rfl (view_each_nil q at' n 47 [.pointer (some ⟨vb, 0, none⟩)] w2) ?_
  rintro _ w4 ⟨rfl, hw4⟩
  refine Goes.adv hTT 400 rfl ?_
  exact Goes.ret1 hTT rfl Try.func28 rfl rfl ⟨rfl, hw.trans hw4⟩
end Go.Proofs.Ytffimkpllchfcaa
