/-
  Texts put together: Laws20f.
-/
import Derived.Test.YtkiionjcapnepaaGreatDoorPt4
import Derived.Test.YtkiionjcapnepaaGreatDoorRule21
set_option linter.unusedVariables false
/-
  Layer 20: whatever is placed, dropped, taken, given back, and handed on.
-/
namespace Go.Proofs.YtkiionjcapnepaaGreatDoor
open Go.RowKit
abbrev PlyX := Ply × (Nat → Prop) × RmM
abbrev plyF (x : PlyX) : Value := .tuple #[.agg (plyL x.1).toArray, .bool true]
def plyQ (c : Conf) (wB w6 : World) (F : Nat → Prop) (y : Ply) (M : RmM) (x : PlyX) (w : World) : Prop := PlyOk c wB x.2.1 w x.1 x.2.2 x.2.2 ∧ x.2.2.tot ≤ M.tot + 6000 ∧ PlyKeep w6 y x.1 ∧ x.1.ps.length ≤ y.ps.length + 1 ∧ (∀ z, x.2.1 z → F z ∨ w6.heap.size ≤ z)
def plyG (x : PlyX) (b : Nat) : Prop := ¬ x.2.1 b ∧ PlyOut (fun z => z = b) x.1
/-- An act, at whatever turn. -/
theorem law20_doX {c : Conf} {wB w6 w' : World} {F : Nat → Prop} {y : Ply} {M : RmM} {u : Act20} (h : PlyOk c wB F w6 y M M) (hw : Chg None' w6 w') (ht : M.tot ≤ 4611686018427000000) (hm : mayB c = true) (hps : y.ps.length ≤ 1000000) (hk : 0 ≤ u.kind ∧ u.kind < 256) :
    Does Tryz.prog 10 #[.agg (plyL y).toArray, .agg (act20L u).toArray] w' (fun v w2 => Chg F w' w2 ∧ ∃ x : PlyX, v = plyF x ∧ plyQ c wB w6 F y M x w2 ∧ ∀ b, w6.heap.size ≤ b → (b < w'.heap.size ∨ w2.heap.size ≤ b) → plyG x b) :=
  (law20_do c wB F y M u w' (h.grow hw) ht hm hps hk).mono fun v w2 ⟨y', e, F', M', h1, h2, h3, h4, h5, h6⟩ => ⟨h6, ⟨y', F', M'⟩, e, ⟨h1, h2.2, h3.back hw.size, h4, fun z hz => (h5 z hz).imp id (fun g => Nat.le_trans hw.size g)⟩, fun b hb hc => ⟨fun hf => by
    have hlow := h1.st.low b hf
    have hl6 := h.st.low
    rcases hc with hc | hc
    · rcases h5 b hf with g | g
      · have := hl6 b g; omega
      · omega
    · omega, by
    rcases hc with hc | hc
    · exact h3.2.2 _ (fun z hz => by omega) (h.young (fun z hz => by omega))
    · exact h1.young (fun z hz => by omega)⟩⟩
/-- The loop's state. -/
structure PlySt (c : Conf) (wB w : World) (R : Rm) (xb i : Nat) (y : Ply) (F : Nat → Prop) (M : RmM) : Prop where
  ok : PlyOk c wB F w y M M
  box : plyBox w xb y
  nf : ¬ F xb
  out : PlyOut (fun z => z = xb) y
  R : y.R = R
  ps : y.ps.length ≤ i
  tot : M.tot ≤ 6000 * i
theorem PlySt.grow {c : Conf} {wB w w' : World} {R : Rm} {xb i : Nat} {y : Ply} {F : Nat → Prop} {M : RmM} (h : PlySt c wB w R xb i y F M) (hc : Chg None' w w') : PlySt c wB w' R xb i y F M := ⟨h.ok.grow hc, hc.heap' h.box, h.nf, h.out, h.R, h.ps, h.tot⟩
set_option maxRecDepth 100000 in
theorem law_RoomActs (c : Conf) (p : ConfAt) (sa : Option Addr) (sc : Nat) (xs : List Act20) (w : World) (ht : TabAt w) (hc : ConfOk w c p) (hr : Rows act20L 5 w sa xs) (hl : xs.length ≤ 9223372036854775807) (hx : ∀ x ∈ xs, 0 ≤ x.kind ∧ x.kind < 256) :
    Does Tryz.prog 5 #[.agg (confL c p).toArray, .slice sa xs.length sc] w (Grow (.bool true) w) := by
  refine Does.enter Tryz.func5 rfl Tryz.ntmps5 rfl rfl ?_
  refine Goes.adv hTT 400 rfl ?_
  refine Goes.alloc hTT rfl ?_
  intro cb w1 e1 hcb hw1 hz1
  refine Goes.adv hTT 400 rfl ?_
  replace hcb : w1.heap[cb]? = some (.cells (confL c p).toArray 24 (0, 0)) := hcb
  refine Goes.call rfl (law20_awake w1 (ht.grow hw1)) ?_
  rintro _ w2 ⟨rfl, hw2⟩
  refine Goes.adv hTT 400 rfl ?_
  have hcb2 := hw2.heap' hcb
  have hw02 := hw1.trans hw2
  refine Goes.loads hTT rfl hcb2 rfl rfl ?_
  refine Goes.call rfl (ref03_Few c p w2 (hc.chg hw02)) ?_
  rintro _ w3 ⟨rfl, hw3⟩
  refine Goes.adv hTT 400 rfl ?_
  have hw03 := hw02.trans hw3
  have hcb3 := hw3.heap' hcb2
  cases hf : fewM c with
  | false =>
    refine Goes.yes hTT rfl rfl rfl ?_
    exact Goes.ret1 hTT rfl Tryz.func5 rfl rfl ⟨rfl, hw03⟩
  | true =>
  obtain ⟨hm, _, hpages⟩ := few_may hf
  refine Goes.no hTT rfl rfl rfl ?_
  refine Goes.fork hTT rfl rfl rfl (fun hl24 => ?_) (fun hl24 => ?_)
  · exact Goes.ret1 hTT rfl Tryz.func5 rfl rfl ⟨rfl, hw03⟩
  have hlen : xs.length ≤ 24 := by have := of_decide_eq_false hl24; omega
  refine Goes.loads hTT rfl hcb3 rfl rfl ?_
  refine Goes.call rfl (law20_begin c p w3 (ht.grow hw03) (hc.chg hw03) hm (by omega)) ?_
  rintro _ w5 ⟨y0, F0, rfl, hP0, hps0, hout0⟩
  refine Goes.adv hTT 400 rfl ?_
  refine Goes.alloc hTT rfl ?_
  intro xb w6 e6 hxb hw6 hz6
  refine Goes.adv hTT 400 rfl ?_
  refine Goes.store hTT rfl hxb rfl rfl ?_
  intro w7 hxb7 hs7 hz7
  refine Goes.adv hTT 400 rfl ?_
  replace hxb7 : plyBox w7 xb y0 := hxb7
  have hS1 := hw1.size
  have hS03 := hw03.size
  have hS35 := hP0.chg.size
  have hS6 := hw6.size
  have hw05 := hw03.trans hP0.chg
  have hw57 : Chg None' w5 w7 := hw6.since hs7 (fun z hz e => by omega)
  have hcb7 := hw57.heap' (hP0.chg.heap' hcb3)
  have hext : ∀ {F : Nat → Prop} {w' : World} {y : Ply} {b : Nat}, y.R = y0.R → w5.heap.size ≤ b → ¬ F b → kd w' b = some (some 37) → Ext F w' y.R b := fun hR hb hF hk => by rw [hR]; exact Ext.young hP0.st hb hF hk (by decide)
  have hnF0 : ¬ F0 xb := fun hz => by have := hP0.st.low _ hz; omega
  have hP7 : PlySt c w3 w7 y0.R xb 0 y0 F0 (newRm c 0) := ⟨((hP0.grow hw6).far hs7 (fun z hz => ⟨by rw [hz]; exact hext rfl (by omega) hnF0 (kd_cells hxb), by omega⟩) (hP0.young (fun z hz => by omega))), hxb7, hnF0, hP0.young (fun z hz => by omega), rfl, by rw [hps0]; exact Nat.le_refl _, by show (0 : Int) ≤ _; omega⟩
  have hcb0 : cb < w5.heap.size := by have := lt_of_heap hcb3; omega
  refine Goes.loop (α := Nat) (fun i => [(1, false, .slice sa xs.length sc), (5, false, .bool true), (6, false, .pointer (some ⟨xb, 0, none⟩)), (7, false, .int .i64 i)])
    (fun i w' => i ≤ xs.length ∧ w7.heap.size ≤ w'.heap.size ∧ ∃ y F M, PlySt c w3 w' y0.R xb i y F M) (fun i => xs.length - i) 0 ⟨rfl, rfl, rfl, rfl, trivial⟩ ⟨Nat.zero_le _, Nat.le_refl _, y0, F0, _, hP7⟩ ?_
  rintro i w8 ⟨hi, hS78, y, F, M, hP8⟩ ih
  refine Goes.adv hTT 400 rfl ?_
  refine Goes.fork hTT rfl rfl rfl (fun hc2 => ?_) (fun hc2 => ?_)
  · have hlt : i < xs.length := by have := of_decide_eq_true hc2; omega
    obtain ⟨ub, uoff, rfl, hcell⟩ := hr.at hlt
    have hxok := hx _ (List.getElem_mem hlt)
    have htot := hP8.tot
    have hps := hP8.ps
    have hw08 := hw03.trans hP8.ok.chg
    have hlxb := lt_of_heap hP8.box
    have hlow8 := hP8.ok.st.low
    have hnf8 := hP8.nf
    have hub8 : ub < w.heap.size := World.block_lt_of_cell? w _ (hcell 0 _ rfl)
    have hnub : ¬ F ub := fun hz => by have := hP8.ok.low _ hz; omega
    refine Goes.drawn (q := 11) F hTT mixed (by kernel_rfl) rfl ?_
    intro hB
    refine Drawn.loads hTT hB rfl hP8.box (by first | exact fun h => h | (intro h; omega) | assumption) rfl rfl ?_
    refine Drawn.index hTT hB rfl (j := (i * 5)) (by omega) (by omega) (by first | rfl | omega | (simp; done) | (simp; omega)) rfl ?_
    refine Drawn.loadC hTT hB (act20L xs[i]) rfl (by first | rfl | (simp; done) | (simp [*]; done) | (simp; omega)) ((fun j v hv => below_cell hw08.below (hcell j v hv))) (by first | exact fun h => h | (intro h; omega) | assumption) rfl ?_
    refine Drawn.callAllocG (plyF) (plyQ c w3 w8 F y M) (plyG) hTT hB rfl rfl rfl (fun _ => rfl) rfl (fun _ => rfl) (fun _ => rfl) rfl rfl (fun _ _ => rfl) rfl (fun _ _ => rfl) ((fun w' hw' => law20_doX hP8.ok hw' (by omega) hm (by omega) hxok)) ((fun x w2 w3 ⟨a1, a2⟩ hc => ⟨a1.grow hc, a2⟩)) (hlow8) ?_
    rintro nb ⟨y', F', M'⟩ w9 hnb hzn hw9 ⟨hP9, htt, hK, hps', hF'⟩ ⟨hG1, hG2⟩
    replace hP9 : PlyOk c w3 F' w9 y' M' M' := hP9
    replace hF' : ∀ z, F' z → F z ∨ w8.heap.size ≤ z := hF'
    refine Drawn.turn1 hB rfl ?_
    intro wa hwa
    refine Turn.store hTT hB rfl (hwa.heap' hzn) (by first | (intro h; exact rfl) | (intro h; omega)) rfl rfl rfl ?_
    intro wb hnbb hsb hzb
    replace hnbb : plyBox wb nb y' := hnbb
    refine Drawn.nil hB ?_
    intro wc hwc
    refine Goes.adv hTT 400 rfl ?_
    have hyR' : y'.R = y0.R := hK.1.trans hP8.R
    have hPa := hP9.grow hwa
    have hPb := hPa.far hsb (fun z hz => ⟨by rw [hz]; exact hext hyR' (by omega) hG1 (kd_cells (hwa.heap' hzn)), by omega⟩) (hG2.mono (fun z e => e))
    have hPc := hPb.grow hwc
    have hxb9 := hw9.heap hP8.box hP8.nf
    have hSac : w9.heap.size ≤ wc.heap.size := by have := hwa.size; have := hsb.size; have := hwc.size; omega
    refine Goes.loads hTT rfl (hwc.heap' hnbb) rfl rfl ?_
    have hxbc := hwc.heap' (hsb.heap (hwa.heap' hxb9) (by omega))
    refine Goes.store hTT rfl hxbc rfl rfl ?_
    intro wd hxbd hsd hzd
    refine Goes.adv hTT 400 rfl ?_
    replace hxbd : plyBox wd xb y' := hxbd
    have hnfx : ¬ F' xb := fun hz => (hF' xb hz).elim hP8.nf (fun g => by omega)
    have hox := hK.2.2 (fun z => z = xb) (fun z hz => by omega) hP8.out
    have hPd := hPc.far hsd (fun z hz => ⟨by rw [hz]; exact hext hyR' (by omega) hnfx (kd_cells hxbc), by omega⟩) hox
    have hstd : PlySt c w3 wd y0.R xb (i + 1) y' F' M' := ⟨hPd, hxbd, hnfx, hox, hyR', by replace hps' : y'.ps.length ≤ y.ps.length + 1 := hps'; omega, by replace htt : M'.tot ≤ M.tot + 6000 := htt; omega⟩
    have hSd : w7.heap.size ≤ wd.heap.size := by have := hw9.size; have := hsd.size; omega
    refine Goes.no hTT rfl rfl rfl ?_
    refine Goes.loads hTT rfl hxbd rfl rfl ?_
    refine Goes.call rfl (law20_same c w3 F' y' M' wd hPd) ?_
    rintro _ we ⟨rfl, hwe⟩
    refine Goes.adv hTT 400 rfl ?_
    refine Goes.no hTT rfl rfl rfl ?_
    refine Goes.arith hTT rfl (w64 (by omega)) rfl ?_
    exact ih (i + 1) _ _ ⟨hlt, by have := hwe.size; omega, y', F', M', hstd.grow hwe⟩ (by omega) ⟨rfl, rfl, rfl, rfl, trivial⟩
  · refine Goes.yes hTT rfl rfl rfl ?_
    refine Goes.loads hTT rfl hP8.box rfl rfl ?_
    refine Goes.call rfl (law20_same c w3 F y M w8 hP8.ok) ?_
    rintro _ we ⟨rfl, hwe⟩
    refine Goes.adv hTT 400 rfl ?_
    exact Goes.ret1 hTT rfl Tryz.func5 rfl rfl ⟨rfl, (hw03.trans hP8.ok.chg).trans hwe⟩
set_option maxRecDepth 100000 in
theorem law_RoomFits (c : Conf) (p : ConfAt) (sa : Option Addr) (sc : Nat) (xs : List Act20) (size : Int) (w : World) (ht : TabAt w) (hc : ConfOk w c p) (hr : Rows act20L 5 w sa xs) (hl : xs.length ≤ 9223372036854775807) (hx : ∀ x ∈ xs, 0 ≤ x.kind ∧ x.kind < 256) :
    Does Tryz.prog 6 #[.agg (confL c p).toArray, .slice sa xs.length sc, .int .i64 size] w (Grow (.bool true) w) := by
  refine Does.enter Tryz.func6 rfl Tryz.ntmps6 rfl rfl ?_
  refine Goes.adv hTT 400 rfl ?_
  refine Goes.alloc hTT rfl ?_
  intro cb w1 e1 hcb hw1 hz1
  refine Goes.adv hTT 400 rfl ?_
  replace hcb : w1.heap[cb]? = some (.cells (confL c p).toArray 24 (0, 0)) := hcb
  refine Goes.call rfl (law20_awake w1 (ht.grow hw1)) ?_
  rintro _ w2 ⟨rfl, hw2⟩
  refine Goes.adv hTT 400 rfl ?_
  have hcb2 := hw2.heap' hcb
  have hw02 := hw1.trans hw2
  refine Goes.loads hTT rfl hcb2 rfl rfl ?_
  refine Goes.call rfl (ref03_Few c p w2 (hc.chg hw02)) ?_
  rintro _ w3 ⟨rfl, hw3⟩
  refine Goes.adv hTT 400 rfl ?_
  have hw03 := hw02.trans hw3
  have hcb3 := hw3.heap' hcb2
  cases hf : fewM c with
  | false =>
    refine Goes.yes hTT rfl rfl rfl ?_
    exact Goes.ret1 hTT rfl Tryz.func6 rfl rfl ⟨rfl, hw03⟩
  | true =>
  obtain ⟨hm, _, hpages⟩ := few_may hf
  refine Goes.no hTT rfl rfl rfl ?_
  refine Goes.fork hTT rfl rfl rfl (fun hl24 => ?_) (fun hl24 => ?_)
  · exact Goes.ret1 hTT rfl Tryz.func6 rfl rfl ⟨rfl, hw03⟩
  have hlen : xs.length ≤ 24 := by have := of_decide_eq_false hl24; omega
  refine Goes.loads hTT rfl hcb3 rfl rfl ?_
  refine Goes.call rfl (law20_begin c p w3 (ht.grow hw03) (hc.chg hw03) hm (by omega)) ?_
  rintro _ w5 ⟨y0, F0, rfl, hP0, hps0, hout0⟩
  refine Goes.adv hTT 400 rfl ?_
  refine Goes.alloc hTT rfl ?_
  intro xb w6 e6 hxb hw6 hz6
  refine Goes.adv hTT 400 rfl ?_
  refine Goes.store hTT rfl hxb rfl rfl ?_
  intro w7 hxb7 hs7 hz7
  refine Goes.adv hTT 400 rfl ?_
  replace hxb7 : plyBox w7 xb y0 := hxb7
  have hS1 := hw1.size
  have hS03 := hw03.size
  have hS35 := hP0.chg.size
  have hS6 := hw6.size
  have hw05 := hw03.trans hP0.chg
  have hw57 : Chg None' w5 w7 := hw6.since hs7 (fun z hz e => by omega)
  have hcb7 := hw57.heap' (hP0.chg.heap' hcb3)
  have hext : ∀ {F : Nat → Prop} {w' : World} {y : Ply} {b : Nat}, y.R = y0.R → w5.heap.size ≤ b → ¬ F b → kd w' b = some (some 37) → Ext F w' y.R b := fun hR hb hF hk => by rw [hR]; exact Ext.young hP0.st hb hF hk (by decide)
  have hnF0 : ¬ F0 xb := fun hz => by have := hP0.st.low _ hz; omega
  have hP7 : PlySt c w3 w7 y0.R xb 0 y0 F0 (newRm c 0) := ⟨((hP0.grow hw6).far hs7 (fun z hz => ⟨by rw [hz]; exact hext rfl (by omega) hnF0 (kd_cells hxb), by omega⟩) (hP0.young (fun z hz => by omega))), hxb7, hnF0, hP0.young (fun z hz => by omega), rfl, by rw [hps0]; exact Nat.le_refl _, by show (0 : Int) ≤ _; omega⟩
  have hcb0 : cb < w5.heap.size := by have := lt_of_heap hcb3; omega
  refine Goes.loop (α := Nat) (fun i => [(1, false, .slice sa xs.length sc), (2, false, .int .i64 size), (7, false, .bool true), (8, false, .pointer (some ⟨xb, 0, none⟩)), (9, false, .int .i64 i)])
    (fun i w' => i ≤ xs.length ∧ w7.heap.size ≤ w'.heap.size ∧ ∃ y F M, PlySt c w3 w' y0.R xb i y F M) (fun i => xs.length - i) 0 ⟨rfl, rfl, rfl, rfl, rfl, trivial⟩ ⟨Nat.zero_le _, Nat.le_refl _, y0, F0, _, hP7⟩ ?_
  rintro i w8 ⟨hi, hS78, y, F, M, hP8⟩ ih
  refine Goes.adv hTT 400 rfl ?_
  refine Goes.fork hTT rfl rfl rfl (fun hc2 => ?_) (fun hc2 => ?_)
  · have hlt : i < xs.length := by have := of_decide_eq_true hc2; omega
    obtain ⟨ub, uoff, rfl, hcell⟩ := hr.at hlt
    have hxok := hx _ (List.getElem_mem hlt)
    have htot := hP8.tot
    have hps := hP8.ps
    have hw08 := hw03.trans hP8.ok.chg
    have hlxb := lt_of_heap hP8.box
    have hlow8 := hP8.ok.st.low
    have hnf8 := hP8.nf
    have hub8 : ub < w.heap.size := World.block_lt_of_cell? w _ (hcell 0 _ rfl)
    have hnub : ¬ F ub := fun hz => by have := hP8.ok.low _ hz; omega
    refine Goes.drawn (q := 11) F hTT mixed (by kernel_rfl) rfl ?_
    intro hB
    refine Drawn.loads hTT hB rfl hP8.box (by first | exact fun h => h | (intro h; omega) | assumption) rfl rfl ?_
    refine Drawn.index hTT hB rfl (j := (i * 5)) (by omega) (by omega) (by first | rfl | omega | (simp; done) | (simp; omega)) rfl ?_
    refine Drawn.loadC hTT hB (act20L xs[i]) rfl (by first | rfl | (simp; done) | (simp [*]; done) | (simp; omega)) ((fun j v hv => below_cell hw08.below (hcell j v hv))) (by first | exact fun h => h | (intro h; omega) | assumption) rfl ?_
    refine Drawn.callAllocG (plyF) (plyQ c w3 w8 F y M) (plyG) hTT hB rfl rfl rfl (fun _ => rfl) rfl (fun _ => rfl) (fun _ => rfl) rfl rfl (fun _ _ => rfl) rfl (fun _ _ => rfl) ((fun w' hw' => law20_doX hP8.ok hw' (by omega) hm (by omega) hxok)) ((fun x w2 w3 ⟨a1, a2⟩ hc => ⟨a1.grow hc, a2⟩)) (hlow8) ?_
    rintro nb ⟨y', F', M'⟩ w9 hnb hzn hw9 ⟨hP9, htt, hK, hps', hF'⟩ ⟨hG1, hG2⟩
    replace hP9 : PlyOk c w3 F' w9 y' M' M' := hP9
    replace hF' : ∀ z, F' z → F z ∨ w8.heap.size ≤ z := hF'
    refine Drawn.turn1 hB rfl ?_
    intro wa hwa
    refine Turn.store hTT hB rfl (hwa.heap' hzn) (by first | (intro h; exact rfl) | (intro h; omega)) rfl rfl rfl ?_
    intro wb hnbb hsb hzb
    replace hnbb : plyBox wb nb y' := hnbb
    refine Drawn.nil hB ?_
    intro wc hwc
    refine Goes.adv hTT 400 rfl ?_
    have hyR' : y'.R = y0.R := hK.1.trans hP8.R
    have hPa := hP9.grow hwa
    have hPb := hPa.far hsb (fun z hz => ⟨by rw [hz]; exact hext hyR' (by omega) hG1 (kd_cells (hwa.heap' hzn)), by omega⟩) (hG2.mono (fun z e => e))
    have hPc := hPb.grow hwc
    have hxb9 := hw9.heap hP8.box hP8.nf
    have hSac : w9.heap.size ≤ wc.heap.size := by have := hwa.size; have := hsb.size; have := hwc.size; omega
    refine Goes.loads hTT rfl (hwc.heap' hnbb) rfl rfl ?_
    have hxbc := hwc.heap' (hsb.heap (hwa.heap' hxb9) (by omega))
    refine Goes.store hTT rfl hxbc rfl rfl ?_
    intro wd hxbd hsd hzd
    refine Goes.adv hTT 400 rfl ?_
    replace hxbd : plyBox wd xb y' := hxbd
    have hnfx : ¬ F' xb := fun hz => (hF' xb hz).elim hP8.nf (fun g => by omega)
    have hox := hK.2.2 (fun z => z = xb) (fun z hz => by omega) hP8.out
    have hPd := hPc.far hsd (fun z hz => ⟨by rw [hz]; exact hext hyR' (by omega) hnfx (kd_cells hxbc), by omega⟩) hox
    have hstd : PlySt c w3 wd y0.R xb (i + 1) y' F' M' := ⟨hPd, hxbd, hnfx, hox, hyR', by replace hps' : y'.ps.length ≤ y.ps.length + 1 := hps'; omega, by replace htt : M'.tot ≤ M.tot + 6000 := htt; omega⟩
    have hSd : w7.heap.size ≤ wd.heap.size := by have := hw9.size; have := hsd.size; omega
    refine Goes.arith hTT rfl (w64 (by omega)) rfl ?_
    exact ih (i + 1) _ _ ⟨hlt, hSd, y', F', M', hstd⟩ (by omega) ⟨rfl, rfl, rfl, rfl, rfl, trivial⟩
  · have hmok := hP8.ok.st.mok
    have hok : M.Ok c := hP8.ok.rc ▸ hP8.ok.st.ok
    have hmf := may_facts hm
    have hy := hP8.ok
    have hw08 := hw03.trans hy.chg
    have dF := room_Fits hy.st size
    rw [hy.rc] at dF
    refine Goes.loadb hTT rfl hP8.box rfl rfl ?_
    refine Goes.call rfl (dF) ?_
    rintro _ w9 ⟨rfl, hw9⟩
    refine Goes.adv hTT 400 rfl ?_
    have hP9 := hP8.grow hw9
    have dR := ref20_Fits y.r M size w9 hP9.ok.rr (by rw [hy.cp, hy.rrc, ← hy.rc]; exact hP9.ok.st.cls.1) (by rw [hy.rrc]; exact hmf.n.2) (by rw [hy.rrc]; exact hmf.most.2)
    rw [hy.rrc] at dR
    refine Goes.loads hTT rfl hP9.box rfl rfl ?_
    refine Goes.call rfl (dR) ?_
    rintro _ wa ⟨rfl, hwa⟩
    refine Goes.adv hTT 400 rfl ?_
    have hPa := hP9.grow hwa
    have dP := room_Place hPa.ok.st 3 size
    rw [hy.rc] at dP
    refine Goes.loadb hTT rfl hPa.box rfl rfl ?_
    refine Goes.call rfl (dP) ?_
    rintro _ wb ⟨q, rfl, hq, F4, hR4, hF4, hc4, hqo, hqF, hqn⟩
    refine Goes.adv hTT 400 rfl ?_
    have hPb := hPa.ok.ahead hR4 hF4 hc4
    have hxbb := hc4.heap hPa.box hP8.nf
    refine Goes.alloc hTT rfl ?_
    intro qb wc eqb hqb hwc hzc
    refine Goes.adv hTT 400 rfl ?_
    refine Goes.store hTT rfl hqb rfl rfl ?_
    intro wd hqbd hsd hzd
    refine Goes.adv hTT 400 rfl ?_
    replace hqbd : wd.heap[qb]? = some (.cells (plcL q).toArray 47 (0, 0)) := hqbd
    have hwbd : Chg None' wb wd := hwc.since hsd (fun z hz e => by omega)
    have hPd := hPb.grow hwbd
    have hxbd := hwbd.heap' hxbb
    have hw0d := hw03.trans hPd.chg
    by_cases hE : rmFits c M size = 0
    · have hpl := fits_place (who := 3) (c := c) (M := M) (size := size) hok (by omega) hE
      rw [hE]
      refine Goes.no hTT rfl rfl rfl ?_
      have hh := place_held (c := c) (who := 3) (size := size) hmok hm
      refine Goes.drawn (q := 15) None' hTT mixed (by kernel_rfl) rfl ?_
      intro hB
      refine Drawn.yes hTT hB rfl rfl rfl ?_
      refine Drawn.yes hTT hB rfl rfl rfl ?_
      rw [hpl]
      refine Drawn.yes hTT hB rfl rfl rfl ?_
      refine Drawn.loadb hTT hB rfl hxbd (by first | exact fun h => h | (intro h; omega) | assumption) rfl rfl ?_
      refine Drawn.call hTT hB rfl (fun w' hw' => (room_Held (hPd.grow hw').st).grow) rfl ?_
      refine Drawn.loads hTT hB rfl hxbd (by first | exact fun h => h | (intro h; omega) | assumption) rfl rfl ?_
      refine Drawn.nil hB ?_
      intro we hwe
      refine Goes.adv hTT 400 rfl ?_
      refine Goes.call rfl (ref20_Held y.r M we (hPd.grow hwe).rr hmok.good) ?_
      rintro _ wf ⟨rfl, hwf⟩
      refine Goes.adv hTT 400 rfl ?_
      exact Goes.ret1 hTT rfl Tryz.func6 rfl rfl ⟨bool_v (decide_eq_true (by omega)), (hw0d.trans hwe).trans hwf⟩
    · have e1 : rmPlaceE c M 3 size = rmFits c M size := by unfold rmPlaceE; rw [if_neg (by omega), if_pos hE]
      have e2 : rmPlaceQ c M 3 size = ⟨0, 0, 0, []⟩ := by unfold rmPlaceQ; rw [if_neg (by omega), if_pos hE]
      have e3 : rmPlace c M 3 size = M := by unfold rmPlace; rw [if_neg (by omega), if_pos hE]
      rw [e1]
      rw [e3] at hPd
      rw [e2] at hq
      refine Goes.yes hTT rfl (by simpa using hE) rfl ?_
      refine Goes.yes hTT rfl rfl rfl ?_
      refine Goes.yes hTT rfl (beq_self_eq_true _) rfl ?_
      refine Goes.yes hTT rfl (beq_self_eq_true _) rfl ?_
      refine Goes.loads hTT rfl hqbd rfl rfl ?_
      refine Goes.build hTT rfl rfl ?_
      refine Goes.call rfl (law20_equal q ⟨0, 0, 0, none, 0, []⟩ wd ((hqo.rd.chg hwbd)) (Rd.nil _ _ _) hqo.len hq) ?_
      rintro _ we ⟨rfl, hwe⟩
      refine Goes.adv hTT 400 rfl ?_
      refine Goes.yes hTT rfl rfl rfl ?_
      refine Goes.loads hTT rfl (hwe.heap' hxbd) rfl rfl ?_
      refine Goes.call rfl (law20_same c w3 F4 y M we (hPd.grow hwe)) ?_
      rintro _ wf ⟨rfl, hwf⟩
      refine Goes.adv hTT 400 rfl ?_
      exact Goes.ret1 hTT rfl Tryz.func6 rfl rfl ⟨rfl, (hw0d.trans hwe).trans hwf⟩
theorem give_no {M : RmM} {k n i : Int} (h : rmGiveE M k n i ≠ 0) : rmGive M k n i = M := by
  unfold rmGiveE at h
  unfold rmGive
  cases hg : rmGet M k with
  | none => rfl
  | some x =>
    rw [hg] at h
    simp only at h ⊢
    rw [if_neg h]
theorem drop_no {M : RmM} {q : PlcM} (h : rmDropE M q ≠ 0) : rmDrop M q = M := by
  unfold rmDropE at h
  unfold rmDrop
  split
  · rename_i hc
    rw [if_pos hc] at h
    exact give_no h
  · rename_i hc
    rw [if_neg hc] at h
    cases hg : lgGet M.lg q.page with
    | none => rfl
    | some r =>
      rw [hg] at h
      simp only at h ⊢
      split
      · rename_i hr; rw [if_pos hr] at h; exact absurd rfl h
      · rfl
set_option maxRecDepth 100000 in
theorem law_RoomBack (c : Conf) (p : ConfAt) (sa : Option Addr) (sc : Nat) (xs : List Act20) (size : Int) (w : World) (ht : TabAt w) (hc : ConfOk w c p) (hr : Rows act20L 5 w sa xs) (hl : xs.length ≤ 9223372036854775807) (hx : ∀ x ∈ xs, 0 ≤ x.kind ∧ x.kind < 256) :
    Does Tryz.prog 4 #[.agg (confL c p).toArray, .slice sa xs.length sc, .int .i64 size] w (Grow (.bool true) w) := by
  refine Does.enter Tryz.func4 rfl Tryz.ntmps4 rfl rfl ?_
  refine Goes.adv hTT 400 rfl ?_
  refine Goes.alloc hTT rfl ?_
  intro cb w1 e1 hcb hw1 hz1
  refine Goes.adv hTT 400 rfl ?_
  replace hcb : w1.heap[cb]? = some (.cells (confL c p).toArray 24 (0, 0)) := hcb
  refine Goes.call rfl (law20_awake w1 (ht.grow hw1)) ?_
  rintro _ w2 ⟨rfl, hw2⟩
  refine Goes.adv hTT 400 rfl ?_
  have hcb2 := hw2.heap' hcb
  have hw02 := hw1.trans hw2
  refine Goes.loads hTT rfl hcb2 rfl rfl ?_
  refine Goes.call rfl (ref03_Few c p w2 (hc.chg hw02)) ?_
  rintro _ w3 ⟨rfl, hw3⟩
  refine Goes.adv hTT 400 rfl ?_
  have hw03 := hw02.trans hw3
  have hcb3 := hw3.heap' hcb2
  cases hf : fewM c with
  | false =>
    refine Goes.yes hTT rfl rfl rfl ?_
    exact Goes.ret1 hTT rfl Tryz.func4 rfl rfl ⟨rfl, hw03⟩
  | true =>
  obtain ⟨hm, _, hpages⟩ := few_may hf
  refine Goes.no hTT rfl rfl rfl ?_
  refine Goes.fork hTT rfl rfl rfl (fun hl24 => ?_) (fun hl24 => ?_)
  · exact Goes.ret1 hTT rfl Tryz.func4 rfl rfl ⟨rfl, hw03⟩
  have hlen : xs.length ≤ 24 := by have := of_decide_eq_false hl24; omega
  refine Goes.loads hTT rfl hcb3 rfl rfl ?_
  refine Goes.call rfl (law20_begin c p w3 (ht.grow hw03) (hc.chg hw03) hm (by omega)) ?_
  rintro _ w5 ⟨y0, F0, rfl, hP0, hps0, hout0⟩
  refine Goes.adv hTT 400 rfl ?_
  refine Goes.alloc hTT rfl ?_
  intro xb w6 e6 hxb hw6 hz6
  refine Goes.adv hTT 400 rfl ?_
  refine Goes.store hTT rfl hxb rfl rfl ?_
  intro w7 hxb7 hs7 hz7
  refine Goes.adv hTT 400 rfl ?_
  replace hxb7 : plyBox w7 xb y0 := hxb7
  have hS1 := hw1.size
  have hS03 := hw03.size
  have hS35 := hP0.chg.size
  have hS6 := hw6.size
  have hw05 := hw03.trans hP0.chg
  have hw57 : Chg None' w5 w7 := hw6.since hs7 (fun z hz e => by omega)
  have hcb7 := hw57.heap' (hP0.chg.heap' hcb3)
  have hext : ∀ {F : Nat → Prop} {w' : World} {y : Ply} {b : Nat}, y.R = y0.R → w5.heap.size ≤ b → ¬ F b → kd w' b = some (some 37) → Ext F w' y.R b := fun hR hb hF hk => by rw [hR]; exact Ext.young hP0.st hb hF hk (by decide)
  have hnF0 : ¬ F0 xb := fun hz => by have := hP0.st.low _ hz; omega
  have hP7 : PlySt c w3 w7 y0.R xb 0 y0 F0 (newRm c 0) := ⟨((hP0.grow hw6).far hs7 (fun z hz => ⟨by rw [hz]; exact hext rfl (by omega) hnF0 (kd_cells hxb), by omega⟩) (hP0.young (fun z hz => by omega))), hxb7, hnF0, hP0.young (fun z hz => by omega), rfl, by rw [hps0]; exact Nat.le_refl _, by show (0 : Int) ≤ _; omega⟩
  have hcb0 : cb < w5.heap.size := by have := lt_of_heap hcb3; omega
  refine Goes.loop (α := Nat) (fun i => [(1, false, .slice sa xs.length sc), (2, false, .int .i64 size), (3, false, .pointer (some ⟨cb, 0, none⟩)), (7, false, .bool true), (8, false, .pointer (some ⟨xb, 0, none⟩)), (9, false, .int .i64 i)])
    (fun i w' => i ≤ xs.length ∧ w7.heap.size ≤ w'.heap.size ∧ ∃ y F M, PlySt c w3 w' y0.R xb i y F M) (fun i => xs.length - i) 0 ⟨rfl, rfl, rfl, rfl, rfl, rfl, trivial⟩ ⟨Nat.zero_le _, Nat.le_refl _, y0, F0, _, hP7⟩ ?_
  rintro i w8 ⟨hi, hS78, y, F, M, hP8⟩ ih
  refine Goes.adv hTT 400 rfl ?_
  refine Goes.fork hTT rfl rfl rfl (fun hc2 => ?_) (fun hc2 => ?_)
  · have hlt : i < xs.length := by have := of_decide_eq_true hc2; omega
    obtain ⟨ub, uoff, rfl, hcell⟩ := hr.at hlt
    have hxok := hx _ (List.getElem_mem hlt)
    have htot := hP8.tot
    have hps := hP8.ps
    have hw08 := hw03.trans hP8.ok.chg
    have hlxb := lt_of_heap hP8.box
    have hlow8 := hP8.ok.st.low
    have hnf8 := hP8.nf
    have hub8 : ub < w.heap.size := World.block_lt_of_cell? w _ (hcell 0 _ rfl)
    have hnub : ¬ F ub := fun hz => by have := hP8.ok.low _ hz; omega
    refine Goes.drawn (q := 11) F hTT mixed (by kernel_rfl) rfl ?_
    intro hB
    refine Drawn.loads hTT hB rfl hP8.box (by first | exact fun h => h | (intro h; omega) | assumption) rfl rfl ?_
    refine Drawn.index hTT hB rfl (j := (i * 5)) (by omega) (by omega) (by first | rfl | omega | (simp; done) | (simp; omega)) rfl ?_
    refine Drawn.loadC hTT hB (act20L xs[i]) rfl (by first | rfl | (simp; done) | (simp [*]; done) | (simp; omega)) ((fun j v hv => below_cell hw08.below (hcell j v hv))) (by first | exact fun h => h | (intro h; omega) | assumption) rfl ?_
    refine Drawn.callAllocG (plyF) (plyQ c w3 w8 F y M) (plyG) hTT hB rfl rfl rfl (fun _ => rfl) rfl (fun _ => rfl) (fun _ => rfl) rfl rfl (fun _ _ => rfl) rfl (fun _ _ => rfl) ((fun w' hw' => law20_doX hP8.ok hw' (by omega) hm (by omega) hxok)) ((fun x w2 w3 ⟨a1, a2⟩ hc => ⟨a1.grow hc, a2⟩)) (hlow8) ?_
    rintro nb ⟨y', F', M'⟩ w9 hnb hzn hw9 ⟨hP9, htt, hK, hps', hF'⟩ ⟨hG1, hG2⟩
    replace hP9 : PlyOk c w3 F' w9 y' M' M' := hP9
    replace hF' : ∀ z, F' z → F z ∨ w8.heap.size ≤ z := hF'
    refine Drawn.turn1 hB rfl ?_
    intro wa hwa
    refine Turn.store hTT hB rfl (hwa.heap' hzn) (by first | (intro h; exact rfl) | (intro h; omega)) rfl rfl rfl ?_
    intro wb hnbb hsb hzb
    replace hnbb : plyBox wb nb y' := hnbb
    refine Drawn.nil hB ?_
    intro wc hwc
    refine Goes.adv hTT 400 rfl ?_
    have hyR' : y'.R = y0.R := hK.1.trans hP8.R
    have hPa := hP9.grow hwa
    have hPb := hPa.far hsb (fun z hz => ⟨by rw [hz]; exact hext hyR' (by omega) hG1 (kd_cells (hwa.heap' hzn)), by omega⟩) (hG2.mono (fun z e => e))
    have hPc := hPb.grow hwc
    have hxb9 := hw9.heap hP8.box hP8.nf
    have hSac : w9.heap.size ≤ wc.heap.size := by have := hwa.size; have := hsb.size; have := hwc.size; omega
    refine Goes.loads hTT rfl (hwc.heap' hnbb) rfl rfl ?_
    have hxbc := hwc.heap' (hsb.heap (hwa.heap' hxb9) (by omega))
    refine Goes.store hTT rfl hxbc rfl rfl ?_
    intro wd hxbd hsd hzd
    refine Goes.adv hTT 400 rfl ?_
    replace hxbd : plyBox wd xb y' := hxbd
    have hnfx : ¬ F' xb := fun hz => (hF' xb hz).elim hP8.nf (fun g => by omega)
    have hox := hK.2.2 (fun z => z = xb) (fun z hz => by omega) hP8.out
    have hPd := hPc.far hsd (fun z hz => ⟨by rw [hz]; exact hext hyR' (by omega) hnfx (kd_cells hxbc), by omega⟩) hox
    have hstd : PlySt c w3 wd y0.R xb (i + 1) y' F' M' := ⟨hPd, hxbd, hnfx, hox, hyR', by replace hps' : y'.ps.length ≤ y.ps.length + 1 := hps'; omega, by replace htt : M'.tot ≤ M.tot + 6000 := htt; omega⟩
    have hSd : w7.heap.size ≤ wd.heap.size := by have := hw9.size; have := hsd.size; omega
    refine Goes.arith hTT rfl (w64 (by omega)) rfl ?_
    exact ih (i + 1) _ _ ⟨hlt, hSd, y', F', M', hstd⟩ (by omega) ⟨rfl, rfl, rfl, rfl, rfl, rfl, trivial⟩
  · have hmok := hP8.ok.st.mok
    have hmpos := hP8.ok.st.mpos
    have hok : M.Ok c := hP8.ok.rc ▸ hP8.ok.st.ok
    have hmf := may_facts hm
    have hy := hP8.ok
    have hw08 := hw03.trans hy.chg
    have dP := room_Place hy.st 3 size
    rw [hy.rc] at dP
    refine Goes.loadb hTT rfl hP8.box rfl rfl ?_
    refine Goes.call rfl (dP) ?_
    rintro _ wb ⟨q, rfl, hq, F4, hR4, hF4, hc4, hqo, hqF, hqn⟩
    refine Goes.adv hTT 400 rfl ?_
    have hPb := hy.ahead hR4 hF4 hc4
    have hxbb := hc4.heap hP8.box hP8.nf
    have hcbF : ∀ {F : Nat → Prop}, (∀ z, F z → w3.heap.size ≤ z) → ¬ F cb := fun h hz => by have := h cb hz; have := lt_of_heap hcb3; omega
    have hcb8 := hy.chg.heap' hcb3
    have hcbb := hc4.heap hcb8 (hcbF hy.low)
    have hS8b := hc4.size
    refine Goes.alloc hTT rfl ?_
    intro qb wc eqb hqb hwc hzc
    refine Goes.adv hTT 400 rfl ?_
    refine Goes.store hTT rfl hqb rfl rfl ?_
    intro wd hqbd hsd hzd
    refine Goes.adv hTT 400 rfl ?_
    replace hqbd : wd.heap[qb]? = some (.cells (plcL q).toArray 47 (0, 0)) := hqbd
    have hwbd : Chg None' wb wd := hwc.since hsd (fun z hz e => by omega)
    have hPd := hPb.grow hwbd
    have hxbd := hwbd.heap' hxbb
    have hcbd := hwbd.heap' hcbb
    have hw0d := hw03.trans hPd.chg
    have hqbF4 : ¬ F4 qb := fun hz => by have := hR4.low _ hz; omega
    by_cases hE : rmPlaceE c M 3 size = 0
    · have hBF := back_place hok hmok hmpos hm (by omega) hE
      rw [hE]
      refine Goes.no hTT rfl rfl rfl ?_
      have hh := place_held (c := c) (who := 3) (size := size) hmok hm
      have hb1 := heldM_le hmok.good
      have hb2 := heldM_le hR4.mok.good
      refine Goes.drawn (q := 5) None' hTT mixed (by kernel_rfl) rfl ?_
      intro hB
      refine Drawn.loadb hTT hB rfl hxbd (by first | exact fun h => h | (intro h; omega) | assumption) rfl rfl ?_
      refine Drawn.call hTT hB rfl (fun w' hw' => (room_Held (hPd.grow hw').st).grow) rfl ?_
      refine Drawn.loads hTT hB rfl hxbd (by first | exact fun h => h | (intro h; omega) | assumption) rfl rfl ?_
      refine Drawn.nil hB ?_
      intro we hwe
      refine Goes.adv hTT 400 rfl ?_
      refine Goes.call rfl (ref20_Held y.r M we (hPd.grow hwe).rr hmok.good) ?_
      rintro _ wf ⟨rfl, hwf⟩
      refine Goes.adv hTT 400 rfl ?_
      refine Goes.arith hTT rfl (w64 (by omega)) rfl ?_
      have hwdf := hwe.trans hwf
      have hPf := hPd.grow hwdf
      have hxbf := hwdf.heap' hxbd
      have hcbf := hwdf.heap' hcbd
      have hqbf := hwdf.heap' hqbd
      have hqcls : q.cls = (rmPlaceQ c M 3 size).cls := congrArg PlcM.cls hq
      have hw0f := hw0d.trans hwdf
      have hqf : PlcOk wf q := (hqo.grow hwbd).grow hwdf
      obtain ⟨b1, b2, b3, b4, b5, b6⟩ := hBF
      have dD := room_Drop hPf.st q hqf
      rw [hq, b1] at dD
      rcases b6 with ⟨m1, m2⟩ | ⟨m1, m2, m3, m4⟩
      · refine Goes.yes hTT rfl (decide_eq_true (by omega)) rfl ?_
        refine Goes.loadb hTT rfl hqbf rfl rfl ?_
        refine Goes.yes hTT rfl (by rw [hqcls]; exact decide_eq_true m2) rfl ?_
        refine Goes.loadb hTT rfl hxbf rfl rfl ?_
        refine Goes.loads hTT rfl hqbf rfl rfl ?_
        refine Goes.call rfl (dD) ?_
        rintro _ wg ⟨rfl, F5, hR5, hF5, hc5⟩
        refine Goes.adv hTT 400 rfl ?_
        have hPg := hPf.ahead hR5 hF5 hc5
        have hSdf := hwdf.size
        have hxbF4 : ¬ F4 xb := fun hz => (hF4 xb hz).elim hP8.nf (fun g => by have := lt_of_heap hP8.box; omega)
        have hcbF4 : ¬ F4 cb := fun hz => (hF4 cb hz).elim (hcbF hy.low) (fun g => by have := lt_of_heap hcb8; omega)
        have hxbg := hc5.heap hxbf hxbF4
        have hqbg := hc5.heap hqbf hqbF4
        have hcbg := hc5.heap hcbf hcbF4
        have hqF4 : OutA F4 q.pa := hqF
        have hqg : PlcOk wg q := ⟨hqf.rd.far hqF4 hc5, hqf.len⟩
        have dE := room_Drop hPg.st q hqg
        rw [hq] at dE
        have hE2 : rmDropE (rmDrop (rmPlace c M 3 size) (rmPlaceQ c M 3 size)) (rmPlaceQ c M 3 size) ≠ 0 := b2
        have hM2 : rmDrop (rmDrop (rmPlace c M 3 size) (rmPlaceQ c M 3 size)) (rmPlaceQ c M 3 size) = rmDrop (rmPlace c M 3 size) (rmPlaceQ c M 3 size) := drop_no hE2
        rw [hM2] at dE
        refine Goes.loadb hTT rfl hxbg rfl rfl ?_
        refine Goes.loads hTT rfl hqbg rfl rfl ?_
        refine Goes.call rfl (dE) ?_
        rintro _ wh ⟨rfl, F6, hR6, hF6, hc6⟩
        refine Goes.adv hTT 400 rfl ?_
        have hPh := hPg.ahead hR6 hF6 hc6
        have hxbF5 : ¬ F5 xb := fun hz => (hF5 xb hz).elim hxbF4 (fun g => by have := lt_of_heap hxbf; omega)
        have hcbF5 : ¬ F5 cb := fun hz => (hF5 cb hz).elim hcbF4 (fun g => by have := lt_of_heap hcbf; omega)
        have hxbh := hc6.heap hxbg hxbF5
        have hnn := hmf.n
        have hcbh := hc6.heap hcbg hcbF5
        refine Goes.loop (α := Nat) (fun i => [(3, false, .pointer (some ⟨cb, 0, none⟩)), (7, false, .bool true), (8, false, .pointer (some ⟨xb, 0, none⟩)), (15, false, .bool true), (16, false, .int .i64 0), (17, false, .int .i64 (rmDropE (rmDrop (rmPlace c M 3 size) (rmPlaceQ c M 3 size)) (rmPlaceQ c M 3 size))), (18, false, .int .i64 i)])
          (fun i w' => i ≤ c.classes.length ∧ Chg None' wh w') (fun i => c.classes.length - i) 0 ⟨rfl, rfl, rfl, bool_s rfl, rfl, rfl, rfl, trivial⟩ ⟨Nat.zero_le _, Chg.refl _ _⟩ ?_
        rintro j wi ⟨hj, hwi⟩ ih2
        have hxbi := hwi.heap' hxbh
        have hcbi := hwi.heap' hcbh
        have hPi := hPh.grow hwi
        refine Goes.adv hTT 400 rfl ?_
        refine Goes.loadb hTT rfl hcbi rfl rfl ?_
        refine Goes.fork hTT rfl rfl rfl (fun hc3 => ?_) (fun hc3 => ?_)
        · have hltj : j < c.classes.length := by have := of_decide_eq_true hc3; omega
          have dO : ∀ {w' : World}, Chg None' wi w' → Does Tryz.prog 17 #[rmV y.R, .int .i64 (j : Nat)] w' (Same (.int .i64 (rmOpen M (j : Nat) : Nat)) w') := fun h => by have := room_Open (hPi.grow h).st (j : Nat); rw [b3] at this; exact this
          have dU : ∀ {w' : World}, Chg None' wi w' → Does Tryz.prog 19 #[rmV y.R, .int .i64 (j : Nat)] w' (Same (.int .i64 (rmUsed M (j : Nat) : Nat)) w') := fun h => by have := room_Used (hPi.grow h).st (j : Nat); rw [b4] at this; exact this
          refine Goes.drawn (q := 17) None' hTT mixed (by kernel_rfl) rfl ?_
          intro hB
          refine Drawn.loadb hTT hB rfl hxbi (by first | exact fun h => h | (intro h; omega) | assumption) rfl rfl ?_
          refine Drawn.call hTT hB rfl (fun w' hw' => (dO hw').grow) rfl ?_
          refine Drawn.loads hTT hB rfl hxbi (by first | exact fun h => h | (intro h; omega) | assumption) rfl rfl ?_
          refine Drawn.call hTT hB rfl (fun w' hw' => ref20_Open y.r M _ w' (hPi.grow hw').rr) rfl ?_
          refine Drawn.no hTT hB rfl (bne_self_eq_false _) rfl ?_
          refine Drawn.loadb hTT hB rfl hxbi (by first | exact fun h => h | (intro h; omega) | assumption) rfl rfl ?_
          refine Drawn.call hTT hB rfl (fun w' hw' => (dU hw').grow) rfl ?_
          refine Drawn.loads hTT hB rfl hxbi (by first | exact fun h => h | (intro h; omega) | assumption) rfl rfl ?_
          refine Drawn.nil hB ?_
          intro wj hwj
          refine Goes.adv hTT 400 rfl ?_
          refine Goes.call rfl (ref20_Used y.r M _ wj (hPi.grow hwj).rr hmok) ?_
          rintro _ wk ⟨rfl, hwk⟩
          refine Goes.adv hTT 400 rfl ?_
          refine Goes.no hTT rfl (bne_self_eq_false _) rfl ?_
          refine Goes.arith hTT rfl (w64 (by omega)) rfl ?_
          exact ih2 (j + 1) _ _ ⟨hltj, (hwi.trans hwj).trans hwk⟩ (by omega) ⟨rfl, rfl, rfl, rfl, rfl, rfl, rfl, trivial⟩
        · have dH : ∀ {w' : World}, Chg None' wi w' → Does Tryz.prog 11 #[rmV y.R] w' (Same (.int .i64 (heldM M.pl : Nat)) w') := fun h => by have := room_Held (hPi.grow h).st; rw [b5] at this; exact this
          refine Goes.drawn (q := 18) None' hTT mixed (by kernel_rfl) rfl ?_
          intro hB
          refine Drawn.yes hTT hB rfl rfl rfl ?_
          refine Drawn.yes hTT hB rfl rfl rfl ?_
          refine Drawn.yes hTT hB rfl rfl rfl ?_
          refine Drawn.yes hTT hB rfl (by simpa using hE2) rfl ?_
          refine Drawn.loadb hTT hB rfl hxbi (by first | exact fun h => h | (intro h; omega) | assumption) rfl rfl ?_
          refine Drawn.call hTT hB rfl (fun w' hw' => (dH hw').grow) rfl ?_
          refine Drawn.loads hTT hB rfl hxbi (by first | exact fun h => h | (intro h; omega) | assumption) rfl rfl ?_
          refine Drawn.nil hB ?_
          intro wj hwj
          refine Goes.adv hTT 400 rfl ?_
          refine Goes.call rfl (ref20_Held y.r M wj (hPi.grow hwj).rr hmok.good) ?_
          rintro _ wk ⟨rfl, hwk⟩
          refine Goes.adv hTT 400 rfl ?_
          exact Goes.ret1 hTT rfl Tryz.func4 rfl rfl ⟨bool_v (beq_self_eq_true _), ((hw03.trans hPi.chg).trans hwj).trans hwk⟩
      · refine Goes.no hTT rfl (decide_eq_false (by omega)) rfl ?_
        refine Goes.loadb hTT rfl hcbf rfl rfl ?_
        have hmo := hmf.most
        refine Goes.call rfl (ref16_All size c.size wf (by omega)) ?_
        rintro _ _ ⟨rfl, rfl⟩
        refine Goes.adv hTT 400 rfl ?_
        refine Goes.yes hTT rfl (by rw [m1]; simp; omega) rfl ?_
        refine Goes.loadb hTT rfl hqbf rfl rfl ?_
        refine Goes.loadb hTT rfl hxbf rfl rfl ?_
        refine Goes.loads hTT rfl hqbf rfl rfl ?_
        refine Goes.call rfl (dD) ?_
        rintro _ wg ⟨rfl, F5, hR5, hF5, hc5⟩
        refine Goes.adv hTT 400 rfl ?_
        have hPg := hPf.ahead hR5 hF5 hc5
        have hSdf := hwdf.size
        have hxbF4 : ¬ F4 xb := fun hz => (hF4 xb hz).elim hP8.nf (fun g => by have := lt_of_heap hP8.box; omega)
        have hcbF4 : ¬ F4 cb := fun hz => (hF4 cb hz).elim (hcbF hy.low) (fun g => by have := lt_of_heap hcb8; omega)
        have hxbg := hc5.heap hxbf hxbF4
        have hqbg := hc5.heap hqbf hqbF4
        have hcbg := hc5.heap hcbf hcbF4
        have hqF4 : OutA F4 q.pa := hqF
        have hqg : PlcOk wg q := ⟨hqf.rd.far hqF4 hc5, hqf.len⟩
        have dE := room_Drop hPg.st q hqg
        rw [hq] at dE
        have hE2 : rmDropE (rmDrop (rmPlace c M 3 size) (rmPlaceQ c M 3 size)) (rmPlaceQ c M 3 size) ≠ 0 := b2
        have hM2 : rmDrop (rmDrop (rmPlace c M 3 size) (rmPlaceQ c M 3 size)) (rmPlaceQ c M 3 size) = rmDrop (rmPlace c M 3 size) (rmPlaceQ c M 3 size) := drop_no hE2
        rw [hM2] at dE
        refine Goes.loadb hTT rfl hxbg rfl rfl ?_
        refine Goes.loads hTT rfl hqbg rfl rfl ?_
        refine Goes.call rfl (dE) ?_
        rintro _ wh ⟨rfl, F6, hR6, hF6, hc6⟩
        refine Goes.adv hTT 400 rfl ?_
        have hPh := hPg.ahead hR6 hF6 hc6
        have hxbF5 : ¬ F5 xb := fun hz => (hF5 xb hz).elim hxbF4 (fun g => by have := lt_of_heap hxbf; omega)
        have hcbF5 : ¬ F5 cb := fun hz => (hF5 cb hz).elim hcbF4 (fun g => by have := lt_of_heap hcbf; omega)
        have hxbh := hc6.heap hxbg hxbF5
        have hnn := hmf.n
        have hcbh := hc6.heap hcbg hcbF5
        refine Goes.loop (α := Nat) (fun i => [(3, false, .pointer (some ⟨cb, 0, none⟩)), (7, false, .bool true), (8, false, .pointer (some ⟨xb, 0, none⟩)), (15, false, .bool true), (16, false, .int .i64 0), (17, false, .int .i64 (rmDropE (rmDrop (rmPlace c M 3 size) (rmPlaceQ c M 3 size)) (rmPlaceQ c M 3 size))), (18, false, .int .i64 i)])
          (fun i w' => i ≤ c.classes.length ∧ Chg None' wh w') (fun i => c.classes.length - i) 0 ⟨rfl, rfl, rfl, bool_s (by rw [hqcls, m2]; rfl), rfl, rfl, rfl, trivial⟩ ⟨Nat.zero_le _, Chg.refl _ _⟩ ?_
        rintro j wi ⟨hj, hwi⟩ ih2
        have hxbi := hwi.heap' hxbh
        have hcbi := hwi.heap' hcbh
        have hPi := hPh.grow hwi
        refine Goes.adv hTT 400 rfl ?_
        refine Goes.loadb hTT rfl hcbi rfl rfl ?_
        refine Goes.fork hTT rfl rfl rfl (fun hc3 => ?_) (fun hc3 => ?_)
        · have hltj : j < c.classes.length := by have := of_decide_eq_true hc3; omega
          have dO : ∀ {w' : World}, Chg None' wi w' → Does Tryz.prog 17 #[rmV y.R, .int .i64 (j : Nat)] w' (Same (.int .i64 (rmOpen M (j : Nat) : Nat)) w') := fun h => by have := room_Open (hPi.grow h).st (j : Nat); rw [b3] at this; exact this
          have dU : ∀ {w' : World}, Chg None' wi w' → Does Tryz.prog 19 #[rmV y.R, .int .i64 (j : Nat)] w' (Same (.int .i64 (rmUsed M (j : Nat) : Nat)) w') := fun h => by have := room_Used (hPi.grow h).st (j : Nat); rw [b4] at this; exact this
          refine Goes.drawn (q := 17) None' hTT mixed (by kernel_rfl) rfl ?_
          intro hB
          refine Drawn.loadb hTT hB rfl hxbi (by first | exact fun h => h | (intro h; omega) | assumption) rfl rfl ?_
          refine Drawn.call hTT hB rfl (fun w' hw' => (dO hw').grow) rfl ?_
          refine Drawn.loads hTT hB rfl hxbi (by first | exact fun h => h | (intro h; omega) | assumption) rfl rfl ?_
          refine Drawn.call hTT hB rfl (fun w' hw' => ref20_Open y.r M _ w' (hPi.grow hw').rr) rfl ?_
          refine Drawn.no hTT hB rfl (bne_self_eq_false _) rfl ?_
          refine Drawn.loadb hTT hB rfl hxbi (by first | exact fun h => h | (intro h; omega) | assumption) rfl rfl ?_
          refine Drawn.call hTT hB rfl (fun w' hw' => (dU hw').grow) rfl ?_
          refine Drawn.loads hTT hB rfl hxbi (by first | exact fun h => h | (intro h; omega) | assumption) rfl rfl ?_
          refine Drawn.nil hB ?_
          intro wj hwj
          refine Goes.adv hTT 400 rfl ?_
          refine Goes.call rfl (ref20_Used y.r M _ wj (hPi.grow hwj).rr hmok) ?_
          rintro _ wk ⟨rfl, hwk⟩
          refine Goes.adv hTT 400 rfl ?_
          refine Goes.no hTT rfl (bne_self_eq_false _) rfl ?_
          refine Goes.arith hTT rfl (w64 (by omega)) rfl ?_
          exact ih2 (j + 1) _ _ ⟨hltj, (hwi.trans hwj).trans hwk⟩ (by omega) ⟨rfl, rfl, rfl, rfl, rfl, rfl, rfl, trivial⟩
        · have dH : ∀ {w' : World}, Chg None' wi w' → Does Tryz.prog 11 #[rmV y.R] w' (Same (.int .i64 (heldM M.pl : Nat)) w') := fun h => by have := room_Held (hPi.grow h).st; rw [b5] at this; exact this
          refine Goes.drawn (q := 18) None' hTT mixed (by kernel_rfl) rfl ?_
          intro hB
          refine Drawn.yes hTT hB rfl rfl rfl ?_
          refine Drawn.yes hTT hB rfl rfl rfl ?_
          refine Drawn.yes hTT hB rfl rfl rfl ?_
          refine Drawn.yes hTT hB rfl (by simpa using hE2) rfl ?_
          refine Drawn.loadb hTT hB rfl hxbi (by first | exact fun h => h | (intro h; omega) | assumption) rfl rfl ?_
          refine Drawn.call hTT hB rfl (fun w' hw' => (dH hw').grow) rfl ?_
          refine Drawn.loads hTT hB rfl hxbi (by first | exact fun h => h | (intro h; omega) | assumption) rfl rfl ?_
          refine Drawn.nil hB ?_
          intro wj hwj
          refine Goes.adv hTT 400 rfl ?_
          refine Goes.call rfl (ref20_Held y.r M wj (hPi.grow hwj).rr hmok.good) ?_
          rintro _ wk ⟨rfl, hwk⟩
          refine Goes.adv hTT 400 rfl ?_
          exact Goes.ret1 hTT rfl Tryz.func4 rfl rfl ⟨bool_v (beq_self_eq_true _), ((hw03.trans hPi.chg).trans hwj).trans hwk⟩
    · refine Goes.yes hTT rfl (by simpa using hE) rfl ?_
      exact Goes.ret1 hTT rfl Tryz.func4 rfl rfl ⟨rfl, hw0d⟩
theorem ref08_Owner_none (r : RP) (w : World) : Does Tryz.prog 12 #[.agg (rpL r).toArray, .int .i64 (-1)] w (Grow (.int .i64 (-1)) w) := by
  refine Does.enter Tryz.func12 rfl Tryz.ntmps12 rfl rfl ?_
  refine Goes.adv hTT 400 rfl ?_
  refine Goes.alloc hTT rfl ?_
  intro b w1 e1 hb hw1 hz1
  refine Goes.adv hTT 400 rfl ?_
  refine Goes.yes hTT rfl rfl rfl ?_
  exact Goes.ret1 hTT rfl Tryz.func12 rfl rfl ⟨rfl, hw1⟩
theorem shMany_take {l : List Sm} {k : Nat} {x : Sm} (h : l[k]? = some x) : shMany (l.take (k + 1)) = shMany (l.take k) + x.pg.length := by
  obtain ⟨hk, e⟩ := List.getElem?_eq_some_iff.1 h
  unfold shMany
  rw [List.take_add_one, h, List.map_append, List.sum_append]
  simp
theorem shMany_le : ∀ (l : List Sm) (k : Nat), shMany (l.take k) ≤ shMany l
  | [], k => by simp
  | a :: r, 0 => by simp [shMany]
  | a :: r, k + 1 => by
    have := shMany_le r k
    unfold shMany at *
    simp only [List.take_succ_cons, List.map_cons, List.sum_cons]
    omega
theorem lgMany_take {l : List (Nat × List Nat)} {k : Nat} {x : Nat × List Nat} (h : l[k]? = some x) : lgMany (l.take (k + 1)) = lgMany (l.take k) + (x.2.length + 1) := by
  unfold lgMany
  rw [List.take_add_one, h, List.map_append, List.sum_append]
  simp
theorem lgMany_le : ∀ (l : List (Nat × List Nat)) (k : Nat), lgMany (l.take k) ≤ lgMany l
  | [], k => by simp
  | a :: r, 0 => by simp [lgMany]
  | a :: r, k + 1 => by
    have := lgMany_le r k
    unfold lgMany at *
    simp only [List.take_succ_cons, List.map_cons, List.sum_cons]
    omega
set_option maxRecDepth 100000 in
theorem law_RoomHeld (c : Conf) (p : ConfAt) (sa : Option Addr) (sc : Nat) (xs : List Act20) (w : World) (ht : TabAt w) (hc : ConfOk w c p) (hr : Rows act20L 5 w sa xs) (hl : xs.length ≤ 9223372036854775807) (hx : ∀ x ∈ xs, 0 ≤ x.kind ∧ x.kind < 256) :
    Does Tryz.prog 3 #[.agg (confL c p).toArray, .slice sa xs.length sc] w (Grow (.bool true) w) := by
  refine Does.enter Tryz.func3 rfl Tryz.ntmps3 rfl rfl ?_
  refine Goes.adv hTT 400 rfl ?_
  refine Goes.alloc hTT rfl ?_
  intro cb w1 e1 hcb hw1 hz1
  refine Goes.adv hTT 400 rfl ?_
  replace hcb : w1.heap[cb]? = some (.cells (confL c p).toArray 24 (0, 0)) := hcb
  refine Goes.call rfl (law20_awake w1 (ht.grow hw1)) ?_
  rintro _ w2 ⟨rfl, hw2⟩
  refine Goes.adv hTT 400 rfl ?_
  have hcb2 := hw2.heap' hcb
  have hw02 := hw1.trans hw2
  refine Goes.loads hTT rfl hcb2 rfl rfl ?_
  refine Goes.call rfl (ref03_Few c p w2 (hc.chg hw02)) ?_
  rintro _ w3 ⟨rfl, hw3⟩
  refine Goes.adv hTT 400 rfl ?_
  have hw03 := hw02.trans hw3
  have hcb3 := hw3.heap' hcb2
  cases hf : fewM c with
  | false =>
    refine Goes.yes hTT rfl rfl rfl ?_
    exact Goes.ret1 hTT rfl Tryz.func3 rfl rfl ⟨rfl, hw03⟩
  | true =>
  obtain ⟨hm, _, hpages⟩ := few_may hf
  refine Goes.no hTT rfl rfl rfl ?_
  refine Goes.fork hTT rfl rfl rfl (fun hl24 => ?_) (fun hl24 => ?_)
  · exact Goes.ret1 hTT rfl Tryz.func3 rfl rfl ⟨rfl, hw03⟩
  have hlen : xs.length ≤ 24 := by have := of_decide_eq_false hl24; omega
  refine Goes.loads hTT rfl hcb3 rfl rfl ?_
  refine Goes.call rfl (law20_begin c p w3 (ht.grow hw03) (hc.chg hw03) hm (by omega)) ?_
  rintro _ w5 ⟨y0, F0, rfl, hP0, hps0, hout0⟩
  refine Goes.adv hTT 400 rfl ?_
  refine Goes.alloc hTT rfl ?_
  intro xb w6 e6 hxb hw6 hz6
  refine Goes.adv hTT 400 rfl ?_
  refine Goes.store hTT rfl hxb rfl rfl ?_
  intro w7 hxb7 hs7 hz7
  refine Goes.adv hTT 400 rfl ?_
  replace hxb7 : plyBox w7 xb y0 := hxb7
  have hS1 := hw1.size
  have hS03 := hw03.size
  have hS35 := hP0.chg.size
  have hS6 := hw6.size
  have hw05 := hw03.trans hP0.chg
  have hw57 : Chg None' w5 w7 := hw6.since hs7 (fun z hz e => by omega)
  have hcb7 := hw57.heap' (hP0.chg.heap' hcb3)
  have hext : ∀ {F : Nat → Prop} {w' : World} {y : Ply} {b : Nat}, y.R = y0.R → w5.heap.size ≤ b → ¬ F b → kd w' b = some (some 37) → Ext F w' y.R b := fun hR hb hF hk => by rw [hR]; exact Ext.young hP0.st hb hF hk (by decide)
  have hnF0 : ¬ F0 xb := fun hz => by have := hP0.st.low _ hz; omega
  have hP7 : PlySt c w3 w7 y0.R xb 0 y0 F0 (newRm c 0) := ⟨((hP0.grow hw6).far hs7 (fun z hz => ⟨by rw [hz]; exact hext rfl (by omega) hnF0 (kd_cells hxb), by omega⟩) (hP0.young (fun z hz => by omega))), hxb7, hnF0, hP0.young (fun z hz => by omega), rfl, by rw [hps0]; exact Nat.le_refl _, by show (0 : Int) ≤ _; omega⟩
  have hcb0 : cb < w5.heap.size := by have := lt_of_heap hcb3; omega
  refine Goes.loop (α := Nat) (fun i => [(1, false, .slice sa xs.length sc), (2, false, .pointer (some ⟨cb, 0, none⟩)), (5, false, .bool true), (6, false, .pointer (some ⟨xb, 0, none⟩)), (7, false, .int .i64 i)])
    (fun i w' => i ≤ xs.length ∧ w7.heap.size ≤ w'.heap.size ∧ ∃ y F M, PlySt c w3 w' y0.R xb i y F M) (fun i => xs.length - i) 0 ⟨rfl, rfl, rfl, rfl, rfl, trivial⟩ ⟨Nat.zero_le _, Nat.le_refl _, y0, F0, _, hP7⟩ ?_
  rintro i w8 ⟨hi, hS78, y, F, M, hP8⟩ ih
  refine Goes.adv hTT 400 rfl ?_
  refine Goes.fork hTT rfl rfl rfl (fun hc2 => ?_) (fun hc2 => ?_)
  · have hlt : i < xs.length := by have := of_decide_eq_true hc2; omega
    obtain ⟨ub, uoff, rfl, hcell⟩ := hr.at hlt
    have hxok := hx _ (List.getElem_mem hlt)
    have htot := hP8.tot
    have hps := hP8.ps
    have hw08 := hw03.trans hP8.ok.chg
    have hlxb := lt_of_heap hP8.box
    have hlow8 := hP8.ok.st.low
    have hnf8 := hP8.nf
    have hub8 : ub < w.heap.size := World.block_lt_of_cell? w _ (hcell 0 _ rfl)
    have hnub : ¬ F ub := fun hz => by have := hP8.ok.low _ hz; omega
    refine Goes.drawn (q := 11) F hTT mixed (by kernel_rfl) rfl ?_
    intro hB
    refine Drawn.loads hTT hB rfl hP8.box (by first | exact fun h => h | (intro h; omega) | assumption) rfl rfl ?_
    refine Drawn.index hTT hB rfl (j := (i * 5)) (by omega) (by omega) (by first | rfl | omega | (simp; done) | (simp; omega)) rfl ?_
    refine Drawn.loadC hTT hB (act20L xs[i]) rfl (by first | rfl | (simp; done) | (simp [*]; done) | (simp; omega)) ((fun j v hv => below_cell hw08.below (hcell j v hv))) (by first | exact fun h => h | (intro h; omega) | assumption) rfl ?_
    refine Drawn.callAllocG (plyF) (plyQ c w3 w8 F y M) (plyG) hTT hB rfl rfl rfl (fun _ => rfl) rfl (fun _ => rfl) (fun _ => rfl) rfl rfl (fun _ _ => rfl) rfl (fun _ _ => rfl) ((fun w' hw' => law20_doX hP8.ok hw' (by omega) hm (by omega) hxok)) ((fun x w2 w3 ⟨a1, a2⟩ hc => ⟨a1.grow hc, a2⟩)) (hlow8) ?_
    rintro nb ⟨y', F', M'⟩ w9 hnb hzn hw9 ⟨hP9, htt, hK, hps', hF'⟩ ⟨hG1, hG2⟩
    replace hP9 : PlyOk c w3 F' w9 y' M' M' := hP9
    replace hF' : ∀ z, F' z → F z ∨ w8.heap.size ≤ z := hF'
    refine Drawn.turn1 hB rfl ?_
    intro wa hwa
    refine Turn.store hTT hB rfl (hwa.heap' hzn) (by first | (intro h; exact rfl) | (intro h; omega)) rfl rfl rfl ?_
    intro wb hnbb hsb hzb
    replace hnbb : plyBox wb nb y' := hnbb
    refine Drawn.nil hB ?_
    intro wc hwc
    refine Goes.adv hTT 400 rfl ?_
    have hyR' : y'.R = y0.R := hK.1.trans hP8.R
    have hPa := hP9.grow hwa
    have hPb := hPa.far hsb (fun z hz => ⟨by rw [hz]; exact hext hyR' (by omega) hG1 (kd_cells (hwa.heap' hzn)), by omega⟩) (hG2.mono (fun z e => e))
    have hPc := hPb.grow hwc
    have hxb9 := hw9.heap hP8.box hP8.nf
    have hSac : w9.heap.size ≤ wc.heap.size := by have := hwa.size; have := hsb.size; have := hwc.size; omega
    refine Goes.loads hTT rfl (hwc.heap' hnbb) rfl rfl ?_
    have hxbc := hwc.heap' (hsb.heap (hwa.heap' hxb9) (by omega))
    refine Goes.store hTT rfl hxbc rfl rfl ?_
    intro wd hxbd hsd hzd
    refine Goes.adv hTT 400 rfl ?_
    replace hxbd : plyBox wd xb y' := hxbd
    have hnfx : ¬ F' xb := fun hz => (hF' xb hz).elim hP8.nf (fun g => by omega)
    have hox := hK.2.2 (fun z => z = xb) (fun z hz => by omega) hP8.out
    have hPd := hPc.far hsd (fun z hz => ⟨by rw [hz]; exact hext hyR' (by omega) hnfx (kd_cells hxbc), by omega⟩) hox
    have hstd : PlySt c w3 wd y0.R xb (i + 1) y' F' M' := ⟨hPd, hxbd, hnfx, hox, hyR', by replace hps' : y'.ps.length ≤ y.ps.length + 1 := hps'; omega, by replace htt : M'.tot ≤ M.tot + 6000 := htt; omega⟩
    have hSd : w7.heap.size ≤ wd.heap.size := by have := hw9.size; have := hsd.size; omega
    have hmok := hPd.st.mok
    have hok : M'.Ok c := hPd.rc ▸ hPd.st.ok
    have hsum := hok.sum
    have hle := heldM_le hmok.good
    have hcbl := lt_of_heap hcb3
    have hcbd := hPd.chg.heap' hcb3
    have hrr := hPd.rr
    have hfew := hrr.few
    have hsn := hrr.n
    refine Goes.loop (α := Nat) (fun j => [(1, false, .slice (some ⟨ub, uoff, none⟩) xs.length sc), (2, false, .pointer (some ⟨cb, 0, none⟩)), (5, false, .bool true), (6, false, .pointer (some ⟨xb, 0, none⟩)), (7, false, .int .i64 i), (10, false, .int .i64 (shMany (M'.shs.take j) : Nat)), (11, false, .int .i64 j)])
      (fun j w' => j ≤ y'.r.ss.length ∧ w' = wd) (fun j => y'.r.ss.length - j) 0 ⟨rfl, rfl, rfl, rfl, rfl, rfl, rfl, trivial⟩ ⟨Nat.zero_le _, rfl⟩ ?_
    rintro j we ⟨hj, e⟩ ih2
    subst e
    refine Goes.adv hTT 400 rfl ?_
    refine Goes.loadb hTT rfl hxbd rfl rfl ?_
    refine Goes.fork hTT rfl rfl rfl (fun hc3 => ?_) (fun hc3 => ?_)
    · have hltj : j < y'.r.ss.length := by have := of_decide_eq_true hc3; omega
      have hltm : j < M'.shs.length := by omega
      obtain ⟨pk, hpk, _⟩ := hrr.each j _ _ (List.getElem?_eq_getElem hltj) (List.getElem?_eq_getElem hltm)
      obtain ⟨sb, soff, hsa, hsc⟩ := hrr.sr j _ (List.getElem?_eq_getElem hltj)
      have hst := shMany_take (List.getElem?_eq_getElem hltm)
      have hsl := shMany_le M'.shs (j + 1)
      have hpl := hpk.plen
      refine Goes.loadb hTT rfl hxbd rfl rfl ?_
      rw [hsa]
      refine Goes.index hTT rfl (j := (j * 7)) (by omega) (by omega) (by first | rfl | omega | (simp; done) | (simp; omega)) rfl ?_
      refine Goes.load hTT rfl (hsc 5 _ rfl) rfl ?_
      refine Goes.arith hTT rfl (w64 (by omega)) rfl ?_
      rw [hpl]
      refine Goes.arith hTT rfl (w64 (by omega)) rfl ?_
      exact ih2 (j + 1) _ _ ⟨hltj, rfl⟩ (by omega) ⟨rfl, rfl, rfl, rfl, rfl, int_s (by rw [hst]; omega), rfl, trivial⟩
    · have hge : j = y'.r.ss.length := by have := of_decide_eq_false hc3; omega
      subst hge
      have hall : M'.shs.take y'.r.ss.length = M'.shs := List.take_of_length_le (by omega)
      rw [hall]
      have hlm := hrr.lm
      have hlge := hrr.lge
      have hlen : y'.r.lg.length = M'.lg.length := by have := congrArg List.length hlge; simpa using this
      refine Goes.loop (α := Nat) (fun j => [(1, false, .slice (some ⟨ub, uoff, none⟩) xs.length sc), (2, false, .pointer (some ⟨cb, 0, none⟩)), (5, false, .bool true), (6, false, .pointer (some ⟨xb, 0, none⟩)), (7, false, .int .i64 i), (10, false, .int .i64 (shMany M'.shs + lgMany (M'.lg.take j) : Nat)), (12, false, .int .i64 j)])
        (fun j w' => j ≤ y'.r.lg.length ∧ w' = we) (fun j => y'.r.lg.length - j) 0 ⟨rfl, rfl, rfl, rfl, rfl, rfl, rfl, trivial⟩ ⟨Nat.zero_le _, rfl⟩ ?_
      rintro j wf ⟨hj, e⟩ ih3
      subst e
      refine Goes.adv hTT 400 rfl ?_
      refine Goes.loadb hTT rfl hxbd rfl rfl ?_
      refine Goes.fork hTT rfl rfl rfl (fun hc4 => ?_) (fun hc4 => ?_)
      · have hltj : j < y'.r.lg.length := by have := of_decide_eq_true hc4; omega
        have hltm : j < M'.lg.length := by omega
        obtain ⟨lb, loff, hla, hlc⟩ := hrr.lr j _ (List.getElem?_eq_getElem hltj)
        have hst := lgMany_take (List.getElem?_eq_getElem hltm)
        have hsl := lgMany_le M'.lg (j + 1)
        have hpl : y'.r.lg[j].pages.length = M'.lg[j].2.length := by
          have h1 : (y'.r.lg.map plcP)[j]? = (M'.lg.map lgP)[j]? := by rw [hlge]
          rw [List.getElem?_map, List.getElem?_map, List.getElem?_eq_getElem hltj, List.getElem?_eq_getElem hltm] at h1
          have h2 := congrArg PlcM.pages (Option.some.inj h1)
          show (plcP y'.r.lg[j]).pages.length = _
          rw [h2]
          exact natsI_length _
        refine Goes.arith hTT rfl (w64 (by omega)) rfl ?_
        refine Goes.loadb hTT rfl hxbd rfl rfl ?_
        rw [hla]
        refine Goes.index hTT rfl (j := (j * 4)) (by omega) (by omega) (by first | rfl | omega | (simp; done) | (simp; omega)) rfl ?_
        refine Goes.load hTT rfl (hlc 3 _ rfl) rfl ?_
        refine Goes.arith hTT rfl (w64 (by omega)) rfl ?_
        rw [hpl]
        refine Goes.arith hTT rfl (w64 (by omega)) rfl ?_
        exact ih3 (j + 1) _ _ ⟨hltj, rfl⟩ (by omega) ⟨rfl, rfl, rfl, rfl, rfl, int_s (by rw [hst]; omega), rfl, trivial⟩
      · have hge : j = y'.r.lg.length := by have := of_decide_eq_false hc4; omega
        subst hge
        have hall : M'.lg.take y'.r.lg.length = M'.lg := List.take_of_length_le (by omega)
        rw [hall, ← hsum]
        have hown := hok.own
        have hmany := hmok.good.many
        have hfl : y'.r.p.f.x.length = M'.pl.free.length := by rw [hrr.p.ef, List.length_map]
        have hle2 := pgUsed_le M'.pl.own
        have hmf := may_facts hm
        have hpg := hmf.pages
        refine Goes.loadb hTT rfl hxbd rfl rfl ?_
        refine Goes.call rfl (room_Held hPd.st) ?_
        rintro _ _ ⟨rfl, rfl⟩
        refine Goes.adv hTT 400 rfl ?_
        refine Goes.no hTT rfl (bne_self_eq_false _) rfl ?_
        refine Goes.loadb hTT rfl hcbd rfl rfl ?_
        refine Goes.no hTT rfl (decide_eq_false (by unfold heldM; omega)) rfl ?_
        refine Goes.loadb hTT rfl hxbd rfl rfl ?_
        refine Goes.loadb hTT rfl hcbd rfl rfl ?_
        refine Goes.arith hTT rfl (w64 (by omega)) rfl ?_
        refine Goes.no hTT rfl (by rw [hfl]; simp; unfold heldM; omega) rfl ?_
        refine Goes.arith hTT rfl (w64 (by omega)) rfl ?_
        exact ih (i + 1) _ _ ⟨hlt, hSd, y', F', M', hstd⟩ (by omega) ⟨rfl, rfl, rfl, rfl, rfl, trivial⟩
  · refine Goes.yes hTT rfl rfl rfl ?_
    refine Goes.loads hTT rfl hP8.box rfl rfl ?_
    refine Goes.call rfl (ref08_Owner_none y.r.p w8) ?_
    rintro _ w9 ⟨rfl, hw9⟩
    refine Goes.adv hTT 400 rfl ?_
    exact Goes.ret1 hTT rfl Tryz.func3 rfl rfl ⟨rfl, (hw03.trans hP8.ok.chg).trans hw9⟩
end Go.Proofs.YtkiionjcapnepaaGreatDoor
