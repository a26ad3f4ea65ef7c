/-
  Layer 12: whatever is taken, given back, handed on.
-/
import Derived.Test.YtoileikhfgehcaaDoorLaws12
import Derived.Test.YtoileikhfgehcaaDoorOpenRows
namespace Go.Proofs.YtoileikhfgehcaaDoor
open Go.RowKit Go.ChangeShapes Go.WideShapes Go.ChangeAt

section
variable {H : Type} {enc : TypeId × Value → H} {w : World} {base b0 : Nat} {r : Go.Reach} {spare : Nat → Bool} {held : Bool}
set_option maxRecDepth 100000 in
theorem open_act12 {fuel : Nat} {cs : List Value} {x : DataW H × List MemPlace} (h : DataW.trod enc Tryd.prog w base spare held fuel 55 cs = some x) : ∃ u, cs = act12L u ∧ (0 ≤ u.kind ∧ u.kind < 256) := by
  obtain ⟨xs, n, _, _, hl, hlen, hfs⟩ := DataW.trod_struct (P := Tryd.prog) Tryd.underlying55 h
  clear h
  have h0 := hfs 0 _ rfl
  have h1 := hfs 1 _ rfl
  have h2 := hfs 2 _ rfl
  have hl' : cs.length = 3 := hl
  match xs, hlen, cs, hl' with
  | [x0, x1, x2], _, [c0, c1, c2], _ =>
    obtain ⟨n0, e0, _, g0⟩ := DataW.trod_int (P := Tryd.prog) Tryd.underlying5 h0
    obtain ⟨n1, e1, _, _⟩ := DataW.trod_int (P := Tryd.prog) Tryd.underlying3 h1
    obtain ⟨n2, e2, _, _⟩ := DataW.trod_int (P := Tryd.prog) Tryd.underlying3 h2
    have e0' : [c0] = [.int .u8 n0] := e0
    have e1' : [c1] = [.int .i64 n1] := e1
    have e2' : [c2] = [.int .i64 n2] := e2
    cases e0'; cases e1'; cases e2'
    exact ⟨⟨n0, n1, n2⟩, rfl, inU8_of_wf g0⟩
set_option maxRecDepth 100000 in
theorem open_acts12 {v : Value} {d : DataW H} {ps : List MemPlace} (hval : Value.okWide Tryd.prog w r b0 52 v) (h : DataW.Trod enc Tryd.prog w base spare held 52 v d ps) :
    ∃ a cap xs, v = .slice a xs.length cap ∧ Rows act12L 3 w a xs ∧ (∀ x ∈ xs, 0 ≤ x.kind ∧ x.kind < 256) ∧ xs.length ≤ 9223372036854775807 := by
  obtain ⟨a, len, cap, rfl⟩ := okWide_slice Tryd.underlying52 hval
  obtain ⟨fuel, hf⟩ := h
  obtain ⟨a', cap', xs, hcs, hr, hx, hl, hm⟩ := open_rows (P := Tryd.prog) (cells := act12L) (Ok := fun x => 0 ≤ x.kind ∧ x.kind < 256) (sz := 3) Tryd.underlying52 (by kernel_rfl) (by decide) (fun n cs y hy => open_act12 hy) hf
  have e : [Value.slice a len cap] = [.slice a' xs.length cap'] := hcs
  cases e
  have hml : maxLen ≤ 9223372036854775807 := by decide
  exact ⟨a, cap, xs, rfl, hr, hx, by omega⟩
end
theorem law_PageActs (n : Int) (a : Option Addr) (cap : Nat) (xs : List Act12) (w : World) (hT0 : TabAt w) (hn : 0 ≤ n ∧ n < 256) (hr : Rows act12L 3 w a xs) (hl : xs.length ≤ 9223372036854775807) (hx : ∀ x ∈ xs, 0 ≤ x.kind ∧ x.kind < 256) :
    Does Tryd.prog 10 #[.int .u8 n, .slice a xs.length cap] w (Grow (.bool true) w) := by
  refine Does.enter Tryd.func10 rfl Tryd.ntmps10 rfl rfl ?_
  refine Goes.adv hTT 400 rfl ?_
  refine Goes.call rfl (law12_awake w hT0) ?_
  rintro _ w1 ⟨rfl, hw1⟩
  refine Goes.adv hTT 400 rfl ?_
  have hT1 := hT0.grow hw1
  refine Goes.fork hTT rfl rfl rfl (fun h0 => ?_) (fun h0 => ?_)
  · exact Goes.ret1 hTT rfl Tryd.func10 rfl rfl ⟨rfl, hw1⟩
  have g0 := of_decide_eq_false h0
  refine Goes.arith hTT rfl (w64 (by omega)) rfl ?_
  refine Goes.div hTT rfl (by omega) (rem_ (by omega)) rfl ?_
  refine Goes.arith hTT rfl (w64 (by omega)) rfl ?_
  obtain ⟨k, hk⟩ := Int.eq_ofNat_of_zero_le (show 0 ≤ 1 + n % 12 by omega)
  have hk1 : 1 ≤ k ∧ k ≤ 12 := by omega
  rw [hk]
  refine Goes.call rfl (page_New k w1 hT1 (by omega)) ?_
  rintro _ w2 ⟨g, rfl, hg, hP2, hw2⟩
  refine Goes.adv hTT 400 rfl ?_
  refine Goes.call rfl (ref12_New k w2 (by omega)) ?_
  rintro _ w3 ⟨l, rfl, hlx, hl3, hw3, hln⟩
  refine Goes.adv hTT 400 rfl ?_
  have hw03 := (hw1.trans hw2).trans hw3
  have hf0 : ∀ z, z < w.heap.size → pgFoot g z → False := fun z hz h => by have := hw1.size; rcases h with h | h <;> omega
  have hout : OutA (pgFoot g) l.a := OutA.newer (a := none) (w := w2) (fun _ _ _ e => by cases e) hln hP2.footlt
  refine Goes.loop (α := Nat × IL) (fun p => [(1, false, .slice a xs.length cap), (5, false, .bool true), (7, false, pgV g), (9, false, ilV p.2), (11, false, .int .i64 p.1)])
    (fun p w' => p.1 ≤ xs.length ∧ ∃ x, PageOk w' g x ∧ IlOk w' p.2 ∧ p.2.x = x ∧ OutA (pgFoot g) p.2.a ∧ Chg None' w w') (fun p => xs.length - p.1) (0, l) ⟨rfl, rfl, rfl, rfl, rfl, trivial⟩ ⟨by simp, _, hP2.grow hw3, hl3, hlx, hout, hw03⟩ ?_
  rintro ⟨i, l⟩ w4 ⟨hi, x, hP4, hl4, hlx4, hout4, hw04⟩ ih
  simp only at hi hlx4 hl4 hout4
  refine Goes.adv hTT 400 rfl ?_
  refine Goes.fork hTT rfl rfl rfl (fun hc => ?_) (fun hc => ?_)
  · have hlt : i < xs.length := by have := of_decide_eq_true hc; omega
    obtain ⟨ub, uoff, rfl, hcell⟩ := hr.at hlt
    have huk := hx _ (List.getElem_mem hlt)
    have hcell' : ∀ {w'}, Chg None' w w' → ∀ j v, (act12L xs[i])[j]? = some v → w'.cell? ⟨ub, uoff + i * 3 + j, none⟩ = some v := fun hc j v hv => below_cell hc.below (hcell j v hv)
    refine Goes.index hTT rfl (j := (i * 3)) (by omega) (by omega) (by first | rfl | omega | (simp; done) | (simp; omega)) rfl ?_
    refine Goes.loadC hTT (act12L xs[i]) rfl (by first | rfl | (simp; done) | (simp [*]; done) | (simp; omega)) (hcell' hw04) rfl ?_
    refine Goes.call rfl (law12_do g x xs[i] w4 hP4 huk) ?_
    rintro _ w5 ⟨rfl, hP5, hs5⟩
    refine Goes.adv hTT 400 rfl ?_
    have hw05 : Chg None' w w5 := hw04.since hs5 hf0
    have hl5 := hl4.far hout4 hs5
    refine Goes.index hTT rfl (j := (i * 3)) (by omega) (by omega) (by first | rfl | omega | (simp; done) | (simp; omega)) rfl ?_
    refine Goes.loadC hTT (act12L xs[i]) rfl (by first | rfl | (simp; done) | (simp [*]; done) | (simp; omega)) (hcell' hw05) rfl ?_
    refine Goes.call rfl (ref12_Do l xs[i] w5 hl5 huk) ?_
    rintro _ w6 ⟨l', rfl, hlx6, hl6, hw6, hln6⟩
    refine Goes.adv hTT 400 rfl ?_
    rw [hlx4] at hlx6 ⊢
    have hP6 := hP5.grow hw6
    refine Goes.no hTT rfl (bne_self_eq_false _) rfl ?_
    refine Goes.no hTT rfl (bne_self_eq_false _) rfl ?_
    refine Goes.call rfl (law12_same g _ l' w6 hP6 hl6 hlx6) ?_
    rintro _ w7 ⟨rfl, hw7⟩
    refine Goes.adv hTT 400 rfl ?_
    refine Goes.no hTT rfl rfl rfl ?_
    refine Goes.arith hTT rfl (w64 (by omega)) rfl ?_
    exact ih (i + 1, l') _ _ ⟨by simp only; omega, _, hP6.grow hw7, hl6.grow hw7, hlx6, hout4.newer hln6 hP5.footlt, (hw05.trans hw6).trans hw7⟩ (by simp only; omega) ⟨rfl, rfl, rfl, rfl, rfl, trivial⟩
  · refine Goes.yes hTT rfl rfl rfl ?_
    refine Goes.call rfl (law12_same g x l w4 hP4 hl4 hlx4) ?_
    rintro _ w5 ⟨rfl, hw5⟩
    refine Goes.adv hTT 400 rfl ?_
    exact Goes.ret1 hTT rfl Tryd.func10 rfl rfl ⟨rfl, hw04.trans hw5⟩
theorem do12_back {x : List Int} {who : Int} (h0 : 0 ≤ who) (h1 : ¬ pgHole x < 0) : pgTakeE x who = 0 ∧ pgTakeA x who = pgHole x ∧ pgOwnE (pgTake x who) (pgHole x) (who + 1) = 0 ∧
    pgOwn (pgOwnS (pgTake x who) (pgHole x) (who + 1)) (pgHole x) = who + 1 ∧ pgGiveE (pgOwnS (pgTake x who) (pgHole x) (who + 1)) (pgHole x) = 0 ∧ pgGive (pgOwnS (pgTake x who) (pgHole x) (who + 1)) (pgHole x) = x := by
  obtain ⟨hin, hat⟩ := pg_hole_in h1
  obtain ⟨k, hk⟩ := Int.eq_ofNat_of_zero_le (show 0 ≤ pgHole x by omega)
  rw [hk, Int.toNat_natCast] at hin hat
  have he : pgTakeE x who = 0 := by unfold pgTakeE; rw [if_neg (by omega), if_neg h1]
  have ht : pgTake x who = x.set k who := by unfold pgTake; rw [he, if_pos rfl, hk]; rfl
  have ho1 : pgOwn (x.set k who) (k : Int) = who := by unfold pgOwn; rw [if_pos (by omega), Int.toNat_natCast, getD_set_i, if_pos ⟨rfl, hin⟩]
  have hoe : pgOwnE (x.set k who) (k : Int) (who + 1) = 0 := by unfold pgOwnE; rw [List.length_set, if_neg (by omega), ho1, if_neg (by omega)]
  have hos : pgOwnS (x.set k who) (k : Int) (who + 1) = x.set k (who + 1) := by unfold pgOwnS; rw [hoe, if_pos rfl, Int.toNat_natCast, List.set_set]
  have ho2 : pgOwn (x.set k (who + 1)) (k : Int) = who + 1 := by unfold pgOwn; rw [if_pos (by omega), Int.toNat_natCast, getD_set_i, if_pos ⟨rfl, hin⟩]
  have hge : pgGiveE (x.set k (who + 1)) (k : Int) = 0 := by unfold pgGiveE; rw [List.length_set, if_neg (by omega), ho2, if_neg (by omega)]
  rw [ht, hk, hos]
  refine ⟨he, by unfold pgTakeA; rw [he, if_pos rfl, hk], hoe, ho2, hge, ?_⟩
  unfold pgGive
  rw [hge, if_pos rfl, Int.toNat_natCast, List.set_set]
  apply List.ext_getElem?
  intro j
  rw [List.getElem?_set]
  by_cases e : k = j
  · subst e
    rw [if_pos rfl, if_pos hin, List.getElem?_eq_getElem hin]
    rw [List.getD_eq_getElem?_getD, List.getElem?_eq_getElem hin] at hat
    simp at hat
    rw [hat]
  · rw [if_neg e]
theorem law_PageBack (n : Int) (a : Option Addr) (cap : Nat) (xs : List Act12) (who : Int) (w : World) (hT0 : TabAt w) (hn : 0 ≤ n ∧ n < 256) (hr : Rows act12L 3 w a xs) (hl : xs.length ≤ 9223372036854775807) (hx : ∀ x ∈ xs, 0 ≤ x.kind ∧ x.kind < 256) (hwho : 0 ≤ who ∧ who < 65536) :
    Does Tryd.prog 11 #[.int .u8 n, .slice a xs.length cap, .int .u16 who] w (Grow (.bool true) w) := by
  refine Does.enter Tryd.func11 rfl Tryd.ntmps11 rfl rfl ?_
  refine Goes.adv hTT 400 rfl ?_
  refine Goes.call rfl (law12_awake w hT0) ?_
  rintro _ w1 ⟨rfl, hw1⟩
  refine Goes.adv hTT 400 rfl ?_
  have hT1 := hT0.grow hw1
  refine Goes.fork hTT rfl rfl rfl (fun h0 => ?_) (fun h0 => ?_)
  · exact Goes.ret1 hTT rfl Tryd.func11 rfl rfl ⟨rfl, hw1⟩
  have g0 := of_decide_eq_false h0
  refine Goes.arith hTT rfl (w64 (by omega)) rfl ?_
  refine Goes.div hTT rfl (by omega) (rem_ (by omega)) rfl ?_
  refine Goes.arith hTT rfl (w64 (by omega)) rfl ?_
  obtain ⟨k, hk⟩ := Int.eq_ofNat_of_zero_le (show 0 ≤ 1 + n % 12 by omega)
  have hk1 : 1 ≤ k ∧ k ≤ 12 := by omega
  rw [hk]
  refine Goes.call rfl (page_New k w1 hT1 (by omega)) ?_
  rintro _ w2 ⟨g, rfl, hg, hP2, hw2⟩
  refine Goes.adv hTT 400 rfl ?_
  refine Goes.call rfl (ref12_New k w2 (by omega)) ?_
  rintro _ w3 ⟨l, rfl, hlx, hl3, hw3, hln⟩
  refine Goes.adv hTT 400 rfl ?_
  have hw03 := (hw1.trans hw2).trans hw3
  have hf0 : ∀ z, z < w.heap.size → pgFoot g z → False := fun z hz h => by have := hw1.size; rcases h with h | h <;> omega
  have hout : OutA (pgFoot g) l.a := OutA.newer (a := none) (w := w2) (fun _ _ _ e => by cases e) hln hP2.footlt
  refine Goes.loop (α := Nat × IL) (fun p => [(1, false, .slice a xs.length cap), (2, false, .int .u16 who), (7, false, .bool true), (9, false, pgV g), (11, false, ilV p.2), (13, false, .int .i64 p.1)])
    (fun p w' => p.1 ≤ xs.length ∧ ∃ x, PageOk w' g x ∧ IlOk w' p.2 ∧ p.2.x = x ∧ OutA (pgFoot g) p.2.a ∧ Chg None' w w') (fun p => xs.length - p.1) (0, l) ⟨rfl, rfl, rfl, rfl, rfl, rfl, trivial⟩ ⟨by simp, _, hP2.grow hw3, hl3, hlx, hout, hw03⟩ ?_
  rintro ⟨i, l⟩ w4 ⟨hi, x, hP4, hl4, hlx4, hout4, hw04⟩ ih
  simp only at hi hlx4 hl4 hout4
  refine Goes.adv hTT 400 rfl ?_
  refine Goes.fork hTT rfl rfl rfl (fun hc => ?_) (fun hc => ?_)
  · have hlt : i < xs.length := by have := of_decide_eq_true hc; omega
    obtain ⟨ub, uoff, rfl, hcell⟩ := hr.at hlt
    have huk := hx _ (List.getElem_mem hlt)
    have hcell' : ∀ {w'}, Chg None' w w' → ∀ j v, (act12L xs[i])[j]? = some v → w'.cell? ⟨ub, uoff + i * 3 + j, none⟩ = some v := fun hc j v hv => below_cell hc.below (hcell j v hv)
    refine Goes.index hTT rfl (j := (i * 3)) (by omega) (by omega) (by first | rfl | omega | (simp; done) | (simp; omega)) rfl ?_
    refine Goes.loadC hTT (act12L xs[i]) rfl (by first | rfl | (simp; done) | (simp [*]; done) | (simp; omega)) (hcell' hw04) rfl ?_
    refine Goes.call rfl (law12_do g x xs[i] w4 hP4 huk) ?_
    rintro _ w5 ⟨rfl, hP5, hs5⟩
    refine Goes.adv hTT 400 rfl ?_
    have hw05 : Chg None' w w5 := hw04.since hs5 hf0
    have hl5 := hl4.far hout4 hs5
    refine Goes.index hTT rfl (j := (i * 3)) (by omega) (by omega) (by first | rfl | omega | (simp; done) | (simp; omega)) rfl ?_
    refine Goes.loadC hTT (act12L xs[i]) rfl (by first | rfl | (simp; done) | (simp [*]; done) | (simp; omega)) (hcell' hw05) rfl ?_
    refine Goes.call rfl (ref12_Do l xs[i] w5 hl5 huk) ?_
    rintro _ w6 ⟨l', rfl, hlx6, hl6, hw6, hln6⟩
    refine Goes.adv hTT 400 rfl ?_
    rw [hlx4] at hlx6
    have hP6 := hP5.grow hw6
    refine Goes.arith hTT rfl (w64 (by omega)) rfl ?_
    exact ih (i + 1, l') _ _ ⟨by simp only; omega, _, hP6, hl6, hlx6, hout4.newer hln6 hP5.footlt, hw05.trans hw6⟩ (by simp only; omega) ⟨rfl, rfl, rfl, rfl, rfl, rfl, trivial⟩
  · refine Goes.arith hTT rfl (w64 (by omega)) rfl ?_
    refine Goes.call rfl (page_Take g x who w4 hP4) ?_
    rintro _ w5 ⟨rfl, hP5, hs5⟩
    refine Goes.adv hTT 400 rfl ?_
    have hw05 : Chg None' w w5 := hw04.since hs5 hf0
    have hl5 := hl4.far hout4 hs5
    by_cases h1 : pgHole x < 0
    · have he : pgTakeE x who = 5 := by unfold pgTakeE; rw [if_neg (by omega), if_pos h1]
      have ht : pgTake x who = x := by unfold pgTake; rw [he]; rfl
      have hfull : ((pgUsed x : Int) == x.length) = true := by have := low_full.1 h1; rw [pgB_length] at this; unfold pgUsed; rw [this]; exact beq_self_eq_true _
      rw [ht] at hP5
      rw [he]
      refine Goes.yes hTT rfl rfl rfl ?_
      refine Goes.yes hTT rfl rfl rfl ?_
      refine Goes.yes hTT rfl rfl rfl ?_
      refine Goes.call rfl (page_Full g x w5 hP5) ?_
      rintro _ w6 ⟨rfl, hw6⟩
      refine Goes.adv hTT 400 rfl ?_
      rw [hfull]
      refine Goes.yes hTT rfl rfl rfl ?_
      refine Goes.call rfl (law12_same g x l w6 (hP5.grow hw6) (hl5.grow hw6) hlx4) ?_
      rintro _ w7 ⟨rfl, hw7⟩
      refine Goes.adv hTT 400 rfl ?_
      exact Goes.ret1 hTT rfl Tryd.func11 rfl rfl ⟨rfl, (hw05.trans hw6).trans hw7⟩
    · obtain ⟨b1, b2, b3, b4, b5, b6⟩ := do12_back (x := x) (who := who) (by omega) h1
      rw [b1, b2]
      refine Goes.no hTT rfl rfl rfl ?_
      refine Goes.arith hTT rfl (w64 (by omega)) rfl ?_
      refine Goes.arith hTT rfl (w64 (by omega)) rfl ?_
      refine Goes.call rfl (page_Own g _ (pgHole x) (who + 1) w5 hP5) ?_
      rintro _ w6 ⟨rfl, hP6, hs6⟩
      refine Goes.adv hTT 400 rfl ?_
      have hw06 : Chg None' w w6 := hw05.since hs6 hf0
      have hl6 := hl5.far hout4 hs6
      rw [b3]
      refine Goes.call rfl (page_Owner g _ (pgHole x) w6 hP6) ?_
      rintro _ _ ⟨rfl, rfl⟩
      refine Goes.adv hTT 400 rfl ?_
      rw [b4]
      refine Goes.call rfl (page_Give g _ (pgHole x) w6 hP6) ?_
      rintro _ w7 ⟨rfl, hP7, hs7⟩
      refine Goes.adv hTT 400 rfl ?_
      have hw07 : Chg None' w w7 := hw06.since hs7 hf0
      have hl7 := hl6.far hout4 hs7
      rw [b5]
      rw [b6] at hP7
      refine Goes.yes hTT rfl rfl rfl ?_
      refine Goes.yes hTT rfl rfl rfl ?_
      refine Goes.yes hTT rfl rfl rfl ?_
      refine Goes.arith hTT rfl (w64 (by omega)) rfl ?_
      refine Goes.arith hTT rfl (w64 (by omega)) rfl ?_
      refine Goes.yes hTT rfl (beq_self_eq_true _) rfl ?_
      refine Goes.call rfl (law12_same g x l w7 hP7 hl7 hlx4) ?_
      rintro _ w8 ⟨rfl, hw8⟩
      refine Goes.adv hTT 400 rfl ?_
      exact Goes.ret1 hTT rfl Tryd.func11 rfl rfl ⟨rfl, hw07.trans hw8⟩
/-- So many places, the first ones taken in turn. -/
def fillP (k i : Nat) : List Int := (List.range i).map (fun (j : Nat) => 1000 + (j : Int)) ++ List.replicate (k - i) (-1)
theorem fillP_len {k i : Nat} (h : i ≤ k) : (fillP k i).length = k := by simp [fillP]; omega
theorem fillP_B {k i : Nat} : pgB (fillP k i) = fillX k i := by
  unfold pgB fillP fillX
  rw [List.map_append, List.map_map, List.map_replicate]
  congr 1
  rw [List.eq_replicate_iff]
  refine ⟨by simp, fun b hb => ?_⟩
  obtain ⟨j, _, rfl⟩ := List.mem_map.1 hb
  show (!(1000 + (j : Int) == -1)) = true
  simp
  omega
theorem cnt_fillX : ∀ (k i : Nat), cnt (fillX k i) = i := fun k i => by
  unfold fillX
  induction i generalizing k with
  | zero => simp [cnt_replicate]
  | succ i ih =>
    have := ih (k - 1)
    rw [show k - 1 - i = k - (i + 1) from by omega] at this
    rw [List.replicate_succ, List.cons_append]
    show (if true = true then 1 else 0) + cnt _ = _
    rw [this]
    simp
    omega
theorem fillP_set {k i : Nat} (h : i < k) : (fillP k i).set i (1000 + (i : Int)) = fillP k (i + 1) := by
  unfold fillP
  have hl : ((List.range i).map (fun (j : Nat) => 1000 + (j : Int))).length = i := by simp
  rw [List.set_append_right _ _ (by rw [hl]; exact Nat.le_refl _), hl, Nat.sub_self]
  obtain ⟨m, hm⟩ : ∃ m, k - i = m + 1 := ⟨k - i - 1, by omega⟩
  rw [hm, show k - (i + 1) = m from by omega, List.replicate_succ, List.set_cons_zero, List.range_succ, List.map_append]
  simp
theorem fillP_own {k j : Nat} (h : j < k) : pgOwn (fillP k k) j = 1000 + (j : Int) := by
  unfold pgOwn fillP
  rw [if_pos (by omega), Int.toNat_natCast, List.getD_eq_getElem?_getD, List.getElem?_append_left (by simp; exact h)]
  simp [h]
theorem law_PageFill (n : Int) (w : World) (hT0 : TabAt w) (hn : 0 ≤ n ∧ n < 256) : Does Tryd.prog 9 #[.int .u8 n] w (Grow (.bool true) w) := by
  refine Does.enter Tryd.func9 rfl Tryd.ntmps9 rfl rfl ?_
  refine Goes.adv hTT 400 rfl ?_
  refine Goes.call rfl (law12_awake w hT0) ?_
  rintro _ w1 ⟨rfl, hw1⟩
  refine Goes.adv hTT 400 rfl ?_
  have hT1 := hT0.grow hw1
  refine Goes.arith hTT rfl (w64 (by omega)) rfl ?_
  refine Goes.arith hTT rfl (w64 (by omega)) rfl ?_
  obtain ⟨k, hk⟩ := Int.eq_ofNat_of_zero_le (show 0 ≤ 1 + n by omega)
  have hk1 : 1 ≤ k ∧ k ≤ 256 := by omega
  rw [hk]
  refine Goes.call rfl (page_New k w1 hT1 (by omega)) ?_
  rintro _ w2 ⟨g, rfl, hg, hP2, hw2⟩
  refine Goes.adv hTT 400 rfl ?_
  have hw02 := hw1.trans hw2
  have hf0 : ∀ z, z < w.heap.size → pgFoot g z → False := fun z hz h => by have := hw1.size; rcases h with h | h <;> omega
  refine Goes.loop (α := Nat) (fun i => [(3, false, .bool true), (4, false, .int .i64 k), (5, false, pgV g), (7, false, .int .i64 i)])
    (fun i w' => i ≤ k ∧ PageOk w' g (fillP k i) ∧ Chg None' w w') (fun i => k - i) 0 ⟨rfl, rfl, rfl, rfl, trivial⟩ ⟨by omega, by unfold fillP; simpa using hP2, hw02⟩ ?_
  rintro i w3 ⟨hi, hP3, hw03⟩ ih
  refine Goes.adv hTT 400 rfl ?_
  refine Goes.fork hTT rfl rfl rfl (fun hc => ?_) (fun hc => ?_)
  · have hlt : i < k := by have := of_decide_eq_true hc; omega
    have hhole : pgHole (fillP k i) = i := by unfold pgHole; rw [fillP_B, fillX_low hlt]
    have he : pgTakeE (fillP k i) (1000 + (i : Int)) = 0 := by unfold pgTakeE; rw [if_neg (by omega), hhole, if_neg (by omega)]
    have ha : pgTakeA (fillP k i) (1000 + (i : Int)) = i := by unfold pgTakeA; rw [he, if_pos rfl, hhole]
    have ht : pgTake (fillP k i) (1000 + (i : Int)) = fillP k (i + 1) := by unfold pgTake; rw [he, if_pos rfl, hhole, Int.toNat_natCast, fillP_set hlt]
    refine Goes.arith hTT rfl (w64 (by omega)) rfl ?_
    refine Goes.call rfl (page_Take g _ (1000 + (i : Int)) w3 hP3) ?_
    rintro _ w4 ⟨rfl, hP4, hs4⟩
    refine Goes.adv hTT 400 rfl ?_
    rw [ht] at hP4
    rw [he, ha]
    have hw04 : Chg None' w w4 := hw03.since hs4 hf0
    refine Goes.no hTT rfl (bne_self_eq_false _) rfl ?_
    refine Goes.no hTT rfl rfl rfl ?_
    refine Goes.call rfl (page_Top g _ w4 hP4) ?_
    rintro _ _ ⟨rfl, rfl⟩
    refine Goes.adv hTT 400 rfl ?_
    rw [show pgTop (fillP k (i + 1)) = i from by unfold pgTop; rw [fillP_B, fillX_high hlt]]
    refine Goes.no hTT rfl (bne_self_eq_false _) rfl ?_
    refine Goes.call rfl (page_Used g _ w4 hP4) ?_
    rintro _ _ ⟨rfl, rfl⟩
    refine Goes.adv hTT 400 rfl ?_
    rw [show pgUsed (fillP k (i + 1)) = i + 1 from by unfold pgUsed; rw [fillP_B, cnt_fillX]]
    refine Goes.arith hTT rfl (w64 (by omega)) rfl ?_
    refine Goes.no hTT rfl (show (((i + 1 : Nat) : Int) != (i : Int) + 1) = false by simp) rfl ?_
    refine Goes.call rfl (page_Full g _ w4 hP4) ?_
    rintro _ w5 ⟨rfl, hw5⟩
    refine Goes.adv hTT 400 rfl ?_
    rw [show pgUsed (fillP k (i + 1)) = i + 1 from by unfold pgUsed; rw [fillP_B, cnt_fillX], fillP_len (by omega)]
    refine Goes.arith hTT rfl (w64 (by omega)) rfl ?_
    have hlast : ((((i + 1 : Nat) : Int) == (k : Int)) != ((i : Int) == (k : Int) - 1)) = false := by
      by_cases e : i + 1 = k
      · rw [show (((i + 1 : Nat) : Int) == (k : Int)) = true from beq_iff_eq.2 (by omega), show ((i : Int) == (k : Int) - 1) = true from beq_iff_eq.2 (by omega)]; rfl
      · rw [show (((i + 1 : Nat) : Int) == (k : Int)) = false from beq_eq_false_iff_ne.2 (by omega), show ((i : Int) == (k : Int) - 1) = false from beq_eq_false_iff_ne.2 (by omega)]; rfl
    refine Goes.no hTT rfl hlast rfl ?_
    refine Goes.arith hTT rfl (w64 (by omega)) rfl ?_
    exact ih (i + 1) _ _ ⟨by omega, hP4.grow hw5, hw04.trans hw5⟩ (by omega) ⟨rfl, rfl, rfl, rfl, trivial⟩
  · have hik : i = k := by have := of_decide_eq_false hc; omega
    subst hik
    have hhole : pgHole (fillP i i) = -1 := by unfold pgHole; rw [fillP_B, fillX_low']
    have he : pgTakeE (fillP i i) 0 = 5 := by unfold pgTakeE; rw [if_neg (by decide), hhole]; rfl
    have ht : pgTake (fillP i i) 0 = fillP i i := by unfold pgTake; rw [he]; rfl
    refine Goes.call rfl (page_Take g _ 0 w3 hP3) ?_
    rintro _ w4 ⟨rfl, hP4, hs4⟩
    refine Goes.adv hTT 400 rfl ?_
    have hw04 : Chg None' w w4 := hw03.since hs4 hf0
    rw [ht] at hP4
    rw [he]
    refine Goes.yes hTT rfl rfl rfl ?_
    refine Goes.yes hTT rfl rfl rfl ?_
    refine Goes.call rfl (page_Hole g _ w4 hP4) ?_
    rintro _ w5 ⟨rfl, hw5⟩
    refine Goes.adv hTT 400 rfl ?_
    rw [hhole]
    refine Goes.yes hTT rfl rfl rfl ?_
    refine Goes.arith hTT rfl (w64 (by omega)) rfl ?_
    refine Goes.call rfl (page_Owner g _ ((i : Int) - 1) w5 (hP4.grow hw5)) ?_
    rintro _ _ ⟨rfl, rfl⟩
    refine Goes.adv hTT 400 rfl ?_
    rw [show pgOwn (fillP i i) ((i : Int) - 1) = 999 + (i : Int) from by obtain ⟨j, rfl⟩ : ∃ j, i = j + 1 := ⟨i - 1, by omega⟩; rw [show (((j + 1 : Nat) : Int) - 1) = (j : Int) from by omega, fillP_own (by omega)]; omega]
    refine Goes.arith hTT rfl (w64 (by omega)) rfl ?_
    exact Goes.ret1 hTT rfl Tryd.func9 rfl rfl ⟨bool_v (beq_self_eq_true _), hw04.trans hw5⟩
end Go.Proofs.YtoileikhfgehcaaDoor
