/-
  Texts put together: Ref3, Laws20b.
-/
import Derived.Test.YtkiionjcapnepaaDoorPt2
set_option linter.unusedVariables false
/-
  Layer 3: what the document's functions answer.
-/
namespace Go.Proofs.YtkiionjcapnepaaDoor
open Go.RowKit

theorem withinM_iff {n a b : Int} : withinM n a b = true ↔ a ≤ n ∧ n ≤ b := by unfold withinM; simp
theorem mayB_iff {c : Conf} : mayB c = true ↔ sizedM c.size = true ∧ (1 ≤ c.pages ∧ c.pages ≤ 1024) ∧ classOk c.classes c.size = true ∧ c.keep.length = c.classes.length ∧ (∀ k, k ∈ c.keep → 0 ≤ k ∧ k ≤ 1024) ∧
    (1 ≤ c.step ∧ c.step ≤ 65536) ∧ (1 ≤ c.slots ∧ c.slots ≤ 4096) ∧ (1 ≤ c.gens ∧ c.gens ≤ 1023) ∧ (1 ≤ c.most ∧ c.most ≤ largeM c) := by
  unfold mayB keepBad
  simp only [Bool.and_eq_true, withinM_iff, decide_eq_true_eq, Bool.not_eq_true', List.any_eq_false, Bool.not_eq_false, and_assoc]
theorem mayM_one {c : Conf} (h : mayB c = true → False) : Value.int .i64 1 = .int .i64 (mayM c) := by unfold mayM; rw [if_neg h]
theorem mayM_zero {c : Conf} (h : mayB c = true) : Value.int .i64 0 = .int .i64 (mayM c) := by unfold mayM; rw [if_pos h]
theorem largeM_zero {c : Conf} : largeM c = 0 ↔ sizedM c.size = false := by
  unfold largeM
  by_cases h : sizedM c.size = true
  · rw [if_pos h, h]
    have h2 := sizedM_iff.1 h
    have h4 : 64 * 8 ≤ c.size * (c.size / 8) := Int.mul_le_mul h2.1 (by omega) (by omega) (by omega)
    constructor
    · intro; omega
    · intro h; cases h
  · rw [if_neg h]; simpa using h

theorem ref03_Large (c : Conf) (p : ConfAt) (w : World) : Does Tryd.prog 26 #[.agg (confL c p).toArray] w (Grow (.int .i64 (largeM c)) w) := by
  refine Does.enter Tryd.func26 rfl Tryd.ntmps26 rfl rfl ?_
  refine Goes.adv hTT 400 rfl ?_
  refine Goes.alloc hTT rfl ?_
  intro b w1 e1 hb hw1 hz1
  refine Goes.adv hTT 400 rfl ?_
  have no : (64 ≤ c.size ∧ c.size ≤ 4096 ∧ c.size % 8 = 0 → False) → Value.int .i64 0 = .int .i64 (largeM c) := fun h => by unfold largeM; rw [if_neg (fun h' => h (sizedM_iff.1 h'))]
  refine Goes.loadb hTT rfl hb rfl rfl ?_
  refine Goes.fork hTT rfl rfl rfl (fun h1 => ?_) (fun h1 => ?_)
  · exact Goes.ret1 hTT rfl Tryd.func26 rfl rfl ⟨no (fun h => by have := of_decide_eq_true h1; omega), hw1⟩
  · have g1 := of_decide_eq_false h1
    refine Goes.loadb hTT rfl hb rfl rfl ?_
    refine Goes.fork hTT rfl rfl rfl (fun h2 => ?_) (fun h2 => ?_)
    · exact Goes.ret1 hTT rfl Tryd.func26 rfl rfl ⟨no (fun h => by have := of_decide_eq_true h2; omega), hw1⟩
    · have g2 := of_decide_eq_false h2
      refine Goes.loadb hTT rfl hb rfl rfl ?_
      refine Goes.div hTT rfl (by omega) (rem_ (by omega)) rfl ?_
      refine Goes.fork hTT rfl rfl rfl (fun h3 => ?_) (fun h3 => ?_)
      · exact Goes.ret1 hTT rfl Tryd.func26 rfl rfl ⟨no (fun h => by have := h.2.2; simp [this] at h3), hw1⟩
      · have g3 : c.size % 8 = 0 := by simpa using h3
        have h3 : 0 ≤ c.size / 8 ∧ c.size / 8 ≤ 512 := by omega
        have h4 : 0 ≤ c.size * (c.size / 8) := Int.mul_nonneg (by omega) h3.1
        have h5 : c.size * (c.size / 8) ≤ 4096 * 512 := Int.mul_le_mul (by omega) h3.2 h3.1 (by omega)
        refine Goes.loadb hTT rfl hb rfl rfl ?_
        refine Goes.loadb hTT rfl hb rfl rfl ?_
        refine Goes.div hTT rfl (by omega) (quo64 (by omega) (by omega)) rfl ?_
        refine Goes.arith hTT rfl (w64 (by omega)) rfl ?_
        exact Goes.ret1 hTT rfl Tryd.func26 rfl rfl ⟨int_v (by unfold largeM; rw [if_pos (sizedM_iff.2 ⟨by omega, by omega, g3⟩)]), hw1⟩
theorem ref03_May (c : Conf) (p : ConfAt) (w : World) (hc : ConfOk w c p) : Does Tryd.prog 7 #[.agg (confL c p).toArray] w (Grow (.int .i64 (mayM c)) w) := by
  have hl := hc.lc
  have hlk := hc.lk
  refine Does.enter Tryd.func7 rfl Tryd.ntmps7 rfl rfl ?_
  refine Goes.adv hTT 400 rfl ?_
  refine Goes.alloc hTT rfl ?_
  intro b w1 e1 hb hw1 hz1
  refine Goes.adv hTT 400 rfl ?_
  refine Goes.loads hTT rfl hb rfl rfl ?_
  refine Goes.call rfl (ref03_Large c p w1) ?_
  rintro _ wL ⟨rfl, hL⟩
  refine Goes.adv hTT 400 rfl ?_
  have hw2 := hw1.trans hL
  have hb2 := hL.heap' hb
  have hc2 := hc.chg hw2
  refine Goes.fork hTT rfl rfl rfl (fun h1 => ?_) (fun h1 => ?_)
  · exact Goes.ret1 hTT rfl Tryd.func7 rfl rfl ⟨mayM_one (fun h => by have := (mayB_iff.1 h).1; rw [largeM_zero.1 (by simpa using h1)] at this; cases this), hw2⟩
  · have g1 : sizedM c.size = true := by
      cases h : sizedM c.size with
      | true => rfl
      | false => rw [largeM_zero.2 h] at h1; cases h1
    refine Goes.loadb hTT rfl hb2 rfl rfl ?_
    refine Goes.fork hTT rfl rfl rfl (fun h2 => ?_) (fun h2 => ?_)
    · exact Goes.ret1 hTT rfl Tryd.func7 rfl rfl ⟨mayM_one (fun h => by have := (mayB_iff.1 h).2.1; have := of_decide_eq_true h2; omega), hw2⟩
    · refine Goes.loadb hTT rfl hb2 rfl rfl ?_
      refine Goes.fork hTT rfl rfl rfl (fun h3 => ?_) (fun h3 => ?_)
      · exact Goes.ret1 hTT rfl Tryd.func7 rfl rfl ⟨mayM_one (fun h => by have := (mayB_iff.1 h).2.1; have := of_decide_eq_true h3; omega), hw2⟩
      · refine Goes.loadb hTT rfl hb2 rfl rfl ?_
        refine Goes.loadb hTT rfl hb2 rfl rfl ?_
        refine Goes.call rfl (ref02_May p.ca p.cc c.classes c.size wL hc2.classes hl) ?_
        rintro _ w3 ⟨rfl, hM⟩
        refine Goes.adv hTT 400 rfl ?_
        have hw3 := hw2.trans hM
        have hb3 := hM.heap' hb2
        have hc3 := hc2.chg hM
        refine Goes.fork hTT rfl rfl rfl (fun h4 => ?_) (fun h4 => ?_)
        · exact Goes.ret1 hTT rfl Tryd.func7 rfl rfl ⟨mayM_one (fun h => by have := (mayB_iff.1 h).2.2.1; simp [classMay, this] at h4), hw3⟩
        · refine Goes.loadb hTT rfl hb3 rfl rfl ?_
          refine Goes.loadb hTT rfl hb3 rfl rfl ?_
          refine Goes.fork hTT rfl rfl rfl (fun h5 => ?_) (fun h5 => ?_)
          · exact Goes.ret1 hTT rfl Tryd.func7 rfl rfl ⟨mayM_one (fun h => by have := (mayB_iff.1 h).2.2.2.1; simp [this] at h5), hw3⟩
          · have g2 := of_decide_eq_false h2
            have g3 := of_decide_eq_false h3
            have g4 : classOk c.classes c.size = true := by unfold classMay at h4; cases hh : classOk c.classes c.size <;> simp [hh] at h4 ⊢
            have g5 : c.keep.length = c.classes.length := by simp at h5; omega
            refine Goes.loop (α := Nat) (fun k => [(1, false, .pointer (some ⟨b, 0, none⟩)), (3, false, .int .i64 k)])
              (fun k w' => Chg None' w3 w' ∧ k ≤ c.keep.length ∧ ∀ j (h : j < c.keep.length), j < k → 0 ≤ c.keep[j] ∧ c.keep[j] ≤ 1024) (fun k => c.keep.length - k) 0 ⟨rfl, rfl, trivial⟩ ⟨Chg.refl _ _, Nat.zero_le _, fun _ _ h => by omega⟩ ?_
            rintro k w4 ⟨hw, hk, hpre⟩ ih
            have hw4 := hw3.trans hw
            have hb4 := hw.heap' hb3
            have hc4 := hc3.chg hw
            refine Goes.adv hTT 400 rfl ?_
            refine Goes.loadb hTT rfl hb4 rfl rfl ?_
            refine Goes.fork hTT rfl rfl rfl (fun h => ?_) (fun h => ?_)
            · have hlt : k < c.keep.length := by simpa using h
              obtain ⟨b1, off, ea, hcell⟩ := hc4.keep k hlt
              rw [getD_at hlt] at hcell
              obtain ⟨ca, cc, ka, kc⟩ := p
              simp only at ea
              subst ea
              refine Goes.loadb hTT rfl hb4 rfl rfl ?_
              refine Goes.index hTT rfl (j := k) (by omega) (by omega) (by first | rfl | omega | (simp; done) | (simp; omega)) rfl ?_
              refine Goes.load hTT rfl hcell rfl ?_
              refine Goes.fork hTT rfl rfl rfl (fun h6 => ?_) (fun h6 => ?_)
              · exact Goes.ret1 hTT rfl Tryd.func7 rfl rfl ⟨mayM_one (fun h => by have := (mayB_iff.1 h).2.2.2.2.1 _ (List.getElem_mem hlt); have := of_decide_eq_true h6; omega), hw4⟩
              · refine Goes.loadb hTT rfl hb4 rfl rfl ?_
                refine Goes.index hTT rfl (j := k) (by omega) (by omega) (by first | rfl | omega | (simp; done) | (simp; omega)) rfl ?_
                refine Goes.load hTT rfl hcell rfl ?_
                refine Goes.fork hTT rfl rfl rfl (fun h7 => ?_) (fun h7 => ?_)
                · exact Goes.ret1 hTT rfl Tryd.func7 rfl rfl ⟨mayM_one (fun h => by have := (mayB_iff.1 h).2.2.2.2.1 _ (List.getElem_mem hlt); have := of_decide_eq_true h7; omega), hw4⟩
                · refine Goes.arith hTT rfl (w64 (by omega)) rfl ?_
                  exact ih (k + 1) _ _ ⟨hw, hlt, fun j hj hjk => by
                    by_cases e : j = k
                    · subst e; exact ⟨by have := of_decide_eq_false h6; omega, by have := of_decide_eq_false h7; omega⟩
                    · exact hpre j hj (by omega)⟩ (by omega) ⟨rfl, rfl, trivial⟩
            · have hge : k = c.keep.length := by simp at h; omega
              have g6 : ∀ x, x ∈ c.keep → 0 ≤ x ∧ x ≤ 1024 := fun x hx => by obtain ⟨j, hj, rfl⟩ := List.mem_iff_getElem.1 hx; exact hpre j hj (by omega)
              refine Goes.quiet rfl mixed (by kernel_rfl) ?_
              refine Quiet.adv hTT rfl ?_
              refine Quiet.loadb hTT rfl hb4 rfl rfl ?_
              refine Quiet.fork hTT rfl rfl rfl (fun a1 => ?_) (fun a1 => ?_)
              · refine Quiet.nil ?_
                intro w5 hw5
                refine Goes.adv hTT 400 rfl ?_
                exact Goes.ret1 hTT rfl Tryd.func7 rfl rfl ⟨mayM_one (fun h => by have := (mayB_iff.1 h).2.2.2.2.2; have := of_decide_eq_true a1; omega), hw4.trans hw5⟩
              refine Quiet.loadb hTT rfl hb4 rfl rfl ?_
              refine Quiet.fork hTT rfl rfl rfl (fun a2 => ?_) (fun a2 => ?_)
              · refine Quiet.nil ?_
                intro w5 hw5
                refine Goes.adv hTT 400 rfl ?_
                exact Goes.ret1 hTT rfl Tryd.func7 rfl rfl ⟨mayM_one (fun h => by have := (mayB_iff.1 h).2.2.2.2.2; have := of_decide_eq_true a2; omega), hw4.trans hw5⟩
              refine Quiet.loadb hTT rfl hb4 rfl rfl ?_
              refine Quiet.fork hTT rfl rfl rfl (fun a3 => ?_) (fun a3 => ?_)
              · refine Quiet.nil ?_
                intro w5 hw5
                refine Goes.adv hTT 400 rfl ?_
                exact Goes.ret1 hTT rfl Tryd.func7 rfl rfl ⟨mayM_one (fun h => by have := (mayB_iff.1 h).2.2.2.2.2; have := of_decide_eq_true a3; omega), hw4.trans hw5⟩
              refine Quiet.loadb hTT rfl hb4 rfl rfl ?_
              refine Quiet.fork hTT rfl rfl rfl (fun a4 => ?_) (fun a4 => ?_)
              · refine Quiet.nil ?_
                intro w5 hw5
                refine Goes.adv hTT 400 rfl ?_
                exact Goes.ret1 hTT rfl Tryd.func7 rfl rfl ⟨mayM_one (fun h => by have := (mayB_iff.1 h).2.2.2.2.2; have := of_decide_eq_true a4; omega), hw4.trans hw5⟩
              refine Quiet.loadb hTT rfl hb4 rfl rfl ?_
              refine Quiet.fork hTT rfl rfl rfl (fun a5 => ?_) (fun a5 => ?_)
              · refine Quiet.nil ?_
                intro w5 hw5
                refine Goes.adv hTT 400 rfl ?_
                exact Goes.ret1 hTT rfl Tryd.func7 rfl rfl ⟨mayM_one (fun h => by have := (mayB_iff.1 h).2.2.2.2.2; have := of_decide_eq_true a5; omega), hw4.trans hw5⟩
              refine Quiet.loadb hTT rfl hb4 rfl rfl ?_
              refine Quiet.fork hTT rfl rfl rfl (fun a6 => ?_) (fun a6 => ?_)
              · refine Quiet.nil ?_
                intro w5 hw5
                refine Goes.adv hTT 400 rfl ?_
                exact Goes.ret1 hTT rfl Tryd.func7 rfl rfl ⟨mayM_one (fun h => by have := (mayB_iff.1 h).2.2.2.2.2; have := of_decide_eq_true a6; omega), hw4.trans hw5⟩
              refine Quiet.loadb hTT rfl hb4 rfl rfl ?_
              refine Quiet.fork hTT rfl rfl rfl (fun a7 => ?_) (fun a7 => ?_)
              · refine Quiet.nil ?_
                intro w5 hw5
                refine Goes.adv hTT 400 rfl ?_
                exact Goes.ret1 hTT rfl Tryd.func7 rfl rfl ⟨mayM_one (fun h => by have := (mayB_iff.1 h).2.2.2.2.2; have := of_decide_eq_true a7; omega), hw4.trans hw5⟩
              refine Quiet.loadb hTT rfl hb4 rfl rfl ?_
              refine Quiet.loads hTT rfl hb4 rfl rfl ?_
              refine Quiet.call hTT rfl (fun w' hw' => ref03_Large c p w') rfl ?_
              refine Quiet.nil ?_
              intro w5 hw5
              refine Goes.adv hTT 400 rfl ?_
              refine Goes.fork hTT rfl rfl rfl (fun a8 => ?_) (fun a8 => ?_)
              · exact Goes.ret1 hTT rfl Tryd.func7 rfl rfl ⟨mayM_one (fun h => by have := (mayB_iff.1 h).2.2.2.2.2; have := of_decide_eq_true a8; omega), hw4.trans hw5⟩
              have := of_decide_eq_false a1
              have := of_decide_eq_false a2
              have := of_decide_eq_false a3
              have := of_decide_eq_false a4
              have := of_decide_eq_false a5
              have := of_decide_eq_false a6
              have := of_decide_eq_false a7
              have := of_decide_eq_false a8
              exact Goes.ret1 hTT rfl Tryd.func7 rfl rfl ⟨mayM_zero (mayB_iff.2 ⟨g1, by omega, g4, g5, g6, by omega, by omega, by omega, by omega⟩), hw4.trans hw5⟩

def smallC : Conf := ⟨64, 4, [16, 32], [0, 1], 8, 4, 3, 512⟩
theorem Rd.of {k : IntKind} {w : World} {b : Nat} {c : Array Value} {t : TypeId} {fz : Nat × Nat} {zs : List Int} (h : w.heap[b]? = some (.cells c t fz)) (hc : c = (zs.map (Value.int k)).toArray) : Rd k w (some ⟨b, 0, none⟩) zs := fun i hi =>
  ⟨b, 0, rfl, by rw [cell_of h, hc]; simp [hi]⟩
end Go.Proofs.YtkiionjcapnepaaDoor
/-
  Layer 20: a room of any layout.
-/
namespace Go.Proofs.YtkiionjcapnepaaDoor
open Go.RowKit
theorem rmOpen_new (c : Conf) (tot k : Int) : rmOpen (newRm c tot) k = 0 := by
  unfold rmOpen
  cases hg : rmGet (newRm c tot) k with
  | none => rfl
  | some x =>
    obtain ⟨n, rfl, _, hx⟩ := rmGet_some hg
    obtain ⟨_, rfl⟩ := newShs_get hx
    rfl
theorem rmFits_new {c : Conf} (h : mayB c = true) (tot : Int) : rmFits c (newRm c tot) 1 = 0 := by
  have hf := may_facts h
  have hm := hf.most
  have hn := hf.n
  have hp := hf.pages
  have h3 : classOk c.classes c.size = true := by
    unfold mayB at h
    simp only [Bool.and_eq_true, decide_eq_true_eq] at h
    exact h.1.1.1.1.1.2
  have hpick : pickM c.classes 1 ≠ -1 := by
    unfold pickM
    rw [if_neg (by omega)]
    have hg := classOk_get h3 0 (by omega)
    have : 0 ≤ idx (fun s => decide ((1 : Int) ≤ s)) c.classes := by
      rw [idx_nonneg, List.any_eq_true]
      refine ⟨c.classes[0], List.getElem_mem (by omega), ?_⟩
      rw [getD_at (show 0 < c.classes.length by omega)] at hg
      exact decide_eq_true (by omega)
    omega
  have hfree : (newRm c tot).pl.free.length = c.pages.toNat := by show (List.range c.pages.toNat).length = _; simp
  unfold rmFits rmNeed
  rw [if_neg (by omega), if_neg hpick, rmOpen_new, hfree, if_neg (by omega)]
set_option maxRecDepth 100000 in
theorem law_RoomNew (c : Conf) (p : ConfAt) (w : World) (ht : TabAt w) (hc : ConfOk w c p) : Does Tryd.prog 3 #[.agg (confL c p).toArray] w (Grow (.bool true) w) := by
  refine Does.enter Tryd.func3 rfl Tryd.ntmps3 rfl rfl ?_
  refine Goes.adv hTT 400 rfl ?_
  refine Goes.alloc hTT rfl ?_
  intro cb w1 e1 hcb hw1 hz1
  refine Goes.adv hTT 400 rfl ?_
  replace hcb : w1.heap[cb]? = some (.cells (confL c p).toArray 24 (0, 0)) := hcb
  refine Goes.call rfl (law20_awake w1 (ht.grow hw1)) ?_
  rintro _ w2 ⟨rfl, hw2⟩
  refine Goes.adv hTT 400 rfl ?_
  have hcb2 := hw2.heap' hcb
  have hw02 := hw1.trans hw2
  have hmono : ∀ {b : Bool}, b = true → (Value.bool b) = .bool true := fun h => by rw [h]
  have fin : ∀ {ww : World}, Chg None' w2 ww → ww.heap[cb]? = some (.cells (confL c p).toArray 24 (0, 0)) := fun h => h.heap' hcb2
  refine Goes.loadb hTT rfl hcb2 rfl rfl ?_
  refine Goes.fork hTT rfl rfl rfl (fun h40 => ?_) (fun h40 => ?_)
  · exact Goes.ret1 hTT rfl Tryd.func3 rfl rfl ⟨rfl, hw02⟩
  · have h40' : ¬ (c.classes.length : Int) > 40 := of_decide_eq_false h40
    refine Goes.loadb hTT rfl hcb2 rfl rfl ?_
    refine Goes.fork hTT rfl rfl rfl (fun h41 => ?_) (fun h41 => ?_)
    · exact Goes.ret1 hTT rfl Tryd.func3 rfl rfl ⟨rfl, hw02⟩
    · refine Goes.loads hTT rfl hcb2 rfl rfl ?_
      refine Goes.call rfl (room_New c p Option.none 0 w2 (hc.chg hw02) (ht.grow hw02) (fun b hb => by cases hb) (by decide)) ?_
      rintro v3 w3 ⟨hw3, hR⟩
      refine Goes.adv hTT 400 rfl ?_
      have hw03 := hw02.trans hw3
      by_cases hm : mayB c = true
      · rw [if_pos hm] at hR
        obtain ⟨F, R, hRc, hRp, hRm, rfl, h3, hF3⟩ := hR
        have em : mayM c = 0 := by unfold mayM; rw [if_pos hm]
        refine Goes.loads hTT rfl (fin hw3) rfl rfl ?_
        refine Goes.call rfl (ref03_May c p w3 (hc.chg hw03)) ?_
        rintro _ w4 ⟨rfl, hw4⟩
        refine Goes.adv hTT 400 rfl ?_
        rw [em]
        refine Goes.no hTT rfl rfl rfl ?_
        have h4 := h3.grow hw4
        refine Goes.yes hTT rfl rfl rfl ?_
        refine Goes.yes hTT rfl rfl rfl ?_
        refine Goes.call rfl (room_Held h4) ?_
        rintro _ _ ⟨rfl, rfl⟩
        refine Goes.adv hTT 400 rfl ?_
        have e1 : heldM (newRm c 0).pl = 0 := pgUsed_new _
        refine Goes.yes hTT rfl (by rw [e1]; rfl) rfl ?_
        refine Goes.call rfl (room_Open h4 0) ?_
        rintro _ _ ⟨rfl, rfl⟩
        refine Goes.adv hTT 400 rfl ?_
        refine Goes.yes hTT rfl (by rw [rmOpen_new]; rfl) rfl ?_
        have hd := room_Fits h4 1
        rw [hRc, rmFits_new hm] at hd
        refine Goes.call rfl (hd) ?_
        rintro _ w5 ⟨rfl, hw5⟩
        refine Goes.adv hTT 400 rfl ?_
        exact Goes.ret1 hTT rfl Tryd.func3 rfl rfl ⟨rfl, (hw03.trans hw4).trans hw5⟩
      · rw [if_neg hm] at hR
        subst hR
        have em : mayM c = 1 := by unfold mayM; rw [if_neg hm]
        refine Goes.loads hTT rfl (fin hw3) rfl rfl ?_
        refine Goes.call rfl (ref03_May c p w3 (hc.chg hw03)) ?_
        rintro _ w4 ⟨rfl, hw4⟩
        refine Goes.adv hTT 400 rfl ?_
        rw [em]
        refine Goes.yes hTT rfl rfl rfl ?_
        refine Goes.yes hTT rfl rfl rfl ?_
        refine Goes.loads hTT rfl (fin (hw3.trans hw4)) rfl rfl ?_
        refine Goes.call rfl (ref03_May c p w4 (hc.chg (hw03.trans hw4))) ?_
        rintro _ w5 ⟨rfl, hw5⟩
        refine Goes.adv hTT 400 rfl ?_
        rw [em]
        refine Goes.yes hTT rfl rfl rfl ?_
        exact Goes.ret1 hTT rfl Tryd.func3 rfl rfl ⟨rfl, (hw03.trans hw4).trans hw5⟩
end Go.Proofs.YtkiionjcapnepaaDoor
