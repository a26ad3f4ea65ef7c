/-
  Layer 3: what the document's functions answer.
-/
import Derived.Test.YteklfgglcbdpnaaConf
namespace Go.Proofs.Yteklfgglcbdpnaa
open Go.RowKit

theorem withinM_iff {n a b : Int} : withinM n a b = true ↔ a ≤ n ∧ n ≤ b := by unfold withinM; simp
theorem mayB_iff {c : Conf} : mayB c = true ↔ sizedM c.size = true ∧ (1 ≤ c.pages ∧ c.pages ≤ 1024) ∧ classOk c.classes c.size = true ∧ c.keep.length = c.classes.length ∧ (∀ k, k ∈ c.keep → 0 ≤ k ∧ k ≤ 1024) ∧
    (1 ≤ c.step ∧ c.step ≤ 65536) ∧ (1 ≤ c.slots ∧ c.slots ≤ 4096) ∧ (1 ≤ c.gens ∧ c.gens ≤ 1023) ∧ (1 ≤ c.most ∧ c.most ≤ largeM c) := by
  unfold mayB keepBad
  simp only [Bool.and_eq_true, withinM_iff, decide_eq_true_eq, Bool.not_eq_true', List.any_eq_false, Bool.not_eq_false, and_assoc]
theorem mayM_one {c : Conf} (h : mayB c = true → False) : Value.int .i64 1 = .int .i64 (mayM c) := by unfold mayM; rw [if_neg h]
theorem mayM_zero {c : Conf} (h : mayB c = true) : Value.int .i64 0 = .int .i64 (mayM c) := by unfold mayM; rw [if_pos h]
theorem largeM_zero {c : Conf} : largeM c = 0 ↔ sizedM c.size = false := by
  unfold largeM
  by_cases h : sizedM c.size = true
  · rw [if_pos h, h]
    have h2 := sizedM_iff.1 h
    have h4 : 64 * 8 ≤ c.size * (c.size / 8) := Int.mul_le_mul h2.1 (by omega) (by omega) (by omega)
    constructor
    · intro; omega
    · intro h; cases h
  · rw [if_neg h]; simpa using h

theorem ref03_Large (c : Conf) (p : ConfAt) (w : World) : Does Try.prog 17 #[.agg (confL c p).toArray] w (Grow (.int .i64 (largeM c)) w) := by
  refine Does.enter Try.func17 rfl Try.ntmps17 rfl rfl ?_
  refine Goes.adv hTT 400 rfl ?_
  refine Goes.alloc hTT rfl ?_
  intro b w1 e1 hb hw1 hz1
  refine Goes.adv hTT 400 rfl ?_
  have no : (64 ≤ c.size ∧ c.size ≤ 4096 ∧ c.size % 8 = 0 → False) → Value.int .i64 0 = .int .i64 (largeM c) := fun h => by unfold largeM; rw [if_neg (fun h' => h (sizedM_iff.1 h'))]
  refine Goes.loadb hTT rfl hb rfl rfl ?_
  refine Goes.fork hTT rfl rfl rfl (fun h1 => ?_) (fun h1 => ?_)
  · exact Goes.ret1 hTT rfl Try.func17 rfl rfl ⟨no (fun h => by have := of_decide_eq_true h1; omega), hw1⟩
  · have g1 := of_decide_eq_false h1
    refine Goes.loadb hTT rfl hb rfl rfl ?_
    refine Goes.fork hTT rfl rfl rfl (fun h2 => ?_) (fun h2 => ?_)
    · exact Goes.ret1 hTT rfl Try.func17 rfl rfl ⟨no (fun h => by have := of_decide_eq_true h2; omega), hw1⟩
    · have g2 := of_decide_eq_false h2
      refine Goes.loadb hTT rfl hb rfl rfl ?_
      refine Goes.div hTT rfl (by omega) (rem_ (by omega)) rfl ?_
      refine Goes.fork hTT rfl rfl rfl (fun h3 => ?_) (fun h3 => ?_)
      · exact Goes.ret1 hTT rfl Try.func17 rfl rfl ⟨no (fun h => by have := h.2.2; simp [this] at h3), hw1⟩
      · have g3 : c.size % 8 = 0 := by simpa using h3
        have h3 : 0 ≤ c.size / 8 ∧ c.size / 8 ≤ 512 := by omega
        have h4 : 0 ≤ c.size * (c.size / 8) := Int.mul_nonneg (by omega) h3.1
        have h5 : c.size * (c.size / 8) ≤ 4096 * 512 := Int.mul_le_mul (by omega) h3.2 h3.1 (by omega)
        refine Goes.loadb hTT rfl hb rfl rfl ?_
        refine Goes.loadb hTT rfl hb rfl rfl ?_
        refine Goes.div hTT rfl (by omega) (quo64 (by omega) (by omega)) rfl ?_
        refine Goes.arith hTT rfl (w64 (by omega)) rfl ?_
        exact Goes.ret1 hTT rfl Try.func17 rfl rfl ⟨int_v (by unfold largeM; rw [if_pos (sizedM_iff.2 ⟨by omega, by omega, g3⟩)]), hw1⟩
theorem ref03_Small (c : Conf) (p : ConfAt) (w : World) (hc : ConfOk w c p) : Does Try.prog 15 #[.agg (confL c p).toArray] w (Grow (.int .i64 (smallM c)) w) := by
  have hl := hc.lc
  refine Does.enter Try.func15 rfl Try.ntmps15 rfl rfl ?_
  refine Goes.adv hTT 400 rfl ?_
  refine Goes.alloc hTT rfl ?_
  intro b w1 e1 hb hw1 hz1
  refine Goes.adv hTT 400 rfl ?_
  refine Goes.loadb hTT rfl hb rfl rfl ?_
  refine Goes.fork hTT rfl rfl rfl (fun h => ?_) (fun h => ?_)
  · have h' : c.classes.length = 0 := by simpa using h
    exact Goes.ret1 hTT rfl Try.func15 rfl rfl ⟨int_v (by unfold smallM; rw [if_pos h']), hw1⟩
  · have h' : ¬ c.classes.length = 0 := by simpa using h
    obtain ⟨b1, off, ea, hcell⟩ := (hc.chg hw1).classes (c.classes.length - 1) (by omega)
    obtain ⟨ca, cc, ka, kc⟩ := p
    simp only at ea
    subst ea
    refine Goes.loadb hTT rfl hb rfl rfl ?_
    refine Goes.loadb hTT rfl hb rfl rfl ?_
    refine Goes.arith hTT rfl (w64 (by omega)) rfl ?_
    refine Goes.index hTT rfl (j := (c.classes.length - 1)) (by omega) (by omega) (by first | rfl | omega | simp) rfl ?_
    refine Goes.load hTT rfl hcell rfl ?_
    exact Goes.ret1 hTT rfl Try.func15 rfl rfl ⟨int_v (by unfold smallM; rw [if_neg h']), hw1⟩
theorem ref03_Blocks (c : Conf) (p : ConfAt) (k : Int) (w : World) (hc : ConfOk w c p) : Does Try.prog 13 #[.agg (confL c p).toArray, .int .i64 k] w (Grow (.int .i64 (blocksM c k)) w) := by
  have hl := hc.lc
  have hs := hc.size
  unfold In64 at hs
  refine Does.enter Try.func13 rfl Try.ntmps13 rfl rfl ?_
  refine Goes.adv hTT 400 rfl ?_
  refine Goes.alloc hTT rfl ?_
  intro b w1 e1 hb hw1 hz1
  refine Goes.adv hTT 400 rfl ?_
  refine Goes.fork hTT rfl rfl rfl (fun h => ?_) (fun h => ?_)
  · have h' : k < 0 := of_decide_eq_true h
    exact Goes.ret1 hTT rfl Try.func13 rfl rfl ⟨int_v (by unfold blocksM; rw [if_neg (by omega)]), hw1⟩
  · have h' : ¬ k < 0 := of_decide_eq_false h
    refine Goes.loadb hTT rfl hb rfl rfl ?_
    refine Goes.fork hTT rfl rfl rfl (fun h2 => ?_) (fun h2 => ?_)
    · have h3 := of_decide_eq_true h2
      exact Goes.ret1 hTT rfl Try.func13 rfl rfl ⟨int_v (by unfold blocksM; rw [if_neg (by omega)]), hw1⟩
    · have h3 := of_decide_eq_false h2
      obtain ⟨b1, off, ea, hcell⟩ := (hc.chg hw1).classes k.toNat (by omega)
      obtain ⟨ca, cc, ka, kc⟩ := p
      simp only at ea
      subst ea
      refine Goes.quiet mixed (by kernel_rfl) ?_
      refine Quiet.adv hTT rfl ?_
      refine Quiet.loadb hTT rfl hb rfl rfl ?_
      refine Quiet.loadb hTT rfl hb rfl rfl ?_
      refine Quiet.index hTT rfl (j := k.toNat) (by omega) (by omega) (by first | rfl | omega | simp) rfl ?_
      refine Quiet.load hTT rfl hcell rfl ?_
      refine Quiet.call hTT rfl (fun w' hw' => (ref01_Whole c.size (c.classes.getD k.toNat 0) w' hs.2).grow) rfl ?_
      refine Quiet.nil ?_
      intro w2 hw2
      refine Goes.adv hTT 400 rfl ?_
      exact Goes.ret1 hTT rfl Try.func13 rfl rfl ⟨int_v (by unfold blocksM; rw [if_pos (by omega)]), hw1.trans hw2⟩
theorem ref03_May (c : Conf) (p : ConfAt) (w : World) (hc : ConfOk w c p) : Does Try.prog 11 #[.agg (confL c p).toArray] w (Grow (.int .i64 (mayM c)) w) := by
  have hl := hc.lc
  have hlk := hc.lk
  refine Does.enter Try.func11 rfl Try.ntmps11 rfl rfl ?_
  refine Goes.adv hTT 400 rfl ?_
  refine Goes.alloc hTT rfl ?_
  intro b w1 e1 hb hw1 hz1
  refine Goes.adv hTT 400 rfl ?_
  refine Goes.loads hTT rfl hb rfl rfl ?_
  refine Goes.call rfl (ref03_Large c p w1) ?_
  rintro _ wL ⟨rfl, hL⟩
  refine Goes.adv hTT 400 rfl ?_
  have hw2 := hw1.trans hL
  have hb2 := hL.heap' hb
  have hc2 := hc.chg hw2
  refine Goes.fork hTT rfl rfl rfl (fun h1 => ?_) (fun h1 => ?_)
  · exact Goes.ret1 hTT rfl Try.func11 rfl rfl ⟨mayM_one (fun h => by have := (mayB_iff.1 h).1; rw [largeM_zero.1 (by simpa using h1)] at this; cases this), hw2⟩
  · have g1 : sizedM c.size = true := by
      cases h : sizedM c.size with
      | true => rfl
      | false => rw [largeM_zero.2 h] at h1; cases h1
    refine Goes.loadb hTT rfl hb2 rfl rfl ?_
    refine Goes.fork hTT rfl rfl rfl (fun h2 => ?_) (fun h2 => ?_)
    · exact Goes.ret1 hTT rfl Try.func11 rfl rfl ⟨mayM_one (fun h => by have := (mayB_iff.1 h).2.1; have := of_decide_eq_true h2; omega), hw2⟩
    · refine Goes.loadb hTT rfl hb2 rfl rfl ?_
      refine Goes.fork hTT rfl rfl rfl (fun h3 => ?_) (fun h3 => ?_)
      · exact Goes.ret1 hTT rfl Try.func11 rfl rfl ⟨mayM_one (fun h => by have := (mayB_iff.1 h).2.1; have := of_decide_eq_true h3; omega), hw2⟩
      · refine Goes.loadb hTT rfl hb2 rfl rfl ?_
        refine Goes.loadb hTT rfl hb2 rfl rfl ?_
        refine Goes.call rfl (ref02_May p.ca p.cc c.classes c.size wL hc2.classes hl) ?_
        rintro _ w3 ⟨rfl, hM⟩
        refine Goes.adv hTT 400 rfl ?_
        have hw3 := hw2.trans hM
        have hb3 := hM.heap' hb2
        have hc3 := hc2.chg hM
        refine Goes.fork hTT rfl rfl rfl (fun h4 => ?_) (fun h4 => ?_)
        · exact Goes.ret1 hTT rfl Try.func11 rfl rfl ⟨mayM_one (fun h => by have := (mayB_iff.1 h).2.2.1; simp [classMay, this] at h4), hw3⟩
        · refine Goes.loadb hTT rfl hb3 rfl rfl ?_
          refine Goes.loadb hTT rfl hb3 rfl rfl ?_
          refine Goes.fork hTT rfl rfl rfl (fun h5 => ?_) (fun h5 => ?_)
          · exact Goes.ret1 hTT rfl Try.func11 rfl rfl ⟨mayM_one (fun h => by have := (mayB_iff.1 h).2.2.2.1; simp [this] at h5), hw3⟩
          · have g2 := of_decide_eq_false h2
            have g3 := of_decide_eq_false h3
            have g4 : classOk c.classes c.size = true := by unfold classMay at h4; cases hh : classOk c.classes c.size <;> simp [hh] at h4 ⊢
            have g5 : c.keep.length = c.classes.length := by simp at h5; omega
            refine Goes.loop (α := Nat) (fun k => [(1, false, .pointer (some ⟨b, 0, none⟩)), (3, false, .int .i64 k)])
              (fun k w' => Chg None' w3 w' ∧ k ≤ c.keep.length ∧ ∀ j (h : j < c.keep.length), j < k → 0 ≤ c.keep[j] ∧ c.keep[j] ≤ 1024) (fun k => c.keep.length - k) 0 ⟨rfl, rfl, trivial⟩ ⟨Chg.refl _ _, Nat.zero_le _, fun _ _ h => by omega⟩ ?_
            rintro k w4 ⟨hw, hk, hpre⟩ ih
            have hw4 := hw3.trans hw
            have hb4 := hw.heap' hb3
            have hc4 := hc3.chg hw
            refine Goes.adv hTT 400 rfl ?_
            refine Goes.loadb hTT rfl hb4 rfl rfl ?_
            refine Goes.fork hTT rfl rfl rfl (fun h => ?_) (fun h => ?_)
            · have hlt : k < c.keep.length := by simpa using h
              obtain ⟨b1, off, ea, hcell⟩ := hc4.keep k hlt
              rw [getD_at hlt] at hcell
              obtain ⟨ca, cc, ka, kc⟩ := p
              simp only at ea
              subst ea
              refine Goes.loadb hTT rfl hb4 rfl rfl ?_
              refine Goes.index hTT rfl (j := k) (by omega) (by omega) (by first | rfl | omega | simp) rfl ?_
              refine Goes.load hTT rfl hcell rfl ?_
              refine Goes.fork hTT rfl rfl rfl (fun h6 => ?_) (fun h6 => ?_)
              · exact Goes.ret1 hTT rfl Try.func11 rfl rfl ⟨mayM_one (fun h => by have := (mayB_iff.1 h).2.2.2.2.1 _ (List.getElem_mem hlt); have := of_decide_eq_true h6; omega), hw4⟩
              · refine Goes.loadb hTT rfl hb4 rfl rfl ?_
                refine Goes.index hTT rfl (j := k) (by omega) (by omega) (by first | rfl | omega | simp) rfl ?_
                refine Goes.load hTT rfl hcell rfl ?_
                refine Goes.fork hTT rfl rfl rfl (fun h7 => ?_) (fun h7 => ?_)
                · exact Goes.ret1 hTT rfl Try.func11 rfl rfl ⟨mayM_one (fun h => by have := (mayB_iff.1 h).2.2.2.2.1 _ (List.getElem_mem hlt); have := of_decide_eq_true h7; omega), hw4⟩
                · refine Goes.arith hTT rfl (w64 (by omega)) rfl ?_
                  exact ih (k + 1) _ _ ⟨hw, hlt, fun j hj hjk => by
                    by_cases e : j = k
                    · subst e; exact ⟨by have := of_decide_eq_false h6; omega, by have := of_decide_eq_false h7; omega⟩
                    · exact hpre j hj (by omega)⟩ (by omega) ⟨rfl, rfl, trivial⟩
            · have hge : k = c.keep.length := by simp at h; omega
              have g6 : ∀ x, x ∈ c.keep → 0 ≤ x ∧ x ≤ 1024 := fun x hx => by obtain ⟨j, hj, rfl⟩ := List.mem_iff_getElem.1 hx; exact hpre j hj (by omega)
              refine Goes.quiet mixed (by kernel_rfl) ?_
              refine Quiet.adv hTT rfl ?_
              refine Quiet.loadb hTT rfl hb4 rfl rfl ?_
              refine Quiet.fork hTT rfl rfl rfl (fun a1 => ?_) (fun a1 => ?_)
              · refine Quiet.nil ?_
                intro w5 hw5
                refine Goes.adv hTT 400 rfl ?_
                exact Goes.ret1 hTT rfl Try.func11 rfl rfl ⟨mayM_one (fun h => by have := (mayB_iff.1 h).2.2.2.2.2; have := of_decide_eq_true a1; omega), hw4.trans hw5⟩
              refine Quiet.loadb hTT rfl hb4 rfl rfl ?_
              refine Quiet.fork hTT rfl rfl rfl (fun a2 => ?_) (fun a2 => ?_)
              · refine Quiet.nil ?_
                intro w5 hw5
                refine Goes.adv hTT 400 rfl ?_
                exact Goes.ret1 hTT rfl Try.func11 rfl rfl ⟨mayM_one (fun h => by have := (mayB_iff.1 h).2.2.2.2.2; have := of_decide_eq_true a2; omega), hw4.trans hw5⟩
              refine Quiet.loadb hTT rfl hb4 rfl rfl ?_
              refine Quiet.fork hTT rfl rfl rfl (fun a3 => ?_) (fun a3 => ?_)
              · refine Quiet.nil ?_
                intro w5 hw5
                refine Goes.adv hTT 400 rfl ?_
                exact Goes.ret1 hTT rfl Try.func11 rfl rfl ⟨mayM_one (fun h => by have := (mayB_iff.1 h).2.2.2.2.2; have := of_decide_eq_true a3; omega), hw4.trans hw5⟩
              refine Quiet.loadb hTT rfl hb4 rfl rfl ?_
              refine Quiet.fork hTT rfl rfl rfl (fun a4 => ?_) (fun a4 => ?_)
              · refine Quiet.nil ?_
                intro w5 hw5
                refine Goes.adv hTT 400 rfl ?_
                exact Goes.ret1 hTT rfl Try.func11 rfl rfl ⟨mayM_one (fun h => by have := (mayB_iff.1 h).2.2.2.2.2; have := of_decide_eq_true a4; omega), hw4.trans hw5⟩
              refine Quiet.loadb hTT rfl hb4 rfl rfl ?_
              refine Quiet.fork hTT rfl rfl rfl (fun a5 => ?_) (fun a5 => ?_)
              · refine Quiet.nil ?_
                intro w5 hw5
                refine Goes.adv hTT 400 rfl ?_
                exact Goes.ret1 hTT rfl Try.func11 rfl rfl ⟨mayM_one (fun h => by have := (mayB_iff.1 h).2.2.2.2.2; have := of_decide_eq_true a5; omega), hw4.trans hw5⟩
              refine Quiet.loadb hTT rfl hb4 rfl rfl ?_
              refine Quiet.fork hTT rfl rfl rfl (fun a6 => ?_) (fun a6 => ?_)
              · refine Quiet.nil ?_
                intro w5 hw5
                refine Goes.adv hTT 400 rfl ?_
                exact Goes.ret1 hTT rfl Try.func11 rfl rfl ⟨mayM_one (fun h => by have := (mayB_iff.1 h).2.2.2.2.2; have := of_decide_eq_true a6; omega), hw4.trans hw5⟩
              refine Quiet.loadb hTT rfl hb4 rfl rfl ?_
              refine Quiet.fork hTT rfl rfl rfl (fun a7 => ?_) (fun a7 => ?_)
              · refine Quiet.nil ?_
                intro w5 hw5
                refine Goes.adv hTT 400 rfl ?_
                exact Goes.ret1 hTT rfl Try.func11 rfl rfl ⟨mayM_one (fun h => by have := (mayB_iff.1 h).2.2.2.2.2; have := of_decide_eq_true a7; omega), hw4.trans hw5⟩
              refine Quiet.loadb hTT rfl hb4 rfl rfl ?_
              refine Quiet.loads hTT rfl hb4 rfl rfl ?_
              refine Quiet.call hTT rfl (fun w' hw' => ref03_Large c p w') rfl ?_
              refine Quiet.nil ?_
              intro w5 hw5
              refine Goes.adv hTT 400 rfl ?_
              refine Goes.fork hTT rfl rfl rfl (fun a8 => ?_) (fun a8 => ?_)
              · exact Goes.ret1 hTT rfl Try.func11 rfl rfl ⟨mayM_one (fun h => by have := (mayB_iff.1 h).2.2.2.2.2; have := of_decide_eq_true a8; omega), hw4.trans hw5⟩
              have := of_decide_eq_false a1
              have := of_decide_eq_false a2
              have := of_decide_eq_false a3
              have := of_decide_eq_false a4
              have := of_decide_eq_false a5
              have := of_decide_eq_false a6
              have := of_decide_eq_false a7
              have := of_decide_eq_false a8
              exact Goes.ret1 hTT rfl Try.func11 rfl rfl ⟨mayM_zero (mayB_iff.2 ⟨g1, by omega, g4, g5, g6, by omega, by omega, by omega, by omega⟩), hw4.trans hw5⟩

theorem law03_few (c : Conf) (p : ConfAt) (w : World) : Does Try.prog 9 #[.agg (confL c p).toArray] w (Grow (.bool (decide (c.classes.length ≤ 40) && decide (c.keep.length ≤ 40))) w) := by
  refine Does.enter Try.func9 rfl Try.ntmps9 rfl rfl ?_
  refine Goes.adv hTT 400 rfl ?_
  refine Goes.alloc hTT rfl ?_
  intro b w1 e1 hb hw1 hz1
  refine Goes.adv hTT 400 rfl ?_
  have e1 : decide ((c.classes.length : Int) ≤ 40) = decide (c.classes.length ≤ 40) := by rw [decide_eq_decide]; omega
  have e2 : decide ((c.keep.length : Int) ≤ 40) = decide (c.keep.length ≤ 40) := by rw [decide_eq_decide]; omega
  refine Goes.loadb hTT rfl hb rfl rfl ?_
  refine Goes.fork hTT rfl rfl rfl (fun h => ?_) (fun h => ?_)
  · refine Goes.loadb hTT rfl hb rfl rfl ?_
    exact Goes.ret1 hTT rfl Try.func9 rfl rfl ⟨bool_v (by rw [← e1, ← e2, h]; rfl), hw1⟩
  · exact Goes.ret1 hTT rfl Try.func9 rfl rfl ⟨bool_v (by rw [← e1, h]; rfl), hw1⟩
/-- The small layout. -/
def smallC : Conf := ⟨64, 4, [16, 32], [0, 1], 8, 4, 3, 512⟩
theorem Rd.of {k : IntKind} {w : World} {b : Nat} {c : Array Value} {t : TypeId} {fz : Nat × Nat} {zs : List Int} (h : w.heap[b]? = some (.cells c t fz)) (hc : c = (zs.map (Value.int k)).toArray) : Rd k w (some ⟨b, 0, none⟩) zs := fun i hi =>
  ⟨b, 0, rfl, by rw [cell_of h, hc]; simp [hi]⟩
theorem law03_small (w : World) : Does Try.prog 18 #[] w (fun v w' => ∃ p, v = .agg (confL smallC p).toArray ∧ ConfOk w' smallC p ∧ Chg None' w w') := by
  refine Does.enter Try.func18 rfl Try.ntmps18 rfl rfl ?_
  refine Goes.adv hTT 400 rfl ?_
  refine Goes.alloc hTT rfl ?_
  intro b w1 e1 hb hw1 hz1
  refine Goes.adv hTT 400 rfl ?_
  refine Goes.buildSlice hTT rfl ?_
  intro b2 w2 e2 hb2 hw2 hz2
  refine Goes.adv hTT 400 rfl ?_
  refine Goes.buildSlice hTT rfl ?_
  intro b3 w3 e3 hb3 hw3 hz3
  refine Goes.adv hTT 400 rfl ?_
  refine Goes.build hTT rfl rfl ?_
  refine Goes.store hTT rfl (hw3.heap' (hw2.heap' hb)) rfl rfl ?_
  intro w4 hb4 hw4 hz4
  refine Goes.adv hTT 400 rfl ?_
  have hc : ConfOk w4 smallC ⟨some ⟨b2, 0, none⟩, 2, some ⟨b3, 0, none⟩, 2⟩ :=
    ⟨Rd.of (hw4.heap (hw3.heap' hb2) (by omega)) rfl, Rd.of (hw4.heap hb3 (by omega)) rfl, by decide, by decide, by unfold In64; decide⟩
  exact Goes.ret hTT rfl Try.func18 (ResOk.cell rfl rfl rfl hb4 rfl .nil) ⟨⟨some ⟨b2, 0, none⟩, 2, some ⟨b3, 0, none⟩, 2⟩, rfl, hc, ((hw1.trans hw2).trans hw3).since hw4 (fun k hk hk' => by omega)⟩
def smallD : Conf := { smallC with most := 513 }
theorem law03_awake (w : World) : Does Try.prog 8 #[] w (Grow (.bool true) w) := by
  refine Does.enter Try.func8 rfl Try.ntmps8 rfl rfl ?_
  refine Goes.adv hTT 400 rfl ?_
  refine Goes.call rfl (law03_small w) ?_
  rintro _ w1 ⟨p, rfl, hc, hw1⟩
  refine Goes.adv hTT 400 rfl ?_
  refine Goes.alloc hTT rfl ?_
  intro b2 w2 e2 hb2 hw2 hz2
  refine Goes.adv hTT 400 rfl ?_
  refine Goes.store hTT rfl hb2 rfl rfl ?_
  intro w3 hb3 hw3 hz3
  refine Goes.adv hTT 400 rfl ?_
  have hw13 : Chg None' w1 w3 := hw2.since hw3 (fun k hk hk' => by omega)
  have hc3 := hc.chg hw13
  refine Goes.call rfl (law03_small w3) ?_
  rintro _ w4 ⟨q, rfl, hd, hw4⟩
  refine Goes.adv hTT 400 rfl ?_
  refine Goes.alloc hTT rfl ?_
  intro b5 w5 e5 hb5 hw5 hz5
  refine Goes.adv hTT 400 rfl ?_
  refine Goes.store hTT rfl hb5 rfl rfl ?_
  intro w6 hb6 hw6 hz6
  refine Goes.adv hTT 400 rfl ?_
  refine Goes.store hTT rfl hb6 rfl rfl ?_
  intro w7 hb7 hw7 hz7
  refine Goes.adv hTT 400 rfl ?_
  have hw47 : Chg None' w4 w7 := (hw5.since hw6 (fun k hk hk' => by omega)).since hw7 (fun k hk hk' => by omega)
  have hw07 := ((hw1.trans hw13).trans hw4).trans hw47
  have hd7 := hd.chg hw47
  have hc7 := (hc3.chg hw4).chg hw47
  have hb27 := hw47.heap' (hw4.heap' hb3)
  have hdd : ConfOk w7 smallD q := ⟨hd7.classes, hd7.keep, hd7.lc, hd7.lk, hd7.size⟩
  refine Goes.loads hTT rfl hb27 rfl rfl ?_
  refine Goes.call rfl (conf_May smallC p w7 hc7) ?_
  rintro _ w8 ⟨rfl, hw8⟩
  refine Goes.adv hTT 400 rfl ?_
  refine Goes.yes hTT rfl (by decide) rfl ?_
  refine Goes.loads hTT rfl (hw8.heap' hb7) rfl rfl ?_
  refine Goes.call rfl (conf_May smallD q w8 (hdd.chg hw8)) ?_
  rintro _ w9 ⟨rfl, hw9⟩
  refine Goes.adv hTT 400 rfl ?_
  refine Goes.yes hTT rfl (by decide) rfl ?_
  refine Goes.loads hTT rfl (hw9.heap' (hw8.heap' hb27)) rfl rfl ?_
  refine Goes.call rfl (conf_Blocks smallC p 0 w9 ((hc7.chg hw8).chg hw9)) ?_
  rintro _ wa ⟨rfl, hwa⟩
  refine Goes.adv hTT 400 rfl ?_
  refine Goes.yes hTT rfl (by decide) rfl ?_
  refine Goes.loads hTT rfl (hwa.heap' (hw9.heap' (hw8.heap' hb27))) rfl rfl ?_
  refine Goes.call rfl (conf_Blocks smallC p 2 wa (((hc7.chg hw8).chg hw9).chg hwa)) ?_
  rintro _ wb ⟨rfl, hwb⟩
  refine Goes.adv hTT 400 rfl ?_
  refine Goes.yes hTT rfl (by decide) rfl ?_
  refine Goes.loads hTT rfl (hwb.heap' (hwa.heap' (hw9.heap' (hw8.heap' hb27)))) rfl rfl ?_
  refine Goes.call rfl (conf_Small smallC p wb ((((hc7.chg hw8).chg hw9).chg hwa).chg hwb)) ?_
  rintro _ wc ⟨rfl, hwc⟩
  refine Goes.adv hTT 400 rfl ?_
  refine Goes.yes hTT rfl (by decide) rfl ?_
  refine Goes.loads hTT rfl (hwc.heap' (hwb.heap' (hwa.heap' (hw9.heap' (hw8.heap' hb27))))) rfl rfl ?_
  refine Goes.call rfl (conf_Large smallC p wc) ?_
  rintro _ wd ⟨rfl, hwd⟩
  refine Goes.adv hTT 400 rfl ?_
  exact Goes.ret1 hTT rfl Try.func8 rfl rfl ⟨bool_v (by decide), (((((hw07.trans hw8).trans hw9).trans hwa).trans hwb).trans hwc).trans hwd⟩
end Go.Proofs.Yteklfgglcbdpnaa
