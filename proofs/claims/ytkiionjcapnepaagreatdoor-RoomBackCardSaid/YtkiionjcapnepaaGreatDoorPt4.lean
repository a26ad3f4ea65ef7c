/-
  Texts put together: Ref3, Ref20e, Ref20f, Ref20g, Ref20h, Ref20i, Ref20j, Laws20, Laws20c, Laws20d, PlanEq, Laws20e, Few, Back13, RmBack.
-/
import Derived.Test.YtkiionjcapnepaaGreatDoorPt3
import Derived.Test.YtkiionjcapnepaaGreatDoorRule19
import Derived.Test.YtkiionjcapnepaaGreatDoorRule14
import Derived.Tactics
import Derived.Tactics2
import Derived.Test.YtkiionjcapnepaaGreatDoorRule20
set_option linter.unusedVariables false
/-
  Layer 3: what the document's functions answer.
-/
namespace Go.Proofs.YtkiionjcapnepaaGreatDoor
open Go.RowKit

theorem withinM_iff {n a b : Int} : withinM n a b = true ↔ a ≤ n ∧ n ≤ b := by unfold withinM; simp
theorem mayB_iff {c : Conf} : mayB c = true ↔ sizedM c.size = true ∧ (1 ≤ c.pages ∧ c.pages ≤ 1024) ∧ classOk c.classes c.size = true ∧ c.keep.length = c.classes.length ∧ (∀ k, k ∈ c.keep → 0 ≤ k ∧ k ≤ 1024) ∧
    (1 ≤ c.step ∧ c.step ≤ 65536) ∧ (1 ≤ c.slots ∧ c.slots ≤ 4096) ∧ (1 ≤ c.gens ∧ c.gens ≤ 1023) ∧ (1 ≤ c.most ∧ c.most ≤ largeM c) := by
  unfold mayB keepBad
  simp only [Bool.and_eq_true, withinM_iff, decide_eq_true_eq, Bool.not_eq_true', List.any_eq_false, Bool.not_eq_false, and_assoc]
theorem mayM_one {c : Conf} (h : mayB c = true → False) : Value.int .i64 1 = .int .i64 (mayM c) := by unfold mayM; rw [if_neg h]
theorem mayM_zero {c : Conf} (h : mayB c = true) : Value.int .i64 0 = .int .i64 (mayM c) := by unfold mayM; rw [if_pos h]
theorem largeM_zero {c : Conf} : largeM c = 0 ↔ sizedM c.size = false := by
  unfold largeM
  by_cases h : sizedM c.size = true
  · rw [if_pos h, h]
    have h2 := sizedM_iff.1 h
    have h4 : 64 * 8 ≤ c.size * (c.size / 8) := Int.mul_le_mul h2.1 (by omega) (by omega) (by omega)
    constructor
    · intro; omega
    · intro h; cases h
  · rw [if_neg h]; simpa using h

theorem ref03_Large (c : Conf) (p : ConfAt) (w : World) : Does Tryz.prog 67 #[.agg (confL c p).toArray] w (Grow (.int .i64 (largeM c)) w) := by
  refine Does.enter Tryz.func67 rfl Tryz.ntmps67 rfl rfl ?_
  refine Goes.adv hTT 400 rfl ?_
  refine Goes.alloc hTT rfl ?_
  intro b w1 e1 hb hw1 hz1
  refine Goes.adv hTT 400 rfl ?_
  have no : (64 ≤ c.size ∧ c.size ≤ 4096 ∧ c.size % 8 = 0 → False) → Value.int .i64 0 = .int .i64 (largeM c) := fun h => by unfold largeM; rw [if_neg (fun h' => h (sizedM_iff.1 h'))]
  refine Goes.loadb hTT rfl hb rfl rfl ?_
  refine Goes.fork hTT rfl rfl rfl (fun h1 => ?_) (fun h1 => ?_)
  · exact Goes.ret1 hTT rfl Tryz.func67 rfl rfl ⟨no (fun h => by have := of_decide_eq_true h1; omega), hw1⟩
  · have g1 := of_decide_eq_false h1
    refine Goes.loadb hTT rfl hb rfl rfl ?_
    refine Goes.fork hTT rfl rfl rfl (fun h2 => ?_) (fun h2 => ?_)
    · exact Goes.ret1 hTT rfl Tryz.func67 rfl rfl ⟨no (fun h => by have := of_decide_eq_true h2; omega), hw1⟩
    · have g2 := of_decide_eq_false h2
      refine Goes.loadb hTT rfl hb rfl rfl ?_
      refine Goes.div hTT rfl (by omega) (rem_ (by omega)) rfl ?_
      refine Goes.fork hTT rfl rfl rfl (fun h3 => ?_) (fun h3 => ?_)
      · exact Goes.ret1 hTT rfl Tryz.func67 rfl rfl ⟨no (fun h => by have := h.2.2; simp [this] at h3), hw1⟩
      · have g3 : c.size % 8 = 0 := by simpa using h3
        have h3 : 0 ≤ c.size / 8 ∧ c.size / 8 ≤ 512 := by omega
        have h4 : 0 ≤ c.size * (c.size / 8) := Int.mul_nonneg (by omega) h3.1
        have h5 : c.size * (c.size / 8) ≤ 4096 * 512 := Int.mul_le_mul (by omega) h3.2 h3.1 (by omega)
        refine Goes.loadb hTT rfl hb rfl rfl ?_
        refine Goes.loadb hTT rfl hb rfl rfl ?_
        refine Goes.div hTT rfl (by omega) (quo64 (by omega) (by omega)) rfl ?_
        refine Goes.arith hTT rfl (w64 (by omega)) rfl ?_
        exact Goes.ret1 hTT rfl Tryz.func67 rfl rfl ⟨int_v (by unfold largeM; rw [if_pos (sizedM_iff.2 ⟨by omega, by omega, g3⟩)]), hw1⟩
theorem ref03_Blocks (c : Conf) (p : ConfAt) (k : Int) (w : World) (hc : ConfOk w c p) : Does Tryz.prog 70 #[.agg (confL c p).toArray, .int .i64 k] w (Grow (.int .i64 (blocksM c k)) w) := by
  have hl := hc.lc
  have hs := hc.size
  unfold In64 at hs
  refine Does.enter Tryz.func70 rfl Tryz.ntmps70 rfl rfl ?_
  refine Goes.adv hTT 400 rfl ?_
  refine Goes.alloc hTT rfl ?_
  intro b w1 e1 hb hw1 hz1
  refine Goes.adv hTT 400 rfl ?_
  refine Goes.fork hTT rfl rfl rfl (fun h => ?_) (fun h => ?_)
  · have h' : k < 0 := of_decide_eq_true h
    exact Goes.ret1 hTT rfl Tryz.func70 rfl rfl ⟨int_v (by unfold blocksM; rw [if_neg (by omega)]), hw1⟩
  · have h' : ¬ k < 0 := of_decide_eq_false h
    refine Goes.loadb hTT rfl hb rfl rfl ?_
    refine Goes.fork hTT rfl rfl rfl (fun h2 => ?_) (fun h2 => ?_)
    · have h3 := of_decide_eq_true h2
      exact Goes.ret1 hTT rfl Tryz.func70 rfl rfl ⟨int_v (by unfold blocksM; rw [if_neg (by omega)]), hw1⟩
    · have h3 := of_decide_eq_false h2
      obtain ⟨b1, off, ea, hcell⟩ := (hc.chg hw1).classes k.toNat (by omega)
      obtain ⟨ca, cc, ka, kc⟩ := p
      simp only at ea
      subst ea
      refine Goes.quiet rfl mixed (by kernel_rfl) ?_
      refine Quiet.adv hTT rfl ?_
      refine Quiet.loadb hTT rfl hb rfl rfl ?_
      refine Quiet.loadb hTT rfl hb rfl rfl ?_
      refine Quiet.index hTT rfl (j := k.toNat) (by omega) (by omega) (by first | rfl | omega | (simp; done) | (simp; omega)) rfl ?_
      refine Quiet.load hTT rfl hcell rfl ?_
      refine Quiet.call hTT rfl (fun w' hw' => (ref01_Whole c.size (c.classes.getD k.toNat 0) w' hs.2).grow) rfl ?_
      refine Quiet.nil ?_
      intro w2 hw2
      refine Goes.adv hTT 400 rfl ?_
      exact Goes.ret1 hTT rfl Tryz.func70 rfl rfl ⟨int_v (by unfold blocksM; rw [if_pos (by omega)]), hw1.trans hw2⟩
theorem ref03_May (c : Conf) (p : ConfAt) (w : World) (hc : ConfOk w c p) : Does Tryz.prog 30 #[.agg (confL c p).toArray] w (Grow (.int .i64 (mayM c)) w) := by
  have hl := hc.lc
  have hlk := hc.lk
  refine Does.enter Tryz.func30 rfl Tryz.ntmps30 rfl rfl ?_
  refine Goes.adv hTT 400 rfl ?_
  refine Goes.alloc hTT rfl ?_
  intro b w1 e1 hb hw1 hz1
  refine Goes.adv hTT 400 rfl ?_
  refine Goes.loads hTT rfl hb rfl rfl ?_
  refine Goes.call rfl (ref03_Large c p w1) ?_
  rintro _ wL ⟨rfl, hL⟩
  refine Goes.adv hTT 400 rfl ?_
  have hw2 := hw1.trans hL
  have hb2 := hL.heap' hb
  have hc2 := hc.chg hw2
  refine Goes.fork hTT rfl rfl rfl (fun h1 => ?_) (fun h1 => ?_)
  · exact Goes.ret1 hTT rfl Tryz.func30 rfl rfl ⟨mayM_one (fun h => by have := (mayB_iff.1 h).1; rw [largeM_zero.1 (by simpa using h1)] at this; cases this), hw2⟩
  · have g1 : sizedM c.size = true := by
      cases h : sizedM c.size with
      | true => rfl
      | false => rw [largeM_zero.2 h] at h1; cases h1
    refine Goes.loadb hTT rfl hb2 rfl rfl ?_
    refine Goes.fork hTT rfl rfl rfl (fun h2 => ?_) (fun h2 => ?_)
    · exact Goes.ret1 hTT rfl Tryz.func30 rfl rfl ⟨mayM_one (fun h => by have := (mayB_iff.1 h).2.1; have := of_decide_eq_true h2; omega), hw2⟩
    · refine Goes.loadb hTT rfl hb2 rfl rfl ?_
      refine Goes.fork hTT rfl rfl rfl (fun h3 => ?_) (fun h3 => ?_)
      · exact Goes.ret1 hTT rfl Tryz.func30 rfl rfl ⟨mayM_one (fun h => by have := (mayB_iff.1 h).2.1; have := of_decide_eq_true h3; omega), hw2⟩
      · refine Goes.loadb hTT rfl hb2 rfl rfl ?_
        refine Goes.loadb hTT rfl hb2 rfl rfl ?_
        refine Goes.call rfl (ref02_May p.ca p.cc c.classes c.size wL hc2.classes hl) ?_
        rintro _ w3 ⟨rfl, hM⟩
        refine Goes.adv hTT 400 rfl ?_
        have hw3 := hw2.trans hM
        have hb3 := hM.heap' hb2
        have hc3 := hc2.chg hM
        refine Goes.fork hTT rfl rfl rfl (fun h4 => ?_) (fun h4 => ?_)
        · exact Goes.ret1 hTT rfl Tryz.func30 rfl rfl ⟨mayM_one (fun h => by have := (mayB_iff.1 h).2.2.1; simp [classMay, this] at h4), hw3⟩
        · refine Goes.loadb hTT rfl hb3 rfl rfl ?_
          refine Goes.loadb hTT rfl hb3 rfl rfl ?_
          refine Goes.fork hTT rfl rfl rfl (fun h5 => ?_) (fun h5 => ?_)
          · exact Goes.ret1 hTT rfl Tryz.func30 rfl rfl ⟨mayM_one (fun h => by have := (mayB_iff.1 h).2.2.2.1; simp [this] at h5), hw3⟩
          · have g2 := of_decide_eq_false h2
            have g3 := of_decide_eq_false h3
            have g4 : classOk c.classes c.size = true := by unfold classMay at h4; cases hh : classOk c.classes c.size <;> simp [hh] at h4 ⊢
            have g5 : c.keep.length = c.classes.length := by simp at h5; omega
            refine Goes.loop (α := Nat) (fun k => [(1, false, .pointer (some ⟨b, 0, none⟩)), (3, false, .int .i64 k)])
              (fun k w' => Chg None' w3 w' ∧ k ≤ c.keep.length ∧ ∀ j (h : j < c.keep.length), j < k → 0 ≤ c.keep[j] ∧ c.keep[j] ≤ 1024) (fun k => c.keep.length - k) 0 ⟨rfl, rfl, trivial⟩ ⟨Chg.refl _ _, Nat.zero_le _, fun _ _ h => by omega⟩ ?_
            rintro k w4 ⟨hw, hk, hpre⟩ ih
            have hw4 := hw3.trans hw
            have hb4 := hw.heap' hb3
            have hc4 := hc3.chg hw
            refine Goes.adv hTT 400 rfl ?_
            refine Goes.loadb hTT rfl hb4 rfl rfl ?_
            refine Goes.fork hTT rfl rfl rfl (fun h => ?_) (fun h => ?_)
            · have hlt : k < c.keep.length := by simpa using h
              obtain ⟨b1, off, ea, hcell⟩ := hc4.keep k hlt
              rw [getD_at hlt] at hcell
              obtain ⟨ca, cc, ka, kc⟩ := p
              simp only at ea
              subst ea
              refine Goes.loadb hTT rfl hb4 rfl rfl ?_
              refine Goes.index hTT rfl (j := k) (by omega) (by omega) (by first | rfl | omega | (simp; done) | (simp; omega)) rfl ?_
              refine Goes.load hTT rfl hcell rfl ?_
              refine Goes.fork hTT rfl rfl rfl (fun h6 => ?_) (fun h6 => ?_)
              · exact Goes.ret1 hTT rfl Tryz.func30 rfl rfl ⟨mayM_one (fun h => by have := (mayB_iff.1 h).2.2.2.2.1 _ (List.getElem_mem hlt); have := of_decide_eq_true h6; omega), hw4⟩
              · refine Goes.loadb hTT rfl hb4 rfl rfl ?_
                refine Goes.index hTT rfl (j := k) (by omega) (by omega) (by first | rfl | omega | (simp; done) | (simp; omega)) rfl ?_
                refine Goes.load hTT rfl hcell rfl ?_
                refine Goes.fork hTT rfl rfl rfl (fun h7 => ?_) (fun h7 => ?_)
                · exact Goes.ret1 hTT rfl Tryz.func30 rfl rfl ⟨mayM_one (fun h => by have := (mayB_iff.1 h).2.2.2.2.1 _ (List.getElem_mem hlt); have := of_decide_eq_true h7; omega), hw4⟩
                · refine Goes.arith hTT rfl (w64 (by omega)) rfl ?_
                  exact ih (k + 1) _ _ ⟨hw, hlt, fun j hj hjk => by
                    by_cases e : j = k
                    · subst e; exact ⟨by have := of_decide_eq_false h6; omega, by have := of_decide_eq_false h7; omega⟩
                    · exact hpre j hj (by omega)⟩ (by omega) ⟨rfl, rfl, trivial⟩
            · have hge : k = c.keep.length := by simp at h; omega
              have g6 : ∀ x, x ∈ c.keep → 0 ≤ x ∧ x ≤ 1024 := fun x hx => by obtain ⟨j, hj, rfl⟩ := List.mem_iff_getElem.1 hx; exact hpre j hj (by omega)
              refine Goes.quiet rfl mixed (by kernel_rfl) ?_
              refine Quiet.adv hTT rfl ?_
              refine Quiet.loadb hTT rfl hb4 rfl rfl ?_
              refine Quiet.fork hTT rfl rfl rfl (fun a1 => ?_) (fun a1 => ?_)
              · refine Quiet.nil ?_
                intro w5 hw5
                refine Goes.adv hTT 400 rfl ?_
                exact Goes.ret1 hTT rfl Tryz.func30 rfl rfl ⟨mayM_one (fun h => by have := (mayB_iff.1 h).2.2.2.2.2; have := of_decide_eq_true a1; omega), hw4.trans hw5⟩
              refine Quiet.loadb hTT rfl hb4 rfl rfl ?_
              refine Quiet.fork hTT rfl rfl rfl (fun a2 => ?_) (fun a2 => ?_)
              · refine Quiet.nil ?_
                intro w5 hw5
                refine Goes.adv hTT 400 rfl ?_
                exact Goes.ret1 hTT rfl Tryz.func30 rfl rfl ⟨mayM_one (fun h => by have := (mayB_iff.1 h).2.2.2.2.2; have := of_decide_eq_true a2; omega), hw4.trans hw5⟩
              refine Quiet.loadb hTT rfl hb4 rfl rfl ?_
              refine Quiet.fork hTT rfl rfl rfl (fun a3 => ?_) (fun a3 => ?_)
              · refine Quiet.nil ?_
                intro w5 hw5
                refine Goes.adv hTT 400 rfl ?_
                exact Goes.ret1 hTT rfl Tryz.func30 rfl rfl ⟨mayM_one (fun h => by have := (mayB_iff.1 h).2.2.2.2.2; have := of_decide_eq_true a3; omega), hw4.trans hw5⟩
              refine Quiet.loadb hTT rfl hb4 rfl rfl ?_
              refine Quiet.fork hTT rfl rfl rfl (fun a4 => ?_) (fun a4 => ?_)
              · refine Quiet.nil ?_
                intro w5 hw5
                refine Goes.adv hTT 400 rfl ?_
                exact Goes.ret1 hTT rfl Tryz.func30 rfl rfl ⟨mayM_one (fun h => by have := (mayB_iff.1 h).2.2.2.2.2; have := of_decide_eq_true a4; omega), hw4.trans hw5⟩
              refine Quiet.loadb hTT rfl hb4 rfl rfl ?_
              refine Quiet.fork hTT rfl rfl rfl (fun a5 => ?_) (fun a5 => ?_)
              · refine Quiet.nil ?_
                intro w5 hw5
                refine Goes.adv hTT 400 rfl ?_
                exact Goes.ret1 hTT rfl Tryz.func30 rfl rfl ⟨mayM_one (fun h => by have := (mayB_iff.1 h).2.2.2.2.2; have := of_decide_eq_true a5; omega), hw4.trans hw5⟩
              refine Quiet.loadb hTT rfl hb4 rfl rfl ?_
              refine Quiet.fork hTT rfl rfl rfl (fun a6 => ?_) (fun a6 => ?_)
              · refine Quiet.nil ?_
                intro w5 hw5
                refine Goes.adv hTT 400 rfl ?_
                exact Goes.ret1 hTT rfl Tryz.func30 rfl rfl ⟨mayM_one (fun h => by have := (mayB_iff.1 h).2.2.2.2.2; have := of_decide_eq_true a6; omega), hw4.trans hw5⟩
              refine Quiet.loadb hTT rfl hb4 rfl rfl ?_
              refine Quiet.fork hTT rfl rfl rfl (fun a7 => ?_) (fun a7 => ?_)
              · refine Quiet.nil ?_
                intro w5 hw5
                refine Goes.adv hTT 400 rfl ?_
                exact Goes.ret1 hTT rfl Tryz.func30 rfl rfl ⟨mayM_one (fun h => by have := (mayB_iff.1 h).2.2.2.2.2; have := of_decide_eq_true a7; omega), hw4.trans hw5⟩
              refine Quiet.loadb hTT rfl hb4 rfl rfl ?_
              refine Quiet.loads hTT rfl hb4 rfl rfl ?_
              refine Quiet.call hTT rfl (fun w' hw' => ref03_Large c p w') rfl ?_
              refine Quiet.nil ?_
              intro w5 hw5
              refine Goes.adv hTT 400 rfl ?_
              refine Goes.fork hTT rfl rfl rfl (fun a8 => ?_) (fun a8 => ?_)
              · exact Goes.ret1 hTT rfl Tryz.func30 rfl rfl ⟨mayM_one (fun h => by have := (mayB_iff.1 h).2.2.2.2.2; have := of_decide_eq_true a8; omega), hw4.trans hw5⟩
              have := of_decide_eq_false a1
              have := of_decide_eq_false a2
              have := of_decide_eq_false a3
              have := of_decide_eq_false a4
              have := of_decide_eq_false a5
              have := of_decide_eq_false a6
              have := of_decide_eq_false a7
              have := of_decide_eq_false a8
              exact Goes.ret1 hTT rfl Tryz.func30 rfl rfl ⟨mayM_zero (mayB_iff.2 ⟨g1, by omega, g4, g5, g6, by omega, by omega, by omega, by omega⟩), hw4.trans hw5⟩

def smallC : Conf := ⟨64, 4, [16, 32], [0, 1], 8, 4, 3, 512⟩
theorem Rd.of {k : IntKind} {w : World} {b : Nat} {c : Array Value} {t : TypeId} {fz : Nat × Nat} {zs : List Int} (h : w.heap[b]? = some (.cells c t fz)) (hc : c = (zs.map (Value.int k)).toArray) : Rd k w (some ⟨b, 0, none⟩) zs := fun i hi =>
  ⟨b, 0, rfl, by rw [cell_of h, hc]; simp [hi]⟩
end Go.Proofs.YtkiionjcapnepaaGreatDoor
/-
  Layer 20: does a thing fit, the document's; a new room, the document's.
-/
namespace Go.Proofs.YtkiionjcapnepaaGreatDoor
open Go.RowKit
theorem pickM_ge (zs : List Int) (n : Int) : -1 ≤ pickM zs n := by
  unfold pickM
  split
  · omega
  · by_cases h : zs.any (fun s => decide (n ≤ s)) = true
    · have := idx_nonneg.2 h; omega
    · rw [idx_none (fun j hj => by
        by_cases h2 : n ≤ zs[j]
        · exact absurd (List.any_eq_true.2 ⟨zs[j], List.getElem_mem hj, decide_eq_true h2⟩) h
        · exact decide_eq_false h2)]
      omega
theorem fits_eq (c : Conf) (M : RmM) (size : Int) (h : ¬ (size < 1 ∨ c.most < size)) : rmFits c M size = if (0 ≤ pickM c.classes size ∧ rmOpen M (pickM c.classes size) = 0 ∧ M.pl.free.length = 0) ∨ (pickM c.classes size < 0 ∧ (M.pl.free.length : Int) < allM size c.size) then 5 else 0 := by
  have hp := pickM_ge c.classes size
  unfold rmFits rmNeed
  rw [if_neg h]
  by_cases e : pickM c.classes size = -1
  · rw [if_pos e]
    by_cases h1 : (M.pl.free.length : Int) < allM size c.size
    · rw [if_pos h1, if_pos (.inr ⟨by omega, h1⟩)]
    · rw [if_neg h1, if_neg (by omega)]
  · rw [if_neg e]
    by_cases h1 : rmOpen M (pickM c.classes size) = 0 ∧ M.pl.free.length = 0
    · rw [if_pos (by omega), if_pos (.inl ⟨by omega, h1⟩)]
    · rw [if_neg (by omega), if_neg (by omega)]
set_option maxRecDepth 100000 in
theorem ref20_Fits (r : RR) (M : RmM) (size : Int) (w : World) (h : RrOk w r M) (hr : Rd .i64 w r.cp.ca r.c.classes) (hl : r.c.classes.length ≤ 16) (hmost : r.c.most ≤ 2097152) : Does Tryz.prog 23 #[.agg (rrL r).toArray, .int .i64 size] w (Grow (.int .i64 (rmFits r.c M size)) w) := by
  have hfl : r.p.f.x.length = M.pl.free.length := by rw [h.p.ef, List.length_map]
  have hp := pickM_ge r.c.classes size
  refine Does.enter Tryz.func23 rfl Tryz.ntmps23 rfl rfl ?_
  refine Goes.adv hTT 400 rfl ?_
  refine Goes.alloc hTT rfl ?_
  intro rb w1 e1 hrb hw1 hz1
  refine Goes.adv hTT 400 rfl ?_
  replace hrb : rrBox w1 rb r := hrb
  refine Goes.loads hTT rfl hrb rfl rfl ?_
  refine Goes.call rfl (ref17_Is r.c r.cp size w1) ?_
  rintro _ w2 ⟨rfl, hw2⟩
  refine Goes.adv hTT 400 rfl ?_
  have hrb2 := hw2.heap' hrb
  have hw02 := hw1.trans hw2
  by_cases h0 : size < 1 ∨ r.c.most < size
  · have e : rmFits r.c M size = 3 := by unfold rmFits; rw [if_pos h0]
    rw [e]
    have hb0 : (!(decide (1 ≤ size) && decide (size ≤ r.c.most))) = true := by
      rcases h0 with h0 | h0
      · rw [decide_eq_false (show ¬ 1 ≤ size by omega)]; rfl
      · rw [decide_eq_false (show ¬ size ≤ r.c.most by omega), Bool.and_false]; rfl
    refine Goes.yes hTT rfl hb0 rfl ?_
    exact Goes.ret1 hTT rfl Tryz.func23 rfl rfl ⟨rfl, hw02⟩
  · rw [fits_eq r.c M size h0]
    refine Goes.no hTT rfl (by rw [decide_eq_true (show 1 ≤ size by omega), decide_eq_true (show size ≤ r.c.most by omega)]; rfl) rfl ?_
    refine Goes.loads hTT rfl hrb2 rfl rfl ?_
    refine Goes.call rfl (ref20_Class r size w2 (hr.chg hw02) (by omega)) ?_
    rintro _ w3 ⟨rfl, hw3⟩
    refine Goes.adv hTT 400 rfl ?_
    have hrb3 := hw3.heap' hrb2
    have hw03 := hw02.trans hw3
    by_cases hk : 0 ≤ pickM r.c.classes size
    · refine Goes.yes hTT rfl (decide_eq_true hk) rfl ?_
      refine Goes.loads hTT rfl hrb3 rfl rfl ?_
      refine Goes.call rfl (ref20_Open r M (pickM r.c.classes size) w3 (h.grow hw03)) ?_
      rintro _ w4 ⟨rfl, hw4⟩
      refine Goes.adv hTT 400 rfl ?_
      have hrb4 := hw4.heap' hrb3
      have hw04 := hw03.trans hw4
      have tail : ∀ {w5 : World}, Chg None' w4 w5 → True := fun _ => trivial
      by_cases ho : rmOpen M (pickM r.c.classes size) = 0
      · refine Goes.yes hTT rfl (by rw [ho]; rfl) rfl ?_
        refine Goes.loadb hTT rfl hrb4 rfl rfl ?_
        rw [hfl]
        by_cases hf : M.pl.free.length = 0
        · rw [if_pos (.inl ⟨hk, ho, hf⟩)]
          refine Goes.yes hTT rfl (by rw [hf]; rfl) rfl ?_
          exact Goes.ret1 hTT rfl Tryz.func23 rfl rfl ⟨rfl, hw04⟩
        · rw [if_neg (by omega)]
          refine Goes.no hTT rfl (by simpa using hf) rfl ?_
          refine Goes.drawn (q := 14) None' hTT mixed (by kernel_rfl) rfl ?_
          intro hB
          refine Drawn.no hTT hB rfl (decide_eq_false (by omega)) rfl ?_
          refine Drawn.nil hB ?_
          intro w5 hw5
          refine Goes.adv hTT 400 rfl ?_
          exact Goes.ret1 hTT rfl Tryz.func23 rfl rfl ⟨rfl, hw04.trans hw5⟩
      · rw [if_neg (by omega)]
        refine Goes.no hTT rfl (by simpa using ho) rfl ?_
        refine Goes.drawn (q := 14) None' hTT mixed (by kernel_rfl) rfl ?_
        intro hB
        refine Drawn.no hTT hB rfl (decide_eq_false (by omega)) rfl ?_
        refine Drawn.nil hB ?_
        intro w5 hw5
        refine Goes.adv hTT 400 rfl ?_
        exact Goes.ret1 hTT rfl Tryz.func23 rfl rfl ⟨rfl, hw04.trans hw5⟩
    · refine Goes.no hTT rfl (decide_eq_false (by omega)) rfl ?_
      refine Goes.drawn (q := 14) None' hTT mixed (by kernel_rfl) rfl ?_
      intro hB
      refine Drawn.yes hTT hB rfl (decide_eq_true (by omega)) rfl ?_
      refine Drawn.loadb hTT hB rfl hrb3 (by first | exact fun h => h | (intro h; omega) | assumption) rfl rfl ?_
      refine Drawn.loadb hTT hB rfl hrb3 (by first | exact fun h => h | (intro h; omega) | assumption) rfl rfl ?_
      refine Drawn.call hTT hB rfl (fun w' hw' => (ref16_All size r.c.size w' (by omega)).grow) rfl ?_
      refine Drawn.nil hB ?_
      intro w5 hw5
      refine Goes.adv hTT 400 rfl ?_
      rw [hfl]
      by_cases hf : (M.pl.free.length : Int) < allM size r.c.size
      · rw [if_pos (.inr ⟨by omega, hf⟩)]
        refine Goes.yes hTT rfl (decide_eq_true hf) rfl ?_
        exact Goes.ret1 hTT rfl Tryz.func23 rfl rfl ⟨rfl, hw03.trans hw5⟩
      · rw [if_neg (by omega)]
        refine Goes.no hTT rfl (decide_eq_false hf) rfl ?_
        exact Goes.ret1 hTT rfl Tryz.func23 rfl rfl ⟨rfl, hw03.trans hw5⟩
end Go.Proofs.YtkiionjcapnepaaGreatDoor
/-
  Layer 20: a new room, the document's.
-/
namespace Go.Proofs.YtkiionjcapnepaaGreatDoor
open Go.RowKit
def nilIL : IL := ⟨none, 0, []⟩
def rs0 (k : Int) (b : Nat) : RS := ⟨⟨nilIL, nilIL⟩, k, b, nilIL, none, 0, [], nilIL⟩
def rs0s (c : Conf) (n : Nat) : List RS := (List.range n).map fun k => rs0 (k : Nat) (blocksM c (k : Nat)).toNat
theorem rs0s_get {c : Conf} {n k : Nat} {s : RS} (h : (rs0s c n)[k]? = some s) : k < n ∧ s = rs0 (k : Nat) (blocksM c (k : Nat)).toNat := by
  unfold rs0s at h
  rw [List.getElem?_map, Option.map_eq_some_iff] at h
  obtain ⟨j, hj, e⟩ := h
  obtain ⟨h1, h2⟩ := List.getElem?_eq_some_iff.1 hj
  simp only [List.length_range] at h1
  rw [List.getElem_range] at h2
  subst h2
  exact ⟨h1, e.symm⟩
theorem rs0s_succ (c : Conf) (n : Nat) : rs0s c (n + 1) = rs0s c n ++ [rs0 (n : Nat) (blocksM c (n : Nat)).toNat] := by
  unfold rs0s
  rw [List.range_succ, List.map_append]; rfl
theorem rs0_ok (w : World) (k : Int) (b : Nat) : RsOk w (rs0 k b) (newSm k b) ⟨[], []⟩ := by
  have hn : IlX w nilIL := ⟨⟨Rd.nil _ _ _, by simp [nilIL]⟩, Nat.le_refl _, (by intro b off s e; cases e)⟩
  exact ⟨⟨hn, hn, rfl, rfl⟩, hn, hn, (fun i l hl => by simp [rs0] at hl), (by intro b off s e; cases e), Nat.le_refl _, (fun l hl => by simp [rs0] at hl), rfl, rfl, rfl, rfl, rfl⟩
theorem rs0_out (S : Nat → Prop) (k : Int) (b : Nat) : RsOut S (rs0 k b) := by
  have hn : OutA S (none : Option Addr) := fun b off s e => by cases e
  exact ⟨hn, hn, hn, hn, hn, fun l hl => by simp [rs0] at hl⟩
theorem cellsN {w : World} {b : Nat} {l : List Value} {t : TypeId} {fz : Nat × Nat} (h : w.heap[b]? = some (.cells l.toArray t fz)) : ∀ i u, l[i]? = some u → ∃ a', (some ⟨b, 0, none⟩ : Option Addr) = some a' ∧ w.cell? (a'.add i) = some u := fun i u hu =>
  ⟨_, rfl, by rw [add_off, cell_of h, Nat.zero_add]; simpa using hu⟩
set_option maxRecDepth 100000 in
theorem ref20_New (c : Conf) (p : ConfAt) (w : World) (hc : ConfOk w c p) (hm : mayB c = true) (hp : c.pages ≤ 512) : Does Tryz.prog 31 #[.agg (confL c p).toArray] w
    (fun v w' => ∃ r, v = .tuple #[.agg (rrL r).toArray, .int .i64 0] ∧ r.c = c ∧ r.cp = p ∧ RrOk w' r (newRm c 0) ∧ (∀ S : Nat → Prop, (∀ z, S z → z < w.heap.size) → RrOut S r) ∧ Chg None' w w') := by
  have hml : maxLen = 9223372036854775807 := rfl
  have hf := may_facts hm
  have hfn := hf.n
  have hfp := hf.pages
  obtain ⟨N, hN⟩ := Int.eq_ofNat_of_zero_le (show 0 ≤ c.pages by omega)
  have em : mayM c = 0 := by unfold mayM; rw [if_pos hm]
  refine Does.enter Tryz.func31 rfl Tryz.ntmps31 rfl rfl ?_
  refine Goes.adv hTT 400 rfl ?_
  refine Goes.alloc hTT rfl ?_
  intro cb w1 e1 hcb hw1 hz1
  refine Goes.adv hTT 400 rfl ?_
  refine Goes.alloc hTT rfl ?_
  intro ob w2 e2 hob hw2 hz2
  refine Goes.adv hTT 400 rfl ?_
  replace hcb : w1.heap[cb]? = some (.cells (confL c p).toArray 24 (0, 0)) := hcb
  have hw02 := hw1.trans hw2
  have hcb2 := hw2.heap' hcb
  refine Goes.loads hTT rfl hcb2 rfl rfl ?_
  refine Goes.call rfl (ref03_May c p w2 (hc.chg hw02)) ?_
  rintro _ w3 ⟨rfl, hw3⟩
  refine Goes.adv hTT 400 rfl ?_
  rw [em]
  refine Goes.no hTT rfl rfl rfl ?_
  have hcb3 := hw3.heap' hcb2
  refine Goes.loadb hTT rfl hcb3 rfl rfl ?_
  rw [hN]
  refine Goes.call rfl (ref08_New N w3 (by omega)) ?_
  rintro _ w4 ⟨rp, rfl, hP4, hFo, hFf, hw4⟩
  refine Goes.adv hTT 400 rfl ?_
  refine Goes.alloc hTT rfl ?_
  intro pb w5 e5 hpb hw5 hz5
  refine Goes.adv hTT 400 rfl ?_
  refine Goes.store hTT rfl hpb rfl rfl ?_
  intro w6 hpb6 hs6 hz6
  refine Goes.adv hTT 400 rfl ?_
  replace hpb6 : w6.heap[pb]? = some (.cells (rpL rp).toArray 31 (0, 0)) := hpb6
  have hw46 : Chg None' w4 w6 := hw5.since hs6 (fun z hz e => by omega)
  have hcb6 := hw46.heap' (hw4.heap' hcb3)
  refine Goes.loads hTT rfl hcb6 rfl rfl ?_
  refine Goes.loads hTT rfl hpb6 rfl rfl ?_
  refine Goes.build hTT rfl rfl ?_
  refine Goes.alloc hTT rfl ?_
  intro tb w7 e7 htb hw7 hz7
  refine Goes.adv hTT 400 rfl ?_
  refine Goes.store hTT rfl htb rfl rfl ?_
  intro w8 htb8 hs8 hz8
  refine Goes.adv hTT 400 rfl ?_
  replace htb8 : w8.heap[tb]? = some (.cells (confL c p ++ [ilV rp.o, ilV rp.f, .slice none 0 0, .slice none 0 0, .int .i64 0]).toArray 35 (0, 0)) := htb8
  have hw68 : Chg None' w6 w8 := hw7.since hs8 (fun z hz e => by omega)
  have hw08 := (((hw02.trans hw3).trans hw4).trans hw46).trans hw68
  have hcb8 := hw68.heap' hcb6
  have hob8 := (((hw3.trans hw4).trans hw46).trans hw68).heap' hob
  have hs01 := hw1.size
  have hlcb := lt_of_heap hcb
  have hlob := lt_of_heap hob
  have hltb := lt_of_heap htb8
  have hs26 : w2.heap.size ≤ w6.heap.size := ((hw3.trans hw4).trans hw46).size
  refine Goes.loop (α := Nat × Value) (fun x => [(1, false, .pointer (some ⟨cb, 0, none⟩)), (2, false, .pointer (some ⟨ob, 0, none⟩)), (6, false, .pointer (some ⟨tb, 0, none⟩)), (7, false, .int .i64 x.1)])
    (fun x w' => x.1 ≤ c.classes.length ∧ w'.heap[tb]? = some (.cells (confL c p ++ [ilV rp.o, ilV rp.f, x.2, .slice none 0 0, .int .i64 0]).toArray 35 (0, 0)) ∧ Own w8.heap.size 45 7 w' x.2 x.1 (fl rsL (rs0s c x.1)) ∧ Chg (fun z => z = tb) w8 w') (fun x => c.classes.length - x.1) (0, .slice none 0 0) ⟨rfl, rfl, rfl, rfl, trivial⟩ ⟨Nat.zero_le _, htb8, ⟨rfl, .inl ⟨rfl, rfl⟩⟩, Chg.refl _ _⟩ ?_
  rintro ⟨i, v⟩ w9 ⟨hi, htb9, ho9, hc9⟩ ih
  simp only at hi htb9 ho9
  have hcb9 := hc9.heap hcb8 (by omega)
  have hw09 : Chg None' w w9 := hw08.since hc9 (fun z hz e => by have := hw08.size; omega)
  have hs89 := hc9.size
  refine Goes.adv hTT 400 rfl ?_
  refine Goes.loadb hTT rfl hcb9 rfl rfl ?_
  refine Goes.fork hTT rfl rfl rfl (fun hlp => ?_) (fun hlp => ?_)
  · have hlt : i < c.classes.length := by have := of_decide_eq_true hlp; omega
    have hbk := blocks_ok hm hlt
    obtain ⟨bk, hbk'⟩ := Int.eq_ofNat_of_zero_le (show 0 ≤ blocksM c i by omega)
    refine Goes.drawn (q := 11) (fun z => z = tb ∨ w8.heap.size ≤ z) hTT mixed (by kernel_rfl) rfl ?_
    intro hB
    have hcS : ¬ (cb = tb ∨ w8.heap.size ≤ cb) := by omega
    refine Drawn.loadsAt (3) hTT hB rfl rfl rfl hcb9 (by first | exact fun h => h | (intro h; omega) | assumption) rfl rfl ?_
    refine Drawn.call hTT hB rfl (fun w' hw' => ref03_Blocks c p (i : Nat) w' (hc.chg (hw09.since hw' (fun z hz e => by have := hw08.size; rcases e with e | e <;> omega)))) rfl ?_
    refine Drawn.build hTT hB rfl rfl ?_
    refine Drawn.turn2 hB rfl ?_ ?_
    · intro wa hwa
      refine Turn.loadb hTT hB rfl (hwa.heap' htb9) rfl rfl ?_
      refine Drawn.turn1 hB rfl ?_
      intro wb hwb
      refine Turn.buildSlice hTT hB rfl (fun _ => rfl) ?_
      intro b7 wc ec hb7 hwc hzc
      refine Drawn.turn1 hB rfl ?_
      intro wd hwd
      have hw9d := ((hwa.trans hwb).trans hwc).trans hwd
      have hod := ho9.chg hw9d (fun _ _ h => h)
      have hb7d := hwd.heap' hb7
      rw [hbk'] at hb7d
      refine Turn.appendS hTT hB rfl (base := w8.heap.size) (xs := fl rsL (rs0s c i)) (news := rsL (rs0 (i : Nat) bk)) hod (by have := hw9d.size; omega) (fun e => by cases e) (fun b hb _ => .inr (World.ownsRow.lt hod b hb.symm).1) rfl (cellsN hb7d) (rsL_plain _) ⟨by omega, by show (i + 1) * 136 ≤ _; omega⟩ (fun _ => rfl) ?_
      intro v2 wf ho2 hsf hv2
      obtain ⟨va, vn, vc, rfl⟩ := Own.isSlice ho2
      refine Drawn.turn1 hB rfl ?_
      intro wg hwg
      have htbf := hsf.heap (hw9d.heap' htb9) (fun e => by have := (World.ownsRow.lt hod tb (Eq.symm e)).1; omega)
      refine Turn.store hTT hB rfl (hwg.heap' htbf) (by first | (intro h; exact rfl) | (intro h; omega)) rfl rfl rfl ?_
      intro wh htbh hsh hzh
      refine Drawn.nil hB ?_
      intro wi hwi
      refine Goes.adv hTT 400 rfl ?_
      replace htbh : wh.heap[tb]? = some (.cells (confL c p ++ [ilV rp.o, ilV rp.f, .slice va vn vc, .slice none 0 0, .int .i64 0]).toArray 35 (0, 0)) := htbh
      have hoi := ((ho2.chg hwg (fun _ _ h => h)).chg hsh (fun b hb e => by have := (World.ownsRow.lt ho2 b hb.symm).1; replace e : b = tb := e; omega)).chg hwi (fun _ _ h => h)
      have hc8 : Chg (fun z => z = tb) w8 wi := ((((hc9.trans (hw9d.mono fun _ _ h => h.elim)).since hsf (fun z hz e => by have := (World.ownsRow.lt hod z e.symm).1; omega)).trans (hwg.mono fun _ _ h => h.elim)).trans hsh).trans (hwi.mono fun _ _ h => h.elim)
      refine Goes.arith hTT rfl (w64 (by omega)) rfl ?_
      exact ih (i + 1, .slice va vn vc) _ _ ⟨hlt, hwi.heap' htbh, by rw [rs0s_succ, fl_append, fl_one, hbk', Int.toNat_natCast]; exact hoi, hc8⟩ (by simp only; omega) ⟨rfl, rfl, rfl, rfl, trivial⟩
    · intro wa hwa
      refine Turn.buildSlice hTT hB rfl (fun _ => rfl) ?_
      intro b7 wb eb hb7 hwb hzb
      refine Drawn.turn1 hB rfl ?_
      intro wc hwc
      refine Turn.loadb hTT hB rfl (((hwa.trans hwb).trans hwc).heap' htb9) rfl rfl ?_
      refine Drawn.turn1 hB rfl ?_
      intro wd hwd
      have hw9d := ((hwa.trans hwb).trans hwc).trans hwd
      have hod := ho9.chg hw9d (fun _ _ h => h)
      have hb7d := hwd.heap' (hwc.heap' hb7)
      rw [hbk'] at hb7d
      refine Turn.appendS hTT hB rfl (base := w8.heap.size) (xs := fl rsL (rs0s c i)) (news := rsL (rs0 (i : Nat) bk)) hod (by have := hw9d.size; omega) (fun e => by cases e) (fun b hb _ => .inr (World.ownsRow.lt hod b hb.symm).1) rfl (cellsN hb7d) (rsL_plain _) ⟨by omega, by show (i + 1) * 136 ≤ _; omega⟩ (fun _ => rfl) ?_
      intro v2 wf ho2 hsf hv2
      obtain ⟨va, vn, vc, rfl⟩ := Own.isSlice ho2
      refine Drawn.turn1 hB rfl ?_
      intro wg hwg
      have htbf := hsf.heap (hw9d.heap' htb9) (fun e => by have := (World.ownsRow.lt hod tb (Eq.symm e)).1; omega)
      refine Turn.store hTT hB rfl (hwg.heap' htbf) (by first | (intro h; exact rfl) | (intro h; omega)) rfl rfl rfl ?_
      intro wh htbh hsh hzh
      refine Drawn.nil hB ?_
      intro wi hwi
      refine Goes.adv hTT 400 rfl ?_
      replace htbh : wh.heap[tb]? = some (.cells (confL c p ++ [ilV rp.o, ilV rp.f, .slice va vn vc, .slice none 0 0, .int .i64 0]).toArray 35 (0, 0)) := htbh
      have hoi := ((ho2.chg hwg (fun _ _ h => h)).chg hsh (fun b hb e => by have := (World.ownsRow.lt ho2 b hb.symm).1; replace e : b = tb := e; omega)).chg hwi (fun _ _ h => h)
      have hc8 : Chg (fun z => z = tb) w8 wi := ((((hc9.trans (hw9d.mono fun _ _ h => h.elim)).since hsf (fun z hz e => by have := (World.ownsRow.lt hod z e.symm).1; omega)).trans (hwg.mono fun _ _ h => h.elim)).trans hsh).trans (hwi.mono fun _ _ h => h.elim)
      refine Goes.arith hTT rfl (w64 (by omega)) rfl ?_
      exact ih (i + 1, .slice va vn vc) _ _ ⟨hlt, hwi.heap' htbh, by rw [rs0s_succ, fl_append, fl_one, hbk', Int.toNat_natCast]; exact hoi, hc8⟩ (by simp only; omega) ⟨rfl, rfl, rfl, rfl, trivial⟩
  · have hge : i = c.classes.length := by have := of_decide_eq_false hlp; omega
    subst hge
    have hlen : (rs0s c c.classes.length).length = c.classes.length := by unfold rs0s; simp
    obtain ⟨sa, scap, rfl, hrow, hlt, hcap, hbase⟩ := Own.rowsN ho9 rsL_len hlen
    rw [hlen] at htb9 hcap
    let R : RR := ⟨c, p, rp, rs0s c c.classes.length, sa, scap, [], none, 0, 0⟩
    have htb9' : rrBox w9 tb R := by
      show w9.heap[tb]? = some (.cells (confL c p ++ [ilV rp.o, ilV rp.f, .slice sa (rs0s c c.classes.length).length scap, .slice none 0 0, .int .i64 0]).toArray _ _)
      rw [hlen]; exact htb9
    refine Goes.loads hTT rfl htb9' rfl rfl ?_
    have hob9 := hc9.heap hob8 (by omega)
    refine Goes.store hTT rfl hob9 rfl rfl ?_
    intro wa hoba hsa hza
    refine Goes.adv hTT 400 rfl ?_
    replace hoba : rrBox wa ob R := hoba
    have hc0a : Chg None' w wa := hw09.since hsa (fun z hz e => by omega)
    have hs08 := hw08.size
    have hon : ∀ S : Nat → Prop, OutA S (none : Option Addr) := fun S b off s e => by cases e
    have hs23 := hw3.size
    have hPa : RpOk wa rp (plNew N) := by
      have h9 : RpOk w9 rp (plNew N) := by
        have h8 := (hP4.grow hw46).grow hw68
        exact ⟨h8.o.far (fun b off s e hz => by have := hP4.o.lt b off s e; have := hw46.size; replace hz : b = tb := hz; omega) hc9, h8.f.far (fun b off s e hz => by have := hP4.f.lt b off s e; have := hw46.size; replace hz : b = tb := hz; omega) hc9, h8.eo, h8.ef⟩
      exact ⟨h9.o.far (fun b off s e hz => by have := hFo b off s e; replace hz : b = ob := hz; omega) hsa, h9.f.far (fun b off s e hz => by have := hFf b off s e; replace hz : b = ob := hz; omega) hsa, h9.eo, h9.ef⟩
    have hsaO : OutA (fun z => z = ob) sa := fun b off s e hz => by have := hbase b off s e; replace hz : b = ob := hz; omega
    have hout : ∀ S : Nat → Prop, (∀ z, S z → z < w.heap.size) → RrOut S R := fun S hS => ⟨hFo.out (fun z hz => by have := hS z hz; have := hw02.size; omega), hFf.out (fun z hz => by have := hS z hz; have := hw02.size; omega), fun b off s e hz => by have := hbase b off s e; have := hS b hz; omega, fun s hs => by
      obtain ⟨k, hk, rfl⟩ := List.getElem_of_mem hs
      obtain ⟨_, e⟩ := rs0s_get (List.getElem?_eq_getElem hk)
      rw [e]; exact rs0_out S _ _, hon S, fun q hq => by cases hq⟩
    have hrr : RrOk wa R (newRm c 0) := by
      refine ⟨by show RpOk wa rp (plNew c.pages.toNat); rw [hN, Int.toNat_natCast]; exact hPa, hrow.far hsaO hsa, hlt.grow hsa.size, by show (rs0s c c.classes.length).length ≤ scap; rw [hlen]; exact hcap, by show (rs0s c _).length = (newShs c _).length; unfold rs0s newShs; simp, by show (rs0s c c.classes.length).length ≤ 16; omega, fun k s x h1 h2 => ?_, (fun i x hx => by simp [R] at hx), (by intro b off s e; cases e), Nat.le_refl _, by show 0 ≤ 1024; omega, rfl, (fun q hq => by cases hq), rfl⟩
      obtain ⟨_, rfl⟩ := rs0s_get h1
      obtain ⟨_, rfl⟩ := newShs_get h2
      exact ⟨⟨[], []⟩, rs0_ok _ _ _, fun e he => by cases he⟩
    exact Goes.ret hTT rfl Tryz.func31 (ResOk.cell rfl rfl rfl hoba rfl (.tmp rfl .nil)) ⟨R, rfl, rfl, rfl, hrr, hout, hc0a⟩
end Go.Proofs.YtkiionjcapnepaaGreatDoor
/-
  Layer 20: a thing is placed, the document's.
-/
namespace Go.Proofs.YtkiionjcapnepaaGreatDoor
open Go.RowKit
theorem lg_few {c : Conf} {M : RmM} (h : M.Ok c) (hg : M.pl.Good) : M.lg.length ≤ 1024 := by
  have h1 := h.sum
  have h2 := heldM_le hg
  have h3 : ∀ l : List (Nat × List Nat), l.length ≤ lgMany l := fun l => by
    induction l with
    | nil => simp
    | cons a r ih => unfold lgMany at *; rw [List.map_cons, List.sum_cons, List.length_cons]; omega
  have := h3 M.lg
  omega
theorem plcL_len (q : Plc) : (plcL q).length = 4 := rfl
theorem plcL_plain (q : Plc) : ∀ u ∈ plcL q, u.oneCell' = true := fun u hu => by
  simp only [plcL, List.mem_cons, List.mem_nil_iff, or_false] at hu
  rcases hu with rfl | rfl | rfl | rfl <;> rfl
/-- A place that is told. -/
structure PlcNew (w w' : World) (q : Plc) : Prop where
  ok : PlcOk w' q
  lt : ALt w' q.pa
  fresh : Fresh w q.pa
theorem plcNew_none {w w' : World} {a b c : Int} : PlcNew w w' ⟨a, b, c, none, 0, []⟩ := ⟨⟨Rd.nil _ _ _, by simp⟩, (by intro b off s e; cases e), (by intro b off s e; cases e)⟩
theorem RKeep.out {w w2 : World} {r r' : RR} {M : RmM} (hK : RKeep w2 r r') (h : RrOk w r M) {S : Nat → Prop} (h1 : ∀ z, S z → w.heap.size ≤ z) (h2 : ∀ z, S z → z < w2.heap.size) : RrOut S r' := hK.2.2 S h2 (h.out h1)
set_option maxRecDepth 100000 in
theorem ref20_Place (r : RR) (M : RmM) (who size : Int) (w : World) (h : RrOk w r M) (hm : MOk M) (hMok : M.Ok r.c) (ht : 0 ≤ M.tot ∧ M.tot ≤ 4611686018427000000) (hr : Rd .i64 w r.cp.ca r.c.classes) (hmay : mayB r.c = true) : Does Tryz.prog 32 #[.agg (rrL r).toArray, .int .i64 who, .int .i64 size] w
    (fun v w' => ∃ r' q, v = .tuple #[.agg (rrL r').toArray, .agg (plcL q).toArray, .int .i64 (rmPlaceE r.c M who size)] ∧ plcP q = rmPlaceQ r.c M who size ∧ RrOk w' r' (rmPlace r.c M who size) ∧ RKeep w r r' ∧ PlcNew w w' q ∧ Chg None' w w') := by
  have hml : maxLen = 9223372036854775807 := rfl
  have hf := may_facts hmay
  have hs1 := hf.size
  have hs2 := hf.n
  have hs3 := hf.most
  refine Does.enter Tryz.func32 rfl Tryz.ntmps32 rfl rfl ?_
  refine Goes.adv hTT 400 rfl ?_
  refine Goes.alloc hTT rfl ?_
  intro rb w1 e1 hrb hw1 hz1
  refine Goes.adv hTT 400 rfl ?_
  refine Goes.alloc hTT rfl ?_
  intro ob w2 e2 hob hw2 hz2
  refine Goes.adv hTT 400 rfl ?_
  refine Goes.alloc hTT rfl ?_
  intro qb w3 e3 hqb hw3 hz3
  refine Goes.adv hTT 400 rfl ?_
  replace hrb : rrBox w1 rb r := hrb
  have hw03 := (hw1.trans hw2).trans hw3
  have hrb3 := hw3.heap' (hw2.heap' hrb)
  have hob3 := hw3.heap' hob
  have hS03 := hw03.size
  have hS01 := hw1.size
  by_cases g1 : who < 0
  · have e1' : rmPlaceE r.c M who size = 1 ∧ rmPlaceQ r.c M who size = ⟨0, 0, 0, []⟩ ∧ rmPlace r.c M who size = M := by
      exact ⟨by unfold rmPlaceE; rw [if_pos g1], by unfold rmPlaceQ; rw [if_pos g1], by unfold rmPlace; rw [if_pos g1]⟩
    rw [e1'.1, e1'.2.1, e1'.2.2]
    refine Goes.yes hTT rfl (decide_eq_true g1) rfl ?_
    refine Goes.loads hTT rfl hrb3 rfl rfl ?_
    refine Goes.build hTT rfl rfl ?_
    refine Goes.store hTT rfl hob3 rfl rfl ?_
    intro w4 hob4 hs4 hz4
    refine Goes.adv hTT 400 rfl ?_
    replace hob4 : rrBox w4 ob r := hob4
    have hqb4 := hs4.heap hqb (by omega)
    refine Goes.store hTT rfl hqb4 rfl rfl ?_
    intro w5 hqb5 hs5 hz5
    refine Goes.adv hTT 400 rfl ?_
    have hob5 := hs5.heap hob4 (by omega)
    have hc : Chg None' w w5 := (hw03.since hs4 (fun z hz e => by omega)).since hs5 (fun z hz e => by omega)
    exact Goes.ret hTT rfl Tryz.func32 (ResOk.cell rfl rfl rfl hob5 rfl (.cell rfl rfl rfl hqb5 rfl (.tmp rfl .nil))) ⟨r, ⟨0, 0, 0, none, 0, []⟩, rfl, rfl, h.grow hc, RKeep.refl w r, plcNew_none, hc⟩
  · refine Goes.no hTT rfl (decide_eq_false g1) rfl ?_
    refine Goes.loads hTT rfl hrb3 rfl rfl ?_
    refine Goes.call rfl (ref20_Fits r M size w3 (h.grow hw03) (hr.chg hw03) hs2.2 hs3.2) ?_
    rintro _ w4 ⟨rfl, hw4⟩
    refine Goes.adv hTT 400 rfl ?_
    have hw04 := hw03.trans hw4
    have hrb4 := hw4.heap' hrb3
    have hob4 := hw4.heap' hob3
    have hqb4 := hw4.heap' hqb
    have hS34 := hw4.size
    by_cases g2 : rmFits r.c M size = 0
    · have g2' : ¬ (rmFits r.c M size ≠ 0) := fun h => h g2
      have hfit : ¬ (size < 1 ∨ r.c.most < size) ∧ rmNeed r.c M size ≤ M.pl.free.length := by
        have g2 := g2
        unfold rmFits at g2
        split at g2
        · cases g2
        · split at g2
          · cases g2
          · refine ⟨by assumption, by omega⟩
      refine Goes.no hTT rfl (by rw [g2]; rfl) rfl ?_
      refine Goes.loads hTT rfl hrb4 rfl rfl ?_
      refine Goes.call rfl (ref20_Class r size w4 (hr.chg hw04) (by omega)) ?_
      rintro _ w5 ⟨rfl, hw5⟩
      refine Goes.adv hTT 400 rfl ?_
      have hw05 := hw04.trans hw5
      have hrb5 := hw5.heap' hrb4
      have hob5 := hw5.heap' hob4
      have hqb5 := hw5.heap' hqb4
      have hS45 := hw5.size
      by_cases g3 : pickM r.c.classes size = -1
      · have e3' : rmPlaceE r.c M who size = 0 ∧ rmPlaceQ r.c M who size = ⟨-1, (M.pl.free.getD 0 0 : Nat), 0, natsI (M.pl.free.take (allM size r.c.size).toNat).tail⟩ ∧ rmPlace r.c M who size = rmBig M (allM size r.c.size).toNat := by
          exact ⟨by unfold rmPlaceE; rw [if_neg g1, if_neg g2', if_pos g3], by unfold rmPlaceQ; rw [if_neg g1, if_neg g2', if_pos g3], by unfold rmPlace; rw [if_neg g1, if_neg g2', if_pos g3]⟩
        rw [e3'.1, e3'.2.1, e3'.2.2]
        have hneed : rmNeed r.c M size = allM size r.c.size := by unfold rmNeed; rw [if_pos g3]
        have hge : 2 ≤ allM size r.c.size := by
          have h0 : 0 ≤ (size - 1) / r.c.size := Int.ediv_nonneg (by omega) (by omega)
          have h9 : (size - 1) / r.c.size ≤ size - 1 := Int.ediv_le_self _ (by omega)
          have e4 : manyM size r.c.size = (size - 1) / r.c.size + 1 := by unfold manyM; rw [if_neg (by omega)]
          unfold allM
          rw [e4, if_neg (by omega)]
          omega
        obtain ⟨many, hmany⟩ := Int.eq_ofNat_of_zero_le (show 0 ≤ allM size r.c.size by omega)
        have hm2 : 2 ≤ many := by omega
        have hmf : many ≤ M.pl.free.length := by have := hfit.2; omega
        have hfl : M.pl.free.length ≤ 1024 := by have := hm.good.many; have := hm.good.len; omega
        refine Goes.no hTT rfl (decide_eq_false (by omega)) rfl ?_
        refine Goes.build hTT rfl rfl ?_
        refine Goes.alloc hTT rfl ?_
        intro tb w6 e6 htb hw6 hz6
        refine Goes.adv hTT 400 rfl ?_
        refine Goes.store hTT rfl htb rfl rfl ?_
        intro w7 htb7 hs7 hz7
        refine Goes.adv hTT 400 rfl ?_
        replace htb7 : w7.heap[tb]? = some (.cells ([.int .i64 (-1), .int .i64 0, .int .i64 0, .slice none 0 0] : List Value).toArray 47 (0, 0)) := htb7
        have hw57 : Chg None' w5 w7 := hw6.since hs7 (fun z hz e => by omega)
        have hw07 := hw05.trans hw57
        have hrb7 := hw57.heap' hrb5
        have hob7 := hw57.heap' hob5
        have hqb7 := hw57.heap' hqb5
        have hS57 := hw57.size
        refine Goes.loadb hTT rfl hrb7 rfl rfl ?_
        refine Goes.call rfl (ref16_All size r.c.size w7 (by omega)) ?_
        rintro _ _ ⟨rfl, rfl⟩
        refine Goes.adv hTT 400 rfl ?_
        rw [hmany, Int.toNat_natCast]
        have hn := hMok.n
        obtain ⟨B, hB⟩ : ∃ B : Nat → Prop, B = fun z => z = rb ∨ z = ob ∨ z = qb ∨ z = tb := ⟨_, rfl⟩
        have hBlo : ∀ z, B z → w.heap.size ≤ z ∧ z < w7.heap.size := fun z hz => by rw [hB] at hz; rcases hz with e | e | e | e <;> omega
        have hor := h.out (S := B) (fun z hz => (hBlo z hz).1)
        refine Goes.loop (α := Nat × RP × Value) (fun x => [(3, false, .pointer (some ⟨rb, 0, none⟩)), (6, false, .pointer (some ⟨ob, 0, none⟩)), (7, false, .pointer (some ⟨qb, 0, none⟩)), (14, false, .pointer (some ⟨tb, 0, none⟩)), (15, false, .int .i64 many), (16, false, .int .i64 x.1)])
          (fun x w' => x.1 ≤ many ∧ rrBox w' rb { r with p := x.2.1 } ∧ w'.heap[tb]? = some (.cells ([.int .i64 (-1), .int .i64 (if x.1 = 0 then 0 else (M.pl.free.getD 0 0 : Nat)), .int .i64 0, x.2.2] : List Value).toArray 47 (0, 0)) ∧ RpOk w' x.2.1 (plTk M.pl (M.shs.length : Nat) x.1) ∧ OutA B x.2.1.o.a ∧ OutA B x.2.1.f.a ∧
            (∀ S : Nat → Prop, (∀ z, S z → z < w.heap.size) → OutA S r.p.o.a → OutA S r.p.f.a → OutA S x.2.1.o.a ∧ OutA S x.2.1.f.a) ∧ ALt w x.2.1.f.a ∧ Own w7.heap.size 3 1 w' x.2.2 (x.1 - 1) ((natsI (M.pl.free.take x.1).tail).map (Value.int .i64)) ∧ Chg (fun z => z = rb ∨ z = tb) w7 w') (fun x => many - x.1) (0, r.p, .slice none 0 0) ⟨rfl, rfl, rfl, rfl, rfl, rfl, trivial⟩
          ⟨Nat.zero_le _, hrb7, htb7, h.p.grow hw07, hor.o, hor.f, fun S _ h1 h2 => ⟨h1, h2⟩, h.p.f.lt, ⟨rfl, .inl ⟨rfl, rfl⟩⟩, Chg.refl _ _⟩ ?_
        rintro ⟨i, rp, v⟩ w8 ⟨hi, hrb8, htb8, hP8, hO8, hF8, hK8, hL8, ho8, hc8⟩ ih
        simp only at hi hrb8 htb8 hP8 hO8 hF8 hK8 hL8 ho8
        have hS78 := hc8.size
        refine Goes.adv hTT 400 rfl ?_
        refine Goes.fork hTT rfl rfl rfl (fun hlp => ?_) (fun hlp => ?_)
        · have hlt : i < many := by have := of_decide_eq_true hlp; omega
          have hil : i < M.pl.free.length := by omega
          obtain ⟨q1, q2, q3, q4, q5⟩ := plTk_props (who := (M.shs.length : Nat)) (by omega) hm.good i (by omega)
          have hfree : (plTk M.pl (M.shs.length : Nat) i).free = M.pl.free[i] :: M.pl.free.drop (i + 1) := by rw [q2]; exact List.drop_eq_getElem_cons hil
          obtain ⟨t1, t2, t3⟩ := plTake_ok (who := (M.shs.length : Nat)) (by omega) hfree
          have etk : plTk M.pl (M.shs.length : Nat) (i + 1) = (plTk M.pl (M.shs.length : Nat) i).take (M.shs.length : Nat) := t3
          refine Goes.loads hTT rfl hrb8 rfl rfl ?_
          refine Goes.loadb hTT rfl hrb8 rfl rfl ?_
          have hd := ref08_Take rp (M.shs.length : Nat) _ _ _ w8 hP8 q1 (by omega) hfree
          rw [← etk, hn] at hd
          refine Goes.call rfl (hd) ?_
          rintro _ w9 ⟨l9, rfl, hP9, hFl9, hw9⟩
          refine Goes.adv hTT 400 rfl ?_
          rw [← hn] at hP9
          refine Goes.alloc hTT rfl ?_
          intro xb wa ea hxb hwa hza
          refine Goes.adv hTT 400 rfl ?_
          refine Goes.store hTT rfl hxb rfl rfl ?_
          intro wb hxbb hsb hzb
          refine Goes.adv hTT 400 rfl ?_
          replace hxbb : wb.heap[xb]? = some (.cells (rpL ⟨l9, rp.f.sl 1 rp.f.x.length⟩).toArray 31 (0, 0)) := hxbb
          have hS89 := hw9.size
          have hw9b : Chg None' w9 wb := hwa.since hsb (fun z hz e => by omega)
          have hw8b := hw9.trans hw9b
          have hS8b := hw8b.size
          refine Goes.loads hTT rfl hxbb rfl rfl ?_
          refine Goes.store hTT rfl (hw8b.heap' hrb8) rfl rfl ?_
          intro wc hrbc hsc hzc
          refine Goes.adv hTT 400 rfl ?_
          replace hrbc : rrBox wc rb { r with p := ⟨l9, rp.f.sl 1 rp.f.x.length⟩ } := hrbc
          have hPb := hP9.grow hw9b
          have hOl : OutA B l9.a := hFl9.out (fun z hz => by have := (hBlo z hz).2; omega)
          have hFl : OutA B (rp.f.sl 1 rp.f.x.length).a := IL.sl_out hF8
          have hKl : ∀ S : Nat → Prop, (∀ z, S z → z < w.heap.size) → OutA S r.p.o.a → OutA S r.p.f.a → OutA S l9.a ∧ OutA S (rp.f.sl 1 rp.f.x.length).a := fun S hS h1 h2 => ⟨hFl9.out (fun z hz => by have := hS z hz; have := hw07.size; omega), IL.sl_out (hK8 S hS h1 h2).2⟩
          have hLl : ALt w (rp.f.sl 1 rp.f.x.length).a := fun b off s e => by
            obtain ⟨_, _, e'⟩ := shiftA_blk e
            exact hL8 b _ _ e'
          have hBr : B rb := by rw [hB]; exact .inl rfl
          have hBt : B tb := by rw [hB]; exact .inr (.inr (.inr rfl))
          have far : ∀ {w1 w2 : World} {z0 : Nat}, B z0 → Chg (fun z => z = z0) w1 w2 → RpOk w1 ⟨l9, rp.f.sl 1 rp.f.x.length⟩ (plTk M.pl (M.shs.length : Nat) (i + 1)) → RpOk w2 ⟨l9, rp.f.sl 1 rp.f.x.length⟩ (plTk M.pl (M.shs.length : Nat) (i + 1)) := fun hb0 hc0 hp0 => ⟨hp0.o.far (hOl.mono (fun z e => by subst e; exact hb0)) hc0, hp0.f.far (hFl.mono (fun z e => by subst e; exact hb0)) hc0, hp0.eo, hp0.ef⟩
          have hPc := far hBr hsc hPb
          have htbc := hsc.heap (hw8b.heap' htb8) (by omega)
          have hoc := (ho8.chg hw8b (fun _ _ h => h)).chg hsc (fun b hb e => by have := (World.ownsRow.lt ho8 b hb.symm).1; replace e : b = rb := e; omega)
          have hc7c : Chg (fun z => z = rb ∨ z = tb) w7 wc := (hc8.trans (hw8b.mono fun _ _ h => h.elim)).trans (hsc.mono fun _ _ e => .inl e)
          by_cases hi0 : i = 0
          · subst hi0
            refine Goes.yes hTT rfl rfl rfl ?_
            refine Goes.store hTT rfl htbc rfl rfl ?_
            intro wd htbd hsd hzd
            refine Goes.adv hTT 400 rfl ?_
            refine Goes.arith hTT rfl (w64 (by omega)) rfl ?_
            have hfr0 : ((M.pl.free[0] : Nat) : Int) = (M.pl.free.getD 0 0 : Nat) := by rw [List.getD_eq_getElem?_getD, List.getElem?_eq_getElem hil]; rfl
            exact ih (1, ⟨l9, rp.f.sl 1 rp.f.x.length⟩, v) _ _ ⟨by omega, hsd.heap hrbc (by omega), by rw [if_neg (show ¬ (1 = 0) by omega), ← hfr0]; exact htbd, far hBt hsd hPc, hOl, hFl, hKl, hLl, by
              have e : (M.pl.free.take 1).tail = [] := List.eq_nil_of_length_eq_zero (by rw [List.length_tail, List.length_take]; omega)
              have e0 : (M.pl.free.take 0).tail = [] := by simp
              have := hoc.chg hsd (fun b hb e => by have := (World.ownsRow.lt ho8 b hb.symm).1; replace e : b = tb := e; omega)
              rw [e0] at this
              show Own _ _ _ _ _ 0 _
              rw [e]
              exact this, hc7c.trans (hsd.mono fun _ _ e => .inr e)⟩ (by simp only; omega) ⟨rfl, rfl, rfl, rfl, rfl, rfl, trivial⟩
          · rw [if_neg hi0] at htbc
            refine Goes.no hTT rfl (by simp; omega) rfl ?_
            refine Goes.loadb hTT rfl htbc rfl rfl ?_
            refine Goes.buildSlice hTT rfl ?_
            intro bd wd ed hbd hwd hzd
            refine Goes.adv hTT 400 rfl ?_
            have hSc := hsc.size
            have hSd := hwd.size
            have hod := hoc.chg hwd (fun _ _ h => h)
            refine Goes.append (base := w7.heap.size) (xs := (natsI (M.pl.free.take i).tail).map (Value.int .i64)) (news := [.int .i64 (M.pl.free[i] : Nat)]) hTT rfl hod (by omega) (by simp) (cells1 hbd) (by simp [Value.oneCell']) ⟨by omega, by show (i - 1 + 1) * 8 ≤ _; omega⟩ ?_
            intro v2 we ho2 hse hve
            obtain ⟨va, vn, vc, rfl⟩ := Own.isSlice ho2
            refine Goes.adv hTT 400 rfl ?_
            have hlow := fun (b : Nat) (hb : some b = v.ownBlock) => (World.ownsRow.lt hod b hb.symm).1
            have hrbe := hse.heap (hwd.heap' hrbc) (fun e => by have := hlow rb e; omega)
            have htbe := hse.heap (hwd.heap' htbc) (fun e => by have := hlow tb e; omega)
            have hPd := hPc.grow hwd
            have hPe : RpOk we ⟨l9, rp.f.sl 1 rp.f.x.length⟩ (plTk M.pl (M.shs.length : Nat) (i + 1)) := by
              have hSd2 := hw07.size
              have hhi := fun (b : Nat) (hb : some b = v.ownBlock) => (World.ownsRow.lt ho8 b hb.symm).2
              exact ⟨hPd.o.far (fun b off s e hb => by have := hFl9 b off s e; have := hhi b hb; omega) hse, hPd.f.far (fun b off s e hb => by have := hLl b off s e; have := hlow b hb; omega) hse, hPd.eo, hPd.ef⟩
            refine Goes.store hTT rfl htbe rfl rfl ?_
            intro wf htbf hsf hzf
            refine Goes.adv hTT 400 rfl ?_
            refine Goes.arith hTT rfl (w64 (by omega)) rfl ?_
            exact ih (i + 1, ⟨l9, rp.f.sl 1 rp.f.x.length⟩, .slice va vn vc) _ _ ⟨by omega, hsf.heap hrbe (by omega), by rw [if_neg (show ¬ (i + 1 = 0) by omega)]; exact htbf, far hBt hsf hPe, hOl, hFl, hKl, hLl, by
              have e : (M.pl.free.take (i + 1)).tail = (M.pl.free.take i).tail ++ [M.pl.free[i]] := by
                rw [List.take_add_one, List.getElem?_eq_getElem hil, List.tail_append_of_ne_nil]
                · rfl
                · intro e; have := congrArg List.length e; rw [List.length_take, List.length_nil] at this; omega
              have := ho2.chg hsf (fun b hb e => by have := (World.ownsRow.lt ho2 b hb.symm).1; replace e : b = tb := e; omega)
              rw [e, natsI_append, List.map_append]
              have e2 : i - 1 + 1 = i + 1 - 1 := by omega
              rw [e2] at this
              exact this, ((hc7c.trans (hwd.mono fun _ _ h => h.elim)).since hse (fun z hz e => by have := hlow z e; omega)).trans (hsf.mono fun _ _ e => .inr e)⟩ (by simp only; omega) ⟨rfl, rfl, rfl, rfl, rfl, rfl, trivial⟩
        · have hge' : i = many := by have := of_decide_eq_false hlp; omega
          subst hge'
          have hB0 := hB
          clear hB
          have htl : (M.pl.free.take i).tail.length = i - 1 := by rw [List.length_tail, List.length_take]; omega
          obtain ⟨g, gc, rfl, hg1, hg2, hg3, hkg, hrd⟩ := own_page ho8 htl (by omega)
          obtain ⟨q0, hq0e⟩ : ∃ q0 : Plc, q0 = ⟨-1, (M.pl.free.getD 0 0 : Nat), 0, some ⟨g, 0, none⟩, gc, natsI (M.pl.free.take i).tail⟩ := ⟨_, rfl⟩
          have htb8' : w8.heap[tb]? = some (.cells (plcL q0).toArray 47 (0, 0)) := by
            rw [if_neg (show ¬ i = 0 by omega)] at htb8
            have e : plcL q0 = [.int .i64 (-1), .int .i64 (M.pl.free.getD 0 0 : Nat), .int .i64 0, .slice (some ⟨g, 0, none⟩) (i - 1) gc] := by
              rw [hq0e]
              show [_, _, _, Value.slice _ (natsI (M.pl.free.take i).tail).length _] = _
              rw [natsI_length, htl]
            rw [e]; exact htb8
          have hq0P : plcP q0 = ⟨-1, (M.pl.free.getD 0 0 : Nat), 0, natsI (M.pl.free.take i).tail⟩ := by rw [hq0e]; rfl
          have hq0a : q0.pa = some ⟨g, 0, none⟩ := by rw [hq0e]
          have hq0l : q0.pages = natsI (M.pl.free.take i).tail := by rw [hq0e]
          have hst := h.st
          have hw08 : Chg None' w w8 := hw07.since hc8 (fun z hz e => by rcases e with e | e <;> omega)
          have hob8 := hc8.heap hob7 (by omega)
          have hqb8 := hc8.heap hqb7 (by omega)
          obtain ⟨t, hteq⟩ : ∃ t, t = charged M.tot (((i : Nat) : Int) * 4 + (((i : Nat) : Int) - 1)) := ⟨_, rfl⟩
          have htv : r.steps + 4 * (i : Int) + (i : Int) - 1 = t := by
            rw [hteq]; unfold charged; rw [if_neg (by omega)]; omega
          have hok' := hMok.big hm.good (show 1 ≤ i by omega) hmf
          have hlm : (r.lg ++ [q0]).length ≤ 1024 := by
            have h1 := lg_few hok' (plTk_props (who := (M.shs.length : Nat)) (by omega) hm.good i hmf).1
            have h2 : (M.lg ++ [(M.pl.free.getD 0 0, (M.pl.free.take i).tail)]).length ≤ 1024 := h1
            have hlen8 : r.lg.length = M.lg.length := by have := congrArg List.length h.lge; simpa using this
            simp only [List.length_append, List.length_cons, List.length_nil] at h2 ⊢
            omega
          have hrb8' : w8.heap[rb]? = some (.cells (confL r.c r.cp ++ [ilV rp.o, ilV rp.f, .slice r.sa r.ss.length r.scap, .slice r.la r.lg.length r.lcap, .int .i64 r.steps]).toArray 35 (0, 0)) := hrb8
          refine Goes.loadb hTT rfl hrb8' rfl rfl ?_
          refine Goes.arith hTT rfl (w64 (by omega)) rfl ?_
          refine Goes.arith hTT rfl (w64 (by omega)) rfl ?_
          refine Goes.arith hTT rfl (w64 (by omega)) rfl ?_
          refine Goes.arith hTT rfl (w64 (by omega)) rfl ?_
          rw [htv]
          refine Goes.store hTT rfl hrb8' rfl rfl ?_
          intro w9 hrb9 hs9 hz9
          refine Goes.adv hTT 400 rfl ?_
          replace hrb9 : rrBox w9 rb { r with p := rp, steps := t } := hrb9
          have htb9 := hs9.heap htb8' (by omega)
          have hob9 := hs9.heap hob8 (by omega)
          have hqb9 := hs9.heap hqb8 (by omega)
          have hB89 : Chg B w8 w9 := hs9.mono fun _ _ e => by rw [hB0]; exact .inl e
          have hw09 : Chg None' w w9 := hw08.since hs9 (fun z hz e => by omega)
          have hS89 := hs9.size
          have hrb9' : w9.heap[rb]? = some (.cells (confL r.c r.cp ++ [ilV rp.o, ilV rp.f, .slice r.sa r.ss.length r.scap, .slice r.la r.lg.length r.lcap, .int .i64 t]).toArray 35 (0, 0)) := hrb9
          refine Goes.drawn (q := 6) None' hTT mixed (by kernel_rfl) rfl ?_
          intro hB
          refine Drawn.loadb hTT hB rfl hrb9' (by first | exact fun h => h | (intro h; omega) | assumption) rfl rfl ?_
          refine Drawn.loads hTT hB rfl htb9 (by first | exact fun h => h | (intro h; omega) | assumption) rfl rfl ?_
          refine Drawn.turn2 hB rfl ?_ ?_
          · intro wa hwa
            refine Turn.buildSlice hTT hB rfl (fun _ => rfl) ?_
            intro b0 wb eb hb0 hwb hzb
            have hc0 := hwa.trans hwb
            have ho0 : Own w9.heap.size 47 4 wb (.slice (some ⟨b0, 0, none⟩) 0 0) 0 (fl plcL []) := Own.empty (by have := hwa.size; omega) hb0
            refine Drawn.turn2 hB rfl ?_ ?_
            · intro wc hwc
              refine Turn.appendA hTT hB rfl (base := w9.heap.size) (xs := fl plcL []) (news := fl plcL r.lg) (ho0.chg hwc (fun _ _ h => h)) ((hc0.trans hwc)).size h.lr.noneA (Nat.le_refl _) (fl_length plcL_len r.lg) ((h.lr.chg (hw09.trans (hc0.trans hwc))).news plcL_len (by decide)) (fl_plain plcL_plain r.lg) ⟨by have := h.lm; omega, by have := h.lm; show (0 + r.lg.length) * 48 ≤ _; omega⟩ (fun _ => rfl) ?_
              intro v1 wx ho1 hsx hvx
              have hc1 := ((ho0.chg hwc (fun _ _ h => h))).since (hc0.trans hwc) (Nat.le_refl _) hsx
              refine Drawn.turn1 hB rfl ?_
              intro wd hwd
              refine Turn.buildSlice hTT hB rfl (fun _ => rfl) ?_
              intro b5 we ee hb5 hwe hze
              refine Drawn.nil hB ?_
              intro wf hwf
              refine Goes.adv hTT 400 rfl ?_
              have hs9b := ((((hc1.trans hwd).trans hwe).trans hwf)).size
              have ho2 : Own w9.heap.size 47 4 wf v1 r.lg.length (fl plcL r.lg) := by
                have := (((ho1.chg hwd (fun _ _ h => h)).chg hwe (fun _ _ h => h)).chg hwf (fun _ _ h => h))
                rw [fl_nil, List.nil_append, Nat.zero_add] at this
                exact this
              obtain ⟨a1, n1, c1, rfl⟩ := Own.isSlice ho2
              refine Goes.appendA (base := w9.heap.size) (xs := fl plcL r.lg) (news := plcL q0) hTT rfl ho2 hs9b (fun e => by cases e) rfl (cellsN (hwf.heap' hb5)) (plcL_plain q0) ⟨by have := h.lm; omega, by have := h.lm; show (r.lg.length + 1) * 48 ≤ _; omega⟩ ?_
              intro v3 wy ho3 hsy hvy
              have hc9y := ho2.since (((hc1.trans hwd).trans hwe).trans hwf) (Nat.le_refl _) hsy
              have ho3' : Own w9.heap.size 47 4 wy v3 (r.lg.length + 1) (fl plcL (r.lg ++ [q0])) := by
                rw [fl_append, fl_one]; exact ho3
              obtain ⟨la, lcap, rfl, hrow, hlt, hcap, hbase⟩ := Own.rowsN ho3' plcL_len (by simp)
              refine Goes.adv hTT 400 rfl ?_
              refine Goes.store hTT rfl (hc9y.heap' hrb9) rfl rfl ?_
              intro wz hrbz hsz hzz
              refine Goes.adv hTT 400 rfl ?_
              replace hrbz : rrBox wz rb { r with p := rp, steps := t, lg := r.lg ++ [q0], la := la, lcap := lcap } := hrbz
              have htbz := hsz.heap (hc9y.heap' htb9) (by omega)
              have hobz := hsz.heap (hc9y.heap' hob9) (by omega)
              have hqbz := hsz.heap (hc9y.heap' hqb9) (by omega)
              have hBob : B ob := by rw [hB0]; exact .inr (.inl rfl)
              have hBqb : B qb := by rw [hB0]; exact .inr (.inr (.inl rfl))
              have hBrb : B rb := by rw [hB0]; exact .inl rfl
              have hB9z : Chg B w9 wz := (hc9y.mono fun _ _ h => h.elim).trans (hsz.mono fun _ _ e => by rw [e]; exact hBrb)
              have hS9z := hB9z.size
              refine Goes.drawn (q := 3) (fun z => z = ob) hTT mixed (by kernel_rfl) rfl ?_
              intro hB
              have hro : ¬ rb = ob := by omega
              have hto : ¬ tb = ob := by omega
              refine Drawn.loads hTT hB rfl hrbz (by first | exact fun h => h | (intro h; omega) | assumption) rfl rfl ?_
              refine Drawn.loads hTT hB rfl htbz (by first | exact fun h => h | (intro h; omega) | assumption) rfl rfl ?_
              refine Drawn.turn1 hB rfl ?_
              intro wu hwu
              refine Turn.store hTT hB rfl (hwu.heap' hobz) (by first | (intro h; exact rfl) | (intro h; omega)) rfl rfl rfl ?_
              intro wv hobv hsv hzv
              replace hobv : rrBox wv ob { r with p := rp, steps := t, lg := r.lg ++ [q0], la := la, lcap := lcap } := hobv
              refine Drawn.nil hB ?_
              intro ww hww
              refine Goes.adv hTT 400 rfl ?_
              have hqbw := hww.heap' (hsv.heap (hwu.heap' hqbz) (by omega))
              refine Goes.store hTT rfl hqbw rfl rfl ?_
              intro wr hqbr hsr hzr
              refine Goes.adv hTT 400 rfl ?_
              replace hqbr : wr.heap[qb]? = some (.cells (plcL q0).toArray 47 (0, 0)) := hqbr
              have hobr := hsr.heap (hww.heap' hobv) (by omega)
              have hBr : Chg B w8 wr := (((((hB89.trans hB9z).trans (hwu.mono fun _ _ h => h.elim)).trans (hsv.mono fun _ _ e => by rw [e]; exact hBob)).trans (hww.mono fun _ _ h => h.elim)).trans (hsr.mono fun _ _ e => by rw [e]; exact hBqb))
              have hc0r : Chg None' w wr := hw08.since hBr (fun z hz e => by have := (hBlo z e).1; omega)
              have hPr : RpOk wr rp (plTk M.pl (M.shs.length : Nat) i) := ⟨hP8.o.far hO8 hBr, hP8.f.far hF8 hBr, hP8.eo, hP8.ef⟩
              have hgB : ¬ B g := fun hz => by have := (hBlo g hz).2; omega
              have hrdr := hrd.far (S := B) (fun b' off s e => by cases e; exact hgB) hBr
              have hr0 := h.grow hc0r
              have hcyr : Chg B wy wr := ((((hsz.mono fun _ _ e => by rw [e]; exact hBrb).trans (hwu.mono fun _ _ h => h.elim)).trans (hsv.mono fun _ _ e => by rw [e]; exact hBob)).trans (hww.mono fun _ _ h => h.elim)).trans (hsr.mono fun _ _ e => by rw [e]; exact hBqb)
              have hlaB : OutA B la := fun b off s e hz => by have := hbase b off s e; have := (hBlo b hz).2; omega
              have hlen8 : r.lg.length = M.lg.length := by have := congrArg List.length h.lge; simpa using this
              have hlt' : ALt w8 q0.pa := fun b off s e => by rw [hq0a] at e; cases e; exact kd_lt hkg
              have hq0 : PlcOk wr q0 := ⟨by rw [hq0a, hq0l]; exact hrdr, by rw [hq0l, natsI_length, htl]; omega⟩
              exact Goes.ret hTT rfl Tryz.func32 (ResOk.cell rfl rfl rfl hobr rfl (.cell rfl rfl rfl hqbr rfl (.tmp rfl .nil))) ⟨{ r with p := rp, steps := t, lg := r.lg ++ [q0], la := la, lcap := lcap }, q0, rfl, hq0P, ⟨hPr, hr0.sr, hr0.sl, hr0.sc, hr0.n, hr0.few, hr0.each, hrow.far hlaB hcyr, hlt.grow hcyr.size, hcap, hlm, by show (r.lg ++ [q0]).map plcP = (M.lg ++ [(M.pl.free.getD 0 0, (M.pl.free.take i).tail)]).map lgP; rw [List.map_append, List.map_append, h.lge, List.map_cons, List.map_nil, hq0P]; rfl, fun q hq => (List.mem_append.1 hq).elim (fun hq => hr0.lgo q hq) (fun hq => by rw [List.mem_singleton] at hq; subst hq; exact ⟨hq0, hlt'.grow hBr.size⟩), hteq⟩, ⟨rfl, rfl, fun S hS ho => ⟨(hK8 S hS ho.o ho.f).1, (hK8 S hS ho.o ho.f).2, ho.sa, ho.each, fun b off s e hz => by have := hbase b off s e; have := hS b hz; have := hw07.size; omega, fun q hq => (List.mem_append.1 hq).elim (fun hq => ho.lgo q hq) (fun hq => by rw [List.mem_singleton] at hq; subst hq; exact fun b off s e hz => by rw [hq0a] at e; cases e; have := hS g hz; have := hw07.size; omega)⟩⟩, ⟨hq0, hlt'.grow hBr.size, fun b off s e => by rw [hq0a] at e; cases e; have := hw07.size; omega⟩, hc0r⟩
            · intro wc hwc
              refine Turn.buildSlice hTT hB rfl (fun _ => rfl) ?_
              intro b5 wd ed hb5 hwd hzd
              refine Drawn.turn1 hB rfl ?_
              intro we hwe
              refine Turn.appendA hTT hB rfl (base := w9.heap.size) (xs := fl plcL []) (news := fl plcL r.lg) (((ho0.chg hwc (fun _ _ h => h)).chg hwd (fun _ _ h => h)).chg hwe (fun _ _ h => h)) ((((hc0.trans hwc).trans hwd).trans hwe)).size h.lr.noneA (Nat.le_refl _) (fl_length plcL_len r.lg) ((h.lr.chg (hw09.trans (((hc0.trans hwc).trans hwd).trans hwe))).news plcL_len (by decide)) (fl_plain plcL_plain r.lg) ⟨by have := h.lm; omega, by have := h.lm; show (0 + r.lg.length) * 48 ≤ _; omega⟩ (fun _ => rfl) ?_
              intro v1 wx ho1 hsx hvx
              have hc1 := ((((ho0.chg hwc (fun _ _ h => h)).chg hwd (fun _ _ h => h)).chg hwe (fun _ _ h => h))).since (((hc0.trans hwc).trans hwd).trans hwe) (Nat.le_refl _) hsx
              refine Drawn.nil hB ?_
              intro wf hwf
              refine Goes.adv hTT 400 rfl ?_
              have hne : ¬ ownS (.slice (some ⟨b0, 0, none⟩) 0 0) b5 := by
                intro h; have e : some b5 = some b0 := h; have := Option.some.inj e; have := hwc.size; omega
              have hs9b := ((hc1.trans hwf)).size
              have ho2 : Own w9.heap.size 47 4 wf v1 r.lg.length (fl plcL r.lg) := by
                have := (ho1.chg hwf (fun _ _ h => h))
                rw [fl_nil, List.nil_append, Nat.zero_add] at this
                exact this
              obtain ⟨a1, n1, c1, rfl⟩ := Own.isSlice ho2
              refine Goes.appendA (base := w9.heap.size) (xs := fl plcL r.lg) (news := plcL q0) hTT rfl ho2 hs9b (fun e => by cases e) rfl (cellsN (hwf.heap' (hsx.heap (hwe.heap' hb5) hne))) (plcL_plain q0) ⟨by have := h.lm; omega, by have := h.lm; show (r.lg.length + 1) * 48 ≤ _; omega⟩ ?_
              intro v3 wy ho3 hsy hvy
              have hc9y := ho2.since (hc1.trans hwf) (Nat.le_refl _) hsy
              have ho3' : Own w9.heap.size 47 4 wy v3 (r.lg.length + 1) (fl plcL (r.lg ++ [q0])) := by
                rw [fl_append, fl_one]; exact ho3
              obtain ⟨la, lcap, rfl, hrow, hlt, hcap, hbase⟩ := Own.rowsN ho3' plcL_len (by simp)
              refine Goes.adv hTT 400 rfl ?_
              refine Goes.store hTT rfl (hc9y.heap' hrb9) rfl rfl ?_
              intro wz hrbz hsz hzz
              refine Goes.adv hTT 400 rfl ?_
              replace hrbz : rrBox wz rb { r with p := rp, steps := t, lg := r.lg ++ [q0], la := la, lcap := lcap } := hrbz
              have htbz := hsz.heap (hc9y.heap' htb9) (by omega)
              have hobz := hsz.heap (hc9y.heap' hob9) (by omega)
              have hqbz := hsz.heap (hc9y.heap' hqb9) (by omega)
              have hBob : B ob := by rw [hB0]; exact .inr (.inl rfl)
              have hBqb : B qb := by rw [hB0]; exact .inr (.inr (.inl rfl))
              have hBrb : B rb := by rw [hB0]; exact .inl rfl
              have hB9z : Chg B w9 wz := (hc9y.mono fun _ _ h => h.elim).trans (hsz.mono fun _ _ e => by rw [e]; exact hBrb)
              have hS9z := hB9z.size
              refine Goes.drawn (q := 3) (fun z => z = ob) hTT mixed (by kernel_rfl) rfl ?_
              intro hB
              have hro : ¬ rb = ob := by omega
              have hto : ¬ tb = ob := by omega
              refine Drawn.loads hTT hB rfl hrbz (by first | exact fun h => h | (intro h; omega) | assumption) rfl rfl ?_
              refine Drawn.loads hTT hB rfl htbz (by first | exact fun h => h | (intro h; omega) | assumption) rfl rfl ?_
              refine Drawn.turn1 hB rfl ?_
              intro wu hwu
              refine Turn.store hTT hB rfl (hwu.heap' hobz) (by first | (intro h; exact rfl) | (intro h; omega)) rfl rfl rfl ?_
              intro wv hobv hsv hzv
              replace hobv : rrBox wv ob { r with p := rp, steps := t, lg := r.lg ++ [q0], la := la, lcap := lcap } := hobv
              refine Drawn.nil hB ?_
              intro ww hww
              refine Goes.adv hTT 400 rfl ?_
              have hqbw := hww.heap' (hsv.heap (hwu.heap' hqbz) (by omega))
              refine Goes.store hTT rfl hqbw rfl rfl ?_
              intro wr hqbr hsr hzr
              refine Goes.adv hTT 400 rfl ?_
              replace hqbr : wr.heap[qb]? = some (.cells (plcL q0).toArray 47 (0, 0)) := hqbr
              have hobr := hsr.heap (hww.heap' hobv) (by omega)
              have hBr : Chg B w8 wr := (((((hB89.trans hB9z).trans (hwu.mono fun _ _ h => h.elim)).trans (hsv.mono fun _ _ e => by rw [e]; exact hBob)).trans (hww.mono fun _ _ h => h.elim)).trans (hsr.mono fun _ _ e => by rw [e]; exact hBqb))
              have hc0r : Chg None' w wr := hw08.since hBr (fun z hz e => by have := (hBlo z e).1; omega)
              have hPr : RpOk wr rp (plTk M.pl (M.shs.length : Nat) i) := ⟨hP8.o.far hO8 hBr, hP8.f.far hF8 hBr, hP8.eo, hP8.ef⟩
              have hgB : ¬ B g := fun hz => by have := (hBlo g hz).2; omega
              have hrdr := hrd.far (S := B) (fun b' off s e => by cases e; exact hgB) hBr
              have hr0 := h.grow hc0r
              have hcyr : Chg B wy wr := ((((hsz.mono fun _ _ e => by rw [e]; exact hBrb).trans (hwu.mono fun _ _ h => h.elim)).trans (hsv.mono fun _ _ e => by rw [e]; exact hBob)).trans (hww.mono fun _ _ h => h.elim)).trans (hsr.mono fun _ _ e => by rw [e]; exact hBqb)
              have hlaB : OutA B la := fun b off s e hz => by have := hbase b off s e; have := (hBlo b hz).2; omega
              have hlen8 : r.lg.length = M.lg.length := by have := congrArg List.length h.lge; simpa using this
              have hlt' : ALt w8 q0.pa := fun b off s e => by rw [hq0a] at e; cases e; exact kd_lt hkg
              have hq0 : PlcOk wr q0 := ⟨by rw [hq0a, hq0l]; exact hrdr, by rw [hq0l, natsI_length, htl]; omega⟩
              exact Goes.ret hTT rfl Tryz.func32 (ResOk.cell rfl rfl rfl hobr rfl (.cell rfl rfl rfl hqbr rfl (.tmp rfl .nil))) ⟨{ r with p := rp, steps := t, lg := r.lg ++ [q0], la := la, lcap := lcap }, q0, rfl, hq0P, ⟨hPr, hr0.sr, hr0.sl, hr0.sc, hr0.n, hr0.few, hr0.each, hrow.far hlaB hcyr, hlt.grow hcyr.size, hcap, hlm, by show (r.lg ++ [q0]).map plcP = (M.lg ++ [(M.pl.free.getD 0 0, (M.pl.free.take i).tail)]).map lgP; rw [List.map_append, List.map_append, h.lge, List.map_cons, List.map_nil, hq0P]; rfl, fun q hq => (List.mem_append.1 hq).elim (fun hq => hr0.lgo q hq) (fun hq => by rw [List.mem_singleton] at hq; subst hq; exact ⟨hq0, hlt'.grow hBr.size⟩), hteq⟩, ⟨rfl, rfl, fun S hS ho => ⟨(hK8 S hS ho.o ho.f).1, (hK8 S hS ho.o ho.f).2, ho.sa, ho.each, fun b off s e hz => by have := hbase b off s e; have := hS b hz; have := hw07.size; omega, fun q hq => (List.mem_append.1 hq).elim (fun hq => ho.lgo q hq) (fun hq => by rw [List.mem_singleton] at hq; subst hq; exact fun b off s e hz => by rw [hq0a] at e; cases e; have := hS g hz; have := hw07.size; omega)⟩⟩, ⟨hq0, hlt'.grow hBr.size, fun b off s e => by rw [hq0a] at e; cases e; have := hw07.size; omega⟩, hc0r⟩
          · intro wa hwa
            refine Turn.buildSlice hTT hB rfl (fun _ => rfl) ?_
            intro b5 wb eb hb5 hwb hzb
            refine Drawn.turn1 hB rfl ?_
            intro wc hwc
            refine Turn.buildSlice hTT hB rfl (fun _ => rfl) ?_
            intro b0 wd ed hb0 hwd hzd
            have hc0 := ((hwa.trans hwb).trans hwc).trans hwd
            have ho0 : Own w9.heap.size 47 4 wd (.slice (some ⟨b0, 0, none⟩) 0 0) 0 (fl plcL []) := Own.empty (by have := ((hwa.trans hwb).trans hwc).size; omega) hb0
            refine Drawn.turn1 hB rfl ?_
            intro we hwe
            refine Turn.appendA hTT hB rfl (base := w9.heap.size) (xs := fl plcL []) (news := fl plcL r.lg) (ho0.chg hwe (fun _ _ h => h)) ((hc0.trans hwe)).size h.lr.noneA (Nat.le_refl _) (fl_length plcL_len r.lg) ((h.lr.chg (hw09.trans (hc0.trans hwe))).news plcL_len (by decide)) (fl_plain plcL_plain r.lg) ⟨by have := h.lm; omega, by have := h.lm; show (0 + r.lg.length) * 48 ≤ _; omega⟩ (fun _ => rfl) ?_
            intro v1 wx ho1 hsx hvx
            have hc1 := ((ho0.chg hwe (fun _ _ h => h))).since (hc0.trans hwe) (Nat.le_refl _) hsx
            refine Drawn.nil hB ?_
            intro wf hwf
            refine Goes.adv hTT 400 rfl ?_
            have hne : ¬ ownS (.slice (some ⟨b0, 0, none⟩) 0 0) b5 := by
              intro h; have e : some b5 = some b0 := h; have := Option.some.inj e; have := hwc.size; omega
            have hs9b := ((hc1.trans hwf)).size
            have ho2 : Own w9.heap.size 47 4 wf v1 r.lg.length (fl plcL r.lg) := by
              have := (ho1.chg hwf (fun _ _ h => h))
              rw [fl_nil, List.nil_append, Nat.zero_add] at this
              exact this
            obtain ⟨a1, n1, c1, rfl⟩ := Own.isSlice ho2
            refine Goes.appendA (base := w9.heap.size) (xs := fl plcL r.lg) (news := plcL q0) hTT rfl ho2 hs9b (fun e => by cases e) rfl (cellsN (hwf.heap' (hsx.heap ((hwd.trans hwe).heap' (hwc.heap' hb5)) hne))) (plcL_plain q0) ⟨by have := h.lm; omega, by have := h.lm; show (r.lg.length + 1) * 48 ≤ _; omega⟩ ?_
            intro v3 wy ho3 hsy hvy
            have hc9y := ho2.since (hc1.trans hwf) (Nat.le_refl _) hsy
            have ho3' : Own w9.heap.size 47 4 wy v3 (r.lg.length + 1) (fl plcL (r.lg ++ [q0])) := by
              rw [fl_append, fl_one]; exact ho3
            obtain ⟨la, lcap, rfl, hrow, hlt, hcap, hbase⟩ := Own.rowsN ho3' plcL_len (by simp)
            refine Goes.adv hTT 400 rfl ?_
            refine Goes.store hTT rfl (hc9y.heap' hrb9) rfl rfl ?_
            intro wz hrbz hsz hzz
            refine Goes.adv hTT 400 rfl ?_
            replace hrbz : rrBox wz rb { r with p := rp, steps := t, lg := r.lg ++ [q0], la := la, lcap := lcap } := hrbz
            have htbz := hsz.heap (hc9y.heap' htb9) (by omega)
            have hobz := hsz.heap (hc9y.heap' hob9) (by omega)
            have hqbz := hsz.heap (hc9y.heap' hqb9) (by omega)
            have hBob : B ob := by rw [hB0]; exact .inr (.inl rfl)
            have hBqb : B qb := by rw [hB0]; exact .inr (.inr (.inl rfl))
            have hBrb : B rb := by rw [hB0]; exact .inl rfl
            have hB9z : Chg B w9 wz := (hc9y.mono fun _ _ h => h.elim).trans (hsz.mono fun _ _ e => by rw [e]; exact hBrb)
            have hS9z := hB9z.size
            refine Goes.drawn (q := 3) (fun z => z = ob) hTT mixed (by kernel_rfl) rfl ?_
            intro hB
            have hro : ¬ rb = ob := by omega
            have hto : ¬ tb = ob := by omega
            refine Drawn.loads hTT hB rfl hrbz (by first | exact fun h => h | (intro h; omega) | assumption) rfl rfl ?_
            refine Drawn.loads hTT hB rfl htbz (by first | exact fun h => h | (intro h; omega) | assumption) rfl rfl ?_
            refine Drawn.turn1 hB rfl ?_
            intro wu hwu
            refine Turn.store hTT hB rfl (hwu.heap' hobz) (by first | (intro h; exact rfl) | (intro h; omega)) rfl rfl rfl ?_
            intro wv hobv hsv hzv
            replace hobv : rrBox wv ob { r with p := rp, steps := t, lg := r.lg ++ [q0], la := la, lcap := lcap } := hobv
            refine Drawn.nil hB ?_
            intro ww hww
            refine Goes.adv hTT 400 rfl ?_
            have hqbw := hww.heap' (hsv.heap (hwu.heap' hqbz) (by omega))
            refine Goes.store hTT rfl hqbw rfl rfl ?_
            intro wr hqbr hsr hzr
            refine Goes.adv hTT 400 rfl ?_
            replace hqbr : wr.heap[qb]? = some (.cells (plcL q0).toArray 47 (0, 0)) := hqbr
            have hobr := hsr.heap (hww.heap' hobv) (by omega)
            have hBr : Chg B w8 wr := (((((hB89.trans hB9z).trans (hwu.mono fun _ _ h => h.elim)).trans (hsv.mono fun _ _ e => by rw [e]; exact hBob)).trans (hww.mono fun _ _ h => h.elim)).trans (hsr.mono fun _ _ e => by rw [e]; exact hBqb))
            have hc0r : Chg None' w wr := hw08.since hBr (fun z hz e => by have := (hBlo z e).1; omega)
            have hPr : RpOk wr rp (plTk M.pl (M.shs.length : Nat) i) := ⟨hP8.o.far hO8 hBr, hP8.f.far hF8 hBr, hP8.eo, hP8.ef⟩
            have hgB : ¬ B g := fun hz => by have := (hBlo g hz).2; omega
            have hrdr := hrd.far (S := B) (fun b' off s e => by cases e; exact hgB) hBr
            have hr0 := h.grow hc0r
            have hcyr : Chg B wy wr := ((((hsz.mono fun _ _ e => by rw [e]; exact hBrb).trans (hwu.mono fun _ _ h => h.elim)).trans (hsv.mono fun _ _ e => by rw [e]; exact hBob)).trans (hww.mono fun _ _ h => h.elim)).trans (hsr.mono fun _ _ e => by rw [e]; exact hBqb)
            have hlaB : OutA B la := fun b off s e hz => by have := hbase b off s e; have := (hBlo b hz).2; omega
            have hlen8 : r.lg.length = M.lg.length := by have := congrArg List.length h.lge; simpa using this
            have hlt' : ALt w8 q0.pa := fun b off s e => by rw [hq0a] at e; cases e; exact kd_lt hkg
            have hq0 : PlcOk wr q0 := ⟨by rw [hq0a, hq0l]; exact hrdr, by rw [hq0l, natsI_length, htl]; omega⟩
            exact Goes.ret hTT rfl Tryz.func32 (ResOk.cell rfl rfl rfl hobr rfl (.cell rfl rfl rfl hqbr rfl (.tmp rfl .nil))) ⟨{ r with p := rp, steps := t, lg := r.lg ++ [q0], la := la, lcap := lcap }, q0, rfl, hq0P, ⟨hPr, hr0.sr, hr0.sl, hr0.sc, hr0.n, hr0.few, hr0.each, hrow.far hlaB hcyr, hlt.grow hcyr.size, hcap, hlm, by show (r.lg ++ [q0]).map plcP = (M.lg ++ [(M.pl.free.getD 0 0, (M.pl.free.take i).tail)]).map lgP; rw [List.map_append, List.map_append, h.lge, List.map_cons, List.map_nil, hq0P]; rfl, fun q hq => (List.mem_append.1 hq).elim (fun hq => hr0.lgo q hq) (fun hq => by rw [List.mem_singleton] at hq; subst hq; exact ⟨hq0, hlt'.grow hBr.size⟩), hteq⟩, ⟨rfl, rfl, fun S hS ho => ⟨(hK8 S hS ho.o ho.f).1, (hK8 S hS ho.o ho.f).2, ho.sa, ho.each, fun b off s e hz => by have := hbase b off s e; have := hS b hz; have := hw07.size; omega, fun q hq => (List.mem_append.1 hq).elim (fun hq => ho.lgo q hq) (fun hq => by rw [List.mem_singleton] at hq; subst hq; exact fun b off s e hz => by rw [hq0a] at e; cases e; have := hS g hz; have := hw07.size; omega)⟩⟩, ⟨hq0, hlt'.grow hBr.size, fun b off s e => by rw [hq0a] at e; cases e; have := hw07.size; omega⟩, hc0r⟩
      · have e3' : rmPlaceE r.c M who size = rmTakeE M (pickM r.c.classes size) who ∧ rmPlaceQ r.c M who size = ⟨pickM r.c.classes size, rmTakeN M (pickM r.c.classes size) who, rmTakeA M (pickM r.c.classes size) who, []⟩ ∧ rmPlace r.c M who size = rmTake M (pickM r.c.classes size) who := by
          exact ⟨by unfold rmPlaceE; rw [if_neg g1, if_neg g2', if_neg g3], by unfold rmPlaceQ; rw [if_neg g1, if_neg g2', if_neg g3], by unfold rmPlace; rw [if_neg g1, if_neg g2', if_neg g3]⟩
        rw [e3'.1, e3'.2.1, e3'.2.2]
        have hpk := pickM_ge r.c.classes size
        refine Goes.yes hTT rfl (decide_eq_true (by omega)) rfl ?_
        refine Goes.loads hTT rfl hrb5 rfl rfl ?_
        refine Goes.call rfl (ref20_Take r M (pickM r.c.classes size) who w5 (h.grow hw05) hm ht) ?_
        rintro _ w6 ⟨r', rfl, hR, hK, hw6⟩
        refine Goes.adv hTT 400 rfl ?_
        refine Goes.alloc hTT rfl ?_
        intro xb w7 e7 hxb hw7 hz7
        refine Goes.adv hTT 400 rfl ?_
        refine Goes.store hTT rfl hxb rfl rfl ?_
        intro w8 hxb8 hs8 hz8
        refine Goes.adv hTT 400 rfl ?_
        replace hxb8 : rrBox w8 xb r' := hxb8
        have hw06 := hw05.trans hw6
        have hw68 : Chg None' w6 w8 := hw7.since hs8 (fun z hz e => by omega)
        have hw58 := hw6.trans hw68
        have hob8 := hw58.heap' hob5
        have hqb8 := hw58.heap' hqb5
        have hS56 := hw6.size
        refine Goes.loads hTT rfl hxb8 rfl rfl ?_
        refine Goes.build hTT rfl rfl ?_
        refine Goes.store hTT rfl hob8 rfl rfl ?_
        intro w9 hob9 hs9 hz9
        refine Goes.adv hTT 400 rfl ?_
        replace hob9 : rrBox w9 ob r' := hob9
        have hqb9 := hs9.heap hqb8 (by omega)
        refine Goes.store hTT rfl hqb9 rfl rfl ?_
        intro wa hqba hsa hza
        refine Goes.adv hTT 400 rfl ?_
        have hoba := hsa.heap hob9 (by omega)
        have hc : Chg None' w wa := ((hw06.trans hw68).since hs9 (fun z hz e => by omega)).since hsa (fun z hz e => by omega)
        have ho1 : RrOut (fun z => z = ob) r' := hK.out h (fun z hz => by omega) (fun z hz => by omega)
        have ho2 : RrOut (fun z => z = qb) r' := hK.out h (fun z hz => by omega) (fun z hz => by omega)
        exact Goes.ret hTT rfl Tryz.func32 (ResOk.cell rfl rfl rfl hoba rfl (.cell rfl rfl rfl hqba rfl (.tmp rfl .nil))) ⟨r', ⟨pickM r.c.classes size, rmTakeN M (pickM r.c.classes size) who, rmTakeA M (pickM r.c.classes size) who, none, 0, []⟩, rfl, rfl, ((hR.grow hw68).far ho1 hs9).far ho2 hsa, hK.back hw05.size, plcNew_none, hc⟩
    · have e2' : rmPlaceE r.c M who size = rmFits r.c M size ∧ rmPlaceQ r.c M who size = ⟨0, 0, 0, []⟩ ∧ rmPlace r.c M who size = M := by
        exact ⟨by unfold rmPlaceE; rw [if_neg g1, if_pos g2], by unfold rmPlaceQ; rw [if_neg g1, if_pos g2], by unfold rmPlace; rw [if_neg g1, if_pos g2]⟩
      rw [e2'.1, e2'.2.1, e2'.2.2]
      refine Goes.yes hTT rfl (by simpa using g2) rfl ?_
      have hor : RrOut (fun z => z = ob) r := h.out (fun z hz => by omega)
      have hcl : ∀ w', Chg (fun z => z = ob) w4 w' → Chg None' w w' := fun w' hw' => hw04.since hw' (fun z hz e => by omega)
      refine Goes.drawn (q := 6) (fun z => z = ob) hTT mixed (by kernel_rfl) rfl ?_
      intro hB
      have hro : ¬ (rb = ob) := by omega
      refine Drawn.loads hTT hB rfl hrb4 (by first | exact fun h => h | (intro h; omega) | assumption) rfl rfl ?_
      refine Drawn.build hTT hB rfl rfl ?_
      refine Drawn.loads hTT hB rfl hrb4 (by first | exact fun h => h | (intro h; omega) | assumption) rfl rfl ?_
      refine Drawn.call hTT hB rfl (fun w' hw' => ref20_Fits r M size w' ((h.grow hw04).far hor hw') (hr.chg (hcl w' hw')) hs2.2 hs3.2) rfl ?_
      refine Drawn.turn1 hB rfl ?_
      intro w5 hw5
      refine Turn.store hTT hB rfl (hw5.heap' hob4) (by first | (intro h; exact rfl) | (intro h; omega)) rfl rfl rfl ?_
      intro w6 hob6 hs6 hz6
      replace hob6 : rrBox w6 ob r := hob6
      refine Drawn.nil hB ?_
      intro w7 hw7
      refine Goes.adv hTT 400 rfl ?_
      have hS5 := hw5.size
      have hqb7 := hw7.heap' (hs6.heap (hw5.heap' hqb4) (by omega))
      refine Goes.store hTT rfl hqb7 rfl rfl ?_
      intro w8 hqb8 hs8 hz8
      refine Goes.adv hTT 400 rfl ?_
      have hob8 := hs8.heap (hw7.heap' hob6) (by omega)
      have hc : Chg None' w w8 := (((hw04.trans hw5).since hs6 (fun z hz e => by omega)).trans hw7).since hs8 (fun z hz e => by omega)
      exact Goes.ret hTT rfl Tryz.func32 (ResOk.cell rfl rfl rfl hob8 rfl (.cell rfl rfl rfl hqb8 rfl (.tmp rfl .nil))) ⟨r, ⟨0, 0, 0, none, 0, []⟩, rfl, rfl, h.grow hc, RKeep.refl w r, plcNew_none, hc⟩
end Go.Proofs.YtkiionjcapnepaaGreatDoor
/-
  Layer 20: are two places the same, the document's, and the law's.
-/
namespace Go.Proofs.YtkiionjcapnepaaGreatDoor
open Go.RowKit
def sameB (a b : Plc) : Bool := decide (a.page = b.page ∧ a.pages = b.pages)
abbrev plcBox (w : World) (b : Nat) (q : Plc) : Prop := w.heap[b]? = some (.cells (plcL q).toArray 47 (0, 0))
set_option maxRecDepth 100000 in
theorem ref20_same (a b : Plc) (w : World) (ha : Rd .i64 w a.pa a.pages) (hb : Rd .i64 w b.pa b.pages) (hl : a.pages.length ≤ 9223372036854775807) : Does Tryz.prog 72 #[.agg (plcL a).toArray, .agg (plcL b).toArray] w (Grow (.bool (sameB a b)) w) := by
  refine Does.enter Tryz.func72 rfl Tryz.ntmps72 rfl rfl ?_
  refine Goes.adv hTT 400 rfl ?_
  refine Goes.alloc hTT rfl ?_
  intro x w1 e1 hx hw1 hz1
  refine Goes.adv hTT 400 rfl ?_
  refine Goes.alloc hTT rfl ?_
  intro y w2 e2 hy hw2 hz2
  refine Goes.adv hTT 400 rfl ?_
  replace hx : plcBox w1 x a := hx
  replace hy : plcBox w2 y b := hy
  have hx2 := hw2.heap' hx
  have hw02 := hw1.trans hw2
  refine Goes.loadb hTT rfl hx2 rfl rfl ?_
  refine Goes.loadb hTT rfl hy rfl rfl ?_
  refine Goes.fork hTT rfl rfl rfl (fun h1 => ?_) (fun h1 => ?_)
  · have h1' : a.page ≠ b.page := by simpa using h1
    have e : sameB a b = false := decide_eq_false (fun h => h1' h.1)
    rw [e]
    exact Goes.ret1 hTT rfl Tryz.func72 rfl rfl ⟨rfl, hw02⟩
  · have h1' : a.page = b.page := by simpa using h1
    refine Goes.loadb hTT rfl hx2 rfl rfl ?_
    refine Goes.loadb hTT rfl hy rfl rfl ?_
    refine Goes.fork hTT rfl rfl rfl (fun h2 => ?_) (fun h2 => ?_)
    · have h2' : a.pages.length ≠ b.pages.length := by simp at h2; omega
      have e : sameB a b = false := decide_eq_false (fun h => h2' (by rw [h.2]))
      rw [e]
      exact Goes.ret1 hTT rfl Tryz.func72 rfl rfl ⟨rfl, hw02⟩
    · have hlen : a.pages.length = b.pages.length := by simp at h2; omega
      refine Goes.loop (α := Nat) (fun k => [(2, false, .pointer (some ⟨x, 0, none⟩)), (3, false, .pointer (some ⟨y, 0, none⟩)), (5, false, .int .i64 k)])
        (fun k w' => Chg None' w2 w' ∧ k ≤ a.pages.length ∧ ∀ j, j < k → a.pages.getD j 0 = b.pages.getD j 0) (fun k => a.pages.length - k) 0 ⟨rfl, rfl, rfl, trivial⟩ ⟨Chg.refl _ _, Nat.zero_le _, fun _ h => by omega⟩ ?_
      rintro k w3 ⟨hw, hk, hpre⟩ ih
      have hx3 := hw.heap' hx2
      have hy3 := hw.heap' hy
      refine Goes.adv hTT 400 rfl ?_
      refine Goes.loadb hTT rfl hx3 rfl rfl ?_
      refine Goes.fork hTT rfl rfl rfl (fun h3 => ?_) (fun h3 => ?_)
      · have hlt : k < a.pages.length := by have := of_decide_eq_true h3; omega
        obtain ⟨ba, oa, hpa, hca⟩ := ((ha.chg hw02).chg hw) k hlt
        obtain ⟨bb, obb, hpb, hcb⟩ := ((hb.chg hw02).chg hw) k (by omega)
        refine Goes.drawn (q := 11) None' hTT mixed (by kernel_rfl) rfl ?_
        intro hB
        refine Drawn.loadb hTT hB rfl hx3 (by first | exact fun h => h | (intro h; omega) | assumption) rfl rfl ?_
        rw [hpa]
        refine Drawn.index hTT hB rfl (j := k) (by omega) (by omega) (by first | rfl | omega | (simp; done) | (simp; omega)) rfl ?_
        refine Drawn.load hTT hB rfl hca (by first | exact fun h => h | (intro h; omega) | assumption) rfl ?_
        refine Drawn.loadb hTT hB rfl hy3 (by first | exact fun h => h | (intro h; omega) | assumption) rfl rfl ?_
        rw [hpb]
        refine Drawn.index hTT hB rfl (j := k) (by omega) (by omega) (by first | rfl | omega | (simp; done) | (simp; omega)) rfl ?_
        refine Drawn.load hTT hB rfl hcb (by first | exact fun h => h | (intro h; omega) | assumption) rfl ?_
        refine Drawn.nil hB ?_
        intro w4 hw4
        refine Goes.adv hTT 400 rfl ?_
        refine Goes.fork hTT rfl rfl rfl (fun hne => ?_) (fun hne => ?_)
        · have hne' : a.pages.getD k 0 ≠ b.pages.getD k 0 := by simpa using hne
          have e : sameB a b = false := decide_eq_false (fun h => hne' (by rw [h.2]))
          rw [e]
          exact Goes.ret1 hTT rfl Tryz.func72 rfl rfl ⟨rfl, (hw02.trans hw).trans hw4⟩
        · have he : a.pages.getD k 0 = b.pages.getD k 0 := by simpa using hne
          refine Goes.arith hTT rfl (w64 (by omega)) rfl ?_
          exact ih (k + 1) _ _ ⟨hw.trans hw4, hlt, fun j hj => by
            by_cases e : j = k
            · subst e; exact he
            · exact hpre j (by omega)⟩ (by omega) ⟨rfl, rfl, rfl, trivial⟩
      · have hge : k = a.pages.length := by have := of_decide_eq_false h3; omega
        have hpp : a.pages = b.pages := List.ext_getElem hlen fun j g1 g2 => by
          have := hpre j (by omega)
          rw [getD_at g1, getD_at g2] at this
          exact this
        have e : sameB a b = true := decide_eq_true ⟨h1', hpp⟩
        rw [e]
        exact Goes.ret1 hTT rfl Tryz.func72 rfl rfl ⟨rfl, hw02.trans hw⟩
set_option maxRecDepth 100000 in
theorem law20_equal (a b : Plc) (w : World) (ha : Rd .i64 w a.pa a.pages) (hb : Rd .i64 w b.pa b.pages) (hl : a.pages.length ≤ 9223372036854775807) (he : plcP a = plcP b) : Does Tryz.prog 24 #[.agg (plcL a).toArray, .agg (plcL b).toArray] w (Grow (.bool true) w) := by
  have e1 : a.cls = b.cls := congrArg PlcM.cls he
  have e2 : a.page = b.page := congrArg PlcM.page he
  have e3 : a.idx = b.idx := congrArg PlcM.idx he
  have e4 : a.pages = b.pages := congrArg PlcM.pages he
  refine Does.enter Tryz.func24 rfl Tryz.ntmps24 rfl rfl ?_
  refine Goes.adv hTT 400 rfl ?_
  refine Goes.alloc hTT rfl ?_
  intro x w1 e1x hx hw1 hz1
  refine Goes.adv hTT 400 rfl ?_
  refine Goes.alloc hTT rfl ?_
  intro y w2 e2y hy hw2 hz2
  refine Goes.adv hTT 400 rfl ?_
  replace hx : plcBox w1 x a := hx
  replace hy : plcBox w2 y b := hy
  have hx2 := hw2.heap' hx
  have hw02 := hw1.trans hw2
  refine Goes.loadb hTT rfl hx2 rfl rfl ?_
  refine Goes.loadb hTT rfl hy rfl rfl ?_
  refine Goes.no hTT rfl (by rw [e1]; simp) rfl ?_
  refine Goes.loadb hTT rfl hx2 rfl rfl ?_
  refine Goes.loadb hTT rfl hy rfl rfl ?_
  refine Goes.no hTT rfl (by rw [e2]; simp) rfl ?_
  refine Goes.loadb hTT rfl hx2 rfl rfl ?_
  refine Goes.loadb hTT rfl hy rfl rfl ?_
  refine Goes.no hTT rfl (by rw [e3]; simp) rfl ?_
  refine Goes.loadb hTT rfl hx2 rfl rfl ?_
  refine Goes.loadb hTT rfl hy rfl rfl ?_
  refine Goes.no hTT rfl (by rw [e4]; simp) rfl ?_
  refine Goes.loop (α := Nat) (fun k => [(2, false, .pointer (some ⟨x, 0, none⟩)), (3, false, .pointer (some ⟨y, 0, none⟩)), (5, false, .int .i64 k)])
    (fun k w' => Chg None' w2 w' ∧ k ≤ a.pages.length) (fun k => a.pages.length - k) 0 ⟨rfl, rfl, rfl, trivial⟩ ⟨Chg.refl _ _, Nat.zero_le _⟩ ?_
  rintro k w3 ⟨hw, hk⟩ ih
  have hx3 := hw.heap' hx2
  have hy3 := hw.heap' hy
  refine Goes.adv hTT 400 rfl ?_
  refine Goes.loadb hTT rfl hx3 rfl rfl ?_
  refine Goes.fork hTT rfl rfl rfl (fun h3 => ?_) (fun h3 => ?_)
  · have hlt : k < a.pages.length := by have := of_decide_eq_true h3; omega
    have hlb : k < b.pages.length := by rw [← e4]; exact hlt
    obtain ⟨ba, oa, hpa, hca⟩ := ((ha.chg hw02).chg hw) k hlt
    obtain ⟨bb, obb, hpb, hcb⟩ := ((hb.chg hw02).chg hw) k hlb
    refine Goes.drawn (q := 11) None' hTT mixed (by kernel_rfl) rfl ?_
    intro hB
    refine Drawn.loadb hTT hB rfl hx3 (by first | exact fun h => h | (intro h; omega) | assumption) rfl rfl ?_
    rw [hpa]
    refine Drawn.index hTT hB rfl (j := k) (by omega) (by omega) (by first | rfl | omega | (simp; done) | (simp; omega)) rfl ?_
    refine Drawn.load hTT hB rfl hca (by first | exact fun h => h | (intro h; omega) | assumption) rfl ?_
    refine Drawn.loadb hTT hB rfl hy3 (by first | exact fun h => h | (intro h; omega) | assumption) rfl rfl ?_
    rw [hpb]
    refine Drawn.index hTT hB rfl (j := k) (by omega) (by omega) (by first | rfl | omega | (simp; done) | (simp; omega)) rfl ?_
    refine Drawn.load hTT hB rfl hcb (by first | exact fun h => h | (intro h; omega) | assumption) rfl ?_
    refine Drawn.nil hB ?_
    intro w4 hw4
    refine Goes.adv hTT 400 rfl ?_
    refine Goes.no hTT rfl (by rw [e4]; simp) rfl ?_
    refine Goes.arith hTT rfl (w64 (by omega)) rfl ?_
    exact ih (k + 1) _ _ ⟨hw.trans hw4, hlt⟩ (by omega) ⟨rfl, rfl, rfl, trivial⟩
  · exact Goes.ret1 hTT rfl Tryz.func24 rfl rfl ⟨rfl, hw02.trans hw⟩
end Go.Proofs.YtkiionjcapnepaaGreatDoor
/-
  Layer 20: a thing is let go, the document's.
-/
namespace Go.Proofs.YtkiionjcapnepaaGreatDoor
open Go.RowKit
/-- Is it this large thing? -/
def hitB (q x : Plc) : Bool := decide (q.cls = -1) && sameB x q
def keepL (q : Plc) (l : List Plc) : List Plc := l.filter fun x => !hitB q x
theorem keepL_take {q : Plc} {l : List Plc} {i : Nat} (h : i < l.length) : keepL q (l.take (i + 1)) = keepL q (l.take i) ++ (if hitB q l[i] then [] else [l[i]]) := by
  unfold keepL
  rw [List.take_add_one, List.getElem?_eq_getElem h, List.filter_append]
  by_cases e : hitB q l[i] = true
  · rw [if_pos e]; simp [e]
  · rw [if_neg e]; simp [e]
theorem any_take {q : Plc} {l : List Plc} {i : Nat} (h : i < l.length) : (l.take (i + 1)).any (hitB q) = ((l.take i).any (hitB q) || hitB q l[i]) := by
  rw [List.take_add_one, List.getElem?_eq_getElem h, List.any_append]
  simp
/-- What a large place hits: the one thing of its page, if its other pages are the same. -/
theorem hit_lg {lg : List (Nat × List Nat)} {ps : List Plc} (hl : ps.map plcP = lg.map lgP) {q : Plc} (hq : q.cls = -1) : (ps.any (hitB q) = lg.any fun e => decide ((e.1 : Int) = q.page ∧ natsI e.2 = q.pages)) ∧ (keepL q ps).map plcP = (lg.filter fun e => !decide ((e.1 : Int) = q.page ∧ natsI e.2 = q.pages)).map lgP := by
  induction ps generalizing lg with
  | nil =>
    cases lg with
    | nil => exact ⟨rfl, rfl⟩
    | cons a r => simp at hl
  | cons x xs ih =>
    cases lg with
    | nil => simp at hl
    | cons a r =>
      rw [List.map_cons, List.map_cons] at hl
      obtain ⟨h1, h2⟩ := List.cons.inj hl
      obtain ⟨i1, i2⟩ := ih h2
      have e1 : x.page = (a.1 : Nat) := congrArg PlcM.page h1
      have e2 : x.pages = natsI a.2 := congrArg PlcM.pages h1
      have e3 : hitB q x = decide ((a.1 : Int) = q.page ∧ natsI a.2 = q.pages) := by
        unfold hitB sameB
        rw [decide_eq_true hq, Bool.true_and, e1, e2]
      refine ⟨by rw [List.any_cons, List.any_cons, e3, i1], ?_⟩
      unfold keepL at *
      rw [List.filter_cons, List.filter_cons, e3]
      by_cases hh : decide ((a.1 : Int) = q.page ∧ natsI a.2 = q.pages) = true
      · rw [hh]; exact i2
      · have hf : decide ((a.1 : Int) = q.page ∧ natsI a.2 = q.pages) = false := by simpa using hh
        rw [hf]
        simp only [Bool.not_false, if_true, List.map_cons]
        rw [i2, h1]
theorem keys_lg {lg : List (Nat × List Nat)} (hn : (lgAll lg).Nodup) {n : Nat} {r r' : List Nat} (h : (n, r) ∈ lg) (h' : (n, r') ∈ lg) : r = r' := by
  obtain ⟨a, b, e1, e2⟩ := lgDel_cut hn h
  rw [e1] at h' hn
  have hnn : lgAll (a ++ (n, r) :: b) = lgAll a ++ ((n :: r) ++ lgAll b) := by rw [lgAll_append]; rfl
  rw [hnn] at hn
  obtain ⟨_, h2, h3⟩ := List.nodup_append.1 hn
  obtain ⟨_, _, h6⟩ := List.nodup_append.1 h2
  rcases List.mem_append.1 h' with g | g
  · exact absurd rfl (h3 n (mem_lgAll g (by simp)) n (by simp))
  · rcases List.mem_cons.1 g with g | g
    · exact ((Prod.mk.inj g).2).symm
    · exact absurd rfl (h6 n (by simp) n (mem_lgAll g (by simp)))
theorem hit_some {lg : List (Nat × List Nat)} (hn : (lgAll lg).Nodup) {n : Nat} {r : List Nat} (h : (n, r) ∈ lg) {p : Int} {ps : List Int} (hp : p = n) (hps : natsI r = ps) : (lg.any fun e => decide ((e.1 : Int) = p ∧ natsI e.2 = ps)) = true ∧ (lg.filter fun e => !decide ((e.1 : Int) = p ∧ natsI e.2 = ps)) = lgDel lg n := by
  refine ⟨List.any_eq_true.2 ⟨(n, r), h, decide_eq_true ⟨hp.symm, hps⟩⟩, ?_⟩
  unfold lgDel
  refine List.filter_congr fun e he => ?_
  by_cases e1 : e.1 = n
  · have e2 : e.2 = r := keys_lg hn (n := n) (by rw [← e1]; exact he) h
    rw [decide_eq_true ⟨by rw [e1]; exact hp.symm, by rw [e2]; exact hps⟩, e1]
    simp
  · rw [decide_eq_false (fun h => e1 (by have := h.1; omega))]
    simp [e1]
theorem hit_none {lg : List (Nat × List Nat)} {p : Int} {ps : List Int} (h : ∀ r, lgGet lg p = some r → natsI r ≠ ps) (hn : (lgAll lg).Nodup) : (lg.any fun e => decide ((e.1 : Int) = p ∧ natsI e.2 = ps)) = false := by
  rw [List.any_eq_false]
  intro e he hh
  obtain ⟨h1, h2⟩ := of_decide_eq_true hh
  cases hg : lgGet lg p with
  | none => exact lgGet_none hg e he h1
  | some r =>
    obtain ⟨n, hn', hm⟩ := lgGet_some hg
    have e1 : e.1 = n := by omega
    have : e.2 = r := keys_lg hn (n := n) (by rw [← e1]; exact he) hm
    exact h r hg (by rw [← this]; exact h2)
end Go.Proofs.YtkiionjcapnepaaGreatDoor
/-
  Layer 20: a thing is let go, the document's.
-/
namespace Go.Proofs.YtkiionjcapnepaaGreatDoor
open Go.RowKit
theorem Rd.keepI {w w' : World} {a : Option Addr} {l : List Int} {q t : Nat} {c : Array Value} {fz : Nat × Nat} (hr : Rd .i64 w a l) (hq : w.heap[q]? = some (.cells c t fz)) (hc : ∀ x ∈ c.toList, ∀ z, x ≠ .int .i64 z) (hs : Chg (fun b => b = q) w w') : Rd .i64 w' a l := fun j hj => by
  obtain ⟨b, off, e, hcell⟩ := hr j hj
  refine ⟨b, off, e, hs.cell hcell (fun hx => ?_)⟩
  subst hx
  rw [cell_of hq] at hcell
  exact hc _ (Array.mem_toList_iff.2 (Array.mem_of_getElem? hcell)) _ rfl
theorem RpOk.keep {w w' : World} {r : RP} {pl : PlM} (h : RpOk w r pl) {q t : Nat} {c : Array Value} {fz : Nat × Nat} (hq : w.heap[q]? = some (.cells c t fz)) (hc : ∀ x ∈ c.toList, ∀ z, x ≠ .int .i64 z) (hs : Chg (fun b => b = q) w w') : RpOk w' r pl :=
  ⟨⟨⟨h.o.ok.rd.keepI hq hc hs, h.o.ok.len⟩, h.o.cap, h.o.lt.grow hs.size⟩, ⟨⟨h.f.ok.rd.keepI hq hc hs, h.f.ok.len⟩, h.f.cap, h.f.lt.grow hs.size⟩, h.eo, h.ef⟩
set_option maxRecDepth 100000 in
theorem ref20_Drop (r : RR) (M : RmM) (q : Plc) (w : World) (h : RrOk w r M) (hm : MOk M) (hMok : M.Ok r.c) (ht : 0 ≤ M.tot ∧ M.tot ≤ 4611686018427000000) (hq : PlcOk w q) : Does Tryz.prog 33 #[.agg (rrL r).toArray, .agg (plcL q).toArray] w
    (fun v w' => ∃ r', v = .tuple #[.agg (rrL r').toArray, .int .i64 (rmDropE M (plcP q))] ∧ RrOk w' r' (rmDrop M (plcP q)) ∧ RKeep w r r' ∧ Chg None' w w') := by
  have hml : maxLen = 9223372036854775807 := rfl
  have hlm := h.lm
  refine Does.enter Tryz.func33 rfl Tryz.ntmps33 rfl rfl ?_
  refine Goes.adv hTT 400 rfl ?_
  refine Goes.alloc hTT rfl ?_
  intro rb w1 e1 hrb hw1 hz1
  refine Goes.adv hTT 400 rfl ?_
  refine Goes.alloc hTT rfl ?_
  intro pb w2 e2 hpb hw2 hz2
  refine Goes.adv hTT 400 rfl ?_
  refine Goes.alloc hTT rfl ?_
  intro ob w3 e3 hob hw3 hz3
  refine Goes.adv hTT 400 rfl ?_
  replace hrb : rrBox w1 rb r := hrb
  replace hpb : plcBox w2 pb q := hpb
  have hw03 := (hw1.trans hw2).trans hw3
  have hrb3 := hw3.heap' (hw2.heap' hrb)
  have hpb3 := hw3.heap' hpb
  have hS03 := hw03.size
  have hS01 := hw1.size
  refine Goes.loadb hTT rfl hpb3 rfl rfl ?_
  by_cases g0 : 0 ≤ q.cls
  · have eD : rmDropE M (plcP q) = rmGiveE M q.cls q.page q.idx ∧ rmDrop M (plcP q) = rmGive M q.cls q.page q.idx := by
      unfold rmDropE rmDrop plcP
      exact ⟨if_pos (by simp only; omega), if_pos (by simp only; omega)⟩
    rw [eD.1, eD.2]
    refine Goes.yes hTT rfl (decide_eq_true g0) rfl ?_
    refine Goes.loads hTT rfl hrb3 rfl rfl ?_
    refine Goes.loadb hTT rfl hpb3 rfl rfl ?_
    refine Goes.loadb hTT rfl hpb3 rfl rfl ?_
    refine Goes.loadb hTT rfl hpb3 rfl rfl ?_
    refine Goes.call rfl (ref20_Give r M q.cls q.page q.idx w3 (h.grow hw03) hm ht) ?_
    rintro _ w4 ⟨r', rfl, hR, hK, hw4⟩
    refine Goes.adv hTT 400 rfl ?_
    have hob4 := hw4.heap' hob
    refine Goes.store hTT rfl hob4 rfl rfl ?_
    intro w5 hob5 hs5 hz5
    refine Goes.adv hTT 400 rfl ?_
    replace hob5 : rrBox w5 ob r' := hob5
    have hc : Chg None' w w5 := (hw03.trans hw4).since hs5 (fun z hz e => by omega)
    have ho1 : RrOut (fun z => z = ob) r' := hK.out h (fun z hz => by omega) (fun z hz => by omega)
    exact Goes.ret hTT rfl Tryz.func33 (ResOk.cell rfl rfl rfl hob5 rfl (.tmp rfl .nil)) ⟨r', rfl, hR.far ho1 hs5, hK.back hw03.size, hc⟩
  · refine Goes.no hTT rfl (decide_eq_false g0) rfl ?_
    refine Goes.loop (α := Nat × Value) (fun x => [(2, false, .pointer (some ⟨rb, 0, none⟩)), (3, false, .pointer (some ⟨pb, 0, none⟩)), (4, false, .pointer (some ⟨ob, 0, none⟩)), (6, false, x.2), (7, false, .bool ((r.lg.take x.1).any (hitB q))), (8, false, .int .i64 x.1)])
      (fun x w' => x.1 ≤ r.lg.length ∧ Own w3.heap.size 47 4 w' x.2 (keepL q (r.lg.take x.1)).length (fl plcL (keepL q (r.lg.take x.1))) ∧ Chg None' w3 w') (fun x => r.lg.length - x.1) (0, .slice none 0 0) ⟨rfl, rfl, rfl, rfl, rfl, rfl, trivial⟩ ⟨Nat.zero_le _, ⟨rfl, .inl ⟨rfl, rfl⟩⟩, Chg.refl _ _⟩ ?_
    rintro ⟨i, v⟩ w4 ⟨hi, ho4, hw4⟩ ih
    simp only at hi ho4
    have hrb4 := hw4.heap' hrb3
    have hpb4 := hw4.heap' hpb3
    have hw04 := hw03.trans hw4
    refine Goes.adv hTT 400 rfl ?_
    refine Goes.loadb hTT rfl hrb4 rfl rfl ?_
    refine Goes.fork hTT rfl rfl rfl (fun hlp => ?_) (fun hlp => ?_)
    · have hlt : i < r.lg.length := by have := of_decide_eq_true hlp; omega
      obtain ⟨lb, loff, hla, hcell⟩ := (h.lr.chg hw04) i r.lg[i] (List.getElem?_eq_getElem hlt)
      have hkl : (keepL q (r.lg.take i)).length ≤ i := by
        have h1 : (keepL q (r.lg.take i)).length ≤ (r.lg.take i).length := List.length_filter_le _ _
        rw [List.length_take] at h1
        omega
      have hqi := (h.lgo r.lg[i] (List.getElem_mem hlt)).1
      by_cases g1 : q.cls = -1
      · refine Goes.drawn (q := 12) None' hTT mixed (by kernel_rfl) rfl ?_
        intro hB
        refine Drawn.loadb hTT hB rfl hpb4 (by first | exact fun h => h | (intro h; omega) | assumption) rfl rfl ?_
        refine Drawn.yes hTT hB rfl (by rw [g1]; rfl) rfl ?_
        refine Drawn.loadb hTT hB rfl hrb4 (by first | exact fun h => h | (intro h; omega) | assumption) rfl rfl ?_
        rw [hla]
        refine Drawn.index hTT hB rfl (j := (i * 4)) (by omega) (by omega) (by first | rfl | omega | (simp; done) | (simp; omega)) rfl ?_
        refine Drawn.loadC hTT hB (plcL r.lg[i]) rfl (by first | rfl | (simp; done) | (simp [*]; done) | (simp; omega)) (hcell) (by first | exact fun h => h | (intro h; omega) | assumption) rfl ?_
        refine Drawn.loads hTT hB rfl hpb4 (by first | exact fun h => h | (intro h; omega) | assumption) rfl rfl ?_
        have hd : ∀ w', Chg None' w4 w' → Does Tryz.prog 72 #[.agg (plcL r.lg[i]).toArray, .agg #[.int .i64 q.cls, .int .i64 q.page, .int .i64 q.idx, .slice q.pa q.pages.length q.pc]] w' (Grow (.bool (sameB r.lg[i] q)) w') := fun w' hw' => ref20_same r.lg[i] q w' ((hqi.rd.chg hw04).chg hw') ((hq.rd.chg hw04).chg hw') hqi.len
        refine Drawn.call hTT hB rfl (fun w' hw' => hd w' hw') rfl ?_
        refine Drawn.nil hB ?_
        intro w5 hw5
        refine Goes.adv hTT 400 rfl ?_
        by_cases hs : sameB r.lg[i] q = true
        · have hhit : hitB q r.lg[i] = true := by unfold hitB; rw [decide_eq_true g1, hs]; rfl
          refine Goes.yes hTT rfl hs rfl ?_
          refine Goes.arith hTT rfl (w64 (by omega)) rfl ?_
          exact ih (i + 1, v) _ _ ⟨hlt, by
            rw [keepL_take hlt, if_pos hhit, List.append_nil]; exact ho4.chg hw5 (fun _ _ h => h), hw4.trans hw5⟩ (by simp only; omega) ⟨rfl, rfl, rfl, rfl, congrArg (fun b => some (Value.bool b)) (show true = (r.lg.take (i + 1)).any (hitB q) from by rw [any_take hlt, hhit, Bool.or_true]), rfl, trivial⟩
        · have hs' : sameB r.lg[i] q = false := by simpa using hs
          have hno : hitB q r.lg[i] = false := by unfold hitB; rw [hs', Bool.and_false]
          refine Goes.no hTT rfl hs' rfl ?_
          have hrb5 := hw5.heap' hrb4
          have hw05 := hw04.trans hw5
          have hw35 := hw4.trans hw5
          obtain ⟨mb, moff, hma, hmcell⟩ := (h.lr.chg hw05) i r.lg[i] (List.getElem?_eq_getElem hlt)
          refine Goes.loadb hTT rfl hrb5 rfl rfl ?_
          rw [hma]
          refine Goes.index hTT rfl (j := (i * 4)) (by omega) (by omega) (by first | rfl | omega | (simp; done) | (simp; omega)) rfl ?_
          refine Goes.loadC hTT (plcL r.lg[i]) rfl (by first | rfl | (simp; done) | (simp [*]; done) | (simp; omega)) (hmcell) rfl ?_
          refine Goes.buildSlice hTT rfl ?_
          intro b6 w6 e6 hb6 hw6 hz6
          refine Goes.adv hTT 400 rfl ?_
          have ho6 := (ho4.chg hw5 (fun _ _ h => h)).chg hw6 (fun _ _ h => h)
          have hw36 := hw35.trans hw6
          refine Goes.appendA (base := w3.heap.size) (xs := fl plcL (keepL q (r.lg.take i))) (news := plcL r.lg[i]) hTT rfl ho6 hw36.size (fun e => by cases e) rfl (cellsN hb6) (plcL_plain _) ⟨by omega, by show ((keepL q (r.lg.take i)).length + 1) * 48 ≤ _; omega⟩ ?_
          intro v7 w7 ho7 hs7 hv7
          refine Goes.adv hTT 400 rfl ?_
          refine Goes.arith hTT rfl (w64 (by omega)) rfl ?_
          exact ih (i + 1, v7) _ _ ⟨hlt, by
            rw [keepL_take hlt, if_neg (by rw [hno]; decide), List.length_append, fl_append, fl_one]; exact ho7, ho6.since hw36 (Nat.le_refl _) hs7⟩ (by simp only; omega) ⟨rfl, rfl, rfl, rfl, congrArg (fun b => some (Value.bool b)) (show (r.lg.take i).any (hitB q) = (r.lg.take (i + 1)).any (hitB q) from by rw [any_take hlt, hno, Bool.or_false]), rfl, trivial⟩
      · have hno : hitB q r.lg[i] = false := by unfold hitB; rw [decide_eq_false g1, Bool.false_and]
        refine Goes.drawn (q := 12) None' hTT mixed (by kernel_rfl) rfl ?_
        intro hB
        refine Drawn.loadb hTT hB rfl hpb4 (by first | exact fun h => h | (intro h; omega) | assumption) rfl rfl ?_
        refine Drawn.no hTT hB rfl (by simpa using g1) rfl ?_
        refine Drawn.nil hB ?_
        intro w5 hw5
        refine Goes.adv hTT 400 rfl ?_
        have hrb5 := hw5.heap' hrb4
        have hw05 := hw04.trans hw5
        have hw35 := hw4.trans hw5
        obtain ⟨mb, moff, hma, hmcell⟩ := (h.lr.chg hw05) i r.lg[i] (List.getElem?_eq_getElem hlt)
        refine Goes.loadb hTT rfl hrb5 rfl rfl ?_
        rw [hma]
        refine Goes.index hTT rfl (j := (i * 4)) (by omega) (by omega) (by first | rfl | omega | (simp; done) | (simp; omega)) rfl ?_
        refine Goes.loadC hTT (plcL r.lg[i]) rfl (by first | rfl | (simp; done) | (simp [*]; done) | (simp; omega)) (hmcell) rfl ?_
        refine Goes.buildSlice hTT rfl ?_
        intro b6 w6 e6 hb6 hw6 hz6
        refine Goes.adv hTT 400 rfl ?_
        have ho6 := (ho4.chg hw5 (fun _ _ h => h)).chg hw6 (fun _ _ h => h)
        have hw36 := hw35.trans hw6
        refine Goes.appendA (base := w3.heap.size) (xs := fl plcL (keepL q (r.lg.take i))) (news := plcL r.lg[i]) hTT rfl ho6 hw36.size (fun e => by cases e) rfl (cellsN hb6) (plcL_plain _) ⟨by omega, by show ((keepL q (r.lg.take i)).length + 1) * 48 ≤ _; omega⟩ ?_
        intro v7 w7 ho7 hs7 hv7
        refine Goes.adv hTT 400 rfl ?_
        refine Goes.arith hTT rfl (w64 (by omega)) rfl ?_
        exact ih (i + 1, v7) _ _ ⟨hlt, by
          rw [keepL_take hlt, if_neg (by rw [hno]; decide), List.length_append, fl_append, fl_one]; exact ho7, ho6.since hw36 (Nat.le_refl _) hs7⟩ (by simp only; omega) ⟨rfl, rfl, rfl, rfl, congrArg (fun b => some (Value.bool b)) (show (r.lg.take i).any (hitB q) = (r.lg.take (i + 1)).any (hitB q) from by rw [any_take hlt, hno, Bool.or_false]), rfl, trivial⟩
    · have hge : i = r.lg.length := by have := of_decide_eq_false hlp; omega
      subst hge
      rw [List.take_length] at ho4 ⊢
      have hcase : (r.lg.any (hitB q) = false ∧ rmDropE M (plcP q) = 1 ∧ rmDrop M (plcP q) = M) ∨ ∃ n rr, (n, rr) ∈ M.lg ∧ r.lg.any (hitB q) = true ∧ rmDropE M (plcP q) = 0 ∧ rmDrop M (plcP q) = rmGone M n rr ∧ q.page = (n : Nat) ∧ natsI rr = q.pages ∧ (keepL q r.lg).map plcP = (lgDel M.lg n).map lgP := by
        by_cases g1 : q.cls = -1
        · obtain ⟨i1, i2⟩ := hit_lg h.lge g1
          have eE : rmDropE M (plcP q) = (match lgGet M.lg q.page with | none => 1 | some r => if natsI r = q.pages then 0 else 1) := by unfold rmDropE plcP; exact if_neg (fun h => h g1)
          have eM : rmDrop M (plcP q) = (match lgGet M.lg q.page with | none => M | some r => if natsI r = q.pages then rmGone M q.page.toNat r else M) := by unfold rmDrop plcP; exact if_neg (fun h => h g1)
          cases hg : lgGet M.lg q.page with
          | none =>
            rw [hg] at eE eM
            exact .inl ⟨by rw [i1]; exact hit_none (fun r hr => by rw [hg] at hr; cases hr) hMok.nd, eE, eM⟩
          | some rr =>
            rw [hg] at eE eM
            simp only at eE eM
            obtain ⟨n, hn, hmem⟩ := lgGet_some hg
            by_cases hp : natsI rr = q.pages
            · rw [if_pos hp] at eE eM
              obtain ⟨j1, j2⟩ := hit_some hMok.nd hmem hn hp
              exact .inr ⟨n, rr, hmem, by rw [i1]; exact j1, eE, by rw [eM, hn, Int.toNat_natCast], hn, hp, by rw [i2, j2]⟩
            · rw [if_neg hp] at eE eM
              exact .inl ⟨by rw [i1]; exact hit_none (fun r hr => by rw [hg] at hr; cases hr; exact hp) hMok.nd, eE, eM⟩
        · have hng : rmGet M q.cls = none := rmGet_none (.inl (by omega))
          refine .inl ⟨?_, ?_, ?_⟩
          · rw [List.any_eq_false]
            intro x _
            unfold hitB
            rw [decide_eq_false g1]
            simp
          · unfold rmDropE plcP
            refine (if_pos g1).trans ?_
            unfold rmGiveE
            rw [hng]
          · unfold rmDrop plcP
            refine (if_pos g1).trans ?_
            unfold rmGive
            rw [hng]
      rcases hcase with ⟨hf, hE, hM⟩ | ⟨n, rr, hmem, hf, hE, hM, hqn, hqr, hkm⟩
      · rw [hE, hM]
        refine Goes.yes hTT rfl (by rw [hf]; rfl) rfl ?_
        refine Goes.loads hTT rfl hrb4 rfl rfl ?_
        have hob4 := hw4.heap' hob
        refine Goes.store hTT rfl hob4 rfl rfl ?_
        intro w5 hob5 hs5 hz5
        refine Goes.adv hTT 400 rfl ?_
        replace hob5 : rrBox w5 ob r := hob5
        have hc : Chg None' w w5 := hw04.since hs5 (fun z hz e => by omega)
        exact Goes.ret hTT rfl Tryz.func33 (ResOk.cell rfl rfl rfl hob5 rfl (.tmp rfl .nil)) ⟨r, rfl, h.grow hc, RKeep.refl w r, hc⟩
      · rw [hE, hM]
        have hnd : (n :: rr).Nodup := by
          obtain ⟨A, C, eA, _⟩ := lgDel_cut hMok.nd hmem
          have e : lgAll M.lg = lgAll A ++ ((n :: rr) ++ lgAll C) := by rw [eA, lgAll_append]; rfl
          have hnd := hMok.nd
          rw [e] at hnd
          exact (List.nodup_append.1 (List.nodup_append.1 hnd).2.1).1
        have hown : ∀ m ∈ n :: rr, m < M.pl.own.length ∧ M.pl.own.getD m 0 = (M.shs.length : Int) := fun m hm' => hMok.lg m (mem_lgAll hmem hm')
        have hrl : rr.length ≤ 1024 := by
          obtain ⟨_, _, p3, _⟩ := plGv_props (l := n :: rr) hm.good hnd (fun m hm' => ⟨(hown m hm').1, by have := (hown m hm').2; omega⟩)
          have := heldM_le hm.good
          simp only [List.length_cons] at p3
          omega
        have hql : q.pages.length = rr.length := by rw [← hqr, natsI_length]
        refine Goes.no hTT rfl (by rw [hf]; rfl) rfl ?_
        refine Goes.loadb hTT rfl hpb4 rfl rfl ?_
        refine Goes.buildSlice hTT rfl ?_
        intro b5 w5 e5 hb5 hw5 hz5
        refine Goes.adv hTT 400 rfl ?_
        have hpb5 := hw5.heap' hpb4
        refine Goes.loadb hTT rfl hpb5 rfl rfl ?_
        have ho5 : Own w4.heap.size 3 1 w5 (.slice (some ⟨b5, 0, none⟩) 1 1) 1 [.int .i64 q.page] := Own.one (by omega) hb5
        have hw05 := hw04.trans hw5
        refine Goes.appendA (base := w4.heap.size) (xs := [.int .i64 q.page]) (news := q.pages.map (Value.int .i64)) hTT rfl ho5 hw5.size (hq.rd.chg hw05).noneA (by simp) (hq.rd.chg hw05).cellsA plain_i64 ⟨by omega, by show (1 + q.pages.length) * 8 ≤ _; omega⟩ ?_
        intro v6 w6 ho6 hs6 hv6
        have hw46 := ho5.since hw5 (Nat.le_refl _) hs6
        have eall : [.int .i64 q.page] ++ q.pages.map (Value.int .i64) = (natsI (n :: rr)).map (Value.int .i64) := by rw [← hqr, hqn]; rfl
        rw [eall] at ho6
        obtain ⟨g, gc, rfl, hg1, hg2, hg3, hkg, hrd⟩ := own_page (l := n :: rr) ho6 (by simp only [List.length_cons]; omega) (by omega)
        refine Goes.adv hTT 400 rfl ?_
        have hw06 := hw04.trans hw46
        have hrb6 := hw46.heap' hrb4
        have hob6 := hw46.heap' (hw4.heap' hob)
        have hS46 := hw46.size
        have hS34 := hw4.size
        obtain ⟨B, hB0⟩ : ∃ B : Nat → Prop, B = fun z => z = rb ∨ z = ob := ⟨_, rfl⟩
        have hBlo : ∀ z, B z → w.heap.size ≤ z ∧ z < w3.heap.size := fun z hz => by rw [hB0] at hz; rcases hz with e | e <;> omega
        have hor := h.out (S := B) (fun z hz => (hBlo z hz).1)
        obtain ⟨la, lcap, rfl, hrow, hltl, hcap, hbase⟩ := Own.rowsN ho4 plcL_len rfl
        refine Goes.loop (α := Nat × RP) (fun x => [(2, false, .pointer (some ⟨rb, 0, none⟩)), (4, false, .pointer (some ⟨ob, 0, none⟩)), (6, false, .slice la (keepL q r.lg).length lcap), (9, false, .slice (some ⟨g, 0, none⟩) (1 + q.pages.length) gc), (10, false, .int .i64 x.1)])
          (fun x w' => x.1 ≤ rr.length + 1 ∧ rrBox w' rb { r with p := x.2 } ∧ RpOk w' x.2 (plGv M.pl ((n :: rr).take x.1)) ∧ OutA B x.2.o.a ∧ OutA B x.2.f.a ∧ (∀ S : Nat → Prop, (∀ z, S z → z < w.heap.size) → OutA S r.p.o.a → OutA S r.p.f.a → OutA S x.2.o.a ∧ OutA S x.2.f.a) ∧ Chg (fun z => z = rb) w6 w') (fun x => rr.length + 1 - x.1) (0, r.p) ⟨rfl, rfl, rfl, rfl, rfl, trivial⟩
          ⟨Nat.zero_le _, hrb6, h.p.grow hw06, hor.o, hor.f, fun S _ h1 h2 => ⟨h1, h2⟩, Chg.refl _ _⟩ ?_
        rintro ⟨j, rp⟩ w7 ⟨hj, hrb7, hP7, hO7, hF7, hK7, hc7⟩ ih2
        simp only at hj hrb7 hP7 hO7 hF7 hK7
        have hS67 := hc7.size
        have hw07 : Chg None' w w7 := hw06.since hc7 (fun z hz e => by omega)
        have hBr : B rb := by rw [hB0]; exact .inl rfl
        have hBo : B ob := by rw [hB0]; exact .inr rfl
        have hrb7' : w7.heap[rb]? = some (.cells (confL r.c r.cp ++ [ilV rp.o, ilV rp.f, .slice r.sa r.ss.length r.scap, .slice r.la r.lg.length r.lcap, .int .i64 r.steps]).toArray 35 (0, 0)) := hrb7
        refine Goes.adv hTT 400 rfl ?_
        refine Goes.fork hTT rfl rfl rfl (fun hlp2 => ?_) (fun hlp2 => ?_)
        · have hlt : j < rr.length + 1 := by have := of_decide_eq_true hlp2; omega
          have hlt' : j < (n :: rr).length := hlt
          have hsub : ∀ m ∈ (n :: rr).take j, m ∈ n :: rr := fun m hm' => List.mem_of_mem_take hm'
          obtain ⟨p1, p2, p3, p4⟩ := plGv_props (l := (n :: rr).take j) hm.good (hnd.sublist (List.take_sublist _ _)) (fun m hm' => ⟨(hown m (hsub m hm')).1, by have := (hown m (hsub m hm')).2; omega⟩)
          have hnot : (n :: rr)[j] ∉ (n :: rr).take j := fun hmm => by
            obtain ⟨i, hi, e⟩ := List.getElem_of_mem hmm
            rw [List.getElem_take] at e
            rw [List.length_take] at hi
            exact (List.pairwise_iff_getElem.1 hnd i j (by omega) hlt' (by omega)) e
          obtain ⟨o1, o2⟩ := hown _ (List.getElem_mem hlt')
          have ho1 : (n :: rr)[j] < (plGv M.pl ((n :: rr).take j)).own.length := by omega
          have ho2 : (plGv M.pl ((n :: rr).take j)).own.getD (n :: rr)[j] 0 ≠ -1 := by rw [p4, if_neg hnot]; omega
          obtain ⟨_, eg⟩ := plGive_ok ho1 ho2
          have estep : plGv M.pl ((n :: rr).take (j + 1)) = (plGv M.pl ((n :: rr).take j)).give (n :: rr)[j] := by
            rw [← eg, List.take_add_one, List.getElem?_eq_getElem hlt']
            unfold plGv
            rw [List.foldl_append]
            rfl
          have hrd7 := hrd.far (S := fun z => z = rb) (fun b' off s e hz => by cases e; omega) hc7
          obtain ⟨b', off', e', hcell⟩ := hrd7 j (by rw [natsI_length]; exact hlt')
          cases e'
          have ev : (natsI (n :: rr)).getD j 0 = ((n :: rr)[j] : Int) := by
            unfold natsI
            rw [List.getD_eq_getElem?_getD, List.getElem?_map, List.getElem?_eq_getElem hlt']
            rfl
          rw [ev] at hcell
          have hd : ∀ w', Chg None' w7 w' → Does Tryz.prog 73 #[.agg #[ilV rp.o, ilV rp.f], .int .i64 ((n :: rr)[j] : Nat)] w' (fun v w2 => Chg None' w' w2 ∧ ∃ x : RP, v = Value.tuple #[.agg (rpL x).toArray, .int .i64 0] ∧ (RpOk w2 x (plGv M.pl ((n :: rr).take (j + 1))) ∧ Fresh w7 x.o.a ∧ Fresh w7 x.f.a)) := fun w' hw' => by
            have hd := ref08_Give rp (n :: rr)[j] _ w' (hP7.grow hw') p1 ho1 ho2
            rw [← estep] at hd
            exact hd.mono fun v w2 ⟨x, a1, a2, a3, a4, a5⟩ => ⟨a5, x, a1, a2, a3.back hw'.size, a4.back hw'.size⟩
          refine Goes.drawn (q := 12) None' hTT mixed (by kernel_rfl) rfl ?_
          intro hB
          refine Drawn.loads hTT hB rfl hrb7' (by first | exact fun h => h | (intro h; omega) | assumption) rfl rfl ?_
          refine Drawn.index hTT hB rfl (j := j) (by omega) (by omega) (by first | rfl | omega | (simp; done) | (simp; omega)) rfl ?_
          refine Drawn.load hTT hB rfl hcell (by first | exact fun h => h | (intro h; omega) | assumption) rfl ?_
          refine Drawn.callAlloc (fun x : RP => Value.tuple #[.agg (rpL x).toArray, .int .i64 0]) (fun (x : RP) (w2 : World) => RpOk w2 x (plGv M.pl ((n :: rr).take (j + 1))) ∧ Fresh w7 x.o.a ∧ Fresh w7 x.f.a) hTT hB rfl rfl rfl (fun _ => rfl) rfl (fun _ => rfl) (fun _ => rfl) rfl rfl (fun _ _ => rfl) rfl (fun _ _ => rfl) (hd) (fun x w2 w3 ⟨a1, a2, a3⟩ hc => ⟨a1.grow hc, a2, a3⟩) (fun _ h => h.elim) ?_
          rintro nb x w8 hnb hzn hw8 ⟨hP8, hO8, hF8⟩
          refine Drawn.turn1 hB rfl ?_
          intro w9 hw9
          refine Turn.store hTT hB rfl (hw9.heap' hzn) (by first | (intro h; exact rfl) | (intro h; omega)) rfl rfl rfl ?_
          intro wa hnba hsa hza
          replace hnba : wa.heap[nb]? = some (.cells (rpL x).toArray 31 (0, 0)) := hnba
          refine Drawn.nil hB ?_
          intro wb hwb
          refine Goes.adv hTT 400 rfl ?_
          have hw7b : Chg None' w7 wb := ((hw8.trans hw9).since hsa (fun z hz e => by omega)).trans hwb
          have hw8b : Chg (fun z => z = nb) w8 wb := ((hw9.mono fun _ _ h => h.elim).trans hsa).trans (hwb.mono fun _ _ h => h.elim)
          refine Goes.loads hTT rfl (hwb.heap' hnba) rfl rfl ?_
          refine Goes.store hTT rfl (hw7b.heap' hrb7') rfl rfl ?_
          intro wc hrbc hsc hzc
          refine Goes.adv hTT 400 rfl ?_
          replace hrbc : rrBox wc rb { r with p := x } := hrbc
          have hOx : OutA B x.o.a := hO8.out (fun z hz => by have := (hBlo z hz).2; omega)
          have hFx : OutA B x.f.a := hF8.out (fun z hz => by have := (hBlo z hz).2; omega)
          have hPb : RpOk wb x (plGv M.pl ((n :: rr).take (j + 1))) := hP8.keep hzn (by intro y hy z e; subst e; simp [cellsL] at hy) hw8b
          have hPc : RpOk wc x (plGv M.pl ((n :: rr).take (j + 1))) := ⟨hPb.o.far (hOx.mono (fun z e => by subst e; exact hBr)) hsc, hPb.f.far (hFx.mono (fun z e => by subst e; exact hBr)) hsc, hPb.eo, hPb.ef⟩
          refine Goes.arith hTT rfl (w64 (by omega)) rfl ?_
          exact ih2 (j + 1, x) _ _ ⟨hlt, hrbc, hPc, hOx, hFx, fun S hS h1 h2 => ⟨hO8.out (fun z hz => by have := hS z hz; have := hw07.size; omega), hF8.out (fun z hz => by have := hS z hz; have := hw07.size; omega)⟩, (hc7.trans (hw7b.mono fun _ _ h => h.elim)).trans hsc⟩ (by simp only; omega) ⟨rfl, rfl, rfl, rfl, rfl, trivial⟩
        · have hge2 : j = rr.length + 1 := by have := of_decide_eq_false hlp2; omega
          subst hge2
          have etk : (n :: rr).take (rr.length + 1) = n :: rr := List.take_length (l := n :: rr)
          rw [etk] at hP7
          have hst := h.st
          obtain ⟨t, hteq⟩ : ∃ t, t = charged M.tot ((rr.length + 1 : Int) * 4 + rr.length) := ⟨_, rfl⟩
          have htv : r.steps + 4 * (((1 + q.pages.length : Nat)) : Int) + ((1 + q.pages.length : Nat) : Int) - 1 = t := by
            rw [hteq, hql]; unfold charged; rw [if_neg (by omega)]; omega
          have hob7 := hc7.heap hob6 (by omega)
          refine Goes.store hTT rfl hrb7' rfl rfl ?_
          intro w8 hrb8 hs8 hz8
          refine Goes.adv hTT 400 rfl ?_
          replace hrb8 : w8.heap[rb]? = some (.cells (confL r.c r.cp ++ [ilV rp.o, ilV rp.f, .slice r.sa r.ss.length r.scap, .slice la (keepL q r.lg).length lcap, .int .i64 r.steps]).toArray 35 (0, 0)) := hrb8
          refine Goes.loadb hTT rfl hrb8 rfl rfl ?_
          refine Goes.arith hTT rfl (w64 (by omega)) rfl ?_
          refine Goes.arith hTT rfl (w64 (by omega)) rfl ?_
          refine Goes.arith hTT rfl (w64 (by omega)) rfl ?_
          refine Goes.arith hTT rfl (w64 (by omega)) rfl ?_
          rw [htv]
          obtain ⟨r', hr'⟩ : ∃ r' : RR, r' = { r with p := rp, lg := keepL q r.lg, la := la, lcap := lcap, steps := t } := ⟨_, rfl⟩
          refine Goes.store hTT rfl hrb8 rfl rfl ?_
          intro w9 hrb9 hs9 hz9
          refine Goes.adv hTT 400 rfl ?_
          replace hrb9 : rrBox w9 rb r' := by rw [hr']; exact hrb9
          refine Goes.loads hTT rfl hrb9 rfl rfl ?_
          have hob9 := hs9.heap (hs8.heap hob7 (by omega)) (by omega)
          refine Goes.store hTT rfl hob9 rfl rfl ?_
          intro wa hoba hsa hza
          refine Goes.adv hTT 400 rfl ?_
          replace hoba : rrBox wa ob r' := hoba
          have hS67' := hc7.size
          have hw0a : Chg None' w wa := ((hw07.since hs8 (fun z hz e => by omega)).since hs9 (fun z hz e => by omega)).since hsa (fun z hz e => by omega)
          have hB7a : Chg B w7 wa := ((hs8.mono fun _ _ e => e ▸ hBr).trans (hs9.mono fun _ _ e => e ▸ hBr)).trans (hsa.mono fun _ _ e => e ▸ hBo)
          have hB6a : Chg B w6 wa := (hc7.mono fun _ _ e => e ▸ hBr).trans hB7a
          have hlaB : OutA B la := fun b off s e hz => by have := hbase b off s e; have := (hBlo b hz).2; omega
          have hkl : (keepL q r.lg).length ≤ r.lg.length := List.length_filter_le _ _
          have hsub : ∀ q' ∈ keepL q r.lg, q' ∈ r.lg := fun q' h => (List.mem_filter.1 h).1
          have h' := h.grow hw0a
          have hR : RrOk wa r' (rmGone M n rr) := by
            rw [hr']
            exact ⟨⟨hP7.o.far hO7 hB7a, hP7.f.far hF7 hB7a, hP7.eo, hP7.ef⟩, h'.sr, h'.sl, h'.sc, h'.n, h'.few, h'.each, (hrow.chg hw46).far hlaB hB6a, (hltl.grow hw46.size).grow hB6a.size, hcap, by show (keepL q r.lg).length ≤ 1024; omega, hkm, fun q' hq' => h'.lgo q' (hsub q' hq'), hteq⟩
          have hK : RKeep w r r' := by
            rw [hr']
            exact ⟨rfl, rfl, fun S hS ho => ⟨(hK7 S hS ho.o ho.f).1, (hK7 S hS ho.o ho.f).2, ho.sa, ho.each, fun b off s e hz => by have := hbase b off s e; have := hS b hz; omega, fun q' hq' => ho.lgo q' (hsub q' hq')⟩⟩
          exact Goes.ret hTT rfl Tryz.func33 (ResOk.cell rfl rfl rfl hoba rfl (.tmp rfl .nil)) ⟨r', rfl, hR, hK, hw0a⟩
end Go.Proofs.YtkiionjcapnepaaGreatDoor
/-
  Layer 20: the layer answers; of a room that is nil nothing is told.
-/
namespace Go.Proofs.YtkiionjcapnepaaGreatDoor
open Go.RowKit
theorem room_Place_nil (who size : Int) (w : World) : Does Tryz.prog 13 #[.pointer none, .int .i64 who, .int .i64 size] w (Grow (.tuple #[.agg #[.int .i64 0, .int .i64 0, .int .i64 0, .slice none 0 0], .int .i64 1]) w) := by
  refine Does.enter Tryz.func13 rfl Tryz.ntmps13 rfl rfl ?_
  refine Goes.adv hTT 400 rfl ?_
  refine Goes.alloc hTT rfl ?_
  intro b w1 e1 hb hw1 hz1
  refine Goes.adv hTT 400 rfl ?_
  refine Goes.build hTT rfl rfl ?_
  refine Goes.store hTT rfl hb rfl rfl ?_
  intro w2 hb2 hs2 hz2
  refine Goes.adv hTT 400 rfl ?_
  exact Goes.ret hTT rfl Tryz.func13 (ResOk.cell rfl rfl rfl hb2 rfl (.tmp rfl .nil)) ⟨rfl, hw1.since hs2 (fun z hz e => by omega)⟩
def smallC20 : Conf := ⟨64, 4, [32], [2], 8, 4, 3, 512⟩
theorem Rd.ofB {k : IntKind} {w : World} {b : Nat} {c : Array Value} {t : TypeId} {fz : Nat × Nat} {zs : List Int} (h : w.heap[b]? = some (.cells c t fz)) (hc : c = (zs.map (Value.int k)).toArray) : Rd k w (some ⟨b, 0, none⟩) zs := fun i hi =>
  ⟨b, 0, rfl, by rw [cell_of h, hc]; simp [hi]⟩
theorem law20_small (w : World) : Does Tryz.prog 27 #[] w (fun v w' => ∃ p, v = .agg (confL smallC20 p).toArray ∧ ConfOk w' smallC20 p ∧ (∀ b off s, p.ca = some ⟨b, off, s⟩ → w.heap.size ≤ b) ∧ (∀ b off s, p.ka = some ⟨b, off, s⟩ → w.heap.size ≤ b) ∧ Chg None' w w') := by
  refine Does.enter Tryz.func27 rfl Tryz.ntmps27 rfl rfl ?_
  refine Goes.adv hTT 400 rfl ?_
  refine Goes.alloc hTT rfl ?_
  intro b w1 e1 hb hw1 hz1
  refine Goes.adv hTT 400 rfl ?_
  refine Goes.buildSlice hTT rfl ?_
  intro b2 w2 e2 hb2 hw2 hz2
  refine Goes.adv hTT 400 rfl ?_
  refine Goes.buildSlice hTT rfl ?_
  intro b3 w3 e3 hb3 hw3 hz3
  refine Goes.adv hTT 400 rfl ?_
  refine Goes.build hTT rfl rfl ?_
  refine Goes.store hTT rfl (hw3.heap' (hw2.heap' hb)) rfl rfl ?_
  intro w4 hb4 hw4 hz4
  refine Goes.adv hTT 400 rfl ?_
  have hc : ConfOk w4 smallC20 ⟨some ⟨b2, 0, none⟩, 1, some ⟨b3, 0, none⟩, 1⟩ :=
    ⟨Rd.ofB (hw4.heap (hw3.heap' hb2) (by omega)) rfl, Rd.ofB (hw4.heap hb3 (by omega)) rfl, by decide, by decide, by unfold In64; decide⟩
  exact Goes.ret hTT rfl Tryz.func27 (ResOk.cell rfl rfl rfl hb4 rfl .nil) ⟨⟨some ⟨b2, 0, none⟩, 1, some ⟨b3, 0, none⟩, 1⟩, rfl, hc, (fun b off s e => by cases e; omega), (fun b off s e => by cases e; omega), ((hw1.trans hw2).trans hw3).since hw4 (fun k hk hk' => by omega)⟩
def aw20 (n : Nat) : RmM := match n with
  | 0 => ⟨[⟨0, 2, [], []⟩], ⟨[-1, -1, -1, -1], [0, 1, 2, 3]⟩, [], 0⟩
  | 1 => ⟨[⟨0, 2, [(0, [7, -1])], [0]⟩], ⟨[0, -1, -1, -1], [1, 2, 3]⟩, [], 7⟩
  | 2 => ⟨[⟨0, 2, [(0, [7, -1])], [0]⟩], ⟨[0, 1, 1, 1], []⟩, [(1, [2, 3])], 21⟩
  | _ => ⟨[⟨0, 2, [(0, [7, -1])], [0]⟩], ⟨[0, -1, -1, -1], [3, 2, 1]⟩, [], 35⟩
theorem aw20_0 : newRm smallC20 0 = aw20 0 := by rfl
theorem aw20_1 : rmPlaceE smallC20 (aw20 0) 7 20 = 0 ∧ rmPlaceQ smallC20 (aw20 0) 7 20 = ⟨0, 0, 0, []⟩ ∧ rmPlace smallC20 (aw20 0) 7 20 = aw20 1 := ⟨rfl, rfl, rfl⟩
theorem aw20_2 : rmPlaceE smallC20 (aw20 1) 8 100 = 0 ∧ rmPlaceQ smallC20 (aw20 1) 8 100 = ⟨-1, 1, 0, [2, 3]⟩ ∧ rmPlace smallC20 (aw20 1) 8 100 = aw20 2 := ⟨rfl, rfl, rfl⟩
theorem aw20_3 : rmFits smallC20 (aw20 2) 100 = 5 ∧ rmDropE (aw20 2) ⟨-1, 1, 0, [2, 3]⟩ = 0 ∧ rmDrop (aw20 2) ⟨-1, 1, 0, [2, 3]⟩ = aw20 3 := ⟨rfl, rfl, rfl⟩
theorem aw20_4 : rmDropE (aw20 3) ⟨-1, 1, 0, [2, 3]⟩ = 1 ∧ rmDrop (aw20 3) ⟨-1, 1, 0, [2, 3]⟩ = aw20 3 ∧ heldM (aw20 3).pl = 1 ∧ rmOpen (aw20 3) 0 = 1 ∧ rmOwner (aw20 3) 0 0 0 = 7 := ⟨rfl, rfl, rfl, rfl, rfl⟩
theorem RmTo.base {F : Nat → Prop} {w0 w w' : World} {R : Rm} {M : RmM} (h : RmTo F w w' R M) (hF : ∀ z, F z → w0.heap.size ≤ z) (hc : Chg None' w0 w) : ∃ F', RmSt F' w' R M ∧ (∀ z, F' z → w0.heap.size ≤ z) ∧ Chg None' w0 w' ∧ Chg F w w' ∧ ∀ z, F' z → F z ∨ w.heap.size ≤ z := by
  obtain ⟨F', h1, h2, h3⟩ := h
  have hs := hc.size
  exact ⟨F', h1, fun z hz => (h2 z hz).elim (hF z) (fun h => by omega), hc.since h3 (fun z hz e => by have := hF z e; omega), h3, h2⟩
set_option maxRecDepth 100000 in
theorem law20_awake (w : World) (ht : TabAt w) : Does Tryz.prog 7 #[] w (Grow (.bool true) w) := by
  refine Does.enter Tryz.func7 rfl Tryz.ntmps7 rfl rfl ?_
  refine Goes.adv hTT 400 rfl ?_
  refine Goes.call rfl (meter_New w) ?_
  rintro _ w1 ⟨rfl, hm1, hw1, hz1⟩
  refine Goes.adv hTT 400 rfl ?_
  refine Goes.call rfl (law20_small w1) ?_
  rintro _ w2 ⟨p, rfl, hc2, hca, hka, hw2⟩
  refine Goes.adv hTT 400 rfl ?_
  have hm2 := hm1.chg hw2
  have hw02 := hw1.trans hw2
  have hs1 := hw1.size
  have hs2 := hw2.size
  have hN := (room_New smallC20 p (some w.heap.size) 0 0 None' w2 hc2 (ht.grow hw02) (fun _ h => h.elim) (fun b hb => by
    cases hb
    exact ⟨hm2, ⟨hc2.classes, fun _ b off s e h => by have := hca b off s e; omega⟩, ⟨hc2.keep, fun _ b off s e h => by have := hka b off s e; omega⟩⟩) (by decide)).mono fun v w' ⟨a, b⟩ => by
      rw [if_pos (show mayB smallC20 = true from rfl)] at b
      exact And.intro a b
  refine Goes.call rfl (hN) ?_
  rintro _ w3 ⟨hw3, F, R, hRc, hRp, hRm, rfl, h3, hF3, _⟩
  refine Goes.adv hTT 400 rfl ?_
  rw [aw20_0] at h3
  have hw03 := hw02.trans hw3
  have hF3' : ∀ z, F z → w.heap.size ≤ z := fun z hz => (hF3 z hz).elim (fun h => by omega) (fun h => by cases h; omega)
  have d4 := room_Place h3 7 20
  rw [hRc, aw20_1.1, aw20_1.2.1, aw20_1.2.2] at d4
  refine Goes.call rfl (d4) ?_
  rintro _ w4 ⟨q4, rfl, hq4, F4, h4, hF4, hc4, _⟩
  refine Goes.adv hTT 400 rfl ?_
  obtain ⟨c4, p4, i4, a4, n4, l4⟩ := q4
  cases hq4
  obtain ⟨_, _, hF4', hw04, _⟩ := RmTo.base ⟨F4, h4, hF4, hc4⟩ hF3' hw03
  have hF4' : ∀ z, F4 z → w.heap.size ≤ z := fun z hz => (hF4 z hz).elim (hF3' z) (fun h => by have := hw03.size; omega)
  refine Goes.alloc hTT rfl ?_
  intro tb w5 e5 htb hw5 hz5
  refine Goes.adv hTT 400 rfl ?_
  refine Goes.store hTT rfl htb rfl rfl ?_
  intro w6 htb6 hs6 hz6
  refine Goes.adv hTT 400 rfl ?_
  have hw46 : Chg None' w4 w6 := hw5.since hs6 (fun z hz e => by omega)
  have hw06 := hw04.trans hw46
  have h6 := h4.grow hw46
  have htF : ¬ F4 tb := fun hz => by have := h4.low _ hz; omega
  have d7 := room_Place h6 8 100
  rw [hRc, aw20_2.1, aw20_2.2.1, aw20_2.2.2] at d7
  refine Goes.call rfl (d7) ?_
  rintro _ w7 ⟨q7, rfl, hq7, F7, h7, hF7, hc7, hqo7, hqF7, hqn7⟩
  refine Goes.adv hTT 400 rfl ?_
  have htb7 := hc7.heap htb6 htF
  have hF7' : ∀ z, F7 z → w.heap.size ≤ z := fun z hz => (hF7 z hz).elim (hF4' z) (fun h => by have := hw06.size; omega)
  have hw07 : Chg None' w w7 := hw06.since hc7 (fun z hz e => by have := hF4' z e; omega)
  refine Goes.alloc hTT rfl ?_
  intro ub w8 e8 hub hw8 hz8
  refine Goes.adv hTT 400 rfl ?_
  refine Goes.store hTT rfl hub rfl rfl ?_
  intro w9 hub9 hs9 hz9
  refine Goes.adv hTT 400 rfl ?_
  replace hub9 : w9.heap[ub]? = some (.cells (plcL q7).toArray 47 (0, 0)) := hub9
  have hw79 : Chg None' w7 w9 := hw8.since hs9 (fun z hz e => by omega)
  have hw09 := hw07.trans hw79
  have h9 := h7.grow hw79
  have d10 := room_Fits h9 100
  rw [hRc, aw20_3.1] at d10
  refine Goes.call rfl (d10) ?_
  rintro _ w10 ⟨rfl, hw10⟩
  refine Goes.adv hTT 400 rfl ?_
  have hub10 := hw10.heap' hub9
  have hw910 := hw79.trans hw10
  have h10 := h9.grow hw10
  have d11 := room_Drop h10 q7 (hqo7.grow hw910)
  rw [hq7, aw20_3.2.1, aw20_3.2.2] at d11
  refine Goes.loads hTT rfl hub10 rfl rfl ?_
  refine Goes.call rfl (d11) ?_
  rintro _ w11 ⟨rfl, hT11⟩
  refine Goes.adv hTT 400 rfl ?_
  obtain ⟨F11, h11, hF11', hw011, hc11, hF11⟩ := hT11.base hF7' (hw09.trans hw10)
  have hubF : ¬ F7 ub := fun hz => by have := h7.low _ hz; omega
  have hub11 := hc11.heap hub10 hubF
  have htbF : ¬ F7 tb := fun hz => (hF7 tb hz).elim htF (fun h => by have := lt_of_heap htb6; omega)
  have htb11 := hc11.heap (hw910.heap' htb7) htbF
  have d12 := room_Drop h11 q7 (⟨((hqo7.grow hw910).rd).far hqF7 hc11, hqo7.len⟩)
  rw [hq7, aw20_4.1, aw20_4.2.1] at d12
  refine Goes.loads hTT rfl hub11 rfl rfl ?_
  refine Goes.call rfl (d12) ?_
  rintro _ w12 ⟨rfl, hT12⟩
  refine Goes.adv hTT 400 rfl ?_
  obtain ⟨F12, h12, hF12', hw012, hc12, hF12⟩ := hT12.base hF11' hw011
  have hubF11 : ¬ F11 ub := fun hz => (hF11 ub hz).elim hubF (fun h => by have := lt_of_heap hub9; have := hw10.size; omega)
  have htbF11 : ¬ F11 tb := fun hz => (hF11 tb hz).elim htbF (fun h => by have := lt_of_heap htb7; have := hw910.size; omega)
  have hub12 := hc12.heap hub11 hubF11
  have htb12 := hc12.heap htb11 htbF11
  have ec : q7.cls = -1 := congrArg PlcM.cls hq7
  have ep : q7.page = 1 := congrArg PlcM.page hq7
  have el : q7.pages.length = 2 := congrArg (fun x => x.pages.length) hq7
  refine Goes.yes hTT rfl rfl rfl ?_
  refine Goes.yes hTT rfl rfl rfl ?_
  refine Goes.yes hTT rfl rfl rfl ?_
  refine Goes.yes hTT rfl rfl rfl ?_
  refine Goes.yes hTT rfl rfl rfl ?_
  refine Goes.yes hTT rfl rfl rfl ?_
  refine Goes.loadb hTT rfl htb12 rfl rfl ?_
  refine Goes.yes hTT rfl rfl rfl ?_
  refine Goes.loadb hTT rfl htb12 rfl rfl ?_
  refine Goes.yes hTT rfl rfl rfl ?_
  refine Goes.loadb hTT rfl hub12 rfl rfl ?_
  refine Goes.yes hTT rfl (by rw [ec]; rfl) rfl ?_
  refine Goes.loadb hTT rfl hub12 rfl rfl ?_
  refine Goes.yes hTT rfl (by rw [ep]; rfl) rfl ?_
  refine Goes.loadb hTT rfl hub12 rfl rfl ?_
  refine Goes.yes hTT rfl (by rw [el]; rfl) rfl ?_
  refine Goes.call rfl (room_Held h12) ?_
  rintro _ _ ⟨rfl, rfl⟩
  refine Goes.adv hTT 400 rfl ?_
  refine Goes.yes hTT rfl rfl rfl ?_
  refine Goes.call rfl (room_Open h12 0) ?_
  rintro _ _ ⟨rfl, rfl⟩
  refine Goes.adv hTT 400 rfl ?_
  refine Goes.yes hTT rfl rfl rfl ?_
  refine Goes.call rfl (room_Owner h12 0 0 0) ?_
  rintro _ _ ⟨rfl, rfl⟩
  refine Goes.adv hTT 400 rfl ?_
  refine Goes.yes hTT rfl rfl rfl ?_
  obtain ⟨_, hm12⟩ := h12.met _ hRm
  refine Goes.call rfl (meter_Total w.heap.size _ R.lap w12 hm12) ?_
  rintro _ _ ⟨rfl, rfl⟩
  refine Goes.adv hTT 400 rfl ?_
  exact Goes.ret1 hTT rfl Tryz.func7 rfl rfl ⟨rfl, hw012⟩
end Go.Proofs.YtkiionjcapnepaaGreatDoor
/-
  Layer 20: a room, and the document's room beside it; how many steps an act charges.
-/
namespace Go.Proofs.YtkiionjcapnepaaGreatDoor
open Go.RowKit
structure Act20 where
  kind : Int
  n : Int
  page : Int
  at' : Int
  who : Int
def act20L (u : Act20) : List Value := [.int .u8 u.kind, .int .i64 u.n, .int .i64 u.page, .int .i64 u.at', .int .i64 u.who]
structure Ply where
  R : Rm
  mb : Nat
  r : RR
  ps : List Plc
  pa : Option Addr
  pc : Nat
def plyL (y : Ply) : List Value := [rmV y.R, .pointer (some ⟨y.mb, 0, none⟩)] ++ rrL y.r ++ [.slice y.pa y.ps.length y.pc]
structure PlyOut (S : Nat → Prop) (y : Ply) : Prop where
  rr : RrOut S y.r
  pa : OutA S y.pa
  ps : ∀ q ∈ y.ps, OutA S q.pa
/-- The room's plain data is N, the document's room's M. -/
structure PlyOk (c : Conf) (w0 : World) (F : Nat → Prop) (w : World) (y : Ply) (M N : RmM) : Prop where
  st : RmSt F w y.R N
  rc : y.R.c = c
  rrc : y.r.c = c
  cp : y.r.cp = y.R.p
  mo : y.R.mo = some y.mb
  rr : RrOk w y.r M
  out : PlyOut F y
  pr : Rows plcL 4 w y.pa y.ps
  pl : ALt w y.pa
  pcap : y.ps.length ≤ y.pc
  pq : ∀ q ∈ y.ps, PlcOk w q ∧ ALt w q.pa
  low : ∀ z, F z → w0.heap.size ≤ z
  chg : Chg None' w0 w
section
variable {c : Conf} {w0 w w' : World} {F F' S : Nat → Prop} {y : Ply} {M N : RmM}
theorem PlyOut.mono {S S' : Nat → Prop} (h : PlyOut S y) (hs : ∀ z, S' z → S z) : PlyOut S' y := ⟨h.rr.mono hs, h.pa.mono hs, fun q hq => (h.ps q hq).mono hs⟩
theorem PlyOk.grow (h : PlyOk c w0 F w y M N) (hc : Chg None' w w') : PlyOk c w0 F w' y M N :=
  ⟨h.st.grow hc, h.rc, h.rrc, h.cp, h.mo, h.rr.grow hc, h.out, h.pr.chg hc, h.pl.grow hc.size, h.pcap, fun q hq => ⟨(h.pq q hq).1.grow hc, (h.pq q hq).2.grow hc.size⟩, h.low, h.chg.trans hc⟩
theorem PlyOk.young (h : PlyOk c w0 F w y M N) (hs : ∀ z, S z → w.heap.size ≤ z) : PlyOut S y := ⟨h.rr.out hs, h.pl.out hs, fun q hq => (h.pq q hq).2.out hs⟩
theorem PlyOk.far (h : PlyOk c w0 F w y M N) (hc : Chg S w w') (hS : ∀ z, S z → Ext F w y.R z ∧ w0.heap.size ≤ z) (ho : PlyOut S y) : PlyOk c w0 F w' y M N :=
  ⟨h.st.other hc (fun z hz => (hS z hz).1), h.rc, h.rrc, h.cp, h.mo, h.rr.far ho.rr hc, h.out, h.pr.far ho.pa hc, h.pl.grow hc.size, h.pcap, fun q hq => ⟨⟨(h.pq q hq).1.rd.far (ho.ps q hq) hc, (h.pq q hq).1.len⟩, (h.pq q hq).2.grow hc.size⟩, h.low, h.chg.since hc (fun z hz e => by have := (hS z e).2; omega)⟩
theorem PlyOut.wide (h : PlyOk c w0 F w y M N) (ho : PlyOut S y) (hF : ∀ z, F' z → S z ∨ w.heap.size ≤ z) : PlyOut F' y := by
  have hy := h.young (S := fun z => w.heap.size ≤ z) (fun _ h => h)
  have j : ∀ {a : Option Addr}, OutA S a → OutA (fun z => w.heap.size ≤ z) a → OutA F' a := fun h1 h2 b off s e hz => (hF b hz).elim (h1 b off s e) (h2 b off s e)
  have a := ho.rr
  have b := hy.rr
  exact ⟨⟨j a.o b.o, j a.f b.f, j a.sa b.sa, fun s hs => ⟨j (a.each s hs).o (b.each s hs).o, j (a.each s hs).f (b.each s hs).f, j (a.each s hs).nums (b.each s hs).nums, j (a.each s hs).opn (b.each s hs).opn, j (a.each s hs).pa (b.each s hs).pa, fun l hl => j ((a.each s hs).each l hl) ((b.each s hs).each l hl)⟩, j a.la b.la, fun q hq => j (a.lgo q hq) (b.lgo q hq)⟩, j ho.pa hy.pa, fun q hq => j (ho.ps q hq) (hy.ps q hq)⟩
/-- The program's room goes ahead. -/
theorem PlyOk.ahead {N' : RmM} (h : PlyOk c w0 F w y M N) (hs : RmSt F' w' y.R N') (hF : ∀ z, F' z → F z ∨ w.heap.size ≤ z) (hc : Chg F w w') : PlyOk c w0 F' w' y M N' :=
  ⟨hs, h.rc, h.rrc, h.cp, h.mo, h.rr.far h.out.rr hc, PlyOut.wide h h.out hF, h.pr.far h.out.pa hc, h.pl.grow hc.size, h.pcap, fun q hq => ⟨⟨(h.pq q hq).1.rd.far (h.out.ps q hq) hc, (h.pq q hq).1.len⟩, (h.pq q hq).2.grow hc.size⟩, fun z hz => by
    rcases hF z hz with g | g
    · exact h.low z g
    · have := h.chg.size; omega, h.chg.since hc (fun z hz e => by have := h.low z e; omega)⟩
/-- The document's room follows. -/
theorem PlyOk.follow {r' : RR} (h : PlyOk c w0 F w y M N) (hr : RrOk w' r' N) (hK : RKeep w y.r r') (hc : Chg None' w w') : PlyOk c w0 F w' { y with r := r' } N N :=
  ⟨h.st.grow hc, h.rc, hK.1.trans h.rrc, hK.2.1.trans h.cp, h.mo, hr, ⟨hK.2.2 F h.st.low h.out.rr, h.out.pa, h.out.ps⟩, h.pr.chg hc, h.pl.grow hc.size, h.pcap, fun q hq => ⟨(h.pq q hq).1.grow hc, (h.pq q hq).2.grow hc.size⟩, h.low, h.chg.trans hc⟩
def PlyKeep (w : World) (y y' : Ply) : Prop := y'.R = y.R ∧ y'.mb = y.mb ∧ ∀ S : Nat → Prop, (∀ z, S z → z < w.heap.size) → PlyOut S y → PlyOut S y'
theorem PlyKeep.refl (w : World) (y : Ply) : PlyKeep w y y := ⟨rfl, rfl, fun _ _ h => h⟩
theorem PlyKeep.back {w2 : World} {y' : Ply} (h : PlyKeep w2 y y') (hs : w.heap.size ≤ w2.heap.size) : PlyKeep w y y' := ⟨h.1, h.2.1, fun S hS ho => h.2.2 S (fun z hz => by have := hS z hz; omega) ho⟩
theorem RKeep.ply {r' : RR} (hK : RKeep w y.r r') : PlyKeep w y { y with r := r' } := ⟨rfl, rfl, fun S hS ho => ⟨hK.2.2 S hS ho.rr, ho.pa, ho.ps⟩⟩
/-- A place more. -/
theorem PlyOk.more {q : Plc} {pa : Option Addr} {pc : Nat} (h : PlyOk c w0 F w y M N) (hq : PlcOk w q) (hl : ALt w q.pa) (ho : OutA F q.pa) (hr : Rows plcL 4 w pa (y.ps ++ [q])) (ha : ALt w pa) (hc : (y.ps ++ [q]).length ≤ pc) (hao : OutA F pa) : PlyOk c w0 F w { y with ps := y.ps ++ [q], pa := pa, pc := pc } M N :=
  ⟨h.st, h.rc, h.rrc, h.cp, h.mo, h.rr, ⟨h.out.rr, hao, fun x hx => (List.mem_append.1 hx).elim (h.out.ps x) (fun e => by rw [List.mem_singleton] at e; subst e; exact ho)⟩, hr, ha, hc, fun x hx => (List.mem_append.1 hx).elim (h.pq x) (fun e => by rw [List.mem_singleton] at e; subst e; exact ⟨hq, hl⟩), h.low, h.chg⟩
end
/-! ### What is charged -/
theorem chgM_le {p q : PlM} (hp : p.Good) (hq : q.Good) : chgM p q ≤ 6000 := by
  have := heldM_le hp
  have := heldM_le hq
  unfold chgM
  omega
theorem charged_up {t n : Int} (ht : 0 ≤ t ∧ t ≤ 4611686018427387904) (hn : n ≤ 6000) : t ≤ charged t n ∧ charged t n ≤ t + 6000 := by
  unfold charged
  split <;> omega
theorem rmTake_tot {M : RmM} {k who : Int} (h : MOk M) (ht : 0 ≤ M.tot ∧ M.tot ≤ 4611686018427387904) : M.tot ≤ (rmTake M k who).tot ∧ (rmTake M k who).tot ≤ M.tot + 6000 := by
  unfold rmTake
  cases hg : rmGet M k with
  | none => exact ⟨Int.le_refl _, by simp only; omega⟩
  | some x =>
    obtain ⟨n, rfl, hn, hx⟩ := rmGet_some hg
    simp only
    split
    · exact charged_up ht (chgM_le h.good ((take_eff x M.pl who h.good (h.sh n x hx).1.cls).1.good h.good (h.sh n x hx).1.cls))
    · omega
theorem rmGive_tot {M : RmM} {k n i : Int} (h : MOk M) (ht : 0 ≤ M.tot ∧ M.tot ≤ 4611686018427387904) : M.tot ≤ (rmGive M k n i).tot ∧ (rmGive M k n i).tot ≤ M.tot + 6000 := by
  unfold rmGive
  cases hg : rmGet M k with
  | none => exact ⟨Int.le_refl _, by simp only; omega⟩
  | some x =>
    obtain ⟨m, rfl, hn, hx⟩ := rmGet_some hg
    simp only
    split
    · exact charged_up ht (chgM_le h.good ((give_eff x M.pl n i (h.sh m x hx).1 (h.sh m x hx).2).1.good h.good (h.sh m x hx).1.cls))
    · omega
theorem rmOwn_tot {M : RmM} {k n i who : Int} : (rmOwn M k n i who).tot = M.tot := by
  unfold rmOwn
  split <;> rfl
theorem rmPlace_tot {c : Conf} {M : RmM} {who size : Int} (h : MOk M) (hm : mayB c = true) (ht : 0 ≤ M.tot ∧ M.tot ≤ 4611686018427387904) : M.tot ≤ (rmPlace c M who size).tot ∧ (rmPlace c M who size).tot ≤ M.tot + 6000 := by
  unfold rmPlace
  split
  · omega
  · split
    · omega
    · rename_i h2
      split
      · rename_i h3
        have hfit : rmNeed c M size ≤ M.pl.free.length ∧ ¬ (size < 1 ∨ c.most < size) := by
          unfold rmFits at h2
          split at h2
          · exact absurd (by decide) h2
          · split at h2
            · exact absurd (by decide) h2
            · exact ⟨by omega, by assumption⟩
        have hn : rmNeed c M size = allM size c.size := by unfold rmNeed; rw [if_pos h3]
        have ha := allM_le (may_facts hm) (n := size) (by omega)
        have hl : M.pl.free.length ≤ 1024 := by have := h.good.many; have := h.good.len; omega
        exact charged_up ht (by omega)
      · exact rmTake_tot h ht
theorem lg_len {c : Conf} {M : RmM} (h : M.Ok c) (hg : M.pl.Good) {n : Nat} {r : List Nat} (hm : (n, r) ∈ M.lg) : r.length + 1 ≤ heldM M.pl := by
  have _ := hg
  have := h.sum
  have h2 : ∀ {l : List (Nat × List Nat)}, (n, r) ∈ l → r.length + 1 ≤ lgMany l := fun {l} => by
    induction l with
    | nil => intro h; cases h
    | cons a t ih =>
      intro h
      unfold lgMany at *
      rw [List.map_cons, List.sum_cons]
      rcases List.mem_cons.1 h with e | h
      · rw [← e]; simp only; omega
      · have := ih h; omega
  have := h2 hm
  omega
theorem rmDrop_tot {c : Conf} {M : RmM} {q : PlcM} (h : MOk M) (hok : M.Ok c) (ht : 0 ≤ M.tot ∧ M.tot ≤ 4611686018427387904) : M.tot ≤ (rmDrop M q).tot ∧ (rmDrop M q).tot ≤ M.tot + 6000 := by
  unfold rmDrop
  split
  · exact rmGive_tot h ht
  · split
    · omega
    · rename_i r hr
      split
      · obtain ⟨n, _, hm⟩ := lgGet_some hr
        have := lg_len hok h.good hm
        have := heldM_le h.good
        exact charged_up ht (by omega)
      · omega
end Go.Proofs.YtkiionjcapnepaaGreatDoor
/-
  Layer 20: an act on the room, and on the document's.
-/
namespace Go.Proofs.YtkiionjcapnepaaGreatDoor
open Go.RowKit
abbrev plyBox (w : World) (b : Nat) (y : Ply) : Prop := w.heap[b]? = some (.cells (plyL y).toArray 37 (0, 0))
/-- What an act leaves. -/
def PlyTo (c : Conf) (w0 : World) (F : Nat → Prop) (w w' : World) (y : Ply) (M : RmM) (y' : Ply) : Prop := ∃ F' M', PlyOk c w0 F' w' y' M' M' ∧ (M.tot ≤ M'.tot ∧ M'.tot ≤ M.tot + 6000) ∧ PlyKeep w y y' ∧ y'.ps.length ≤ y.ps.length + 1 ∧ (∀ z, F' z → F z ∨ w.heap.size ≤ z) ∧ Chg F w w'
theorem u64_pos (z : Int) : 0 ≤ IntKind.u64.wrap z := by
  simp only [IntKind.wrap, IntKind.signed, IntKind.bits]
  exact Int.emod_nonneg _ (by decide)
theorem u64_in {z : Int} (h : 0 ≤ z ∧ z < 18446744073709551616) : IntKind.u64.wrap z = z := by
  simp only [IntKind.wrap, IntKind.signed, IntKind.bits]
  exact Int.emod_eq_of_lt h.1 h.2
set_option maxRecDepth 100000 in
theorem law20_do (c : Conf) (w0 : World) (F : Nat → Prop) (y : Ply) (M : RmM) (u : Act20) (w : World) (h : PlyOk c w0 F w y M M) (ht : M.tot ≤ 4611686018427000000) (hm : mayB c = true) (hps : y.ps.length ≤ 1000000) (hk : 0 ≤ u.kind ∧ u.kind < 256) : Does Tryz.prog 10 #[.agg (plyL y).toArray, .agg (act20L u).toArray] w
    (fun v w' => ∃ y', v = .tuple #[.agg (plyL y').toArray, .bool true] ∧ PlyTo c w0 F w w' y M y') := by
  have hml : maxLen = 9223372036854775807 := rfl
  have htot := h.st.ok.tot
  have ht' : 0 ≤ M.tot ∧ M.tot ≤ 4611686018427000000 := ⟨htot.1, ht⟩
  have hmok := h.st.mok
  have hrc := h.rc
  have hrrc := h.rrc
  have hok : M.Ok y.r.c := by rw [hrrc, ← hrc]; exact h.st.ok
  have hconf := h.st.conf
  refine Does.enter Tryz.func10 rfl Tryz.ntmps10 rfl rfl ?_
  refine Goes.adv hTT 400 rfl ?_
  refine Goes.alloc hTT rfl ?_
  intro yb w1 e1 hyb hw1 hz1
  refine Goes.adv hTT 400 rfl ?_
  refine Goes.alloc hTT rfl ?_
  intro ub w2 e2 hub hw2 hz2
  refine Goes.adv hTT 400 rfl ?_
  refine Goes.alloc hTT rfl ?_
  intro ob w3 e3 hob hw3 hz3
  refine Goes.adv hTT 400 rfl ?_
  replace hyb : plyBox w1 yb y := hyb
  replace hub : w2.heap[ub]? = some (.cells (act20L u).toArray 42 (0, 0)) := hub
  have hw03 := (hw1.trans hw2).trans hw3
  have hyb3 := hw3.heap' (hw2.heap' hyb)
  have hub3 := hw3.heap' hub
  have hS01 := hw1.size
  have hS02 := hw2.size
  have hS03 := hw03.size
  have hlow := h.st.low
  have h3 := h.grow hw03
  have h00 := h.chg.size
  have nF : ∀ z, w.heap.size ≤ z → ¬ F z := fun z hz hf => by have := hlow z hf; omega
  have ky := kd_cells hyb3
  have ko := kd_cells hob
  refine Goes.loadb hTT rfl hub3 rfl rfl ?_
  refine Goes.div hTT rfl (by omega) (rem_ (by omega)) rfl ?_
  refine Goes.fork hTT rfl rfl rfl (fun k0 => ?_) (fun k0 => ?_)
  · have dP := room_Place h3.st u.who u.n
    rw [hrc] at dP
    refine Goes.loadb hTT rfl hyb3 rfl rfl ?_
    refine Goes.loadb hTT rfl hub3 rfl rfl ?_
    refine Goes.loadb hTT rfl hub3 rfl rfl ?_
    refine Goes.call rfl (dP) ?_
    rintro _ w4 ⟨q, rfl, hq, F4, hR4, hF4, hc4, hqo, hqF, hqn⟩
    refine Goes.adv hTT 400 rfl ?_
    have hS34 := hc4.size
    have hyb4 := hc4.heap hyb3 (nF _ (by omega))
    have hub4 := hc4.heap hub3 (nF _ (by omega))
    have hob4 := hc4.heap hob (nF _ (by omega))
    have h4 := h3.ahead hR4 hF4 hc4
    refine Goes.alloc hTT rfl ?_
    intro qb wa eqb hqb hwa hza
    refine Goes.adv hTT 400 rfl ?_
    refine Goes.store hTT rfl hqb rfl rfl ?_
    intro wb hqbb hsb hzb
    refine Goes.adv hTT 400 rfl ?_
    replace hqbb : wb.heap[qb]? = some (.cells (plcL q).toArray 47 (0, 0)) := hqbb
    have hw4b : Chg None' w4 wb := hwa.since hsb (fun z hz e => by omega)
    have hS4b := hw4b.size
    have hb := h4.grow hw4b
    have hybb := hw4b.heap' hyb4
    have hubb := hw4b.heap' hub4
    have hobb := hw4b.heap' hob4
    have dR := ref20_Place y.r M u.who u.n wb hb.rr hmok hok ht' (by rw [h.cp, hrrc, ← hrc]; exact hb.st.cls.1) (by rw [hrrc]; exact hm)
    rw [hrrc] at dR
    refine Goes.loads hTT rfl hybb rfl rfl ?_
    refine Goes.loadb hTT rfl hubb rfl rfl ?_
    refine Goes.loadb hTT rfl hubb rfl rfl ?_
    refine Goes.call rfl (dR) ?_
    rintro _ w5 ⟨r', q', rfl, hq', hR, hK, hN, hw5⟩
    refine Goes.adv hTT 400 rfl ?_
    have h5 := hb.follow hR hK hw5
    refine Goes.alloc hTT rfl ?_
    intro rb w6 e6 hrb6 hw6 hz6
    refine Goes.adv hTT 400 rfl ?_
    refine Goes.alloc hTT rfl ?_
    intro q2 w7 e7 hq27 hw7 hz7
    refine Goes.adv hTT 400 rfl ?_
    refine Goes.store hTT rfl (hw7.heap' hrb6) rfl rfl ?_
    intro w8 hrb8 hs8 hz8
    refine Goes.adv hTT 400 rfl ?_
    replace hrb8 : rrBox w8 rb r' := hrb8
    have hS5b := hw5.size
    refine Goes.store hTT rfl (hs8.heap hq27 (by omega)) rfl rfl ?_
    intro w9 hq29 hs9 hz9
    refine Goes.adv hTT 400 rfl ?_
    replace hq29 : w9.heap[q2]? = some (.cells (plcL q').toArray 47 (0, 0)) := hq29
    have hrb9 := hs9.heap hrb8 (by omega)
    have hw59 : Chg None' w5 w9 := ((hw6.trans hw7).since hs8 (fun z hz e => by omega)).since hs9 (fun z hz e => by omega)
    have h9 := h5.grow hw59
    have hwb9 := hw5.trans hw59
    have hyb9 := hwb9.heap' hybb
    have hob9 := hwb9.heap' hobb
    have hqb9 := hwb9.heap' hqbb
    have hlyb := lt_of_heap hyb3
    have hlob := lt_of_heap hob
    obtain ⟨B, hB0⟩ : ∃ B : Nat → Prop, B = fun z => z = yb ∨ z = ob := ⟨_, rfl⟩
    have hBlo : ∀ z, B z → w.heap.size ≤ z ∧ z < w3.heap.size := fun z hz => by rw [hB0] at hz; rcases hz with e | e <;> omega
    have hBy : B yb := by rw [hB0]; exact .inl rfl
    have hBo : B ob := by rw [hB0]; exact .inr rfl
    have hnF : ∀ z, B z → ¬ F4 z := fun z hz hf => by
      have := hBlo z hz
      rcases hF4 z hf with g | g
      · exact nF z this.1 g
      · omega
    have kk : ∀ {wx : World}, wx.heap[yb]? = some (.cells (plyL y).toArray 37 (0, 0)) → True := fun _ => trivial
    have hfar : ∀ {wx wy : World} {y2 : Ply} {A B' : RmM}, PlyOk c w0 F4 wx y2 A B' → y2.R = y.R → Chg B wx wy → PlyOut B y2 → (∀ z, B z → kd wx z = some (some 37)) → PlyOk c w0 F4 wy y2 A B' := fun hx hyR hc ho hkd => hx.far hc (fun z hz => ⟨by rw [hyR]; exact Ext.young h.st (hBlo z hz).1 (hnF z hz) (hkd z hz) (by decide), by have := hBlo z hz; omega⟩) ho
    have hkk : ∀ {wx : World} {a b : List Value}, wx.heap[yb]? = some (.cells a.toArray 37 (0, 0)) → wx.heap[ob]? = some (.cells b.toArray 37 (0, 0)) → ∀ z, B z → kd wx z = some (some 37) := fun g1 g2 z hz => by
      rw [hB0] at hz
      rcases hz with e | e
      · rw [e]; exact kd_cells g1
      · rw [e]; exact kd_cells g2
    have hKb : PlyKeep w y { y with r := r' } := (RKeep.ply hK).back (Nat.le_trans hw03.size (Nat.le_trans hc4.size hw4b.size))
    have hout1 : PlyOut B { y with r := r' } := (RKeep.ply hK).2.2 _ (fun z hz => by have := hBlo z hz; omega) (h.young (fun z hz => (hBlo z hz).1))
    refine Goes.loads hTT rfl hrb9 rfl rfl ?_
    refine Goes.store hTT rfl hyb9 rfl rfl ?_
    intro wc hybc hsc hzc
    refine Goes.adv hTT 400 rfl ?_
    replace hybc : plyBox wc yb { y with r := r' } := hybc
    have hc9c : Chg B w9 wc := hsc.mono fun _ _ e => e ▸ hBy
    have hc := hfar h9 rfl hc9c hout1 (hkk hyb9 hob9)
    have hobc := hsc.heap hob9 (by omega)
    have hqbc := hsc.heap hqb9 (by omega)
    have hq2c := hsc.heap hq29 (by omega)
    have hcbc : Chg B wb wc := (hwb9.mono fun _ _ h => h.elim).trans hc9c
    have hqB : OutA B q.pa := fun b off s e hz => by have := hqn b off s e; have := hBlo b hz; omega
    have hq'B : OutA B q'.pa := fun b off s e hz => by have := hN.fresh b off s e; have := hBlo b hz; omega
    have hqc : PlcOk wc q := ⟨(hqo.grow hw4b).rd.far hqB hcbc, hqo.len⟩
    have hc5c : Chg B w5 wc := (hw59.mono fun _ _ h => h.elim).trans hc9c
    have hq'c : PlcOk wc q' := ⟨hN.ok.rd.far hq'B hc5c, hN.ok.len⟩
    have hcbF : Chg F w wc := ((hw03.mono fun _ _ h => h.elim).trans hc4).since (((hw4b.mono fun _ _ h => h.elim).trans hcbc)) (fun z hz e => by have := hBlo z e; omega)
    have htt := rmPlace_tot (who := u.who) (size := u.n) hmok hm htot
    have hSbc := hcbc.size
    by_cases hE : rmPlaceE c M u.who u.n = 0
    · refine Goes.yes hTT rfl (by rw [hE]; rfl) rfl ?_
      have hlp := hc.pcap
      refine Goes.drawn (q := 6) None' hTT mixed (by kernel_rfl) rfl ?_
      intro hB
      refine Drawn.loadb hTT hB rfl hybc (by first | exact fun h => h | (intro h; omega) | assumption) rfl rfl ?_
      refine Drawn.loads hTT hB rfl hq2c (by first | exact fun h => h | (intro h; omega) | assumption) rfl rfl ?_
      refine Drawn.turn2 hB rfl ?_ ?_
      · intro wf hwf
        refine Turn.buildSlice hTT hB rfl (fun _ => rfl) ?_
        intro b0 wg eg hb0 hwg hzg
        have hcg := hwf.trans hwg
        have ho0 : Own wc.heap.size 47 4 wg (.slice (some ⟨b0, 0, none⟩) 0 0) 0 (fl plcL []) := Own.empty (by have := hwf.size; omega) hb0
        refine Drawn.turn2 hB rfl ?_ ?_
        · intro wh hwh
          refine Turn.appendA hTT hB rfl (base := wc.heap.size) (xs := fl plcL []) (news := fl plcL y.ps) (ho0.chg hwh (fun _ _ h => h)) ((hcg.trans hwh)).size hc.pr.noneA (Nat.le_refl _) (fl_length plcL_len y.ps) ((hc.pr.chg (hcg.trans hwh)).news plcL_len (by decide)) (fl_plain plcL_plain y.ps) ⟨by show 0 + y.ps.length ≤ _; omega, by show (0 + y.ps.length) * 48 ≤ _; omega⟩ (fun _ => rfl) ?_
          intro v1 wx ho1 hsx hvx
          have hc1 := ((ho0.chg hwh (fun _ _ h => h))).since (hcg.trans hwh) (Nat.le_refl _) hsx
          refine Drawn.turn1 hB rfl ?_
          intro wi hwi
          refine Turn.buildSlice hTT hB rfl (fun _ => rfl) ?_
          intro b5 wj ej hb5 hwj hzj
          refine Drawn.nil hB ?_
          intro wl hwl
          refine Goes.adv hTT 400 rfl ?_
          have hs9b := ((((hc1.trans hwi).trans hwj).trans hwl)).size
          have ho2 : Own wc.heap.size 47 4 wl v1 y.ps.length (fl plcL y.ps) := by
            have := (((ho1.chg hwi (fun _ _ h => h)).chg hwj (fun _ _ h => h)).chg hwl (fun _ _ h => h))
            rw [fl_nil, List.nil_append, Nat.zero_add] at this
            exact this
          obtain ⟨a1, n1, c1, rfl⟩ := Own.isSlice ho2
          refine Goes.appendA (base := wc.heap.size) (xs := fl plcL y.ps) (news := plcL q') hTT rfl ho2 hs9b (fun e => by cases e) rfl (cellsN (hwl.heap' hb5)) (plcL_plain q') ⟨by omega, by show (y.ps.length + 1) * 48 ≤ _; omega⟩ ?_
          intro v3 wy ho3 hsy hvy
          have hcy := ho2.since (((hc1.trans hwi).trans hwj).trans hwl) (Nat.le_refl _) hsy
          have ho3' : Own wc.heap.size 47 4 wy v3 (y.ps.length + 1) (fl plcL (y.ps ++ [q'])) := by
            rw [fl_append, fl_one]; exact ho3
          obtain ⟨la, lcap, rfl, hrow, hlt, hcap, hbase⟩ := Own.rowsN ho3' plcL_len (by simp)
          refine Goes.adv hTT 400 rfl ?_
          refine Goes.store hTT rfl (hcy.heap' hybc) rfl rfl ?_
          intro wz hybz hsz hzz
          refine Goes.adv hTT 400 rfl ?_
          replace hybz : plyBox wz yb { y with r := r', ps := y.ps ++ [q'], pa := la, pc := lcap } := hybz
          have hqbz := hsz.heap (hcy.heap' hqbc) (by omega)
          have hq2z := hsz.heap (hcy.heap' hq2c) (by omega)
          have hobz0 := hsz.heap (hcy.heap' hobc) (by omega)
          have hScy := hcy.size
          have hcyz : Chg B wc wz := (hcy.mono fun _ _ h => h.elim).trans (hsz.mono fun _ _ e => e ▸ hBy)
          have hlaN : ∀ b off s, la = some ⟨b, off, s⟩ → wc.heap.size ≤ b := hbase
          have hyR := (hc.grow hcy)
          have hS9c := hc9c.size
          have hS59 := hw59.size
          have hcy2 : Chg None' w5 wy → True := fun _ => trivial
          have hq'lt : ALt wy q'.pa := (hN.lt.grow hw59.size).grow (Nat.le_trans hc9c.size hcy.size)
          have hmore := hyR.more (q := q') (pa := la) (pc := lcap) (hq'c.grow hcy) hq'lt (fun b off s e hz => by have := hN.fresh b off s e; have := hR4.low b hz; omega) hrow hlt hcap (fun b off s e hz => by have := hlaN b off s e; have := hc.st.low b hz; omega)
          have hout2 : PlyOut B { y with r := r', ps := y.ps ++ [q'], pa := la, pc := lcap } := ⟨hout1.rr, fun b off s e hz => by have := hlaN b off s e; have := hBlo b hz; omega, fun x hx => (List.mem_append.1 hx).elim (hout1.ps x) (fun e => by rw [List.mem_singleton] at e; subst e; exact hq'B)⟩
          have hz0 := hfar hmore rfl (hsz.mono fun _ _ e => e ▸ hBy) hout2 (hkk (hcy.heap' hybc) (hcy.heap' hobc))
          have hKz : PlyKeep w y { y with r := r', ps := y.ps ++ [q'], pa := la, pc := lcap } := ⟨rfl, rfl, fun S hS ho => by
            have a := hKb.2.2 S hS ho
            exact ⟨a.rr, fun b off s e hz => by have := hlaN b off s e; have := hS b hz; omega, fun x hx => (List.mem_append.1 hx).elim (a.ps x) (fun e => by rw [List.mem_singleton] at e; subst e; exact fun b off s e hz => by have := hN.fresh b off s e; have := hS b hz; omega)⟩⟩
          have hczF : Chg F w wz := hcbF.since hcyz (fun z hz e => by have := hBlo z e; omega)
          have hqz : PlcOk wz q := ⟨hqc.rd.far hqB hcyz, hqo.len⟩
          have hq'z : PlcOk wz q' := ⟨hq'c.rd.far hq'B hcyz, hN.ok.len⟩
          refine Goes.drawn (q := 10) (fun z => z = ob) hTT mixed (by kernel_rfl) rfl ?_
          intro hB
          have hno1 : ¬ yb = ob := by omega
          have hno2 : ¬ qb = ob := by omega
          have hno3 : ¬ q2 = ob := by omega
          refine Drawn.loads hTT hB rfl hybz (by first | exact fun h => h | (intro h; omega) | assumption) rfl rfl ?_
          refine Drawn.loads hTT hB rfl hqbz (by first | exact fun h => h | (intro h; omega) | assumption) rfl rfl ?_
          refine Drawn.loads hTT hB rfl hq2z (by first | exact fun h => h | (intro h; omega) | assumption) rfl rfl ?_
          refine Drawn.call hTT hB rfl (fun w' hw' => law20_equal q q' w' (hqz.rd.far (OutA.mono (S' := fun z => z = ob) hqB (fun z e => by rw [e]; exact hBo)) hw') (hq'z.rd.far (OutA.mono (S' := fun z => z = ob) hq'B (fun z e => by rw [e]; exact hBo)) hw') hqo.len (hq.trans hq'.symm)) rfl ?_
          refine Drawn.yes hTT hB rfl rfl rfl ?_
          refine Drawn.turn1 hB rfl ?_
          intro wz1 hwz1
          refine Turn.store hTT hB rfl (hwz1.heap' hobz0) (by first | (intro h; exact rfl) | (intro h; omega)) rfl rfl rfl ?_
          intro wz2 hobz hsz2 hzz2
          replace hobz : plyBox wz2 ob { y with r := r', ps := y.ps ++ [q'], pa := la, pc := lcap } := hobz
          refine Drawn.nil hB ?_
          intro wz3 hwz3
          refine Goes.adv hTT 400 rfl ?_
          have hz1 := (hz0).grow hwz1
          have hz2 := (hfar hz1 rfl (hsz2.mono fun _ _ e => e ▸ hBo) hout2 (hkk (hwz1.heap' hybz) (hwz1.heap' hobz0))).grow hwz3
          exact Goes.ret hTT rfl Tryz.func10 (ResOk.cell rfl rfl rfl (hwz3.heap' hobz) rfl (.tmp rfl .nil)) ⟨{ y with r := r', ps := y.ps ++ [q'], pa := la, pc := lcap }, congrArg (fun b => Value.tuple #[.agg (plyL { y with r := r', ps := y.ps ++ [q'], pa := la, pc := lcap }).toArray, .bool b]) (beq_self_eq_true _), F4, _, hz2, htt, hKz, by show (y.ps ++ [q']).length ≤ _; simp, fun z hz => (hF4 z hz).imp id (fun g => by omega), (((hczF).trans (hwz1.mono fun _ _ h => h.elim)).since hsz2 (fun z hz e => by omega)).trans (hwz3.mono fun _ _ h => h.elim)⟩
        · intro wh hwh
          refine Turn.buildSlice hTT hB rfl (fun _ => rfl) ?_
          intro b5 wi ei hb5 hwi hzi
          refine Drawn.turn1 hB rfl ?_
          intro wj hwj
          refine Turn.appendA hTT hB rfl (base := wc.heap.size) (xs := fl plcL []) (news := fl plcL y.ps) (((ho0.chg hwh (fun _ _ h => h)).chg hwi (fun _ _ h => h)).chg hwj (fun _ _ h => h)) ((((hcg.trans hwh).trans hwi).trans hwj)).size hc.pr.noneA (Nat.le_refl _) (fl_length plcL_len y.ps) ((hc.pr.chg (((hcg.trans hwh).trans hwi).trans hwj)).news plcL_len (by decide)) (fl_plain plcL_plain y.ps) ⟨by show 0 + y.ps.length ≤ _; omega, by show (0 + y.ps.length) * 48 ≤ _; omega⟩ (fun _ => rfl) ?_
          intro v1 wx ho1 hsx hvx
          have hc1 := ((((ho0.chg hwh (fun _ _ h => h)).chg hwi (fun _ _ h => h)).chg hwj (fun _ _ h => h))).since (((hcg.trans hwh).trans hwi).trans hwj) (Nat.le_refl _) hsx
          refine Drawn.nil hB ?_
          intro wl hwl
          refine Goes.adv hTT 400 rfl ?_
          have hne : ¬ ownS (.slice (some ⟨b0, 0, none⟩) 0 0) b5 := by
            intro h; have e : some b5 = some b0 := h; have := Option.some.inj e; have := hwh.size; omega
          have hs9b := ((hc1.trans hwl)).size
          have ho2 : Own wc.heap.size 47 4 wl v1 y.ps.length (fl plcL y.ps) := by
            have := (ho1.chg hwl (fun _ _ h => h))
            rw [fl_nil, List.nil_append, Nat.zero_add] at this
            exact this
          obtain ⟨a1, n1, c1, rfl⟩ := Own.isSlice ho2
          refine Goes.appendA (base := wc.heap.size) (xs := fl plcL y.ps) (news := plcL q') hTT rfl ho2 hs9b (fun e => by cases e) rfl (cellsN (hwl.heap' (hsx.heap (hwj.heap' hb5) hne))) (plcL_plain q') ⟨by omega, by show (y.ps.length + 1) * 48 ≤ _; omega⟩ ?_
          intro v3 wy ho3 hsy hvy
          have hcy := ho2.since (hc1.trans hwl) (Nat.le_refl _) hsy
          have ho3' : Own wc.heap.size 47 4 wy v3 (y.ps.length + 1) (fl plcL (y.ps ++ [q'])) := by
            rw [fl_append, fl_one]; exact ho3
          obtain ⟨la, lcap, rfl, hrow, hlt, hcap, hbase⟩ := Own.rowsN ho3' plcL_len (by simp)
          refine Goes.adv hTT 400 rfl ?_
          refine Goes.store hTT rfl (hcy.heap' hybc) rfl rfl ?_
          intro wz hybz hsz hzz
          refine Goes.adv hTT 400 rfl ?_
          replace hybz : plyBox wz yb { y with r := r', ps := y.ps ++ [q'], pa := la, pc := lcap } := hybz
          have hqbz := hsz.heap (hcy.heap' hqbc) (by omega)
          have hq2z := hsz.heap (hcy.heap' hq2c) (by omega)
          have hobz0 := hsz.heap (hcy.heap' hobc) (by omega)
          have hScy := hcy.size
          have hcyz : Chg B wc wz := (hcy.mono fun _ _ h => h.elim).trans (hsz.mono fun _ _ e => e ▸ hBy)
          have hlaN : ∀ b off s, la = some ⟨b, off, s⟩ → wc.heap.size ≤ b := hbase
          have hyR := (hc.grow hcy)
          have hS9c := hc9c.size
          have hS59 := hw59.size
          have hcy2 : Chg None' w5 wy → True := fun _ => trivial
          have hq'lt : ALt wy q'.pa := (hN.lt.grow hw59.size).grow (Nat.le_trans hc9c.size hcy.size)
          have hmore := hyR.more (q := q') (pa := la) (pc := lcap) (hq'c.grow hcy) hq'lt (fun b off s e hz => by have := hN.fresh b off s e; have := hR4.low b hz; omega) hrow hlt hcap (fun b off s e hz => by have := hlaN b off s e; have := hc.st.low b hz; omega)
          have hout2 : PlyOut B { y with r := r', ps := y.ps ++ [q'], pa := la, pc := lcap } := ⟨hout1.rr, fun b off s e hz => by have := hlaN b off s e; have := hBlo b hz; omega, fun x hx => (List.mem_append.1 hx).elim (hout1.ps x) (fun e => by rw [List.mem_singleton] at e; subst e; exact hq'B)⟩
          have hz0 := hfar hmore rfl (hsz.mono fun _ _ e => e ▸ hBy) hout2 (hkk (hcy.heap' hybc) (hcy.heap' hobc))
          have hKz : PlyKeep w y { y with r := r', ps := y.ps ++ [q'], pa := la, pc := lcap } := ⟨rfl, rfl, fun S hS ho => by
            have a := hKb.2.2 S hS ho
            exact ⟨a.rr, fun b off s e hz => by have := hlaN b off s e; have := hS b hz; omega, fun x hx => (List.mem_append.1 hx).elim (a.ps x) (fun e => by rw [List.mem_singleton] at e; subst e; exact fun b off s e hz => by have := hN.fresh b off s e; have := hS b hz; omega)⟩⟩
          have hczF : Chg F w wz := hcbF.since hcyz (fun z hz e => by have := hBlo z e; omega)
          have hqz : PlcOk wz q := ⟨hqc.rd.far hqB hcyz, hqo.len⟩
          have hq'z : PlcOk wz q' := ⟨hq'c.rd.far hq'B hcyz, hN.ok.len⟩
          refine Goes.drawn (q := 10) (fun z => z = ob) hTT mixed (by kernel_rfl) rfl ?_
          intro hB
          have hno1 : ¬ yb = ob := by omega
          have hno2 : ¬ qb = ob := by omega
          have hno3 : ¬ q2 = ob := by omega
          refine Drawn.loads hTT hB rfl hybz (by first | exact fun h => h | (intro h; omega) | assumption) rfl rfl ?_
          refine Drawn.loads hTT hB rfl hqbz (by first | exact fun h => h | (intro h; omega) | assumption) rfl rfl ?_
          refine Drawn.loads hTT hB rfl hq2z (by first | exact fun h => h | (intro h; omega) | assumption) rfl rfl ?_
          refine Drawn.call hTT hB rfl (fun w' hw' => law20_equal q q' w' (hqz.rd.far (OutA.mono (S' := fun z => z = ob) hqB (fun z e => by rw [e]; exact hBo)) hw') (hq'z.rd.far (OutA.mono (S' := fun z => z = ob) hq'B (fun z e => by rw [e]; exact hBo)) hw') hqo.len (hq.trans hq'.symm)) rfl ?_
          refine Drawn.yes hTT hB rfl rfl rfl ?_
          refine Drawn.turn1 hB rfl ?_
          intro wz1 hwz1
          refine Turn.store hTT hB rfl (hwz1.heap' hobz0) (by first | (intro h; exact rfl) | (intro h; omega)) rfl rfl rfl ?_
          intro wz2 hobz hsz2 hzz2
          replace hobz : plyBox wz2 ob { y with r := r', ps := y.ps ++ [q'], pa := la, pc := lcap } := hobz
          refine Drawn.nil hB ?_
          intro wz3 hwz3
          refine Goes.adv hTT 400 rfl ?_
          have hz1 := (hz0).grow hwz1
          have hz2 := (hfar hz1 rfl (hsz2.mono fun _ _ e => e ▸ hBo) hout2 (hkk (hwz1.heap' hybz) (hwz1.heap' hobz0))).grow hwz3
          exact Goes.ret hTT rfl Tryz.func10 (ResOk.cell rfl rfl rfl (hwz3.heap' hobz) rfl (.tmp rfl .nil)) ⟨{ y with r := r', ps := y.ps ++ [q'], pa := la, pc := lcap }, congrArg (fun b => Value.tuple #[.agg (plyL { y with r := r', ps := y.ps ++ [q'], pa := la, pc := lcap }).toArray, .bool b]) (beq_self_eq_true _), F4, _, hz2, htt, hKz, by show (y.ps ++ [q']).length ≤ _; simp, fun z hz => (hF4 z hz).imp id (fun g => by omega), (((hczF).trans (hwz1.mono fun _ _ h => h.elim)).since hsz2 (fun z hz e => by omega)).trans (hwz3.mono fun _ _ h => h.elim)⟩
      · intro wf hwf
        refine Turn.buildSlice hTT hB rfl (fun _ => rfl) ?_
        intro b5 wg eg hb5 hwg hzg
        refine Drawn.turn1 hB rfl ?_
        intro wh hwh
        refine Turn.buildSlice hTT hB rfl (fun _ => rfl) ?_
        intro b0 wi ei hb0 hwi hzi
        have hcg := ((hwf.trans hwg).trans hwh).trans hwi
        have ho0 : Own wc.heap.size 47 4 wi (.slice (some ⟨b0, 0, none⟩) 0 0) 0 (fl plcL []) := Own.empty (by have := ((hwf.trans hwg).trans hwh).size; omega) hb0
        refine Drawn.turn1 hB rfl ?_
        intro wj hwj
        refine Turn.appendA hTT hB rfl (base := wc.heap.size) (xs := fl plcL []) (news := fl plcL y.ps) (ho0.chg hwj (fun _ _ h => h)) ((hcg.trans hwj)).size hc.pr.noneA (Nat.le_refl _) (fl_length plcL_len y.ps) ((hc.pr.chg (hcg.trans hwj)).news plcL_len (by decide)) (fl_plain plcL_plain y.ps) ⟨by show 0 + y.ps.length ≤ _; omega, by show (0 + y.ps.length) * 48 ≤ _; omega⟩ (fun _ => rfl) ?_
        intro v1 wx ho1 hsx hvx
        have hc1 := ((ho0.chg hwj (fun _ _ h => h))).since (hcg.trans hwj) (Nat.le_refl _) hsx
        refine Drawn.nil hB ?_
        intro wl hwl
        refine Goes.adv hTT 400 rfl ?_
        have hne : ¬ ownS (.slice (some ⟨b0, 0, none⟩) 0 0) b5 := by
          intro h; have e : some b5 = some b0 := h; have := Option.some.inj e; have := hwh.size; omega
        have hs9b := ((hc1.trans hwl)).size
        have ho2 : Own wc.heap.size 47 4 wl v1 y.ps.length (fl plcL y.ps) := by
          have := (ho1.chg hwl (fun _ _ h => h))
          rw [fl_nil, List.nil_append, Nat.zero_add] at this
          exact this
        obtain ⟨a1, n1, c1, rfl⟩ := Own.isSlice ho2
        refine Goes.appendA (base := wc.heap.size) (xs := fl plcL y.ps) (news := plcL q') hTT rfl ho2 hs9b (fun e => by cases e) rfl (cellsN (hwl.heap' (hsx.heap ((hwi.trans hwj).heap' (hwh.heap' hb5)) hne))) (plcL_plain q') ⟨by omega, by show (y.ps.length + 1) * 48 ≤ _; omega⟩ ?_
        intro v3 wy ho3 hsy hvy
        have hcy := ho2.since (hc1.trans hwl) (Nat.le_refl _) hsy
        have ho3' : Own wc.heap.size 47 4 wy v3 (y.ps.length + 1) (fl plcL (y.ps ++ [q'])) := by
          rw [fl_append, fl_one]; exact ho3
        obtain ⟨la, lcap, rfl, hrow, hlt, hcap, hbase⟩ := Own.rowsN ho3' plcL_len (by simp)
        refine Goes.adv hTT 400 rfl ?_
        refine Goes.store hTT rfl (hcy.heap' hybc) rfl rfl ?_
        intro wz hybz hsz hzz
        refine Goes.adv hTT 400 rfl ?_
        replace hybz : plyBox wz yb { y with r := r', ps := y.ps ++ [q'], pa := la, pc := lcap } := hybz
        have hqbz := hsz.heap (hcy.heap' hqbc) (by omega)
        have hq2z := hsz.heap (hcy.heap' hq2c) (by omega)
        have hobz0 := hsz.heap (hcy.heap' hobc) (by omega)
        have hScy := hcy.size
        have hcyz : Chg B wc wz := (hcy.mono fun _ _ h => h.elim).trans (hsz.mono fun _ _ e => e ▸ hBy)
        have hlaN : ∀ b off s, la = some ⟨b, off, s⟩ → wc.heap.size ≤ b := hbase
        have hyR := (hc.grow hcy)
        have hS9c := hc9c.size
        have hS59 := hw59.size
        have hcy2 : Chg None' w5 wy → True := fun _ => trivial
        have hq'lt : ALt wy q'.pa := (hN.lt.grow hw59.size).grow (Nat.le_trans hc9c.size hcy.size)
        have hmore := hyR.more (q := q') (pa := la) (pc := lcap) (hq'c.grow hcy) hq'lt (fun b off s e hz => by have := hN.fresh b off s e; have := hR4.low b hz; omega) hrow hlt hcap (fun b off s e hz => by have := hlaN b off s e; have := hc.st.low b hz; omega)
        have hout2 : PlyOut B { y with r := r', ps := y.ps ++ [q'], pa := la, pc := lcap } := ⟨hout1.rr, fun b off s e hz => by have := hlaN b off s e; have := hBlo b hz; omega, fun x hx => (List.mem_append.1 hx).elim (hout1.ps x) (fun e => by rw [List.mem_singleton] at e; subst e; exact hq'B)⟩
        have hz0 := hfar hmore rfl (hsz.mono fun _ _ e => e ▸ hBy) hout2 (hkk (hcy.heap' hybc) (hcy.heap' hobc))
        have hKz : PlyKeep w y { y with r := r', ps := y.ps ++ [q'], pa := la, pc := lcap } := ⟨rfl, rfl, fun S hS ho => by
          have a := hKb.2.2 S hS ho
          exact ⟨a.rr, fun b off s e hz => by have := hlaN b off s e; have := hS b hz; omega, fun x hx => (List.mem_append.1 hx).elim (a.ps x) (fun e => by rw [List.mem_singleton] at e; subst e; exact fun b off s e hz => by have := hN.fresh b off s e; have := hS b hz; omega)⟩⟩
        have hczF : Chg F w wz := hcbF.since hcyz (fun z hz e => by have := hBlo z e; omega)
        have hqz : PlcOk wz q := ⟨hqc.rd.far hqB hcyz, hqo.len⟩
        have hq'z : PlcOk wz q' := ⟨hq'c.rd.far hq'B hcyz, hN.ok.len⟩
        refine Goes.drawn (q := 10) (fun z => z = ob) hTT mixed (by kernel_rfl) rfl ?_
        intro hB
        have hno1 : ¬ yb = ob := by omega
        have hno2 : ¬ qb = ob := by omega
        have hno3 : ¬ q2 = ob := by omega
        refine Drawn.loads hTT hB rfl hybz (by first | exact fun h => h | (intro h; omega) | assumption) rfl rfl ?_
        refine Drawn.loads hTT hB rfl hqbz (by first | exact fun h => h | (intro h; omega) | assumption) rfl rfl ?_
        refine Drawn.loads hTT hB rfl hq2z (by first | exact fun h => h | (intro h; omega) | assumption) rfl rfl ?_
        refine Drawn.call hTT hB rfl (fun w' hw' => law20_equal q q' w' (hqz.rd.far (OutA.mono (S' := fun z => z = ob) hqB (fun z e => by rw [e]; exact hBo)) hw') (hq'z.rd.far (OutA.mono (S' := fun z => z = ob) hq'B (fun z e => by rw [e]; exact hBo)) hw') hqo.len (hq.trans hq'.symm)) rfl ?_
        refine Drawn.yes hTT hB rfl rfl rfl ?_
        refine Drawn.turn1 hB rfl ?_
        intro wz1 hwz1
        refine Turn.store hTT hB rfl (hwz1.heap' hobz0) (by first | (intro h; exact rfl) | (intro h; omega)) rfl rfl rfl ?_
        intro wz2 hobz hsz2 hzz2
        replace hobz : plyBox wz2 ob { y with r := r', ps := y.ps ++ [q'], pa := la, pc := lcap } := hobz
        refine Drawn.nil hB ?_
        intro wz3 hwz3
        refine Goes.adv hTT 400 rfl ?_
        have hz1 := (hz0).grow hwz1
        have hz2 := (hfar hz1 rfl (hsz2.mono fun _ _ e => e ▸ hBo) hout2 (hkk (hwz1.heap' hybz) (hwz1.heap' hobz0))).grow hwz3
        exact Goes.ret hTT rfl Tryz.func10 (ResOk.cell rfl rfl rfl (hwz3.heap' hobz) rfl (.tmp rfl .nil)) ⟨{ y with r := r', ps := y.ps ++ [q'], pa := la, pc := lcap }, congrArg (fun b => Value.tuple #[.agg (plyL { y with r := r', ps := y.ps ++ [q'], pa := la, pc := lcap }).toArray, .bool b]) (beq_self_eq_true _), F4, _, hz2, htt, hKz, by show (y.ps ++ [q']).length ≤ _; simp, fun z hz => (hF4 z hz).imp id (fun g => by omega), (((hczF).trans (hwz1.mono fun _ _ h => h.elim)).since hsz2 (fun z hz e => by omega)).trans (hwz3.mono fun _ _ h => h.elim)⟩
    · refine Goes.no hTT rfl (by simpa using hE) rfl ?_
      refine Goes.drawn (q := 10) (fun z => z = ob) hTT mixed (by kernel_rfl) rfl ?_
      intro hB
      have hno1 : ¬ yb = ob := by omega
      have hno2 : ¬ qb = ob := by omega
      have hno3 : ¬ q2 = ob := by omega
      refine Drawn.loads hTT hB rfl hybc (by first | exact fun h => h | (intro h; omega) | assumption) rfl rfl ?_
      refine Drawn.loads hTT hB rfl hqbc (by first | exact fun h => h | (intro h; omega) | assumption) rfl rfl ?_
      refine Drawn.loads hTT hB rfl hq2c (by first | exact fun h => h | (intro h; omega) | assumption) rfl rfl ?_
      refine Drawn.call hTT hB rfl (fun w' hw' => law20_equal q q' w' (hqc.rd.far (OutA.mono (S' := fun z => z = ob) hqB (fun z e => by rw [e]; exact hBo)) hw') (hq'c.rd.far (OutA.mono (S' := fun z => z = ob) hq'B (fun z e => by rw [e]; exact hBo)) hw') hqo.len (hq.trans hq'.symm)) rfl ?_
      refine Drawn.yes hTT hB rfl rfl rfl ?_
      refine Drawn.turn1 hB rfl ?_
      intro wz1 hwz1
      refine Turn.store hTT hB rfl (hwz1.heap' hobc) (by first | (intro h; exact rfl) | (intro h; omega)) rfl rfl rfl ?_
      intro wz2 hobz hsz2 hzz2
      replace hobz : plyBox wz2 ob { y with r := r' } := hobz
      refine Drawn.nil hB ?_
      intro wz3 hwz3
      refine Goes.adv hTT 400 rfl ?_
      have hz1 := (hc).grow hwz1
      have hz2 := (hfar hz1 rfl (hsz2.mono fun _ _ e => e ▸ hBo) hout1 (hkk (hwz1.heap' hybc) (hwz1.heap' hobc))).grow hwz3
      exact Goes.ret hTT rfl Tryz.func10 (ResOk.cell rfl rfl rfl (hwz3.heap' hobz) rfl (.tmp rfl .nil)) ⟨{ y with r := r' }, congrArg (fun b => Value.tuple #[.agg (plyL { y with r := r' }).toArray, .bool b]) (beq_self_eq_true _), F4, _, hz2, htt, hKb, by show y.ps.length ≤ _; omega, fun z hz => (hF4 z hz).imp id (fun g => by omega), (((hcbF).trans (hwz1.mono fun _ _ h => h.elim)).since hsz2 (fun z hz e => by omega)).trans (hwz3.mono fun _ _ h => h.elim)⟩
  have g0 : ¬ u.kind % 5 = 0 := by simpa using k0
  refine Goes.fork hTT rfl rfl rfl (fun k1 => ?_) (fun k1 => ?_)
  · have g1 : u.kind % 5 = 1 := by simpa using k1
    refine Goes.loadb hTT rfl hyb3 rfl rfl ?_
    by_cases h0 : y.ps.length = 0
    · refine Goes.yes hTT rfl (by rw [h0]; rfl) rfl ?_
      refine Goes.loads hTT rfl hyb3 rfl rfl ?_
      refine Goes.store hTT rfl hob rfl rfl ?_
      intro w4 hob4 hs4 hz4
      refine Goes.adv hTT 400 rfl ?_
      replace hob4 : plyBox w4 ob y := hob4
      have h4 := h3.far hs4 (fun z hz => ⟨Ext.young (t := 37) h.st (by omega) (nF z (by omega)) (hz ▸ ko) (by decide), by omega⟩) (h.young (fun z hz => by omega))
      exact Goes.ret hTT rfl Tryz.func10 (ResOk.cell rfl rfl rfl hob4 rfl (.tmp rfl .nil)) ⟨y, rfl, F, M, h4, by omega, PlyKeep.refl _ _, by omega, fun z hz => .inl hz, (hw03.mono fun _ _ h => h.elim).since hs4 (fun z hz e => by omega)⟩
    · refine Goes.no hTT rfl (by simpa using h0) rfl ?_
      have hu0 := u64_pos u.n
      obtain ⟨j, hj⟩ := Int.eq_ofNat_of_zero_le (show 0 ≤ IntKind.u64.wrap u.n % (y.ps.length : Int) from Int.emod_nonneg _ (by omega))
      have hjl : j < y.ps.length := by have := Int.emod_lt_of_pos (IntKind.u64.wrap u.n) (show 0 < (y.ps.length : Int) by omega); omega
      obtain ⟨pb, poff, hpa, hcell⟩ := h3.pr j y.ps[j] (List.getElem?_eq_getElem hjl)
      refine Goes.drawn (q := 14) None' hTT mixed (by kernel_rfl) rfl ?_
      intro hB
      refine Drawn.loadb hTT hB rfl hyb3 (by first | exact fun h => h | (intro h; omega) | assumption) rfl rfl ?_
      refine Drawn.loadb hTT hB rfl hub3 (by first | exact fun h => h | (intro h; omega) | assumption) rfl rfl ?_
      refine Drawn.arith hTT hB rfl rfl rfl ?_
      refine Drawn.loadb hTT hB rfl hyb3 (by first | exact fun h => h | (intro h; omega) | assumption) rfl rfl ?_
      refine Drawn.arith hTT hB rfl (u64_in (by omega)) rfl ?_
      refine Drawn.div hTT hB rfl (by omega) (rem_ hu0) rfl ?_
      rw [hj]
      refine Drawn.arith hTT hB rfl (w64 (by omega)) rfl ?_
      rw [hpa]
      refine Drawn.index hTT hB rfl (j := (j * 4)) (by omega) (by omega) (by first | rfl | omega | (simp; done) | (simp; omega)) rfl ?_
      refine Drawn.loadC hTT hB (plcL y.ps[j]) rfl (by first | rfl | (simp; done) | (simp [*]; done) | (simp; omega)) (hcell) (by first | exact fun h => h | (intro h; omega) | assumption) rfl ?_
      refine Drawn.turn1 hB rfl ?_
      intro wa hwa
      refine Turn.alloc hTT hB rfl (fun _ => rfl) ?_
      intro lb wb elb hlb hwb hzb
      refine Drawn.nil hB ?_
      intro wc hwc
      refine Goes.adv hTT 400 rfl ?_
      obtain ⟨q, hq⟩ : ∃ q, q = y.ps[j] := ⟨_, rfl⟩
      have hqm : q ∈ y.ps := hq ▸ List.getElem_mem hjl
      have hwac := hwb.trans hwc
      have hw3c := hwa.trans hwac
      have hw0c := hw03.trans hw3c
      have hSc := hw0c.size
      have hS3c := hw3c.size
      have hSb := hwc.size
      refine Goes.store hTT rfl (hwc.heap' hlb) rfl rfl ?_
      intro wd hlbd hsd hzd
      refine Goes.adv hTT 400 rfl ?_
      replace hlbd : wd.heap[lb]? = some (.cells (plcL q).toArray 47 (0, 0)) := by rw [hq]; exact hlbd
      have hwx : Chg None' w3 wd := hw3c.since hsd (fun z hz e => by have := hwa.size; omega)
      have hlx : w3.heap.size ≤ lb := by have := hwa.size; omega
      have hwz := hw03.trans hwx
      have hx := h.grow hwz
      have hybx := hwx.heap' hyb3
      have hubx := hwx.heap' hub3
      have hobx := hwx.heap' hob
      have hqx := (hx.pq q hqm).1
      refine Goes.loadb hTT rfl hybx rfl rfl ?_
      refine Goes.loads hTT rfl hlbd rfl rfl ?_
      refine Goes.call rfl (room_Drop hx.st q hqx) ?_
      rintro _ w4 ⟨rfl, hT⟩
      refine Goes.adv hTT 400 rfl ?_
      obtain ⟨F4, hR4, hF4, hc4⟩ := hT
      have hSx := hwx.size
      have hyb4 := hc4.heap hybx (nF _ (by omega))
      have hub4 := hc4.heap hubx (nF _ (by omega))
      have hob4 := hc4.heap hobx (nF _ (by omega))
      have hlb4 := hc4.heap hlbd (nF _ (by omega))
      have h4 := hx.ahead hR4 hF4 hc4
      have hS34 := hc4.size
      refine Goes.loads hTT rfl hyb4 rfl rfl ?_
      refine Goes.loads hTT rfl hlb4 rfl rfl ?_
      refine Goes.call rfl (ref20_Drop y.r M q w4 h4.rr hmok hok ht' (h4.pq q hqm).1) ?_
      rintro _ w5 ⟨r', rfl, hR, hK, hw5⟩
      refine Goes.adv hTT 400 rfl ?_
      have h5 := h4.follow hR hK hw5
      have hw03 := hwz
      refine Goes.alloc hTT rfl ?_
      intro rb w6 e6 hrb6 hw6 hz6
      refine Goes.adv hTT 400 rfl ?_
      refine Goes.store hTT rfl hrb6 rfl rfl ?_
      intro w7 hrb7 hs7 hz7
      refine Goes.adv hTT 400 rfl ?_
      replace hrb7 : rrBox w7 rb r' := hrb7
      have hw57 : Chg None' w5 w7 := hw6.since hs7 (fun z hz e => by omega)
      have h7 := h5.grow hw57
      have hS45 := hw5.size
      have hS57 := hw57.size
      have hyb7 := hw57.heap' (hw5.heap' hyb4)
      have hob7 := hw57.heap' (hw5.heap' hob4)
      have hlob := lt_of_heap hob4
      have hlyb := lt_of_heap hyb4
      refine Goes.loads hTT rfl hrb7 rfl rfl ?_
      refine Goes.store hTT rfl hyb7 rfl rfl ?_
      intro w8 hyb8 hs8 hz8
      refine Goes.adv hTT 400 rfl ?_
      replace hyb8 : plyBox w8 yb { y with r := r' } := hyb8
      refine Goes.loads hTT rfl hyb8 rfl rfl ?_
      refine Goes.store hTT rfl (hs8.heap hob7 (by omega)) rfl rfl ?_
      intro w9 hob9 hs9 hz9
      refine Goes.adv hTT 400 rfl ?_
      replace hob9 : plyBox w9 ob { y with r := r' } := hob9
      have hK' : PlyKeep w y { y with r := r' } := (RKeep.ply hK).back (Nat.le_trans hw03.size hc4.size)
      have hc79 : Chg (fun z => z = yb ∨ z = ob) w7 w9 := (hs8.mono fun _ _ e => .inl e).trans (hs9.mono fun _ _ e => .inr e)
      have hout : PlyOut (fun z => z = yb ∨ z = ob) { y with r := r' } := (RKeep.ply hK).2.2 _ (fun z hz => by rcases hz with e | e <;> omega) (h.young (fun z hz => by rcases hz with e | e <;> omega))
      have kk : ∀ {z : Nat}, z = yb ∨ z = ob → kd w7 z = some (some 37) := fun {z} hz => by
        rcases hz with e | e
        · rw [e]; exact kd_cells hyb7
        · rw [e]; exact kd_cells hob7
      have h9 := h7.far hc79 (fun z hz => ⟨Ext.young h.st (by rcases hz with e | e <;> omega) (fun hf => by
        rcases hF4 z hf with g | g
        · exact nF z (by rcases hz with e | e <;> omega) g
        · rcases hz with e | e <;> omega) (kk hz) (by decide), by rcases hz with e | e <;> omega⟩) hout
      have hc09 : Chg F w w9 := ((hw03.mono fun _ _ h => h.elim).trans hc4).since ((hw5.mono fun _ _ h => h.elim).trans ((hw57.mono fun _ _ h => h.elim).trans hc79)) (fun z hz e => by rcases e with e | e <;> omega)
      exact Goes.ret hTT rfl Tryz.func10 (ResOk.cell rfl rfl rfl hob9 rfl (.tmp rfl .nil)) ⟨{ y with r := r' }, congrArg (fun b => Value.tuple #[.agg (plyL { y with r := r' }).toArray, .bool b]) (beq_self_eq_true _), F4, _, h9, rmDrop_tot hmok (hrc ▸ h.st.ok : M.Ok c) htot, hK', by show y.ps.length ≤ _; omega, fun z hz => (hF4 z hz).imp id (fun g => by omega), hc09⟩
  have g1 : ¬ u.kind % 5 = 1 := by simpa using k1
  refine Goes.fork hTT rfl rfl rfl (fun k2 => ?_) (fun k2 => ?_)
  · have g2 : u.kind % 5 = 2 := by simpa using k2
    refine Goes.loadb hTT rfl hyb3 rfl rfl ?_
    refine Goes.loadb hTT rfl hub3 rfl rfl ?_
    refine Goes.loadb hTT rfl hub3 rfl rfl ?_
    refine Goes.call rfl (room_Take h3.st u.n u.who) ?_
    rintro _ w4 ⟨rfl, hT⟩
    refine Goes.adv hTT 400 rfl ?_
    obtain ⟨F4, hR4, hF4, hc4⟩ := hT
    have hyb4 := hc4.heap hyb3 (nF _ (by omega))
    have hub4 := hc4.heap hub3 (nF _ (by omega))
    have hob4 := hc4.heap hob (nF _ (by omega))
    have h4 := h3.ahead hR4 hF4 hc4
    have hS34 := hc4.size
    refine Goes.loads hTT rfl hyb4 rfl rfl ?_
    refine Goes.loadb hTT rfl hub4 rfl rfl ?_
    refine Goes.loadb hTT rfl hub4 rfl rfl ?_
    refine Goes.call rfl (ref20_Take y.r M u.n u.who w4 h4.rr hmok ht') ?_
    rintro _ w5 ⟨r', rfl, hR, hK, hw5⟩
    refine Goes.adv hTT 400 rfl ?_
    have h5 := h4.follow hR hK hw5
    refine Goes.alloc hTT rfl ?_
    intro rb w6 e6 hrb6 hw6 hz6
    refine Goes.adv hTT 400 rfl ?_
    refine Goes.store hTT rfl hrb6 rfl rfl ?_
    intro w7 hrb7 hs7 hz7
    refine Goes.adv hTT 400 rfl ?_
    replace hrb7 : rrBox w7 rb r' := hrb7
    have hw57 : Chg None' w5 w7 := hw6.since hs7 (fun z hz e => by omega)
    have h7 := h5.grow hw57
    have hS45 := hw5.size
    have hS57 := hw57.size
    have hyb7 := hw57.heap' (hw5.heap' hyb4)
    have hob7 := hw57.heap' (hw5.heap' hob4)
    have hlob := lt_of_heap hob4
    have hlyb := lt_of_heap hyb4
    refine Goes.loads hTT rfl hrb7 rfl rfl ?_
    refine Goes.store hTT rfl hyb7 rfl rfl ?_
    intro w8 hyb8 hs8 hz8
    refine Goes.adv hTT 400 rfl ?_
    replace hyb8 : plyBox w8 yb { y with r := r' } := hyb8
    refine Goes.loads hTT rfl hyb8 rfl rfl ?_
    refine Goes.yes hTT rfl (beq_self_eq_true _) rfl ?_
    refine Goes.yes hTT rfl (beq_self_eq_true _) rfl ?_
    refine Goes.store hTT rfl (hs8.heap hob7 (by omega)) rfl rfl ?_
    intro w9 hob9 hs9 hz9
    refine Goes.adv hTT 400 rfl ?_
    replace hob9 : plyBox w9 ob { y with r := r' } := hob9
    have hK' : PlyKeep w y { y with r := r' } := (RKeep.ply hK).back (Nat.le_trans hw03.size hc4.size)
    have hc79 : Chg (fun z => z = yb ∨ z = ob) w7 w9 := (hs8.mono fun _ _ e => .inl e).trans (hs9.mono fun _ _ e => .inr e)
    have hout : PlyOut (fun z => z = yb ∨ z = ob) { y with r := r' } := (RKeep.ply hK).2.2 _ (fun z hz => by rcases hz with e | e <;> omega) (h.young (fun z hz => by rcases hz with e | e <;> omega))
    have kk : ∀ {z : Nat}, z = yb ∨ z = ob → kd w7 z = some (some 37) := fun {z} hz => by
      rcases hz with e | e
      · rw [e]; exact kd_cells hyb7
      · rw [e]; exact kd_cells hob7
    have h9 := h7.far hc79 (fun z hz => ⟨Ext.young h.st (by rcases hz with e | e <;> omega) (fun hf => by
      rcases hF4 z hf with g | g
      · exact nF z (by rcases hz with e | e <;> omega) g
      · rcases hz with e | e <;> omega) (kk hz) (by decide), by rcases hz with e | e <;> omega⟩) hout
    have hc09 : Chg F w w9 := ((hw03.mono fun _ _ h => h.elim).trans hc4).since ((hw5.mono fun _ _ h => h.elim).trans ((hw57.mono fun _ _ h => h.elim).trans hc79)) (fun z hz e => by rcases e with e | e <;> omega)
    exact Goes.ret hTT rfl Tryz.func10 (ResOk.cell rfl rfl rfl hob9 rfl (.tmp rfl .nil)) ⟨{ y with r := r' }, congrArg (fun b => Value.tuple #[.agg (plyL { y with r := r' }).toArray, .bool b]) (beq_self_eq_true _), F4, _, h9, rmTake_tot hmok htot, hK', by show y.ps.length ≤ _; omega, fun z hz => (hF4 z hz).imp id (fun g => by omega), hc09⟩
  have g2 : ¬ u.kind % 5 = 2 := by simpa using k2
  refine Goes.fork hTT rfl rfl rfl (fun k3 => ?_) (fun k3 => ?_)
  · have g3 : u.kind % 5 = 3 := by simpa using k3
    refine Goes.loadb hTT rfl hyb3 rfl rfl ?_
    refine Goes.loadb hTT rfl hub3 rfl rfl ?_
    refine Goes.loadb hTT rfl hub3 rfl rfl ?_
    refine Goes.loadb hTT rfl hub3 rfl rfl ?_
    refine Goes.call rfl (room_Give h3.st u.n u.page u.at') ?_
    rintro _ w4 ⟨rfl, hT⟩
    refine Goes.adv hTT 400 rfl ?_
    obtain ⟨F4, hR4, hF4, hc4⟩ := hT
    have hyb4 := hc4.heap hyb3 (nF _ (by omega))
    have hub4 := hc4.heap hub3 (nF _ (by omega))
    have hob4 := hc4.heap hob (nF _ (by omega))
    have h4 := h3.ahead hR4 hF4 hc4
    have hS34 := hc4.size
    refine Goes.loads hTT rfl hyb4 rfl rfl ?_
    refine Goes.loadb hTT rfl hub4 rfl rfl ?_
    refine Goes.loadb hTT rfl hub4 rfl rfl ?_
    refine Goes.loadb hTT rfl hub4 rfl rfl ?_
    refine Goes.call rfl (ref20_Give y.r M u.n u.page u.at' w4 h4.rr hmok ht') ?_
    rintro _ w5 ⟨r', rfl, hR, hK, hw5⟩
    refine Goes.adv hTT 400 rfl ?_
    have h5 := h4.follow hR hK hw5
    refine Goes.alloc hTT rfl ?_
    intro rb w6 e6 hrb6 hw6 hz6
    refine Goes.adv hTT 400 rfl ?_
    refine Goes.store hTT rfl hrb6 rfl rfl ?_
    intro w7 hrb7 hs7 hz7
    refine Goes.adv hTT 400 rfl ?_
    replace hrb7 : rrBox w7 rb r' := hrb7
    have hw57 : Chg None' w5 w7 := hw6.since hs7 (fun z hz e => by omega)
    have h7 := h5.grow hw57
    have hS45 := hw5.size
    have hS57 := hw57.size
    have hyb7 := hw57.heap' (hw5.heap' hyb4)
    have hob7 := hw57.heap' (hw5.heap' hob4)
    have hlob := lt_of_heap hob4
    have hlyb := lt_of_heap hyb4
    refine Goes.loads hTT rfl hrb7 rfl rfl ?_
    refine Goes.store hTT rfl hyb7 rfl rfl ?_
    intro w8 hyb8 hs8 hz8
    refine Goes.adv hTT 400 rfl ?_
    replace hyb8 : plyBox w8 yb { y with r := r' } := hyb8
    refine Goes.loads hTT rfl hyb8 rfl rfl ?_
    refine Goes.store hTT rfl (hs8.heap hob7 (by omega)) rfl rfl ?_
    intro w9 hob9 hs9 hz9
    refine Goes.adv hTT 400 rfl ?_
    replace hob9 : plyBox w9 ob { y with r := r' } := hob9
    have hK' : PlyKeep w y { y with r := r' } := (RKeep.ply hK).back (Nat.le_trans hw03.size hc4.size)
    have hc79 : Chg (fun z => z = yb ∨ z = ob) w7 w9 := (hs8.mono fun _ _ e => .inl e).trans (hs9.mono fun _ _ e => .inr e)
    have hout : PlyOut (fun z => z = yb ∨ z = ob) { y with r := r' } := (RKeep.ply hK).2.2 _ (fun z hz => by rcases hz with e | e <;> omega) (h.young (fun z hz => by rcases hz with e | e <;> omega))
    have kk : ∀ {z : Nat}, z = yb ∨ z = ob → kd w7 z = some (some 37) := fun {z} hz => by
      rcases hz with e | e
      · rw [e]; exact kd_cells hyb7
      · rw [e]; exact kd_cells hob7
    have h9 := h7.far hc79 (fun z hz => ⟨Ext.young h.st (by rcases hz with e | e <;> omega) (fun hf => by
      rcases hF4 z hf with g | g
      · exact nF z (by rcases hz with e | e <;> omega) g
      · rcases hz with e | e <;> omega) (kk hz) (by decide), by rcases hz with e | e <;> omega⟩) hout
    have hc09 : Chg F w w9 := ((hw03.mono fun _ _ h => h.elim).trans hc4).since ((hw5.mono fun _ _ h => h.elim).trans ((hw57.mono fun _ _ h => h.elim).trans hc79)) (fun z hz e => by rcases e with e | e <;> omega)
    exact Goes.ret hTT rfl Tryz.func10 (ResOk.cell rfl rfl rfl hob9 rfl (.tmp rfl .nil)) ⟨{ y with r := r' }, congrArg (fun b => Value.tuple #[.agg (plyL { y with r := r' }).toArray, .bool b]) (beq_self_eq_true _), F4, _, h9, rmGive_tot hmok htot, hK', by show y.ps.length ≤ _; omega, fun z hz => (hF4 z hz).imp id (fun g => by omega), hc09⟩
  · refine Goes.loadb hTT rfl hyb3 rfl rfl ?_
    refine Goes.loadb hTT rfl hub3 rfl rfl ?_
    refine Goes.loadb hTT rfl hub3 rfl rfl ?_
    refine Goes.loadb hTT rfl hub3 rfl rfl ?_
    refine Goes.loadb hTT rfl hub3 rfl rfl ?_
    refine Goes.call rfl (room_Own h3.st u.n u.page u.at' u.who) ?_
    rintro _ w4 ⟨rfl, hT⟩
    refine Goes.adv hTT 400 rfl ?_
    obtain ⟨F4, hR4, hF4, hc4⟩ := hT
    have hyb4 := hc4.heap hyb3 (nF _ (by omega))
    have hub4 := hc4.heap hub3 (nF _ (by omega))
    have hob4 := hc4.heap hob (nF _ (by omega))
    have h4 := h3.ahead hR4 hF4 hc4
    have hS34 := hc4.size
    refine Goes.loads hTT rfl hyb4 rfl rfl ?_
    refine Goes.loadb hTT rfl hub4 rfl rfl ?_
    refine Goes.loadb hTT rfl hub4 rfl rfl ?_
    refine Goes.loadb hTT rfl hub4 rfl rfl ?_
    refine Goes.loadb hTT rfl hub4 rfl rfl ?_
    refine Goes.call rfl (ref20_Own y.r M u.n u.page u.at' u.who w4 h4.rr hmok ht') ?_
    rintro _ w5 ⟨r', rfl, hR, hK, hw5⟩
    refine Goes.adv hTT 400 rfl ?_
    have h5 := h4.follow hR hK hw5
    refine Goes.alloc hTT rfl ?_
    intro rb w6 e6 hrb6 hw6 hz6
    refine Goes.adv hTT 400 rfl ?_
    refine Goes.store hTT rfl hrb6 rfl rfl ?_
    intro w7 hrb7 hs7 hz7
    refine Goes.adv hTT 400 rfl ?_
    replace hrb7 : rrBox w7 rb r' := hrb7
    have hw57 : Chg None' w5 w7 := hw6.since hs7 (fun z hz e => by omega)
    have h7 := h5.grow hw57
    have hS45 := hw5.size
    have hS57 := hw57.size
    have hyb7 := hw57.heap' (hw5.heap' hyb4)
    have hob7 := hw57.heap' (hw5.heap' hob4)
    have hlob := lt_of_heap hob4
    have hlyb := lt_of_heap hyb4
    refine Goes.loads hTT rfl hrb7 rfl rfl ?_
    refine Goes.store hTT rfl hyb7 rfl rfl ?_
    intro w8 hyb8 hs8 hz8
    refine Goes.adv hTT 400 rfl ?_
    replace hyb8 : plyBox w8 yb { y with r := r' } := hyb8
    refine Goes.loads hTT rfl hyb8 rfl rfl ?_
    refine Goes.store hTT rfl (hs8.heap hob7 (by omega)) rfl rfl ?_
    intro w9 hob9 hs9 hz9
    refine Goes.adv hTT 400 rfl ?_
    replace hob9 : plyBox w9 ob { y with r := r' } := hob9
    have hK' : PlyKeep w y { y with r := r' } := (RKeep.ply hK).back (Nat.le_trans hw03.size hc4.size)
    have hc79 : Chg (fun z => z = yb ∨ z = ob) w7 w9 := (hs8.mono fun _ _ e => .inl e).trans (hs9.mono fun _ _ e => .inr e)
    have hout : PlyOut (fun z => z = yb ∨ z = ob) { y with r := r' } := (RKeep.ply hK).2.2 _ (fun z hz => by rcases hz with e | e <;> omega) (h.young (fun z hz => by rcases hz with e | e <;> omega))
    have kk : ∀ {z : Nat}, z = yb ∨ z = ob → kd w7 z = some (some 37) := fun {z} hz => by
      rcases hz with e | e
      · rw [e]; exact kd_cells hyb7
      · rw [e]; exact kd_cells hob7
    have h9 := h7.far hc79 (fun z hz => ⟨Ext.young h.st (by rcases hz with e | e <;> omega) (fun hf => by
      rcases hF4 z hf with g | g
      · exact nF z (by rcases hz with e | e <;> omega) g
      · rcases hz with e | e <;> omega) (kk hz) (by decide), by rcases hz with e | e <;> omega⟩) hout
    have hc09 : Chg F w w9 := ((hw03.mono fun _ _ h => h.elim).trans hc4).since ((hw5.mono fun _ _ h => h.elim).trans ((hw57.mono fun _ _ h => h.elim).trans hc79)) (fun z hz e => by rcases e with e | e <;> omega)
    exact Goes.ret hTT rfl Tryz.func10 (ResOk.cell rfl rfl rfl hob9 rfl (.tmp rfl .nil)) ⟨{ y with r := r' }, congrArg (fun b => Value.tuple #[.agg (plyL { y with r := r' }).toArray, .bool b]) (beq_self_eq_true _), F4, _, h9, by rw [rmOwn_tot]; omega, hK', by show y.ps.length ≤ _; omega, fun z hz => (hF4 z hz).imp id (fun g => by omega), hc09⟩
end Go.Proofs.YtkiionjcapnepaaGreatDoor
/-
  == of two plans.
-/
namespace Go.Proofs.YtkiionjcapnepaaGreatDoor
open Go.RowKit

theorem eq_plan (a b c d a' b' c' d' : Int) (w : World) : (Op.equalIn 10000 102 (.agg #[.int .i64 a, .int .i64 b, .int .i64 c, .int .i64 d]) (.agg #[.int .i64 a', .int .i64 b', .int .i64 c', .int .i64 d'])).run Tryz.prog w = .ok (a == a' && (b == b' && (c == c' && d == d'))) w := by
  have u3 := Tryz.underlying3
  have a3 := Tryz.isAgg3
  have z3 := Tryz.sizeOf3
  have hS : Tryz.prog.underlying 102 = some (.struct (Tryz.prog.fieldsOf 102)) := by kernel_rfl
  have hp : Tryz.prog.stoodInHeld 102 = false := by kernel_rfl
  rw [show (10000 : Nat) = 9999 + 1 from rfl, run_equalIn_agg w 9999 102 _ _ hS hp]
  simp only [Program.fieldsOf, Tryz.underlying102]
  go_simp
  by_cases h1 : a = a' <;> by_cases h2 : b = b' <;> by_cases h3 : c = c' <;> by_cases h4 : d = d' <;> simp [h1, h2, h3, h4]
end Go.Proofs.YtkiionjcapnepaaGreatDoor
/-
  Layer 20: a room and the document's begin; what is told of both.
-/
namespace Go.Proofs.YtkiionjcapnepaaGreatDoor
open Go.RowKit
set_option maxRecDepth 100000 in
theorem law20_begin (c : Conf) (p : ConfAt) (w : World) (ht : TabAt w) (hc : ConfOk w c p) (hm : mayB c = true) (hp : c.pages ≤ 512) : Does Tryz.prog 9 #[.agg (confL c p).toArray] w
    (fun v w' => ∃ y F, v = .agg (plyL y).toArray ∧ PlyOk c w F w' y (newRm c 0) (newRm c 0) ∧ y.ps = [] ∧ (∀ S : Nat → Prop, (∀ z, S z → z < w.heap.size) → PlyOut S y)) := by
  refine Does.enter Tryz.func9 rfl Tryz.ntmps9 rfl rfl ?_
  refine Goes.adv hTT 400 rfl ?_
  refine Goes.alloc hTT rfl ?_
  intro cb w1 e1 hcb hw1 hz1
  refine Goes.adv hTT 400 rfl ?_
  refine Goes.alloc hTT rfl ?_
  intro ob w2 e2 hob hw2 hz2
  refine Goes.adv hTT 400 rfl ?_
  replace hcb : w1.heap[cb]? = some (.cells (confL c p).toArray 24 (0, 0)) := hcb
  have hw02 := hw1.trans hw2
  have hcb2 := hw2.heap' hcb
  refine Goes.call rfl (meter_New w2) ?_
  rintro _ w3 ⟨rfl, hm3, hw3, hz3⟩
  refine Goes.adv hTT 400 rfl ?_
  have hw03 := hw02.trans hw3
  have hS1 := hw1.size
  have hS3 := hw3.size
  have hcb3 := hw3.heap' hcb2
  refine Goes.loads hTT rfl hcb3 rfl rfl ?_
  have hnew : ∀ {a : Option Addr} {l : List Int}, Rd .i64 w a l → Far (fun z => z = w2.heap.size) w3 a l := fun hr => ⟨hr.chg hw03, fun hl b off s e hz => by have := hr.block hl e; omega⟩
  refine Goes.call rfl (room_New c p (some w2.heap.size) 0 0 None' w3 (hc.chg hw03) (ht.grow hw03) (fun _ h => h.elim) (fun b hb => by cases hb; exact ⟨hm3, hnew hc.classes, hnew hc.keep⟩) (by decide)) ?_
  rintro _ w4 ⟨hw4, hR⟩
  refine Goes.adv hTT 400 rfl ?_
  rw [if_pos hm] at hR
  obtain ⟨F, R, hRc, hRp, hRm, rfl, hR4, hF4, _, _⟩ := hR
  have hw04 := hw03.trans hw4
  have hcb4 := hw4.heap' hcb3
  refine Goes.loads hTT rfl hcb4 rfl rfl ?_
  refine Goes.call rfl (ref20_New c p w4 (hc.chg hw04) hm hp) ?_
  rintro _ w5 ⟨r, rfl, hrc, hrp, hr5, hro, hw5⟩
  refine Goes.adv hTT 400 rfl ?_
  have hS4 := hw4.size
  have hS5 := hw5.size
  refine Goes.alloc hTT rfl ?_
  intro rb w6 e6 hrb hw6 hz6
  refine Goes.adv hTT 400 rfl ?_
  refine Goes.store hTT rfl hrb rfl rfl ?_
  intro w7 hrb7 hs7 hz7
  refine Goes.adv hTT 400 rfl ?_
  replace hrb7 : rrBox w7 rb r := hrb7
  have hw57 : Chg None' w5 w7 := hw6.since hs7 (fun z hz e => by omega)
  refine Goes.loads hTT rfl hrb7 rfl rfl ?_
  refine Goes.build hTT rfl rfl ?_
  have hob7 := hw57.heap' (hw5.heap' (hw4.heap' (hw3.heap' hob)))
  have hlob := lt_of_heap hob
  obtain ⟨y, hy⟩ : ∃ y : Ply, y = ⟨R, w2.heap.size, r, [], none, 0⟩ := ⟨_, rfl⟩
  refine Goes.store hTT rfl hob7 rfl rfl ?_
  intro w8 hob8 hs8 hz8
  refine Goes.adv hTT 400 rfl ?_
  replace hob8 : plyBox w8 ob y := by rw [hy]; exact hob8
  have hFlow : ∀ z, F z → w2.heap.size ≤ z := fun z hz => (hF4 z hz).elim (fun h => by omega) (fun h => by cases h; omega)
  have hout : ∀ S : Nat → Prop, (∀ z, S z → z < w4.heap.size) → PlyOut S y := fun S hS => by
    rw [hy]
    exact ⟨hro S hS, (by intro b off s e; cases e), (by intro q hq; cases hq)⟩
  have hw47 := hw5.trans hw57
  have hR7 : PlyOk c w F w7 y (newRm c 0) (newRm c 0) := by
    have ho := hout F hR4.low
    rw [hy] at ho ⊢
    exact ⟨hR4.grow hw47, hRc, hrc, by rw [hRp]; exact hrp, hRm, hr5.grow hw57, ho, (by intro i x hx; simp at hx), (by intro b off s e; cases e), Nat.le_refl _, (by intro q hq; cases hq), fun z hz => by have := hFlow z hz; have := hw02.size; omega, hw04.trans hw47⟩
  have hyR : y.R = R := by rw [hy]
  have hkd := kd_cells hob7
  have hd : ∀ {t' : Nat}, 37 ≠ t' → some (some 37) ≠ some (some t') := fun h e => h (Option.some.inj (Option.some.inj e))
  have hmf := may_facts hm
  have hcon : ∀ {a : Option Addr} {l : List Int}, Rd .i64 w a l → 0 < l.length → ∀ off s, a ≠ some ⟨ob, off, s⟩ := fun hr hl off s e => by have := hr.block hl e; omega
  have hn := hmf.n
  have hke := hmf.keep
  have hext : Ext F w7 y.R ob := by
    rw [hyR]
    refine ⟨fun hf => by have := hFlow ob hf; omega, kd_ne (kd_cells (hR4.grow hw47).obj) hkd (by decide), fun e => ?_, tab_ne (ht.grow (hw04.trans hw47)) (fun v e => by rw [cell_of hob7] at e; simp [cellsL] at e), ?_, ?_, by rw [hkd]; exact hd (by decide), by rw [hkd]; exact hd (by decide), fun e => absurd (hkd.symm.trans e) (hd (by decide))⟩
    · have hc0 := (hR4.grow hw47).sl 0 (by have := hR4.ok.n; rw [hRc] at this; omega)
      rw [e, cell_of hob7] at hc0
      simp [cellsL] at hc0
    · rw [hRp]; exact hcon hc.classes (by omega)
    · rw [hRp]; exact hcon hc.keep (by omega)
  have h8 := hR7.far hs8 (fun z hz => ⟨by rw [hz]; exact hext, by omega⟩) (hout _ (fun z hz => by omega))
  exact Goes.ret hTT rfl Tryz.func9 (ResOk.cell rfl rfl rfl hob8 rfl .nil) ⟨y, F, rfl, h8, by rw [hy], fun S hS => hout S (fun z hz => by have := hS z hz; have := hw04.size; omega)⟩
set_option maxRecDepth 100000 in
theorem law20_same (c : Conf) (w0 : World) (F : Nat → Prop) (y : Ply) (M : RmM) (w : World) (h : PlyOk c w0 F w y M M) : Does Tryz.prog 21 #[.agg (plyL y).toArray] w (Grow (.bool true) w) := by
  have hmok := h.st.mok
  have hfew := h.rr.few
  refine Does.enter Tryz.func21 rfl Tryz.ntmps21 rfl rfl ?_
  refine Goes.adv hTT 400 rfl ?_
  refine Goes.alloc hTT rfl ?_
  intro yb w1 e1 hyb hw1 hz1
  refine Goes.adv hTT 400 rfl ?_
  replace hyb : plyBox w1 yb y := hyb
  refine Goes.loop (α := Nat) (fun i => [(1, false, .pointer (some ⟨yb, 0, none⟩)), (3, false, .int .i64 ((i : Int) - 1))])
    (fun i w' => i ≤ y.r.ss.length + 2 ∧ Chg None' w1 w') (fun i => y.r.ss.length + 2 - i) 0 ⟨rfl, rfl, trivial⟩ ⟨Nat.zero_le _, Chg.refl _ _⟩ ?_
  rintro i w2 ⟨hi, hw2⟩ ih
  have hyb2 := hw2.heap' hyb
  have hw02 := hw1.trans hw2
  have h2 := h.grow hw02
  refine Goes.adv hTT 400 rfl ?_
  refine Goes.loadb hTT rfl hyb2 rfl rfl ?_
  refine Goes.fork hTT rfl rfl rfl (fun hc => ?_) (fun hc => ?_)
  · have hlt : i ≤ y.r.ss.length + 1 := by have := of_decide_eq_true hc; omega
    obtain ⟨a, b, d, e, hpl⟩ : ∃ a b d e, rmPlanL M ((i : Int) - 1) = planL a b d e := by
      unfold rmPlanL
      split
      · exact ⟨_, _, _, _, rfl⟩
      · unfold shPlanL
        split
        · exact ⟨_, _, _, _, rfl⟩
        · exact ⟨_, _, _, _, rfl⟩
    have dP := room_Plan h2.st ((i : Int) - 1)
    rw [hpl] at dP
    refine Goes.loadb hTT rfl hyb2 rfl rfl ?_
    refine Goes.call rfl (dP) ?_
    rintro _ w3 ⟨rfl, hw3⟩
    refine Goes.adv hTT 400 rfl ?_
    refine Goes.alloc hTT rfl ?_
    intro tb w4 e4 htb hw4 hz4
    refine Goes.adv hTT 400 rfl ?_
    refine Goes.store hTT rfl htb rfl rfl ?_
    intro w5 htb5 hs5 hz5
    refine Goes.adv hTT 400 rfl ?_
    replace htb5 : w5.heap[tb]? = some (.cells (planL a b d e).toArray 102 (0, 0)) := htb5
    have hS3 := hw3.size
    have hc25 : Chg None' w2 w5 := (hw3.trans hw4).since hs5 (fun z hz e => by omega)
    have hyb5 := hc25.heap' hyb2
    have hR := ref20_Plan y.r M ((i : Int) - 1) w5 (h2.grow hc25).rr hmok
    rw [hpl] at hR
    refine Goes.loads hTT rfl hyb5 rfl rfl ?_
    refine Goes.call rfl (hR) ?_
    rintro _ w6 ⟨rfl, hw6⟩
    refine Goes.adv hTT 400 rfl ?_
    refine Goes.alloc hTT rfl ?_
    intro ub w7 e7 hub hw7 hz7
    refine Goes.adv hTT 400 rfl ?_
    refine Goes.store hTT rfl hub rfl rfl ?_
    intro w8 hub8 hs8 hz8
    refine Goes.adv hTT 400 rfl ?_
    replace hub8 : w8.heap[ub]? = some (.cells (planL a b d e).toArray 102 (0, 0)) := hub8
    have hS6 := hw6.size
    have hc58 : Chg None' w5 w8 := (hw6.trans hw7).since hs8 (fun z hz e => by omega)
    have htb8 := hc58.heap' htb5
    have hyb8 := hc58.heap' hyb5
    have h8 := (h2.grow hc25).grow hc58
    refine Goes.drawn (q := 27) None' hTT mixed (by kernel_rfl) rfl ?_
    intro hB
    refine Drawn.loads hTT hB rfl htb8 (by first | exact fun h => h | (intro h; omega) | assumption) rfl rfl ?_
    refine Drawn.loads hTT hB rfl hub8 (by first | exact fun h => h | (intro h; omega) | assumption) rfl rfl ?_
    refine Drawn.aggne hTT hB rfl (by kernel_rfl) (fun _ => eq_plan a b d e a b d e _) rfl ?_
    refine Drawn.no hTT hB rfl (by simp) rfl ?_
    refine Drawn.no hTT hB rfl (by simp) rfl ?_
    refine Drawn.loadb hTT hB rfl hyb8 (by first | exact fun h => h | (intro h; omega) | assumption) rfl rfl ?_
    refine Drawn.call hTT hB rfl (fun w' hw' => (room_Open (h8.grow hw').st _).grow) rfl ?_
    refine Drawn.loads hTT hB rfl hyb8 (by first | exact fun h => h | (intro h; omega) | assumption) rfl rfl ?_
    refine Drawn.call hTT hB rfl (fun w' hw' => ref20_Open y.r M _ w' (h8.grow hw').rr) rfl ?_
    refine Drawn.no hTT hB rfl (bne_self_eq_false _) rfl ?_
    refine Drawn.loadb hTT hB rfl hyb8 (by first | exact fun h => h | (intro h; omega) | assumption) rfl rfl ?_
    refine Drawn.call hTT hB rfl (fun w' hw' => (room_Used (h8.grow hw').st _).grow) rfl ?_
    refine Drawn.loads hTT hB rfl hyb8 (by first | exact fun h => h | (intro h; omega) | assumption) rfl rfl ?_
    refine Drawn.nil hB ?_
    intro w9 hw9
    refine Goes.adv hTT 400 rfl ?_
    refine Goes.call rfl (ref20_Used y.r M _ w9 (h8.grow hw9).rr hmok) ?_
    rintro _ w9' ⟨rfl, hw9'⟩
    refine Goes.adv hTT 400 rfl ?_
    refine Goes.no hTT rfl (bne_self_eq_false _) rfl ?_
    have hc29 := ((hc25.trans hc58).trans hw9).trans hw9'
    refine Goes.loop (α := Nat) (fun j => [(1, false, .pointer (some ⟨yb, 0, none⟩)), (3, false, .int .i64 ((i : Int) - 1)), (8, false, .int .i64 j)])
      (fun j w' => j ≤ 6 ∧ Chg None' w1 w') (fun j => 6 - j) 0 ⟨rfl, rfl, rfl, trivial⟩ ⟨Nat.zero_le _, hw2.trans hc29⟩ ?_
    rintro j w10 ⟨hj, hw10⟩ ih2
    have hyb10 := hw10.heap' hyb
    have h10 := h.grow (hw1.trans hw10)
    refine Goes.adv hTT 400 rfl ?_
    refine Goes.fork hTT rfl rfl rfl (fun hc2 => ?_) (fun hc2 => ?_)
    · have hlt2 : j < 6 := by have := of_decide_eq_true hc2; omega
      refine Goes.drawn (q := 13) None' hTT mixed (by kernel_rfl) rfl ?_
      intro hB
      refine Drawn.loadb hTT hB rfl hyb10 (by first | exact fun h => h | (intro h; omega) | assumption) rfl rfl ?_
      refine Drawn.div hTT hB rfl (by omega) (rem_ (by omega)) rfl ?_
      refine Drawn.call hTT hB rfl (fun w' hw' => (room_Owner (h10.grow hw').st _ _ _).grow) rfl ?_
      refine Drawn.loads hTT hB rfl hyb10 (by first | exact fun h => h | (intro h; omega) | assumption) rfl rfl ?_
      refine Drawn.div hTT hB rfl (by omega) (rem_ (by omega)) rfl ?_
      refine Drawn.nil hB ?_
      intro w11' hw11'
      refine Goes.adv hTT 400 rfl ?_
      refine Goes.call rfl (ref20_Owner y.r M _ _ _ w11' (h10.grow hw11').rr hmok) ?_
      rintro _ w11 ⟨rfl, hw11⟩
      refine Goes.adv hTT 400 rfl ?_
      refine Goes.no hTT rfl (bne_self_eq_false _) rfl ?_
      refine Goes.arith hTT rfl (w64 (by omega)) rfl ?_
      exact ih2 (j + 1) _ _ ⟨hlt2, (hw10.trans hw11').trans hw11⟩ (by omega) ⟨rfl, rfl, rfl, trivial⟩
    · refine Goes.arith hTT rfl (w64 (by omega)) rfl ?_
      exact ih (i + 1) _ _ ⟨by omega, hw10⟩ (by omega) ⟨rfl, by show some (Value.int .i64 (((i : Int) - 1) + 1)) = some (.int .i64 (((i + 1 : Nat) : Int) - 1)); exact int_s (by omega), trivial⟩
  · obtain ⟨hmF, hmt⟩ := h2.st.met _ h2.mo
    have hmt' : ∀ {w' : World}, Chg None' w2 w' → MeterAt w' y.mb M.tot y.R.lap := fun g => hmt.chg g
    refine Goes.drawn (q := 14) None' hTT mixed (by kernel_rfl) rfl ?_
    intro hB
    refine Drawn.loadb hTT hB rfl hyb2 (by first | exact fun h => h | (intro h; omega) | assumption) rfl rfl ?_
    refine Drawn.call hTT hB rfl (fun w' hw' => (room_Held (h2.grow hw').st).grow) rfl ?_
    refine Drawn.loads hTT hB rfl hyb2 (by first | exact fun h => h | (intro h; omega) | assumption) rfl rfl ?_
    refine Drawn.call hTT hB rfl (fun w' hw' => ref20_Held y.r M w' (h2.grow hw').rr hmok.good) rfl ?_
    refine Drawn.yes hTT hB rfl (beq_self_eq_true _) rfl ?_
    refine Drawn.loadb hTT hB rfl hyb2 (by first | exact fun h => h | (intro h; omega) | assumption) rfl rfl ?_
    refine Drawn.call hTT hB rfl (fun w' hw' => (meter_Total y.mb M.tot y.R.lap w' (hmt' hw')).grow) rfl ?_
    refine Drawn.loadb hTT hB rfl hyb2 (by first | exact fun h => h | (intro h; omega) | assumption) rfl rfl ?_
    refine Drawn.nil hB ?_
    intro w3 hw3
    refine Goes.adv hTT 400 rfl ?_
    have hst := h2.rr.st
    exact Goes.ret1 hTT rfl Tryz.func21 rfl rfl ⟨bool_v (by rw [hst]; exact beq_self_eq_true _), hw02.trans hw3⟩
end Go.Proofs.YtkiionjcapnepaaGreatDoor
/-
  Layer 3: layouts that are few.
-/
namespace Go.Proofs.YtkiionjcapnepaaGreatDoor
open Go.RowKit
def fewM (c : Conf) : Bool := mayB c && decide (c.size ≤ 256) && decide (c.pages ≤ 24) && decide (c.slots ≤ 20)
theorem ref03_Few (c : Conf) (p : ConfAt) (w : World) (hc : ConfOk w c p) : Does Tryz.prog 8 #[.agg (confL c p).toArray] w (Grow (.bool (fewM c)) w) := by
  refine Does.enter Tryz.func8 rfl Tryz.ntmps8 rfl rfl ?_
  refine Goes.adv hTT 400 rfl ?_
  refine Goes.alloc hTT rfl ?_
  intro cb w1 e1 hcb hw1 hz1
  refine Goes.adv hTT 400 rfl ?_
  replace hcb : w1.heap[cb]? = some (.cells (confL c p).toArray 24 (0, 0)) := hcb
  refine Goes.loads hTT rfl hcb rfl rfl ?_
  refine Goes.call rfl (ref03_May c p w1 (hc.chg hw1)) ?_
  rintro _ w2 ⟨rfl, hw2⟩
  refine Goes.adv hTT 400 rfl ?_
  have hw := hw1.trans hw2
  have hcb2 := hw2.heap' hcb
  unfold fewM
  cases hm : mayB c with
  | false =>
    rw [show mayM c = 1 from by unfold mayM; rw [hm]; rfl]
    refine Goes.no hTT rfl rfl rfl ?_
    exact Goes.ret1 hTT rfl Tryz.func8 rfl rfl ⟨rfl, hw⟩
  | true =>
    rw [show mayM c = 0 from by unfold mayM; rw [hm]; rfl]
    refine Goes.yes hTT rfl rfl rfl ?_
    refine Goes.loadb hTT rfl hcb2 rfl rfl ?_
    refine Goes.fork hTT rfl rfl rfl (fun h1 => ?_) (fun h1 => ?_)
    · refine Goes.loadb hTT rfl hcb2 rfl rfl ?_
      rw [h1]
      refine Goes.fork hTT rfl rfl rfl (fun h2 => ?_) (fun h2 => ?_)
      · refine Goes.loadb hTT rfl hcb2 rfl rfl ?_
        rw [h2]
        exact Goes.ret1 hTT rfl Tryz.func8 rfl rfl ⟨rfl, hw⟩
      · rw [h2]
        exact Goes.ret1 hTT rfl Tryz.func8 rfl rfl ⟨rfl, hw⟩
    · rw [h1]
      exact Goes.ret1 hTT rfl Tryz.func8 rfl rfl ⟨rfl, hw⟩
theorem few_may {c : Conf} (h : fewM c = true) : mayB c = true ∧ c.size ≤ 256 ∧ c.pages ≤ 24 := by
  unfold fewM at h
  simp only [Bool.and_eq_true, decide_eq_true_eq] at h
  exact ⟨h.1.1.1, h.1.1.2, h.1.2⟩
end Go.Proofs.YtkiionjcapnepaaGreatDoor
/-
  Layer 13: a block taken and given back, asV plain data.
-/
namespace Go.Proofs.YtkiionjcapnepaaGreatDoor
open Go.RowKit
theorem pgOwn_set {p : List Int} {k : Nat} {v : Int} (h : k < p.length) : pgOwn (p.set k v) k = v := by
  unfold pgOwn
  rw [if_pos (by omega)]
  show (p.set k v).getD k (-1) = v
  rw [getD_set_i, if_pos ⟨rfl, h⟩]
theorem smGet_set_eq {l : PgL} {n : Nat} {p q : List Int} (hn : (l.map (·.1)).Nodup) (hq : (n, q) ∈ l) : smGet (smSet l n p) n = some p :=
  smGet_of (by rw [smSet_fst]; exact hn) (List.mem_map.2 ⟨(n, q), hq, if_pos rfl⟩)
theorem smGet_del {l : PgL} {n : Nat} : smGet (smDel l n) n = none := by
  cases h : smGet (smDel l n) n with
  | none => rfl
  | some p =>
    obtain ⟨m, hm, hp⟩ := smGet_some h
    have := (mem_smDel.1 hp).1
    simp only at this
    omega
/-- A block taken and given back. -/
theorem take_give {x1 : Sm} {n : Nat} {p : List Int} {who : Int} (hok : x1.Ok) (hw : 0 ≤ who) (hp : (n, p) ∈ x1.pg) (hhd : ∃ r, x1.opn = n :: r) :
    shOwner (x1.takeAt n p who) n (pgHole p) = who ∧ shGiveE (x1.takeAt n p who) n (pgHole p) = 0 ∧ shOwner (shGive (x1.takeAt n p who) n (pgHole p)) n (pgHole p) = -1 ∧
      smUsed (shGive (x1.takeAt n p who) n (pgHole p)).pg = smUsed x1.pg ∧
      ((0 < pgUsed p → (shGive (x1.takeAt n p who) n (pgHole p)).pg.length = x1.pg.length ∧ (shGive (x1.takeAt n p who) n (pgHole p)).opn.length = x1.opn.length) ∧
       (pgUsed p = 0 → (shGive (x1.takeAt n p who) n (pgHole p)).pg.length + 1 = x1.pg.length ∧ (shGive (x1.takeAt n p who) n (pgHole p)).opn.length + 1 = x1.opn.length)) := by
  obtain ⟨r, ho⟩ := hhd
  obtain ⟨h1, h2, h3⟩ := hok.each _ hp
  simp only at h1 h2 h3
  have hnf := h3.1 (by rw [ho]; simp)
  obtain ⟨e1, e2⟩ := pgTake_ok (p := p) (who := who) hw (by rw [h2]; exact hnf)
  have hh : ¬ pgHole p < 0 := fun e => by have := pgHole_full.1 e; omega
  obtain ⟨g1, g2⟩ := pg_hole_in hh
  obtain ⟨k, hk⟩ := Int.eq_ofNat_of_zero_le (show 0 ≤ pgHole p by omega)
  have hkt : (pgHole p).toNat = k := by omega
  rw [hkt] at g1 g2
  have hpt : pgTake p who = p.set k who := by unfold pgTake; rw [if_pos e1, hkt]
  have hx1 : (x1.takeAt n p who).Ok := hok.takeAt hw hp (by rw [ho]; simp)
  have hpg : (x1.takeAt n p who).pg = smSet x1.pg n (p.set k who) := by show smSet x1.pg n (pgTake p who) = _; rw [hpt]
  have hget : smGet (x1.takeAt n p who).pg n = some (p.set k who) := by rw [hpg]; exact smGet_set_eq hok.nodup hp
  have hmem : (n, p.set k who) ∈ (x1.takeAt n p who).pg := by rw [hpg]; exact List.mem_map.2 ⟨(n, p), hp, if_pos rfl⟩
  have hpo : pgOwn (p.set k who) (pgHole p) = who := by rw [hk]; exact pgOwn_set g1
  have hgE : pgGiveE (p.set k who) (pgHole p) = 0 := by
    unfold pgGiveE
    rw [if_neg (by rw [List.length_set]; omega), hpo, if_neg (by omega)]
  have hu1 : pgUsed (p.set k who) = pgUsed p + 1 := by rw [← hpt]; exact e2
  have hgu := pgGive_used hgE
  have hgv : shGive (x1.takeAt n p who) n (pgHole p) = (x1.takeAt n p who).giveAt n (p.set k who) (pgHole p) := by unfold shGive; rw [hget]; simp only; rw [if_pos hgE]; rfl
  have hb : (x1.takeAt n p who).blocks = x1.blocks := rfl
  have hopn : (x1.takeAt n p who).opn = if pgUsed (p.set k who) = x1.blocks then r else x1.opn := by
    show (if pgUsed (pgTake p who) = x1.blocks then x1.opn.filter (fun m => m != n) else x1.opn) = _
    rw [hpt]
    split
    · rw [ho]; exact filter_head (ho ▸ hok.onodup)
    · rfl
  have hus := smUsed_set (p := p.set k who) hok.nodup hp
  have hol : x1.opn.length = r.length + 1 := by rw [ho]; simp
  refine ⟨by unfold shOwner; rw [hget]; exact hpo, by unfold shGiveE; rw [hget]; exact hgE, ?_, ?_, ?_, ?_⟩
  · rw [hgv]
    by_cases hz : pgUsed (pgGive (p.set k who) (pgHole p)) = 0
    · have e : ((x1.takeAt n p who).giveAt n (p.set k who) (pgHole p)).pg = smDel (x1.takeAt n p who).pg n := by unfold Sm.giveAt; simp only; rw [if_pos hz]
      unfold shOwner; rw [e, smGet_del]
    · have e : ((x1.takeAt n p who).giveAt n (p.set k who) (pgHole p)).pg = smSet (x1.takeAt n p who).pg n (pgGive (p.set k who) (pgHole p)) := by unfold Sm.giveAt; simp only; rw [if_neg hz]
      unfold shOwner; rw [e, smGet_set_eq hx1.nodup hmem]
      show pgOwn (pgGive (p.set k who) (pgHole p)) (pgHole p) = -1
      unfold pgGive
      rw [if_pos hgE, hkt, hk]
      exact pgOwn_set (by rw [List.length_set]; exact g1)
  · rw [hgv]
    unfold Sm.giveAt
    simp only
    split
    · have := (smUsed_del hx1.nodup hmem).1
      rw [hpg] at this ⊢
      show smUsed (smDel _ _) = _
      omega
    · have := smUsed_set (p := pgGive (p.set k who) (pgHole p)) hx1.nodup hmem
      rw [hpg] at this ⊢
      show smUsed (smSet _ _ _) = _
      omega
  · intro hpos
    rw [hgv]
    unfold Sm.giveAt
    simp only
    rw [if_neg (by omega), hopn]
    refine ⟨by show (smSet _ _ _).length = _; rw [smSet_length, hpg, smSet_length], ?_⟩
    show (if pgUsed (p.set k who) = (x1.takeAt n p who).blocks then n :: _ else _ : List Nat).length = _
    rw [hb]
    split
    · rw [List.length_cons, hol]
    · rfl
  · intro hz
    rw [hgv]
    unfold Sm.giveAt
    simp only
    rw [if_pos (by omega), hopn]
    refine ⟨?_, ?_⟩
    · have := (smUsed_del hx1.nodup hmem).2
      rw [hpg, smSet_length] at this
      rw [hpg]
      exact this
    · show (List.filter _ (if pgUsed (p.set k who) = (x1.takeAt n p who).blocks then n :: _ else _ : List Nat)).length + 1 = _
      rw [hb]
      have hnd : (n :: r).Nodup := ho ▸ hok.onodup
      split
      · rw [filter_head hnd, hol]
      · rw [ho, filter_head hnd]; simp
theorem back_facts {x : Sm} {pl : PlM} {who : Int} (hok : x.Ok) (hpos : x.Pos) (hof : x.Of pl) (hg : pl.Good) (hE : shTakeE x pl who = 0) :
    shOwner (shTake x pl who) (shTakeN x pl who) (shTakeA x pl who) = who ∧ shGiveE (shTake x pl who) (shTakeN x pl who) (shTakeA x pl who) = 0 ∧ shOwner (shGive (shTake x pl who) (shTakeN x pl who) (shTakeA x pl who)) (shTakeN x pl who) (shTakeA x pl who) = -1 ∧
      smUsed (shGive (shTake x pl who) (shTakeN x pl who) (shTakeA x pl who)).pg = smUsed x.pg ∧ (shGive (shTake x pl who) (shTakeN x pl who) (shTakeA x pl who)).pg.length = x.pg.length ∧ (shGive (shTake x pl who) (shTakeN x pl who) (shTakeA x pl who)).opn.length = x.opn.length := by
  rcases shTake_cases x pl who with ⟨h, _⟩ | ⟨_, hw, ⟨n, r, ho, k1, _, k3, k4, k5⟩ | ⟨n, r, ho, hf, k1, _, k3, k4, k5⟩⟩
  · exact absurd hE h
  · obtain ⟨p, hp⟩ := hok.osub n (by rw [ho]; simp)
    rw [smGet_of hok.nodup hp] at k3
    simp only [Option.getD_some] at k3
    rw [k3] at k1 k5
    obtain ⟨a1, a2, a3, a4, a5, _⟩ := take_give hok hw hp ⟨r, ho⟩
    obtain ⟨b1, b2⟩ := a5 (hpos _ hp)
    rw [k1, k4, k5]
    exact ⟨a1, a2, a3, a4, b1, b2⟩
  · have hnew := free_new hok hof hg (n := n) (by rw [hf]; simp)
    have hn4 : n < 1024 := by have := (hg.free n (by rw [hf]; simp)).1; have := hg.len; omega
    have hx1 := hok.fresh hn4 hnew
    have hp : (n, List.replicate x.blocks (-1)) ∈ (x.fresh n).pg := List.mem_append_right _ (by simp)
    rw [smGet_of hx1.nodup hp] at k3
    simp only [Option.getD_some] at k3
    rw [k3] at k1 k5
    obtain ⟨a1, a2, a3, a4, _, a6⟩ := take_give hx1 hw hp ⟨[], by show n :: x.opn = _; rw [ho]⟩
    obtain ⟨b1, b2⟩ := a6 (pgUsed_new _)
    rw [k1, k4, k5]
    refine ⟨a1, a2, a3, ?_, ?_, ?_⟩
    · rw [a4]; show smUsed (x.pg ++ _) = _; rw [smUsed_append, pgUsed_new]; rfl
    · have e : (x.fresh n).pg.length = x.pg.length + 1 := by show (x.pg ++ _).length = _; simp
      omega
    · have e : (x.fresh n).opn.length = x.opn.length + 1 := rfl
      omega
end Go.Proofs.YtkiionjcapnepaaGreatDoor
/-
  Layer 20: a thing that is placed, and let go, asV plain data.
-/
namespace Go.Proofs.YtkiionjcapnepaaGreatDoor
open Go.RowKit
/-- Every page of a class has a block that isn't free. -/
def MPos (M : RmM) : Prop := ∀ (k : Nat) (x : Sm), M.shs[k]? = some x → x.Pos
theorem RmSt.mpos {F : Nat → Prop} {w : World} {R : Rm} {M : RmM} (h : RmSt F w R M) : MPos M := fun k x hx => by
  obtain ⟨G, _, hS, _⟩ := h.shelf hx
  exact hS.pos
theorem idx_lt {α : Type} {p : α → Bool} {l : List α} (_ : -1 ≤ idx p l) : idx p l < l.length := by
  by_cases h : ∃ k, ∃ hk : k < l.length, p l[k] = true ∧ ∀ j (hj : j < l.length), j < k → p l[j] = false
  · obtain ⟨k, hk, h1, h2⟩ := h
    rw [idx_at hk h2 h1]; omega
  · rw [idx_none fun j hj => ?_]
    · omega
    · induction j using Nat.strongRecOn with
      | ind j ih =>
        cases hp : p l[j] with
        | false => rfl
        | true => exact absurd ⟨j, hj, hp, fun i hi hij => ih i hij hi⟩ h
theorem pickM_lt {zs : List Int} {n : Int} (h : pickM zs n ≠ -1) : 0 ≤ pickM zs n ∧ pickM zs n < zs.length := by
  have h0 := pickM_ge zs n
  refine ⟨by omega, ?_⟩
  unfold pickM at *
  split at h
  · exact absurd rfl h
  · rename_i hn
    rw [if_neg hn] at h0
    rw [if_neg hn]
    exact idx_lt h0
/-- What fits, can be placed. -/
theorem fits_place {c : Conf} {M : RmM} {who size : Int} (hok : M.Ok c) (hw : 0 ≤ who) (h : rmFits c M size = 0) : rmPlaceE c M who size = 0 := by
  have hn : (rmNeed c M size : Int) ≤ M.pl.free.length := by
    unfold rmFits at h
    split at h
    · exact absurd h (by decide)
    · split at h
      · exact absurd h (by decide)
      · omega
  unfold rmPlaceE
  rw [if_neg (by omega), if_neg (by omega)]
  split
  · rfl
  · rename_i hp
    obtain ⟨p0, p1⟩ := pickM_lt hp
    obtain ⟨k, hk⟩ := Int.eq_ofNat_of_zero_le p0
    rw [hk] at p1 ⊢
    have hkl : k < M.shs.length := by have := hok.n; omega
    have hg : rmGet M (k : Nat) = some M.shs[k] := rmGet_nat hkl
    unfold rmTakeE
    rw [hg]
    simp only
    unfold shTakeE
    rw [if_neg (by omega), if_neg]
    intro ⟨h1, h2⟩
    unfold rmNeed at hn
    rw [if_neg hp, hk] at hn
    unfold rmOpen at hn
    rw [hg] at hn
    simp only [h1, h2] at hn
    omega
theorem shTake_len (x : Sm) (pl : PlM) (who : Int) : x.pg.length ≤ (shTake x pl who).pg.length ∧ (shTake x pl who).pg.length ≤ x.pg.length + 1 := by
  rcases shTake_cases x pl who with ⟨_, h, _⟩ | ⟨_, _, ⟨n, r, _, h, _⟩ | ⟨n, r, _, _, h, _⟩⟩
  · rw [h]; omega
  · rw [h]; show _ ≤ (smSet _ _ _).length ∧ (smSet _ _ _).length ≤ _; rw [smSet_length]; omega
  · rw [h]; show _ ≤ (smSet (x.pg ++ _) _ _).length ∧ (smSet (x.pg ++ _) _ _).length ≤ _; rw [smSet_length, List.length_append]; simp
theorem take_held {M : RmM} {k who : Int} (hm : MOk M) : heldM M.pl ≤ heldM (rmTake M k who).pl ∧ heldM (rmTake M k who).pl ≤ heldM M.pl + 1 := by
  unfold rmTake
  cases hg : rmGet M k with
  | none => exact ⟨Nat.le_refl _, by simp only; omega⟩
  | some x =>
    obtain ⟨n, rfl, hn, hx⟩ := rmGet_some hg
    simp only
    split
    · obtain ⟨_, _, _, e⟩ := take_eff x M.pl who hm.good (hm.sh n x hx).1.cls
      have := shTake_len x M.pl who
      show _ ≤ heldM (shTakeP x M.pl who) ∧ heldM (shTakeP x M.pl who) ≤ _
      omega
    · omega
theorem big_held {c : Conf} {M : RmM} {size : Int} (hm : MOk M) (hmay : mayB c = true) (h : rmFits c M size = 0) (hp : pickM c.classes size = -1) : heldM (rmBig M (allM size c.size).toNat).pl = heldM M.pl + (allM size c.size).toNat ∧ 2 ≤ (allM size c.size).toNat ∧ (allM size c.size).toNat ≤ M.pl.free.length := by
  have hf := may_facts hmay
  have hn : (rmNeed c M size : Int) ≤ M.pl.free.length ∧ ¬ (size < 1 ∨ c.most < size) := by
    unfold rmFits at h
    split at h
    · exact absurd h (by decide)
    · split at h
      · exact absurd h (by decide)
      · exact ⟨by omega, by assumption⟩
  have e : rmNeed c M size = allM size c.size := by unfold rmNeed; rw [if_pos hp]
  have hge : 2 ≤ allM size c.size := by
    have hs := hf.size
    have hmo := hf.most
    have h0 : 0 ≤ (size - 1) / c.size := Int.ediv_nonneg (by omega) (by omega)
    have h9 : (size - 1) / c.size ≤ size - 1 := Int.ediv_le_self _ (by omega)
    have e4 : manyM size c.size = (size - 1) / c.size + 1 := by unfold manyM; rw [if_neg (by omega)]
    unfold allM
    rw [e4, if_neg (by omega)]
    omega
  have hle : (allM size c.size).toNat ≤ M.pl.free.length := by omega
  obtain ⟨_, _, _, p4, _⟩ := plTk_props (who := ((M.shs.length : Nat) : Int)) (by omega) hm.good _ hle
  exact ⟨p4, by omega, hle⟩
theorem place_held {c : Conf} {M : RmM} {who size : Int} (hm : MOk M) (hmay : mayB c = true) : heldM M.pl ≤ heldM (rmPlace c M who size).pl := by
  unfold rmPlace
  split
  · exact Nat.le_refl _
  · split
    · exact Nat.le_refl _
    · split
      · rename_i h1 hp
        have := (big_held hm hmay (size := size) (Decidable.not_not.1 h1) hp).1
        omega
      · exact (take_held hm).1
/-- What was placed, and let go. -/
structure BackF (c : Conf) (M : RmM) (who size : Int) : Prop where
  e1 : rmDropE (rmPlace c M who size) (rmPlaceQ c M who size) = 0
  e2 : rmDropE (rmDrop (rmPlace c M who size) (rmPlaceQ c M who size)) (rmPlaceQ c M who size) ≠ 0
  opn : ∀ k : Int, rmOpen (rmDrop (rmPlace c M who size) (rmPlaceQ c M who size)) k = rmOpen M k
  used : ∀ k : Int, rmUsed (rmDrop (rmPlace c M who size) (rmPlaceQ c M who size)) k = rmUsed M k
  held : heldM (rmDrop (rmPlace c M who size) (rmPlaceQ c M who size)).pl = heldM M.pl
  own : (heldM (rmPlace c M who size).pl ≤ heldM M.pl + 1 ∧ 0 ≤ (rmPlaceQ c M who size).cls) ∨ ((heldM (rmPlace c M who size).pl : Int) = heldM M.pl + allM size c.size ∧ (rmPlaceQ c M who size).cls = -1 ∧ 2 ≤ allM size c.size ∧ size ≤ c.most)
theorem rmGet_set {M : RmM} {k j : Nat} {x : Sm} {q : PlM} {t : Int} : rmGet { M with shs := M.shs.set k x, pl := q, tot := t } j = if k = j ∧ k < M.shs.length then some x else rmGet M j := by
  unfold rmGet
  rw [if_pos (Int.natCast_nonneg _), if_pos (Int.natCast_nonneg _), Int.toNat_natCast]
  show (M.shs.set k x)[j]? = _
  by_cases e : k = j
  · subst e
    by_cases hk : k < M.shs.length
    · rw [if_pos ⟨rfl, hk⟩, List.getElem?_set_self hk]
    · rw [if_neg (fun h => hk h.2), List.getElem?_eq_none (by rw [List.length_set]; omega), List.getElem?_eq_none (by omega)]
  · rw [if_neg (fun h => e h.1), List.getElem?_set_ne e]
theorem owner_give {x : Sm} {n i : Int} (h : shOwner x n i = -1) : shGiveE x n i ≠ 0 := by
  unfold shOwner at h
  unfold shGiveE
  cases hg : smGet x.pg n with
  | none => simp
  | some p =>
    rw [hg] at h
    simp only at h ⊢
    unfold pgGiveE
    split
    · decide
    · first | decide | (rw [if_pos h]; decide)
theorem rmGet_neg {M : RmM} {k : Int} (h : k < 0) : rmGet M k = none := rmGet_none (.inl h)
theorem back_class {c : Conf} {M : RmM} {who size : Int} (hok : M.Ok c) (hm : MOk M) (hpos : MPos M) (hw : 0 ≤ who) (h : rmFits c M size = 0) (hp : pickM c.classes size ≠ -1) : BackF c M who size := by
  have hE := fits_place hok hw h
  have e1 : rmPlace c M who size = rmTake M (pickM c.classes size) who := by unfold rmPlace; rw [if_neg (by omega), if_neg (by omega), if_neg hp]
  have e2 : rmPlaceQ c M who size = ⟨pickM c.classes size, rmTakeN M (pickM c.classes size) who, rmTakeA M (pickM c.classes size) who, []⟩ := by unfold rmPlaceQ; rw [if_neg (by omega), if_neg (by omega), if_neg hp]
  have e3 : rmPlaceE c M who size = rmTakeE M (pickM c.classes size) who := by unfold rmPlaceE; rw [if_neg (by omega), if_neg (by omega), if_neg hp]
  rw [e3] at hE
  obtain ⟨p0, p1⟩ := pickM_lt hp
  obtain ⟨k, hk⟩ := Int.eq_ofNat_of_zero_le p0
  rw [hk] at p1 e1 e2 hE
  have hkl : k < M.shs.length := by have := hok.n; omega
  have hg : rmGet M (k : Nat) = some M.shs[k] := rmGet_nat hkl
  obtain ⟨x, hx⟩ : ∃ x, x = M.shs[k] := ⟨_, rfl⟩
  rw [← hx] at hg
  have hxs : M.shs[k]? = some x := by rw [hx]; exact List.getElem?_eq_getElem hkl
  have hE' : shTakeE x M.pl who = 0 := by unfold rmTakeE at hE; rw [hg] at hE; exact hE
  obtain ⟨xo, xf⟩ := hm.sh k x hxs
  obtain ⟨b1, b2, b3, b4, b5, b6⟩ := back_facts xo (hpos k x hxs) xf hm.good hE'
  have f1 : rmTake M (k : Nat) who = rmPut M k (shTake x M.pl who) (shTakeP x M.pl who) := by unfold rmTake; rw [hg]; simp only; rw [if_pos hE', Int.toNat_natCast]
  have f2 : rmTakeN M (k : Nat) who = shTakeN x M.pl who := by unfold rmTakeN; rw [hg]
  have f3 : rmTakeA M (k : Nat) who = shTakeA x M.pl who := by unfold rmTakeA; rw [hg]
  have g1 : rmGet (rmPut M k (shTake x M.pl who) (shTakeP x M.pl who)) (k : Nat) = some (shTake x M.pl who) := by unfold rmPut; rw [rmGet_set, if_pos ⟨rfl, hkl⟩]
  have hcls : (rmPlaceQ c M who size).cls ≠ -1 := by rw [e2]; show ((k : Nat) : Int) ≠ -1; omega
  obtain ⟨M1, hM1⟩ : ∃ M1, M1 = rmPut M k (shTake x M.pl who) (shTakeP x M.pl who) := ⟨_, rfl⟩
  rw [← hM1] at g1 f1
  have d1 : rmDropE M1 (rmPlaceQ c M who size) = rmGiveE M1 (k : Nat) (shTakeN x M.pl who) (shTakeA x M.pl who) := by
    unfold rmDropE; rw [if_pos hcls, e2, f2, f3]
  have d2 : rmDrop M1 (rmPlaceQ c M who size) = rmGive M1 (k : Nat) (shTakeN x M.pl who) (shTakeA x M.pl who) := by
    unfold rmDrop; rw [if_pos hcls, e2, f2, f3]
  have d3 : rmGive M1 (k : Nat) (shTakeN x M.pl who) (shTakeA x M.pl who) = rmPut M1 k (shGive (shTake x M.pl who) (shTakeN x M.pl who) (shTakeA x M.pl who)) (shGiveP (shTake x M.pl who) M1.pl (shTakeN x M.pl who) (shTakeA x M.pl who)) := by
    unfold rmGive; rw [g1]; simp only; rw [if_pos b2, Int.toNat_natCast]
  have hkl1 : k < M1.shs.length := by rw [hM1]; show k < (M.shs.set k _).length; rw [List.length_set]; exact hkl
  have hset : ∀ j : Nat, rmGet (rmDrop M1 (rmPlaceQ c M who size)) (j : Nat) = if k = j then some (shGive (shTake x M.pl who) (shTakeN x M.pl who) (shTakeA x M.pl who)) else rmGet M (j : Nat) := fun j => by
    rw [d2, d3]
    unfold rmPut
    rw [rmGet_set]
    by_cases e : k = j
    · rw [if_pos ⟨e, hkl1⟩, if_pos e]
    · rw [if_neg (fun h => e h.1), if_neg e, hM1]
      unfold rmPut
      rw [rmGet_set, if_neg (fun h => e h.1)]
  have hc0 : 0 ≤ x.cls := xo.cls
  obtain ⟨t1, t2, t3, t4⟩ := take_eff x M.pl who hm.good hc0
  have hxg := t1.good hm.good hc0
  have htk := And.intro xo (take_of x M.pl who xf hm.good)
  have hx1 : (shTake x M.pl who).Ok := by
    rcases shTake_cases x M.pl who with ⟨hne, _⟩ | ⟨_, hw0, ⟨n, r, ho, k1, _, k3, _⟩ | ⟨n, r, ho, hf, k1, _, k3, _⟩⟩
    · exact absurd hE' hne
    · obtain ⟨p, hpm⟩ := xo.osub n (by rw [ho]; simp)
      rw [smGet_of xo.nodup hpm] at k3
      simp only [Option.getD_some] at k3
      rw [k1, k3]
      exact xo.takeAt hw0 hpm (by rw [ho]; simp)
    · have hnew := free_new xo xf hm.good (n := n) (by rw [hf]; simp)
      have hn4 : n < 1024 := by have := (hm.good.free n (by rw [hf]; simp)).1; have := hm.good.len; omega
      have hf1 := xo.fresh hn4 hnew
      have hpm : (n, List.replicate x.blocks (-1)) ∈ (x.fresh n).pg := List.mem_append_right _ (by simp)
      rw [smGet_of hf1.nodup hpm] at k3
      simp only [Option.getD_some] at k3
      rw [k1, k3]
      exact hf1.takeAt hw0 hpm (by show n ∈ n :: x.opn; simp)
  obtain ⟨u1, u2, u3, u4⟩ := give_eff (shTake x M.pl who) (shTakeP x M.pl who) (shTakeN x M.pl who) (shTakeA x M.pl who) hx1 htk.2
  have hpl1 : M1.pl = shTakeP x M.pl who := by rw [hM1]; rfl
  have hheld : heldM (rmDrop M1 (rmPlaceQ c M who size)).pl = heldM M.pl := by
    rw [d2, d3]
    show heldM (shGiveP (shTake x M.pl who) M1.pl _ _) = _
    rw [hpl1]
    omega
  refine ⟨?_, ?_, ?_, ?_, ?_, ?_⟩
  · rw [e1, f1, d1]
    unfold rmGiveE
    rw [g1]
    exact b2
  · rw [e1, f1]
    have : rmDropE (rmDrop M1 (rmPlaceQ c M who size)) (rmPlaceQ c M who size) = rmGiveE (rmDrop M1 (rmPlaceQ c M who size)) (k : Nat) (shTakeN x M.pl who) (shTakeA x M.pl who) := by
      unfold rmDropE; rw [if_pos hcls]; rw [e2, f2, f3]
    rw [this]
    unfold rmGiveE
    rw [hset, if_pos rfl]
    exact owner_give b3
  · intro j
    rw [e1, f1]
    by_cases hj : j < 0
    · unfold rmOpen; rw [rmGet_neg hj, rmGet_neg hj]
    · obtain ⟨j, rfl⟩ := Int.eq_ofNat_of_zero_le (show 0 ≤ j by omega)
      unfold rmOpen
      rw [hset]
      by_cases e : k = j
      · subst e; rw [if_pos rfl, hg]; exact b6
      · rw [if_neg e]
  · intro j
    rw [e1, f1]
    by_cases hj : j < 0
    · unfold rmUsed; rw [rmGet_neg hj, rmGet_neg hj]
    · obtain ⟨j, rfl⟩ := Int.eq_ofNat_of_zero_le (show 0 ≤ j by omega)
      unfold rmUsed
      rw [hset]
      by_cases e : k = j
      · subst e; rw [if_pos rfl, hg]; exact b4
      · rw [if_neg e]
  · rw [e1, f1]; exact hheld
  · refine .inl ⟨?_, by rw [e2]; show (0 : Int) ≤ (k : Nat); omega⟩
    rw [e1]
    exact (take_held hm).2
theorem back_large {c : Conf} {M : RmM} {who size : Int} (hok : M.Ok c) (hm : MOk M) (hmay : mayB c = true) (hw : 0 ≤ who) (h : rmFits c M size = 0) (hp : pickM c.classes size = -1) : BackF c M who size := by
  have e1 : rmPlace c M who size = rmBig M (allM size c.size).toNat := by unfold rmPlace; rw [if_neg (by omega), if_neg (by omega), if_pos hp]
  have e2 : rmPlaceQ c M who size = ⟨-1, (M.pl.free.getD 0 0 : Nat), 0, natsI (M.pl.free.take (allM size c.size).toNat).tail⟩ := by unfold rmPlaceQ; rw [if_neg (by omega), if_neg (by omega), if_pos hp]
  obtain ⟨g1, g2, g3⟩ := big_held hm hmay h hp
  have hmf := may_facts hmay
  obtain ⟨many, hmany⟩ : ∃ many, many = (allM size c.size).toNat := ⟨_, rfl⟩
  rw [← hmany] at e1 e2 g1 g2 g3
  have hB := hok.big hm.good (by omega) g3
  obtain ⟨n, hn⟩ : ∃ n, n = M.pl.free.getD 0 0 := ⟨_, rfl⟩
  obtain ⟨r, hr⟩ : ∃ r, r = (M.pl.free.take many).tail := ⟨_, rfl⟩
  rw [← hn, ← hr] at e2
  have hlg : (rmBig M many).lg = M.lg ++ [(n, r)] := by rw [hn, hr]; rfl
  have hmem : (n, r) ∈ (rmBig M many).lg := by rw [hlg]; simp
  have hall : n :: r = M.pl.free.take many := by
    rw [hn, hr]
    cases hf : M.pl.free with
    | nil => rw [hf] at g3; simp at g3; omega
    | cons a t =>
      obtain ⟨m, rfl⟩ : ∃ m, many = m + 1 := ⟨many - 1, by omega⟩
      rfl
  have hnf : n ∉ lgAll M.lg := fun hin => by
    have h1 := (hok.lg n hin).2
    have h2 := (hm.good.free n (List.mem_of_mem_take (by rw [← hall]; simp))).2
    omega
  have hget : lgGet (rmBig M many).lg ((n : Nat) : Int) = some r := by
    cases hg : lgGet (rmBig M many).lg ((n : Nat) : Int) with
    | none => exact absurd rfl (lgGet_none hg _ hmem)
    | some r' =>
      obtain ⟨m, hm', hmm⟩ := lgGet_some hg
      have : m = n := by omega
      subst this
      rw [keys_lg hB.nd hmm hmem]
  have hdel : lgDel (rmBig M many).lg n = M.lg := by
    rw [hlg]
    unfold lgDel
    rw [List.filter_append]
    have h1 : List.filter (fun e => e.1 != n) M.lg = M.lg := lgDel_none hnf
    rw [h1]
    simp
  have d1 : rmDropE (rmBig M many) (rmPlaceQ c M who size) = 0 := by
    rw [e2]; unfold rmDropE
    rw [if_neg (by simp)]
    simp only
    rw [hget]; simp
  have d2 : rmDrop (rmBig M many) (rmPlaceQ c M who size) = rmGone (rmBig M many) n r := by
    rw [e2]; unfold rmDrop
    rw [if_neg (by simp)]
    simp only
    rw [hget]; simp
  obtain ⟨p1, p2, p3, p4, p5⟩ := plTk_props (who := ((M.shs.length : Nat) : Int)) (by omega) hm.good many g3
  have hnd : (n :: r).Nodup := by rw [hall]; exact hm.good.nodup.sublist (List.take_sublist _ _)
  have hown : ∀ m ∈ n :: r, m < (rmBig M many).pl.own.length ∧ (rmBig M many).pl.own.getD m 0 ≠ -1 := fun m hmm => by
    obtain ⟨a, b⟩ := hB.lg m (mem_lgAll hmem hmm)
    exact ⟨a, by omega⟩
  obtain ⟨_, _, q3, _⟩ := plGv_props (l := n :: r) (p := (rmBig M many).pl) p1 hnd hown
  have hlen : (n :: r).length = many := by rw [hall, List.length_take]; omega
  refine ⟨by rw [e1]; exact d1, ?_, ?_, ?_, ?_, ?_⟩
  · rw [e1, d2]
    have hg : lgGet (rmGone (rmBig M many) n r).lg ((n : Nat) : Int) = none := by
      show lgGet (lgDel (rmBig M many).lg n) _ = none
      rw [hdel]
      cases hg : lgGet M.lg ((n : Nat) : Int) with
      | none => rfl
      | some r' =>
        obtain ⟨m, hm', hmm⟩ := lgGet_some hg
        have : m = n := by omega
        subst this
        exact absurd (mem_lgAll hmm (by simp)) hnf
    rw [e2]
    unfold rmDropE
    rw [if_neg (by simp)]
    simp only
    rw [hg]
    exact (by decide : (1 : Int) ≠ 0)
  · intro j; rw [e1, d2]; rfl
  · intro j; rw [e1, d2]; rfl
  · rw [e1, d2]
    show heldM (plGv (rmBig M many).pl (n :: r)) = _
    omega
  · have hsz : size ≤ c.most := by
      unfold rmFits at h
      split at h
      · exact absurd h (by decide)
      · omega
    have hle := allM_le hmf hsz
    refine .inr ⟨?_, by rw [e2], by omega, hsz⟩
    rw [e1, g1]
    omega
theorem back_place {c : Conf} {M : RmM} {who size : Int} (hok : M.Ok c) (hm : MOk M) (hpos : MPos M) (hmay : mayB c = true) (hw : 0 ≤ who) (h : rmPlaceE c M who size = 0) : BackF c M who size := by
  have hf : rmFits c M size = 0 := by
    unfold rmPlaceE at h
    rw [if_neg (by omega)] at h
    by_cases e : rmFits c M size = 0
    · exact e
    · rw [if_pos e] at h; exact absurd h e
  by_cases hp : pickM c.classes size = -1
  · exact back_large hok hm hmay hw hf hp
  · exact back_class hok hm hpos hw hf hp
end Go.Proofs.YtkiionjcapnepaaGreatDoor
