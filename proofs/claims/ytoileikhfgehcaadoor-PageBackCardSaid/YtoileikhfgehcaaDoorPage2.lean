/-
  Layer 12: a page: taking, giving, owning.
-/
import Derived.Test.YtoileikhfgehcaaDoorPage
import Derived.Test.YtoileikhfgehcaaDoorBits2
namespace Go.Proofs.YtoileikhfgehcaaDoor
open Go.RowKit

theorem pg_hole_in {x : List Int} (h : ¬ pgHole x < 0) : (pgHole x).toNat < x.length ∧ x.getD (pgHole x).toNat (-1) = -1 := by
  obtain ⟨h1, h2⟩ := low_lt (x := pgB x) (by unfold pgHole at h; omega)
  rw [pgB_length] at h1
  rw [pgB_getD] at h2
  exact ⟨h1, show x.getD (lowM (pgB x)).toNat (-1) = -1 by simpa using h2⟩
theorem getD_set_i (x : List Int) (i j : Nat) (v : Int) : (x.set i v).getD j (-1) = if i = j ∧ i < x.length then v else x.getD j (-1) := by
  rw [List.getD_eq_getElem?_getD, List.getElem?_set, List.getD_eq_getElem?_getD]
  by_cases h : i = j
  · subst h
    by_cases h2 : i < x.length
    · simp [h2]
    · simp [h2]
  · simp [h]
theorem page_Take (g : Pg) (x : List Int) (who : Int) (w : World) (h : PageOk w g x) : Does Tryd.prog 31 #[pgV g, .int .i64 who] w
    (fun v w' => v = .tuple #[.int .i64 (pgTakeA x who), .int .i64 (pgTakeE x who)] ∧ PageOk w' g (pgTake x who) ∧ Chg (pgFoot g) w w') := by
  have hlen := h.bits.len
  rw [pgB_length] at hlen
  by_cases h0 : who < 0
  · have he : pgTakeE x who = 1 := by unfold pgTakeE; rw [if_pos h0]
    have ha : pgTakeA x who = 0 := by unfold pgTakeA; rw [he]; rfl
    have ht : pgTake x who = x := by unfold pgTake; rw [he]; rfl
    rw [he, ha, ht]
    refine Does.enter Tryd.func31 rfl Tryd.ntmps31 rfl rfl ?_
    refine Goes.adv hTT 400 rfl ?_
    refine Goes.yes hTT rfl (decide_eq_true h0) rfl ?_
    exact Goes.ret2 hTT rfl Tryd.func31 rfl rfl rfl ⟨rfl, h, Chg.refl _ _⟩
  · by_cases h1 : pgHole x < 0
    · have he : pgTakeE x who = 5 := by unfold pgTakeE; rw [if_neg h0, if_pos h1]
      have ha : pgTakeA x who = 0 := by unfold pgTakeA; rw [he]; rfl
      have ht : pgTake x who = x := by unfold pgTake; rw [he]; rfl
      have hfull : ((pgUsed x : Int) == x.length) = true := by have := low_full.1 h1; rw [pgB_length] at this; unfold pgUsed; rw [this]; exact beq_self_eq_true _
      rw [he, ha, ht]
      refine Does.enter Tryd.func31 rfl Tryd.ntmps31 rfl rfl ?_
      refine Goes.adv hTT 400 rfl ?_
      refine Goes.no hTT rfl (decide_eq_false h0) rfl ?_
      refine Goes.call rfl (page_Full g x w h) ?_
      rintro _ w1 ⟨rfl, hw1⟩
      refine Goes.adv hTT 400 rfl ?_
      rw [hfull]
      refine Goes.yes hTT rfl rfl rfl ?_
      exact Goes.ret2 hTT rfl Tryd.func31 rfl rfl rfl ⟨rfl, h.grow hw1, hw1.mono (fun _ _ h => h.elim)⟩
    · have he : pgTakeE x who = 0 := by unfold pgTakeE; rw [if_neg h0, if_neg h1]
      have ha : pgTakeA x who = pgHole x := by unfold pgTakeA; rw [he]; rfl
      have ht : pgTake x who = x.set (pgHole x).toNat who := by unfold pgTake; rw [he]; rfl
      have hfull : ((pgUsed x : Int) == x.length) = false := by
        rw [beq_eq_false_iff_ne]
        intro e
        exact h1 (low_full.2 (by rw [pgB_length]; unfold pgUsed at e; omega))
      obtain ⟨hin, hat⟩ := pg_hole_in h1
      rw [he, ha, ht]
      refine Does.enter Tryd.func31 rfl Tryd.ntmps31 rfl rfl ?_
      refine Goes.adv hTT 400 rfl ?_
      refine Goes.no hTT rfl (decide_eq_false h0) rfl ?_
      refine Goes.call rfl (page_Full g x w h) ?_
      rintro _ w1 ⟨rfl, hw1⟩
      refine Goes.adv hTT 400 rfl ?_
      rw [hfull]
      have h1k := h.grow hw1
      refine Goes.no hTT rfl rfl rfl ?_
      refine Goes.loadb hTT rfl h1k.pc rfl rfl ?_
      refine Goes.call rfl (bits_Low g.bb _ w1 h1k.bits) ?_
      rintro _ w2 ⟨rfl, hw2⟩
      refine Goes.adv hTT 400 rfl ?_
      have h2k := h1k.grow hw2
      obtain ⟨m, hm, hn, hal⟩ := h2k.own
      refine Goes.loadb hTT rfl h2k.pc rfl rfl ?_
      refine Goes.mapset hTT rfl (hm) ?_
      intro w3 hm3 hs3 hz3
      refine Goes.adv hTT 400 rfl ?_
      have hpc3 := hs3.heap h2k.pc h.npm
      have hb3 : BitsOk w3 g.bb (pgB x) := h2k.bits.chg hs3 h.nbm h2k.notab
      refine Goes.loadb hTT rfl hpc3 rfl rfl ?_
      refine Goes.call rfl (bits_Set g.bb _ (lowM (pgB x)) true w3 hb3) ?_
      rintro _ w4 ⟨rfl, hB4, hs4⟩
      refine Goes.adv hTT 400 rfl ?_
      have hse : setE (pgB x) (lowM (pgB x)) true = 0 := by
        unfold setE
        rw [if_neg (by rw [(pg_in x _).2 ⟨by unfold pgHole at h1; omega, by unfold pgHole at hin h1; omega⟩]; decide), if_neg (by rw [pg_has]; unfold pgOwn; unfold pgHole at hat; rw [hat]; split <;> decide), if_neg (by simp)]
      have hsb : setB (pgB x) (lowM (pgB x)) true = pgB (x.set (pgHole x).toNat who) := by
        unfold setB
        rw [if_pos hse, pgB_set, show (!(who == -1)) = true from by simp; omega]; rfl
      rw [hse]
      rw [hsb] at hB4
      have hc24 : Chg (pgFoot g) w2 w4 := (hs3.mono fun _ _ h => .inr h).trans (hs4.mono fun _ _ h => .inl h)
      have hch : Chg (pgFoot g) w w4 := ((hw1.trans hw2).mono (fun _ _ h => h.elim)).trans hc24
      have hm4 := hm3.chg hs4 h.nbm.symm
      have hpc4 := hs4.heap hpc3 h.npb
      exact Goes.ret2 hTT rfl Tryd.func31 rfl rfl rfl ⟨rfl, ⟨by unfold pgL at hpc4 ⊢; rw [List.length_set]; exact hpc4, hB4, ⟨_, hm4, nodup_put hn _ _, fun i hi hne => by
        rw [alook_put, getD_set_i]
        rw [List.length_set] at hi
        by_cases e : (i : Int) = lowM (pgB x)
        · rw [if_pos e, if_pos ⟨by unfold pgHole; omega, hin⟩]
        · rw [getD_set_i] at hne
          have e' : ¬ ((pgHole x).toNat = i ∧ (pgHole x).toNat < x.length) := fun hc => e (by unfold pgHole at hc h1; omega)
          rw [if_neg e'] at hne ⊢
          rw [if_neg e]
          exact hal i hi hne⟩, h.npb, h.npm, h.nbm⟩, hch⟩
theorem page_Take_nil (who : Int) (w : World) : Does Tryd.prog 31 #[.pointer none, .int .i64 who] w (Same (.tuple #[.int .i64 0, .int .i64 1]) w) := by
  refine Does.enter Tryd.func31 rfl Tryd.ntmps31 rfl rfl ?_
  refine Goes.adv hTT 400 rfl ?_
  exact Goes.ret2 hTT rfl Tryd.func31 rfl rfl rfl ⟨rfl, rfl⟩
theorem page_Give (g : Pg) (x : List Int) (i : Int) (w : World) (h : PageOk w g x) : Does Tryd.prog 37 #[pgV g, .int .i64 i] w
    (fun v w' => v = .int .i64 (pgGiveE x i) ∧ PageOk w' g (pgGive x i) ∧ Chg (pgFoot g) w w') := by
  have he : setE (pgB x) i false = pgGiveE x i := by
    unfold setE pgGiveE
    by_cases hi : 0 ≤ i ∧ i < x.length
    · rw [if_neg (by rw [(pg_in x i).2 hi]; decide), if_neg (by simp), if_neg (show ¬ (i < 0 ∨ (x.length : Int) ≤ i) by omega), pg_has]
      by_cases ho : pgOwn x i = -1
      · rw [if_pos ho, if_pos (by rw [ho]; rfl)]
      · rw [if_neg ho, if_neg (by simpa using ho)]
    · rw [if_pos (by cases hh : inM (pgB x) i; rfl; exact absurd ((pg_in x i).1 hh) hi), if_pos (by omega)]
  have hb : setB (pgB x) i false = pgB (pgGive x i) := by
    unfold setB pgGive
    rw [he]
    split
    · rw [pgB_set]; rfl
    · rfl
  have hgl : (pgGive x i).length = x.length := by unfold pgGive; split <;> simp
  obtain ⟨m, hm, hn, hal⟩ := h.own
  refine Does.enter Tryd.func37 rfl Tryd.ntmps37 rfl rfl ?_
  refine Goes.adv hTT 400 rfl ?_
  refine Goes.loadb hTT rfl h.pc rfl rfl ?_
  refine Goes.mapdel hTT rfl (hm) ?_
  intro w1 hm1 hs1 hz1
  refine Goes.adv hTT 400 rfl ?_
  have hpc1 := hs1.heap h.pc h.npm
  have hb1 : BitsOk w1 g.bb (pgB x) := h.bits.chg hs1 h.nbm h.notab
  refine Goes.loadb hTT rfl hpc1 rfl rfl ?_
  refine Goes.call rfl (bits_Set g.bb _ i false w1 hb1) ?_
  rintro _ w2 ⟨rfl, hB2, hs2⟩
  refine Goes.adv hTT 400 rfl ?_
  rw [he]
  rw [hb] at hB2
  have hm2 := hm1.chg hs2 h.nbm.symm
  have hpc2 := hs2.heap hpc1 h.npb
  exact Goes.ret1 hTT rfl Tryd.func37 rfl rfl ⟨rfl, ⟨by unfold pgL at hpc2 ⊢; rw [hgl]; exact hpc2, hB2, ⟨_, hm2, nodup_del hn _, fun j hj hne => by
    rw [hgl] at hj
    rw [alook_del hn]
    by_cases e : (j : Int) = i
    · exfalso
      apply hne
      unfold pgGive pgGiveE
      subst e
      have hko : pgOwn x (j : Int) = x.getD j (-1) := by unfold pgOwn; rw [if_pos (by omega)]; rfl
      rw [if_neg (show ¬ ((j : Int) < 0 ∨ (x.length : Int) ≤ j) by omega)]
      by_cases ho : pgOwn x (j : Int) = -1
      · rw [if_pos ho, if_neg (by decide), ← hko]; exact ho
      · rw [if_neg ho, if_pos rfl, Int.toNat_natCast, getD_set_i, if_pos ⟨rfl, hj⟩]
    · rw [if_neg e]
      have hg : (pgGive x i).getD j (-1) = x.getD j (-1) := by
        unfold pgGive
        split
        · rename_i hz
          have hi0 : 0 ≤ i := Classical.byContradiction fun hc => by unfold pgGiveE at hz; rw [if_pos (by omega)] at hz; cases hz
          rw [getD_set_i, if_neg (by omega)]
        · rfl
      rw [hg] at hne ⊢
      exact hal j hj hne⟩, h.npb, h.npm, h.nbm⟩, (hs1.mono fun _ _ h => .inr h).trans (hs2.mono fun _ _ h => .inl h)⟩
theorem page_Give_nil (i : Int) (w : World) : Does Tryd.prog 37 #[.pointer none, .int .i64 i] w (Same (.int .i64 1) w) := by
  refine Does.enter Tryd.func37 rfl Tryd.ntmps37 rfl rfl ?_
  refine Goes.adv hTT 400 rfl ?_
  exact Goes.ret1 hTT rfl Tryd.func37 rfl rfl ⟨rfl, rfl⟩
theorem page_Own (g : Pg) (x : List Int) (i who : Int) (w : World) (h : PageOk w g x) : Does Tryd.prog 36 #[pgV g, .int .i64 i, .int .i64 who] w
    (fun v w' => v = .int .i64 (pgOwnE x i who) ∧ PageOk w' g (pgOwnS x i who) ∧ Chg (pgFoot g) w w') := by
  have hk : ∀ e : Int, pgOwnE x i who = e → e ≠ 0 → pgOwnS x i who = x := fun e h1 h2 => by unfold pgOwnS; rw [h1, if_neg h2]
  refine Does.enter Tryd.func36 rfl Tryd.ntmps36 rfl rfl ?_
  refine Goes.adv hTT 400 rfl ?_
  by_cases h1 : who < 0
  · have he : pgOwnE x i who = 1 := by unfold pgOwnE; rw [if_pos (by omega)]
    rw [he, hk 1 he (by decide)]
    refine Goes.yes hTT rfl (decide_eq_true h1) rfl ?_
    exact Goes.ret1 hTT rfl Tryd.func36 rfl rfl ⟨rfl, h, Chg.refl _ _⟩
  refine Goes.no hTT rfl (decide_eq_false h1) rfl ?_
  by_cases h2 : i < 0
  · have he : pgOwnE x i who = 1 := by unfold pgOwnE; rw [if_pos (by omega)]
    rw [he, hk 1 he (by decide)]
    refine Goes.yes hTT rfl (decide_eq_true h2) rfl ?_
    exact Goes.ret1 hTT rfl Tryd.func36 rfl rfl ⟨rfl, h, Chg.refl _ _⟩
  refine Goes.no hTT rfl (decide_eq_false h2) rfl ?_
  refine Goes.loadb hTT rfl h.pc rfl rfl ?_
  by_cases h3 : (x.length : Int) ≤ i
  · have he : pgOwnE x i who = 1 := by unfold pgOwnE; rw [if_pos (by omega)]
    rw [he, hk 1 he (by decide)]
    refine Goes.yes hTT rfl (decide_eq_true h3) rfl ?_
    exact Goes.ret1 hTT rfl Tryd.func36 rfl rfl ⟨rfl, h, Chg.refl _ _⟩
  refine Goes.no hTT rfl (decide_eq_false h3) rfl ?_
  refine Goes.loadb hTT rfl h.pc rfl rfl ?_
  refine Goes.call rfl (bits_Has g.bb _ i w h.bits) ?_
  rintro _ _ ⟨rfl, rfl⟩
  refine Goes.adv hTT 400 rfl ?_
  rw [pg_has]
  by_cases h4 : pgOwn x i = -1
  · have he : pgOwnE x i who = 9 := by unfold pgOwnE; rw [if_neg (by omega), if_pos h4]
    rw [he, hk 9 he (by decide), h4]
    refine Goes.yes hTT rfl rfl rfl ?_
    exact Goes.ret1 hTT rfl Tryd.func36 rfl rfl ⟨rfl, h, Chg.refl _ _⟩
  · have he : pgOwnE x i who = 0 := by unfold pgOwnE; rw [if_neg (by omega), if_neg h4]
    have hx : pgOwnS x i who = x.set i.toNat who := by unfold pgOwnS; rw [he]; rfl
    rw [he, hx]
    refine Goes.no hTT rfl (show (!!(pgOwn x i == -1)) = false by simpa using h4) rfl ?_
    obtain ⟨m, hm, hn, hal⟩ := h.own
    refine Goes.loadb hTT rfl h.pc rfl rfl ?_
    refine Goes.mapset hTT rfl (hm) ?_
    intro w1 hm1 hs1 hz1
    refine Goes.adv hTT 400 rfl ?_
    have hpc1 := hs1.heap h.pc h.npm
    have hb1 : BitsOk w1 g.bb (pgB x) := h.bits.chg hs1 h.nbm h.notab
    obtain ⟨k, rfl⟩ := Int.eq_ofNat_of_zero_le (show 0 ≤ i by omega)
    have hko : pgOwn x (k : Int) = x.getD k (-1) := by unfold pgOwn; rw [if_pos (by omega)]; rfl
    have hbs : pgB (x.set k who) = pgB x := by
      rw [pgB_set, show (!(who == -1)) = true from by simp; omega]
      apply List.ext_getElem?
      intro j
      rw [List.getElem?_set]
      split
      · rename_i e
        subst e
        have := pgB_getD x k
        rw [List.getD_eq_getElem?_getD, show (!(x.getD k (-1) == -1)) = true from by rw [← hko]; simpa using h4] at this
        cases hq : (pgB x)[k]? with
        | none => rw [hq] at this; cases this
        | some b => rw [hq] at this; simp at this; subst this; rw [if_pos (List.getElem?_eq_some_iff.1 hq).1]
      · rfl
    exact Goes.ret1 hTT rfl Tryd.func36 rfl rfl ⟨rfl, ⟨by unfold pgL at hpc1 ⊢; rw [List.length_set]; exact hpc1, by rw [Int.toNat_natCast, hbs]; exact hb1, ⟨_, hm1, nodup_put hn _ _, fun j hj hne => by
      rw [Int.toNat_natCast] at hj hne ⊢
      rw [List.length_set] at hj
      rw [alook_put]
      rw [getD_set_i] at hne ⊢
      by_cases e : (j : Int) = k
      · have e' : k = j := by omega
        subst e'
        rw [if_pos rfl, if_pos ⟨rfl, hj⟩]
      · rw [if_neg (show ¬ (k = j ∧ k < x.length) by omega)] at hne ⊢
        rw [if_neg e]
        exact hal j hj hne⟩, h.npb, h.npm, h.nbm⟩, hs1.mono fun _ _ h => .inr h⟩
theorem page_Own_nil (i who : Int) (w : World) : Does Tryd.prog 36 #[.pointer none, .int .i64 i, .int .i64 who] w (Same (.int .i64 1) w) := by
  refine Does.enter Tryd.func36 rfl Tryd.ntmps36 rfl rfl ?_
  refine Goes.adv hTT 400 rfl ?_
  exact Goes.ret1 hTT rfl Tryd.func36 rfl rfl ⟨rfl, rfl⟩
end Go.Proofs.YtoileikhfgehcaaDoor
