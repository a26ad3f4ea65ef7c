/-
  Layer 2: what classes may be.
-/
import Derived.Test.YtffimkpllchfcaaSlices
namespace Go.Proofs.Ytffimkpllchfcaa
open Go.RowKit

def okL (page : Int) : Int → List Int → Bool
  | _, [] => true
  | ahead, n :: r => decide (8 ≤ n) && (n % 8 == 0) && decide (n ≤ page) && decide (ahead < n) && okL page n r
def classOk (zs : List Int) (page : Int) : Bool := decide (0 < zs.length) && decide (zs.length ≤ 16) && okL page 0 zs
/-- class.May's answer: 0 is OK, 1 ErrArg. -/
def classMay (zs : List Int) (page : Int) : Int := if classOk zs page then 0 else 1
theorem okL_drop {page ahead : Int} {zs : List Int} {k : Nat} (h : k < zs.length) : okL page ahead (zs.drop k) = (decide (8 ≤ zs[k]) && (zs[k] % 8 == 0) && decide (zs[k] ≤ page) && decide (ahead < zs[k]) && okL page zs[k] (zs.drop (k + 1))) := by
  rw [List.drop_eq_getElem_cons h]; rfl
theorem okL_end {page ahead : Int} {zs : List Int} {k : Nat} (h : zs.length ≤ k) : okL page ahead (zs.drop k) = true := by
  rw [List.drop_eq_nil_of_le h]; rfl
theorem classMay_no {zs : List Int} {page : Int} (h : classOk zs page = false) : classMay zs page = 1 := by unfold classMay; rw [h]; rfl
theorem classMay_yes {zs : List Int} {page : Int} (h : classOk zs page = true) : classMay zs page = 0 := by unfold classMay; rw [h]; rfl

theorem okL_get {page : Int} : ∀ {zs : List Int} {ahead : Int}, okL page ahead zs = true → ∀ i (h : i < zs.length), 8 ≤ zs[i] ∧ zs[i] % 8 = 0 ∧ zs[i] ≤ page ∧ ahead < zs[i] ∧ ∀ j (hj : j < i), zs[j] < zs[i]
  | n :: r, ahead, h, i, hi => by
    simp only [okL, Bool.and_eq_true, decide_eq_true_eq, beq_iff_eq] at h
    obtain ⟨⟨⟨⟨h1, h2⟩, h3⟩, h4⟩, h5⟩ := h
    cases i with
    | zero => exact ⟨h1, h2, h3, h4, fun j hj => by omega⟩
    | succ i =>
      obtain ⟨g1, g2, g3, g4, g5⟩ := okL_get h5 i (by simpa using hi)
      refine ⟨g1, g2, g3, by simp only [List.getElem_cons_succ]; omega, fun j hj => ?_⟩
      cases j with
      | zero => exact g4
      | succ j => exact g5 j (by omega)
theorem classOk_len {zs : List Int} {page : Int} (h : classOk zs page = true) : 0 < zs.length ∧ zs.length ≤ 16 := by
  unfold classOk at h; simp only [Bool.and_eq_true, decide_eq_true_eq] at h; exact h.1
theorem classOk_get {zs : List Int} {page : Int} (h : classOk zs page = true) (i : Nat) (hi : i < zs.length) : 8 ≤ zs.getD i 0 ∧ zs.getD i 0 % 8 = 0 ∧ zs.getD i 0 ≤ page := by
  unfold classOk at h; simp only [Bool.and_eq_true, decide_eq_true_eq] at h
  obtain ⟨g1, g2, g3, _⟩ := okL_get h.2 i hi
  rw [getD_at hi]; exact ⟨g1, g2, g3⟩
theorem classOk_up {zs : List Int} {page : Int} (h : classOk zs page = true) (i : Nat) (hi : i + 1 < zs.length) : zs.getD i 0 < zs.getD (i + 1) 0 := by
  unfold classOk at h; simp only [Bool.and_eq_true, decide_eq_true_eq] at h
  obtain ⟨_, _, _, _, g⟩ := okL_get h.2 (i + 1) hi
  rw [getD_at hi, getD_at (show i < zs.length by omega)]; exact g i (by omega)
theorem class_May (a : Option Addr) (cap : Nat) (zs : List Int) (page : Int) (w : World) (hr : Rd .i64 w a zs) (hl : zs.length ≤ 9223372036854775807) :
    Does Try.prog 55 #[.slice a zs.length cap, .int .i64 page] w (Same (.int .i64 (classMay zs page)) w) := by
  refine Does.enter Try.func55 rfl Try.ntmps55 rfl rfl ?_
  refine Goes.adv hTT 400 rfl ?_
  refine Goes.fork hTT rfl rfl rfl (fun h0 => ?_) (fun h0 => ?_)
  · have hlen : 0 < zs.length := by simpa using h0
    by_cases hlen' : zs.length ≤ 16
    · refine Goes.knowB (t := 5) rfl (decide_eq_true (by omega)) ?_
      have hok : classOk zs page = okL page 0 (zs.drop 0) := by unfold classOk; rw [decide_eq_true hlen, decide_eq_true hlen']; simp
      refine Goes.loop (α := Nat × Int) (fun x => [(0, false, .slice a zs.length cap), (1, false, .int .i64 page), (5, true, .bool true), (6, false, .int .i64 x.2), (17, false, .slice a zs.length cap), (18, false, .int .i64 zs.length), (19, false, .int .i64 x.1)])
        (fun x w' => w' = w ∧ x.1 ≤ zs.length ∧ classOk zs page = okL page x.2 (zs.drop x.1)) (fun x => zs.length - x.1) (0, 0) ⟨rfl, rfl, rfl, rfl, rfl, rfl, rfl, trivial⟩ ⟨rfl, Nat.zero_le _, hok⟩ ?_
      rintro ⟨k, ahead⟩ w1 ⟨hw, hk, hc⟩ ih
      simp only at hk hc
      subst hw
      refine Goes.adv hTT 400 rfl ?_
      refine Goes.fork hTT rfl rfl rfl (fun h => ?_) (fun h => ?_)
      · have hlt : k < zs.length := by simpa using h
        rw [okL_drop hlt] at hc
        obtain ⟨b, off, rfl, hcell⟩ := hr k hlt
        rw [getD_at hlt] at hcell
        refine Goes.index hTT rfl (j := k) (by omega) (by omega) (by first | rfl | omega | (simp; done) | (simp; omega)) rfl ?_
        refine Goes.load hTT rfl hcell rfl ?_
        refine Goes.fork hTT rfl rfl rfl (fun h2 => ?_) (fun h2 => ?_)
        · have g2 : 8 ≤ zs[k] := of_decide_eq_true h2
          refine Goes.div hTT rfl (by omega) (rem_ (by omega)) rfl ?_
          refine Goes.fork hTT rfl rfl rfl (fun h3 => ?_) (fun h3 => ?_)
          · refine Goes.fork hTT rfl rfl rfl (fun h4 => ?_) (fun h4 => ?_)
            · refine Goes.fork hTT rfl rfl rfl (fun h5 => ?_) (fun h5 => ?_)
              · have g5 : ¬ ahead < zs[k] := by simpa using h5
                refine Goes.yes hTT rfl h5 rfl ?_
                exact Goes.ret1 hTT rfl Try.func55 rfl rfl ⟨int_v (classMay_no (by rw [hc, decide_eq_false g5]; simp)).symm, rfl⟩
              · have g5 : ahead < zs[k] := by simpa using h5
                refine Goes.arith hTT rfl (w64 (by omega)) rfl ?_
                exact ih (k + 1, zs[k]) _ _ ⟨rfl, hlt, by rw [hc, decide_eq_true g5, show decide (zs[k] ≤ page) = true from h4, h3, decide_eq_true g2]; rfl⟩ (by simp only; omega) ⟨rfl, rfl, bool_s (decide_eq_true g5), rfl, rfl, rfl, rfl, trivial⟩
            · exact Goes.ret1 hTT rfl Try.func55 rfl rfl ⟨int_v (classMay_no (by rw [hc, show decide (zs[k] ≤ page) = false from h4]; simp)).symm, rfl⟩
          · exact Goes.ret1 hTT rfl Try.func55 rfl rfl ⟨int_v (classMay_no (by rw [hc, h3]; simp)).symm, rfl⟩
        · exact Goes.ret1 hTT rfl Try.func55 rfl rfl ⟨int_v (classMay_no (by rw [hc, show decide (8 ≤ zs[k]) = false from h2]; simp)).symm, rfl⟩
      · have hge : zs.length ≤ k := by have := of_decide_eq_false h; omega
        exact Goes.ret1 hTT rfl Try.func55 rfl rfl ⟨int_v (classMay_yes (by rw [hc, okL_end hge])).symm, rfl⟩
    · refine Goes.knowB (t := 5) rfl (decide_eq_false (by omega)) ?_
      refine Goes.unroll hTT rfl ?_
      refine Goes.yes hTT rfl (decide_eq_true (by omega)) rfl ?_
      obtain ⟨b, off, rfl, hcell⟩ := hr 0 hlen
      rw [getD_at hlen] at hcell
      refine Goes.index hTT rfl (j := 0) (by omega) (by omega) (by first | rfl | omega | (simp; done) | (simp; omega)) rfl ?_
      refine Goes.load hTT rfl hcell rfl ?_
      exact Goes.ret1 hTT rfl Try.func55 rfl rfl ⟨int_v (classMay_no (by unfold classOk; rw [decide_eq_false hlen']; simp)).symm, rfl⟩
  · have hlen : ¬ 0 < zs.length := by have h2 := of_decide_eq_false h0; omega
    refine Goes.unroll hTT rfl ?_
    refine Goes.no hTT rfl (decide_eq_false (by omega)) rfl ?_
    exact Goes.ret1 hTT rfl Try.func55 rfl rfl ⟨int_v (classMay_no (by unfold classOk; rw [decide_eq_false hlen]; simp)).symm, rfl⟩
def prevOf (zs : List Int) (k : Nat) : Int := if k = 0 then 0 else zs.getD (k - 1) 0
theorem prevOf_succ {zs : List Int} {k : Nat} (h : k < zs.length) : prevOf zs (k + 1) = zs[k] := by simp [prevOf, h]
theorem okL_step {page ahead n : Int} {r : List Int} (h1 : 8 ≤ n) (h2 : n % 8 = 0) (h3 : n ≤ page) (h4 : ahead < n) : (decide (8 ≤ n) && (n % 8 == 0) && decide (n ≤ page) && decide (ahead < n) && okL page n r) = okL page n r := by
  rw [decide_eq_true h1, decide_eq_true h3, decide_eq_true h4, show (n % 8 == 0) = true from by simpa using h2]; rfl
theorem ref02_May (a : Option Addr) (cap : Nat) (zs : List Int) (page : Int) (w : World) (hr : Rd .i64 w a zs) (hl : zs.length ≤ 9223372036854775807) :
    Does Try.prog 50 #[.slice a zs.length cap, .int .i64 page] w (Grow (.int .i64 (classMay zs page)) w) := by
  refine Does.enter Try.func50 rfl Try.ntmps50 rfl rfl ?_
  refine Goes.adv hTT 400 rfl ?_
  refine Goes.fork hTT rfl rfl rfl (fun h0 => ?_) (fun h0 => ?_)
  · have g0 : zs.length = 0 := by have := of_decide_eq_true h0; omega
    exact Goes.ret1 hTT rfl Try.func50 rfl rfl ⟨int_v (classMay_no (by unfold classOk; rw [decide_eq_false (by omega)]; simp)).symm, Chg.refl _ _⟩
  · have g0 : ¬ zs.length = 0 := by have := of_decide_eq_false h0; omega
    refine Goes.fork hTT rfl rfl rfl (fun h1 => ?_) (fun h1 => ?_)
    · have g1 := of_decide_eq_true h1
      exact Goes.ret1 hTT rfl Try.func50 rfl rfl ⟨int_v (classMay_no (by unfold classOk; rw [decide_eq_false (show ¬ zs.length ≤ 16 from by omega)]; simp)).symm, Chg.refl _ _⟩
    · have g1 := of_decide_eq_false h1
      have hok : classOk zs page = okL page (prevOf zs 0) (zs.drop 0) := by unfold classOk; rw [decide_eq_true (by omega), decide_eq_true (by omega)]; simp [prevOf]
      refine Goes.loop (α := Nat) (fun k => [(0, false, .slice a zs.length cap), (1, false, .int .i64 page), (5, false, .int .i64 k)])
        (fun k w' => Chg None' w w' ∧ k ≤ zs.length ∧ classOk zs page = okL page (prevOf zs k) (zs.drop k)) (fun k => zs.length - k) 0 ⟨rfl, rfl, rfl, trivial⟩ ⟨Chg.refl _ _, Nat.zero_le _, hok⟩ ?_
      rintro k w1 ⟨hw, hk, hc⟩ ih
      refine Goes.adv hTT 400 rfl ?_
      refine Goes.fork hTT rfl rfl rfl (fun h => ?_) (fun h => ?_)
      · have hlt : k < zs.length := by simpa using h
        rw [okL_drop hlt] at hc
        have hr1 := hr.chg hw
        obtain ⟨b, off, rfl, hcell⟩ := hr1 k hlt
        rw [getD_at hlt] at hcell
        refine Goes.quiet rfl mixed (by kernel_rfl) ?_
        refine Quiet.adv hTT rfl ?_
        refine Quiet.index hTT rfl (j := k) (by omega) (by omega) (by first | rfl | omega | (simp; done) | (simp; omega)) rfl ?_
        refine Quiet.load hTT rfl hcell rfl ?_
        refine Quiet.fork hTT rfl rfl rfl (fun h2 => ?_) (fun h2 => ?_)
        · refine Quiet.nil ?_
          intro w2 hw2
          refine Goes.adv hTT 400 rfl ?_
          exact Goes.ret1 hTT rfl Try.func50 rfl rfl ⟨int_v (classMay_no (by rw [hc, decide_eq_false (show ¬ 8 ≤ zs[k] from by have := of_decide_eq_true h2; omega)]; simp)).symm, hw.trans hw2⟩
        · have g2 := of_decide_eq_false h2
          refine Quiet.index hTT rfl (j := k) (by omega) (by omega) (by first | rfl | omega | (simp; done) | (simp; omega)) rfl ?_
          refine Quiet.load hTT rfl hcell rfl ?_
          refine Quiet.div hTT rfl (by omega) (rem_ (by omega)) rfl ?_
          refine Quiet.fork hTT rfl rfl rfl (fun h3 => ?_) (fun h3 => ?_)
          · refine Quiet.nil ?_
            intro w2 hw2
            refine Goes.adv hTT 400 rfl ?_
            exact Goes.ret1 hTT rfl Try.func50 rfl rfl ⟨int_v (classMay_no (by rw [hc, show (zs[k] % 8 == 0) = false from by simpa using h3]; simp)).symm, hw.trans hw2⟩
          · refine Quiet.index hTT rfl (j := k) (by omega) (by omega) (by first | rfl | omega | (simp; done) | (simp; omega)) rfl ?_
            refine Quiet.load hTT rfl hcell rfl ?_
            refine Quiet.fork hTT rfl rfl rfl (fun h4 => ?_) (fun h4 => ?_)
            · refine Quiet.nil ?_
              intro w2 hw2
              refine Goes.adv hTT 400 rfl ?_
              exact Goes.ret1 hTT rfl Try.func50 rfl rfl ⟨int_v (classMay_no (by rw [hc, decide_eq_false (show ¬ zs[k] ≤ page from by have := of_decide_eq_true h4; omega)]; simp)).symm, hw.trans hw2⟩
            · have g4 := of_decide_eq_false h4
              refine Quiet.fork hTT rfl rfl rfl (fun h5 => ?_) (fun h5 => ?_)
              · have g5 := of_decide_eq_true h5
                obtain ⟨b', off', e', hcell'⟩ := hr1 (k - 1) (by omega)
                simp only [Option.some.injEq, Addr.mk.injEq] at e'
                obtain ⟨rfl, rfl, _⟩ := e'
                refine Quiet.index hTT rfl (j := k) (by omega) (by omega) (by first | rfl | omega | (simp; done) | (simp; omega)) rfl ?_
                refine Quiet.load hTT rfl hcell rfl ?_
                refine Quiet.arith hTT rfl (w64 (by omega)) rfl ?_
                refine Quiet.index hTT rfl (j := (k - 1)) (by omega) (by omega) (by first | rfl | omega | (simp; done) | (simp; omega)) rfl ?_
                refine Quiet.load hTT rfl hcell' rfl ?_
                refine Quiet.nil ?_
                intro w2 hw2
                refine Goes.adv hTT 400 rfl ?_
                have hp : prevOf zs k = zs.getD (k - 1) 0 := by unfold prevOf; rw [if_neg (by omega)]
                refine Goes.fork hTT rfl rfl rfl (fun h6 => ?_) (fun h6 => ?_)
                · have g6 := of_decide_eq_true h6
                  exact Goes.ret1 hTT rfl Try.func50 rfl rfl ⟨int_v (classMay_no (by rw [hc, hp, decide_eq_false (show ¬ zs.getD (k - 1) 0 < zs[k] from by omega)]; simp)).symm, hw.trans hw2⟩
                · have g6 := of_decide_eq_false h6
                  refine Goes.arith hTT rfl (w64 (by omega)) rfl ?_
                  exact ih (k + 1) _ _ ⟨hw.trans hw2, hlt, by rw [hc, okL_step (by omega) (by simpa using h3) (by omega) (by omega), prevOf_succ hlt]⟩ (by omega) ⟨rfl, rfl, rfl, trivial⟩
              · have g5 : k = 0 := by have := of_decide_eq_false h5; omega
                subst g5
                refine Quiet.nil ?_
                intro w2 hw2
                refine Goes.adv hTT 400 rfl ?_
                refine Goes.arith hTT rfl (w64 (by omega)) rfl ?_
                exact ih 1 _ _ ⟨hw.trans hw2, hlt, by rw [hc, okL_step (by omega) (by simpa using h3) (by omega) (by simp [prevOf]; omega), prevOf_succ hlt]⟩ (by omega) ⟨rfl, rfl, rfl, trivial⟩
      · have hge : zs.length ≤ k := by have := of_decide_eq_false h; omega
        exact Goes.ret1 hTT rfl Try.func50 rfl rfl ⟨int_v (classMay_yes (by rw [hc, okL_end hge])).symm, hw⟩
end Go.Proofs.Ytffimkpllchfcaa
