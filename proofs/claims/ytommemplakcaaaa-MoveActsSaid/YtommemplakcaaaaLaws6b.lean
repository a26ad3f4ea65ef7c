/-
  Layer 6: what is copied stands where it came from and where it goes.
-/
import Derived.Test.YtommemplakcaaaaRef6
import Derived.Test.YtommemplakcaaaaArena3
namespace Go.Proofs.Ytommemplakcaaaa
open Go.RowKit

theorem wrB_full {bs l : List Int} (h : bs.length = l.length) : wrB bs 0 l = l := by unfold wrB; simp [h]
theorem sub_getD {bs : List Int} {i n j : Nat} (hj : j < n) : (sub bs i n).getD j 0 = bs.getD (i + j) 0 := by
  unfold sub; simp [List.getD, hj]
theorem ArV.charge_none {V : ArV} {A : Ar} {n : Int} (h : A.mb = none) : V.charge A n = V := by unfold ArV.charge; rw [h]
/-- What an arena that is new since w writes. -/
theorem foot_new {w : World} {A : Ar} (hd : w.heap.size ≤ A.db) (hm : ∀ b, A.mb = some b → w.heap.size ≤ b) : ∀ x, x < w.heap.size → foot A x → False := fun x hx h => by
  rcases h with h | h
  · omega
  · have := hm x h; omega
theorem OwnB.rd {base : Nat} {w : World} {v : Value} {l : List Int} (h : OwnB base w v l) : ∃ g cap cur, v = .slice (some ⟨g, 0, none⟩) l.length cap ∧ base ≤ g ∧ w.heap[g]? = some (.cells cur 5 (0, 0)) ∧ l.length ≤ cap ∧ cur.toList.take l.length = l.map (Value.int .u8) ∧ Rd .u8 w (some ⟨g, 0, none⟩) l := by
  obtain ⟨g, cap, cur, h1, h2, h3, h4, h5⟩ := h
  exact ⟨g, cap, cur, h1, h2, h3, h4, h5, Rd.of_take h3 h5⟩
theorem Rd.at {k : IntKind} {w : World} {a : Option Addr} {l : List Int} (h : Rd k w a l) (hl : 0 < l.length) : ∃ b off, a = some ⟨b, off, none⟩ ∧ ∀ j, j < l.length → w.cell? ⟨b, off + j, none⟩ = some (.int k (l.getD j 0)) := by
  obtain ⟨b, off, e, _⟩ := h 0 hl
  refine ⟨b, off, e, fun j hj => ?_⟩
  obtain ⟨b', off', e', hc⟩ := h j hj
  rw [e] at e'; cases e'; exact hc
theorem law_ArenaCopies (a : Option Addr) (cap : Nat) (l : List Int) (t x y : Int) (w : World) (hr : Rd .u8 w a l) (hb : InB l) (ht : 0 ≤ t ∧ t < 256) (hx : 0 ≤ x ∧ x < 256) (hy : 0 ≤ y ∧ y < 256) :
    Does Try.prog 4 #[.slice a l.length cap, .int .u8 t, .agg #[.int .u8 x, .int .u8 y]] w (Grow (.bool true) w) := by
  refine Does.enter Try.func4 rfl Try.ntmps4 rfl rfl ?_
  refine Goes.adv hTT 400 rfl ?_
  refine Goes.alloc hTT rfl ?_
  intro lb w1 e1 hlb hw1 hz1
  refine Goes.adv hTT 400 rfl ?_
  refine Goes.call rfl (law06_awake w1) ?_
  rintro _ w2 ⟨rfl, hw2⟩
  refine Goes.adv hTT 400 rfl ?_
  have hw02 := hw1.trans hw2
  refine Goes.fork hTT rfl rfl rfl (fun h0 => ?_) (fun h0 => ?_)
  · exact Goes.ret1 hTT rfl Try.func4 rfl rfl ⟨rfl, hw02⟩
  · have hlen : l.length = 128 := by simp at h0; omega
    obtain ⟨k, hk⟩ := Int.eq_ofNat_of_zero_le (show 0 ≤ x % 65 by omega)
    have hk65 : k < 65 := by omega
    obtain ⟨t', ht'⟩ := Int.eq_ofNat_of_zero_le (Int.emod_nonneg t (show (129 - (k : Int)) ≠ 0 by omega))
    have htl : t % (129 - (k : Int)) < 129 - (k : Int) := Int.emod_lt_of_pos _ (by omega)
    obtain ⟨f', hf'⟩ := Int.eq_ofNat_of_zero_le (Int.emod_nonneg y (show (129 - (k : Int)) ≠ 0 by omega))
    have hfl : y % (129 - (k : Int)) < 129 - (k : Int) := Int.emod_lt_of_pos _ (by omega)
    have hb2 := hw2.heap' hlb
    refine Goes.index hTT rfl (j := 0) (by omega) (by omega) (by first | rfl | omega | (simp; done) | (simp; omega)) rfl ?_
    refine Goes.loadb hTT rfl hb2 rfl rfl ?_
    refine Goes.arith hTT rfl (w64 (by omega)) rfl ?_
    refine Goes.div hTT rfl (by omega) (rem_ (by omega)) rfl ?_
    rw [hk]
    refine Goes.arith hTT rfl (w64 (by omega)) rfl ?_
    refine Goes.arith hTT rfl (w64 (by omega)) rfl ?_
    refine Goes.div hTT rfl (by omega) (rem_ (by omega)) rfl ?_
    rw [ht']
    refine Goes.index hTT rfl (j := 1) (by omega) (by omega) (by first | rfl | omega | (simp; done) | (simp; omega)) rfl ?_
    refine Goes.loadb hTT rfl hb2 rfl rfl ?_
    refine Goes.arith hTT rfl (w64 (by omega)) rfl ?_
    refine Goes.arith hTT rfl (w64 (by omega)) rfl ?_
    refine Goes.div hTT rfl (by omega) (rem_ (by omega)) rfl ?_
    rw [hf']
    refine Goes.call rfl (arena_New none 0 0 2 64 w2 (fun b hb => by cases hb) (by decide)) ?_
    rintro _ w3 ⟨A, rfl, hmb, ha1, ha2, ha3, hA3, hw3⟩
    refine Goes.adv hTT 400 rfl ?_
    have hf := foot_new (w := w) (A := A) (by have := hw02.size; omega) (fun b hb => by rw [hmb] at hb; cases hb)
    have hw03 := hw02.trans hw3
    have hz : (zeros (2 * 64 : Int).toNat).length = 128 := rfl
    refine Goes.call rfl (arena_Write A _ 0 a cap l w3 hA3 (hr.chg hw03) hb (by simp only; omega)) ?_
    rintro _ w4 ⟨rfl, hA4, hs4⟩
    refine Goes.adv hTT 400 rfl ?_
    have hw04 : Chg None' w w4 := hw03.since hs4 (fun x hx h => hf x hx h)
    rw [ArV.charge_none hmb] at hA4
    have hA4' : ArOk w4 A ⟨l, 0, 0⟩ := by
      have h := hA4
      simp only [wrB_full (show (zeros (2 * 64 : Int).toNat).length = l.length by rw [hz, hlen])] at h
      exact h
    refine Goes.call rfl (arena_Copy A ⟨l, 0, 0⟩ t' f' k w4 hA4' (by simp only; omega) (by simp only; omega)) ?_
    rintro _ w5 ⟨rfl, hA5, hs5⟩
    refine Goes.adv hTT 400 rfl ?_
    have hw05 : Chg None' w w5 := hw04.since hs5 (fun x hx h => hf x hx h)
    rw [ArV.charge_none hmb] at hA5
    have hA5' : ArOk w5 A ⟨wrB l t' (sub l f' k), 0, 0⟩ := hA5
    have hsl : (sub l f' k).length = k := sub_length (by omega)
    have hwl : (wrB l t' (sub l f' k)).length = 128 := by rw [wrB_length (by omega), hlen]
    refine Goes.call rfl (arena_Read A _ 0 128 w5 hA5' (by simp only; omega)) ?_
    rintro _ w6 ⟨v6, rfl, ho6, _, hs6⟩
    refine Goes.adv hTT 400 rfl ?_
    have hw06 : Chg None' w w6 := hw05.since hs6 (fun x hx h => hf x hx (.inr h))
    have hall : sub (wrB l t' (sub l f' k)) 0 128 = wrB l t' (sub l f' k) := by unfold Go.Proofs.Ytommemplakcaaaa.sub; rw [List.drop_zero, ← hwl]; exact List.take_length
    rw [hall] at ho6
    obtain ⟨g, cap6, cur, rfl, hg1, hg2, hg3, hg4, hr6⟩ := ho6.rd
    rw [hwl]
    obtain ⟨g6, off6, e6, hc6⟩ := hr6.at (by omega)
    cases e6
    obtain ⟨b1, off1, rfl, hc1⟩ := (hr.chg hw06).at (by omega)
    refine Goes.adv hTT 400 rfl ?_
    refine Goes.no hTT rfl rfl rfl ?_
    refine Goes.loop (α := Nat) (fun i => [(0, false, .slice (some ⟨b1, off1, none⟩) l.length cap), (7, false, .bool true), (8, false, .int .i64 k), (9, false, .int .i64 t'), (10, false, .int .i64 f'), (13, false, .int .i64 0), (14, false, .slice (some ⟨g, 0, none⟩) 128 cap6), (15, false, .int .i64 0), (16, false, .int .i64 i)])
      (fun i w' => w' = w6 ∧ i ≤ 128) (fun i => 128 - i) 0 ⟨rfl, rfl, rfl, rfl, rfl, rfl, rfl, rfl, rfl, trivial⟩ ⟨rfl, by omega⟩ ?_
    rintro i w7 ⟨hw, hi⟩ ih
    subst hw
    refine Goes.adv hTT 400 rfl ?_
    have hw := wrB_getD (bs := l) (l := sub l f' k) (i := t') (j := i) (by omega)
    rw [hsl] at hw
    refine Goes.fork hTT rfl rfl rfl (fun hi0 => ?_) (fun hi0 => ?_)
    · have hlt : i < 128 := by have := of_decide_eq_true hi0; omega
      refine Goes.index hTT rfl (j := i) (by omega) (by omega) (by first | rfl | omega | (simp; done) | (simp; omega)) rfl ?_
      refine Goes.load hTT rfl (hc1 i (by omega)) rfl ?_
      refine Goes.fork hTT rfl rfl rfl (fun hge => ?_) (fun hge => ?_)
      · have g1 : t' ≤ i := by have := of_decide_eq_true hge; omega
        rw [if_neg (by omega)] at hw
        refine Goes.arith hTT rfl (w64 (by omega)) rfl ?_
        refine Goes.fork hTT rfl rfl rfl (fun hin => ?_) (fun hin => ?_)
        · have g2 : i < t' + k := by have := of_decide_eq_true hin; omega
          rw [if_pos g2, sub_getD (by omega), show f' + (i - t') = f' + i - t' from by omega] at hw
          refine Goes.arith hTT rfl (w64 (by omega)) rfl ?_
          refine Goes.arith hTT rfl (w64 (by omega)) rfl ?_
          refine Goes.index hTT rfl (j := (f' + i - t')) (by omega) (by omega) (by first | rfl | omega | (simp; done) | (simp; omega)) rfl ?_
          refine Goes.load hTT rfl (hc1 (f' + i - t') (by omega)) rfl ?_
          refine Goes.index hTT rfl (j := i) (by omega) (by omega) (by first | rfl | omega | (simp; done) | (simp; omega)) rfl ?_
          refine Goes.load hTT rfl (hc6 i (by omega)) rfl ?_
          refine Goes.no hTT rfl (by rw [hw]; exact bne_self_eq_false _) rfl ?_
          refine Goes.arith hTT rfl (w64 (by omega)) rfl ?_
          exact ih (i + 1) _ _ ⟨rfl, by omega⟩ (by omega) ⟨rfl, rfl, rfl, rfl, rfl, rfl, rfl, rfl, rfl, trivial⟩
        · have g2 : ¬ i < t' + k := by have := of_decide_eq_false hin; omega
          rw [if_neg g2] at hw
          refine Goes.index hTT rfl (j := i) (by omega) (by omega) (by first | rfl | omega | (simp; done) | (simp; omega)) rfl ?_
          refine Goes.load hTT rfl (hc6 i (by omega)) rfl ?_
          refine Goes.no hTT rfl (by rw [hw]; exact bne_self_eq_false _) rfl ?_
          refine Goes.arith hTT rfl (w64 (by omega)) rfl ?_
          exact ih (i + 1) _ _ ⟨rfl, by omega⟩ (by omega) ⟨rfl, rfl, rfl, rfl, rfl, rfl, rfl, rfl, rfl, trivial⟩
      · have g1 : i < t' := by have := of_decide_eq_false hge; omega
        rw [if_pos g1] at hw
        refine Goes.index hTT rfl (j := i) (by omega) (by omega) (by first | rfl | omega | (simp; done) | (simp; omega)) rfl ?_
        refine Goes.load hTT rfl (hc6 i (by omega)) rfl ?_
        refine Goes.no hTT rfl (by rw [hw]; exact bne_self_eq_false _) rfl ?_
        refine Goes.arith hTT rfl (w64 (by omega)) rfl ?_
        exact ih (i + 1) _ _ ⟨rfl, by omega⟩ (by omega) ⟨rfl, rfl, rfl, rfl, rfl, rfl, rfl, rfl, rfl, trivial⟩
    · refine Goes.yes hTT rfl rfl rfl ?_
      refine Goes.yes hTT rfl rfl rfl ?_
      exact Goes.ret1 hTT rfl Try.func4 rfl rfl ⟨rfl, hw06⟩
end Go.Proofs.Ytommemplakcaaaa
