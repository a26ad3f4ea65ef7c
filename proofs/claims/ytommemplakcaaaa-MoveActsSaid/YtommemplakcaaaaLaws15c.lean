/-
  Layer 15: any steps, and writes that are told, of any move.
-/
import Derived.Test.YtommemplakcaaaaRef15
namespace Go.Proofs.Ytommemplakcaaaa
open Go.RowKit

def rmZero : List Value := [.slice none 0 0, .int .i64 0, .int .i64 0, .int .i64 0, .int .i64 0, .int .i64 0]
theorem ref15_New (r : RA) (f t size : Nat) (w : World) (h : RaOk w r) (hm : mvMay r.bs.length f t size = true) : Does Try.prog 29 #[.agg (raL r).toArray, .int .i64 f, .int .i64 t, .int .i64 size] w
    (Grow (.tuple #[.agg (rmL ⟨r, f, t, size, 0⟩).toArray, .int .i64 0]) w) := by
  have hl := h.len
  have g := mvMay_iff.1 hm
  have hif : inB r.bs.length size f = true := inB_iff.2 (by omega)
  have hit : inB r.bs.length size t = true := inB_iff.2 (by omega)
  refine Does.enter Try.func29 rfl Try.ntmps29 rfl rfl ?_
  refine Goes.adv hTT 400 rfl ?_
  refine Goes.alloc hTT rfl ?_
  intro rb w1 e1 hrb hw1 hz1
  refine Goes.adv hTT 400 rfl ?_
  refine Goes.alloc hTT rfl ?_
  intro qb w2 e2 hqb hw2 hz2
  refine Goes.adv hTT 400 rfl ?_
  have hrb2 := hw2.heap' hrb
  refine Goes.no hTT rfl (decide_eq_false (by omega)) rfl ?_
  refine Goes.loads hTT rfl hrb2 rfl rfl ?_
  refine Goes.call rfl (ref15_in r f size w2 hl (by omega)) ?_
  rintro _ w3 ⟨rfl, hw3⟩
  refine Goes.adv hTT 400 rfl ?_
  refine Goes.no hTT rfl (by rw [hif]; rfl) rfl ?_
  have hrb3 := hw3.heap' hrb2
  refine Goes.loads hTT rfl hrb3 rfl rfl ?_
  refine Goes.call rfl (ref15_in r t size w3 hl (by omega)) ?_
  rintro _ w4 ⟨rfl, hw4⟩
  refine Goes.adv hTT 400 rfl ?_
  refine Goes.no hTT rfl (by rw [hit]; rfl) rfl ?_
  refine Goes.arith hTT rfl (w64 (by omega)) rfl ?_
  have hrb4 := hw4.heap' hrb3
  have hqb4 := hw4.heap' (hw3.heap' hqb)
  refine Goes.fork hTT rfl rfl rfl (fun h1 => ?_) (fun h1 => ?_)
  · have g1 := of_decide_eq_true h1
    refine Goes.arith hTT rfl (w64 (by omega)) rfl ?_
    refine Goes.no hTT rfl (decide_eq_false (by omega)) rfl ?_
    refine Goes.loads hTT rfl hrb4 rfl rfl ?_
    refine Goes.build hTT rfl rfl ?_
    refine Goes.store hTT rfl hqb4 rfl rfl ?_
    intro w5 hqb5 hs5 hz5
    refine Goes.adv hTT 400 rfl ?_
    have hc5 : Chg None' w w5 := (((hw1.trans hw2).trans hw3).trans hw4).since hs5 (fun x hx hxe => by omega)
    exact Goes.ret hTT rfl Try.func29 (ResOk.cell rfl rfl rfl hqb5 rfl (.tmp rfl .nil)) ⟨rfl, hc5⟩
  · refine Goes.loads hTT rfl hrb4 rfl rfl ?_
    refine Goes.build hTT rfl rfl ?_
    refine Goes.store hTT rfl hqb4 rfl rfl ?_
    intro w5 hqb5 hs5 hz5
    refine Goes.adv hTT 400 rfl ?_
    have hc5 : Chg None' w w5 := (((hw1.trans hw2).trans hw3).trans hw4).since hs5 (fun x hx hxe => by omega)
    exact Goes.ret hTT rfl Try.func29 (ResOk.cell rfl rfl rfl hqb5 rfl (.tmp rfl .nil)) ⟨rfl, hc5⟩
theorem ref15_New_no (r : RA) (f t size : Int) (w : World) (h : RaOk w r) (hm : mvMay r.bs.length f t size = false) : Does Try.prog 29 #[.agg (raL r).toArray, .int .i64 f, .int .i64 t, .int .i64 size] w
    (Grow (.tuple #[.agg rmZero.toArray, .int .i64 1]) w) := by
  have hl := h.len
  have g : ¬ (1 ≤ size ∧ (0 ≤ f ∧ size ≤ r.bs.length ∧ f ≤ r.bs.length - size) ∧ (0 ≤ t ∧ t ≤ r.bs.length - size) ∧ (f + size ≤ t ∨ t + size ≤ f)) := fun hh => by rw [mvMay_iff.2 hh] at hm; cases hm
  refine Does.enter Try.func29 rfl Try.ntmps29 rfl rfl ?_
  refine Goes.adv hTT 400 rfl ?_
  refine Goes.alloc hTT rfl ?_
  intro rb w1 e1 hrb hw1 hz1
  refine Goes.adv hTT 400 rfl ?_
  refine Goes.alloc hTT rfl ?_
  intro qb w2 e2 hqb hw2 hz2
  refine Goes.adv hTT 400 rfl ?_
  have hrb2 := hw2.heap' hrb
  refine Goes.fork hTT rfl rfl rfl (fun h1 => ?_) (fun h1 => ?_)
  · refine Goes.build hTT rfl rfl ?_
    refine Goes.store hTT rfl (hqb) rfl rfl ?_
    intro w5 hqb5 hs5 hz5
    refine Goes.adv hTT 400 rfl ?_
    have hc5 : Chg None' w w5 := (hw1.trans hw2).since hs5 (fun x hx hxe => by omega)
    exact Goes.ret hTT rfl Try.func29 (ResOk.cell rfl rfl rfl hqb5 rfl (.tmp rfl .nil)) ⟨rfl, hc5⟩
  have g1 := of_decide_eq_false h1
  refine Goes.loads hTT rfl hrb2 rfl rfl ?_
  refine Goes.call rfl (ref15_in r f size w2 hl (by omega)) ?_
  rintro _ w3 ⟨rfl, hw3⟩
  refine Goes.adv hTT 400 rfl ?_
  refine Goes.fork hTT rfl rfl rfl (fun h2 => ?_) (fun h2 => ?_)
  · refine Goes.build hTT rfl rfl ?_
    refine Goes.store hTT rfl (hw3.heap' hqb) rfl rfl ?_
    intro w5 hqb5 hs5 hz5
    refine Goes.adv hTT 400 rfl ?_
    have hc5 : Chg None' w w5 := ((hw1.trans hw2).trans hw3).since hs5 (fun x hx hxe => by omega)
    exact Goes.ret hTT rfl Try.func29 (ResOk.cell rfl rfl rfl hqb5 rfl (.tmp rfl .nil)) ⟨rfl, hc5⟩
  have g2 := inB_iff.1 (show inB r.bs.length size f = true by simpa using h2)
  have hrb3 := hw3.heap' hrb2
  refine Goes.loads hTT rfl hrb3 rfl rfl ?_
  refine Goes.call rfl (ref15_in r t size w3 hl (by omega)) ?_
  rintro _ w4 ⟨rfl, hw4⟩
  refine Goes.adv hTT 400 rfl ?_
  refine Goes.fork hTT rfl rfl rfl (fun h3 => ?_) (fun h3 => ?_)
  · refine Goes.build hTT rfl rfl ?_
    refine Goes.store hTT rfl (hw4.heap' (hw3.heap' hqb)) rfl rfl ?_
    intro w5 hqb5 hs5 hz5
    refine Goes.adv hTT 400 rfl ?_
    have hc5 : Chg None' w w5 := (((hw1.trans hw2).trans hw3).trans hw4).since hs5 (fun x hx hxe => by omega)
    exact Goes.ret hTT rfl Try.func29 (ResOk.cell rfl rfl rfl hqb5 rfl (.tmp rfl .nil)) ⟨rfl, hc5⟩
  have g3 := inB_iff.1 (show inB r.bs.length size t = true by simpa using h3)
  refine Goes.arith hTT rfl (w64 (by omega)) rfl ?_
  refine Goes.yes hTT rfl (decide_eq_true (by omega)) rfl ?_
  refine Goes.arith hTT rfl (w64 (by omega)) rfl ?_
  refine Goes.yes hTT rfl (decide_eq_true (by omega)) rfl ?_
  refine Goes.build hTT rfl rfl ?_
  refine Goes.store hTT rfl (hw4.heap' (hw3.heap' hqb)) rfl rfl ?_
  intro w5 hqb5 hs5 hz5
  refine Goes.adv hTT 400 rfl ?_
  have hc5 : Chg None' w w5 := (((hw1.trans hw2).trans hw3).trans hw4).since hs5 (fun x hx hxe => by omega)
  exact Goes.ret hTT rfl Try.func29 (ResOk.cell rfl rfl rfl hqb5 rfl (.tmp rfl .nil)) ⟨rfl, hc5⟩
theorem actV_bs {A : Ar} {V : ArV} {M : Mv} {g : Nat} {x : Act} : (actV A V M g x).bs = actB V.bs M.f M.t M.size g x := by
  unfold actV actB stepV stepB wroteV wroteB
  split
  · split <;> rfl
  · split
    · split <;> rfl
    · rfl
theorem actV_total {A : Ar} {V : ArV} {M : Mv} {g b : Nat} {x : Act} (hmb : A.mb = some b) (h : 0 ≤ V.total ∧ V.total + actC M.size g x ≤ 4611686018427387904) : (actV A V M g x).total = V.total + actC M.size g x := by
  unfold actV actC at *
  split
  · rename_i hs
    rw [if_pos hs] at h
    rw [stepV_total hmb, charged_add (by omega)]
  · rename_i hs
    rw [if_neg hs] at h
    split
    · rename_i hi
      rw [if_pos hi] at h
      rw [wroteV_total hmb]
      simp only [ArV.charge_total hmb]
      have h1 := charged_add (t := V.total) (m := x.bs.length) (by omega)
      rw [h1, charged_add (by omega)]
      omega
    · simp
theorem actC_le {size g : Nat} {x : Act} (hg : g ≤ size) : actC size g x ≤ 2 * size := by
  unfold actC
  split
  · unfold stepK; omega
  · split
    · rename_i hi
      have := thereB_iff.1 hi
      unfold wroteK
      omega
    · omega
theorem stepB_length {bs : List Int} {f t g k size : Nat} (hk : g + k ≤ size) (hf : f + size ≤ bs.length) (ht : t + size ≤ bs.length) : (stepB bs f t g k).length = bs.length := by
  unfold stepB
  split
  · rfl
  · exact cpB_length (by omega) (by omega)
theorem actB_length {bs : List Int} {f t size g : Nat} {x : Act} (hg : g ≤ size) (hf : f + size ≤ bs.length) (ht : t + size ≤ bs.length) : (actB bs f t size g x).length = bs.length := by
  unfold actB
  split
  · exact stepB_length (size := size) (by unfold stepK; omega) hf ht
  · split
    · rename_i hi
      have := thereB_iff.1 hi
      have hwl : (wrB bs (f + x.at'.toNat) x.bs).length = bs.length := wrB_length (by omega)
      unfold wroteB
      split
      · exact hwl
      · rw [cpB_length (by rw [hwl]; unfold wroteK; omega) (by rw [hwl]; unfold wroteK; omega), hwl]
    · rfl
theorem actG_eq {M : Mv} {g : Nat} {x : Act} : actK M g x = actG M.size g x := rfl
abbrev acF (s g : Nat) (x : Act) (m : RM) : Value := .tuple #[.agg (rmL m).toArray, .int .i64 (actG s g x)]
def acQ (m : RM) (bs : List Int) (st : Int) (g : Nat) (A : Ar) (m' : RM) (w' : World) : Prop := m'.ra.bs = bs ∧ m'.ra.steps = st ∧ m'.f = m.f ∧ m'.t = m.t ∧ m'.size = m.size ∧ m'.gone = g ∧ RaOk w' m'.ra ∧ (∀ b off s, m'.ra.a = some ⟨b, off, s⟩ → ¬ foot A b)
theorem law_MoveActs (a : Option Addr) (cap : Nat) (l : List Int) (x y z : Int) (ca : Option Addr) (cc : Nat) (xs : List Act) (w : World) (hr : Rd .u8 w a l) (hb : InB l) (hx : -9223372036854775808 ≤ x ∧ x ≤ 9223372036854775807) (hy : -9223372036854775808 ≤ y ∧ y ≤ 9223372036854775807) (hz : -9223372036854775808 ≤ z ∧ z ≤ 9223372036854775807)
    (hrs : Rows actL 4 w ca xs) (hl : xs.length ≤ 9223372036854775807) (hxs : ∀ x ∈ xs, ActOk w x) : Does Try.prog 7 #[.slice a l.length cap, .agg #[.int .i64 x, .int .i64 y, .int .i64 z], .slice ca xs.length cc] w (Grow (.bool true) w) := by
  refine Does.enter Try.func7 rfl Try.ntmps7 rfl rfl ?_
  refine Goes.adv hTT 400 rfl ?_
  refine Goes.alloc hTT rfl ?_
  intro lb w1 e1 hlb hw1 hz1
  refine Goes.adv hTT 400 rfl ?_
  refine Goes.call rfl (law15_awake w1) ?_
  rintro _ w2 ⟨rfl, hw2⟩
  refine Goes.adv hTT 400 rfl ?_
  have hw02 := hw1.trans hw2
  refine Goes.fork hTT rfl rfl rfl (fun h0 => ?_) (fun h0 => ?_)
  · exact Goes.ret1 hTT rfl Try.func7 rfl rfl ⟨rfl, hw02⟩
  have hlen : l.length = 128 := by simp at h0; omega
  refine Goes.call rfl (ref15_Few ca cc xs w2 (hrs.chg hw02) (by omega)) ?_
  rintro _ w3 ⟨b0, rfl, hb0, rfl⟩
  refine Goes.adv hTT 400 rfl ?_
  refine Goes.fork hTT rfl rfl rfl (fun h1 => ?_) (fun h1 => ?_)
  · exact Goes.ret1 hTT rfl Try.func7 rfl rfl ⟨rfl, hw02⟩
  have hfew := hb0 (by simpa using h1)
  have hlb2 := hw2.heap' hlb
  refine Goes.call rfl (meter_New w2) ?_
  rintro _ w3 ⟨rfl, hm3, hw3, hz3⟩
  refine Goes.adv hTT 400 rfl ?_
  refine Goes.call rfl (arena_New (some w2.heap.size) 0 0 2 64 w3 (fun b hb => by cases hb; exact hm3) (by decide)) ?_
  rintro _ w4 ⟨A, rfl, hmb, ha1, ha2, ha3, hA4, hw4⟩
  refine Goes.adv hTT 400 rfl ?_
  have hw04 := (hw02.trans hw3).trans hw4
  have hfA : ∀ z, z < w.heap.size → foot A z → False := fun z hz h => by
    have := hw02.size
    have := hw3.size
    rcases h with h | h
    · omega
    · rw [hmb] at h; cases h; omega
  have hz0 : (zeros (2 * 64 : Int).toNat).length = 128 := rfl
  refine Goes.call rfl (arena_Write A _ 0 a cap l w4 hA4 (hr.chg hw04) hb (by simp only; omega)) ?_
  rintro _ w5 ⟨rfl, hA5, hs5⟩
  refine Goes.adv hTT 400 rfl ?_
  have hw05 : Chg None' w w5 := hw04.since hs5 hfA
  have hA5' : ArOk w5 A ⟨l, 128, 0⟩ := by
    have h := hA5
    simp only [wrB_full (show (zeros (2 * 64 : Int).toNat).length = l.length by rw [hz0, hlen])] at h
    have e : (ArV.charge ⟨zeros (2 * 64 : Int).toNat, 0, 0⟩ A l.length) = ⟨zeros (2 * 64 : Int).toNat, 128, 0⟩ := by unfold ArV.charge; rw [hmb]; simp only [hlen]; rfl
    rw [e] at h
    exact h
  have hlb5 := hs5.heap (hw4.heap' (hw3.heap' hlb2)) (fun h => by have := lt_of_heap hlb2; rcases h with h | h; have := hw3.size; omega; rw [hmb] at h; cases h; omega)
  refine Goes.call rfl (ref06_New 2 64 w5 (by decide)) ?_
  rintro _ w6 ⟨rg, rfl, hrg, hR6, hw6⟩
  refine Goes.adv hTT 400 rfl ?_
  refine Goes.alloc hTT rfl ?_
  intro xb w7 e7 hxb hw7 hz7
  refine Goes.adv hTT 400 rfl ?_
  refine Goes.store hTT rfl hxb rfl rfl ?_
  intro w8 hxb8 hs8 hz8
  refine Goes.adv hTT 400 rfl ?_
  have hw58 : Chg None' w5 w8 := (hw6.trans hw7).since hs8 (fun z hz h => by have := hw6.size; omega)
  refine Goes.loads hTT rfl hxb8 rfl rfl ?_
  have hR8 : RaOk w8 ⟨some ⟨rg, 0, none⟩, 128, zeros 128, 0⟩ := (hR6.grow hw7).keep hxb (by simp [cellsL]) hs8
  refine Goes.call rfl (ref06_Write ⟨some ⟨rg, 0, none⟩, 128, zeros 128, 0⟩ 0 a cap l w8 hR8 (by unfold StOk; simp) (by simp [zeros]) (hr.chg (hw05.trans hw58)) hb (by simp [zeros, hlen])) ?_
  rintro _ w9 ⟨r9, rfl, hb9, hst9, hR9, hw9, hn9⟩
  refine Goes.adv hTT 400 rfl ?_
  rw [wrB_full (by simp [zeros, hlen])] at hb9
  have hst9' : r9.steps = 128 := by rw [hst9, hlen]; rfl
  refine Goes.alloc hTT rfl ?_
  intro yb w10 e10 hyb hw10 hz10
  refine Goes.adv hTT 400 rfl ?_
  refine Goes.store hTT rfl hyb rfl rfl ?_
  intro w11 hyb11 hs11 hz11
  refine Goes.adv hTT 400 rfl ?_
  have hw911 : Chg None' w9 w11 := hw10.since hs11 (fun z hz h => by omega)
  have hw511 := (hw58.trans hw9).trans hw911
  have hw011 := hw05.trans hw511
  have hR11 : RaOk w11 r9 := (hR9.grow hw10).keep hyb (by simp [cellsL]) hs11
  have hA11 := hA5'.grow hw511
  have hlb11 := hw511.heap' hlb5
  have hrl : r9.bs.length = 128 := by rw [hb9, hlen]
  refine Goes.index hTT rfl (j := 0) (by omega) (by omega) (by first | rfl | omega | (simp; done) | (simp; omega)) rfl ?_
  refine Goes.loadb hTT rfl hlb11 rfl rfl ?_
  refine Goes.index hTT rfl (j := 1) (by omega) (by omega) (by first | rfl | omega | (simp; done) | (simp; omega)) rfl ?_
  refine Goes.loadb hTT rfl hlb11 rfl rfl ?_
  refine Goes.index hTT rfl (j := 2) (by omega) (by omega) (by first | rfl | omega | (simp; done) | (simp; omega)) rfl ?_
  refine Goes.loadb hTT rfl hlb11 rfl rfl ?_
  cases hm : mvMay 128 x y z with
  | false =>
    refine Goes.call rfl (move_New_no A ⟨l, 128, 0⟩ x y z w11 hA11 hx hy (by simp only; rw [hlen]; exact hm)) ?_
    rintro _ w12 ⟨rfl, hw12⟩
    refine Goes.adv hTT 400 rfl ?_
    refine Goes.loads hTT rfl (hw12.heap' hyb11) rfl rfl ?_
    have hlb12 := hw12.heap' hlb11
    refine Goes.index hTT rfl (j := 0) (by omega) (by omega) (by first | rfl | omega | (simp; done) | (simp; omega)) rfl ?_
    refine Goes.loadb hTT rfl hlb12 rfl rfl ?_
    refine Goes.index hTT rfl (j := 1) (by omega) (by omega) (by first | rfl | omega | (simp; done) | (simp; omega)) rfl ?_
    refine Goes.loadb hTT rfl hlb12 rfl rfl ?_
    refine Goes.index hTT rfl (j := 2) (by omega) (by omega) (by first | rfl | omega | (simp; done) | (simp; omega)) rfl ?_
    refine Goes.loadb hTT rfl hlb12 rfl rfl ?_
    refine Goes.call rfl (ref15_New_no r9 x y z w12 (hR11.grow hw12) (by rw [hrl]; exact hm)) ?_
    rintro _ w13 ⟨rfl, hw13⟩
    refine Goes.adv hTT 400 rfl ?_
    refine Goes.alloc hTT rfl ?_
    intro zb w14 e14 hzb hw14 hz14
    refine Goes.adv hTT 400 rfl ?_
    refine Goes.store hTT rfl hzb rfl rfl ?_
    intro w15 hzb15 hs15 hz15
    refine Goes.adv hTT 400 rfl ?_
    have hw015 : Chg None' w w15 := (((hw011.trans hw12).trans hw13).trans hw14).since hs15 (fun z hz h => by have := ((hw011.trans hw12).trans hw13).size; omega)
    refine Goes.no hTT rfl rfl rfl ?_
    refine Goes.yes hTT rfl rfl rfl ?_
    refine Goes.yes hTT rfl rfl rfl ?_
    refine Goes.yes hTT rfl rfl rfl ?_
    exact Goes.ret1 hTT rfl Try.func7 rfl rfl ⟨rfl, hw015⟩
  | true =>
    have hmi := mvMay_iff.1 hm
    obtain ⟨f', rfl⟩ := Int.eq_ofNat_of_zero_le (show 0 ≤ x by omega)
    obtain ⟨t', rfl⟩ := Int.eq_ofNat_of_zero_le (show 0 ≤ y by omega)
    obtain ⟨k, rfl⟩ := Int.eq_ofNat_of_zero_le (show 0 ≤ z by omega)
    refine Goes.call rfl (move_New A ⟨l, 128, 0⟩ f' t' k w11 hA11 (by simp only; rw [hlen]; exact hm)) ?_
    rintro _ w12 ⟨M, rfl, hMf, hMt, hMs, hM0, hM12, hw12⟩
    refine Goes.adv hTT 400 rfl ?_
    refine Goes.loads hTT rfl (hw12.heap' hyb11) rfl rfl ?_
    have hlb12 := hw12.heap' hlb11
    refine Goes.index hTT rfl (j := 0) (by omega) (by omega) (by first | rfl | omega | (simp; done) | (simp; omega)) rfl ?_
    refine Goes.loadb hTT rfl hlb12 rfl rfl ?_
    refine Goes.index hTT rfl (j := 1) (by omega) (by omega) (by first | rfl | omega | (simp; done) | (simp; omega)) rfl ?_
    refine Goes.loadb hTT rfl hlb12 rfl rfl ?_
    refine Goes.index hTT rfl (j := 2) (by omega) (by omega) (by first | rfl | omega | (simp; done) | (simp; omega)) rfl ?_
    refine Goes.loadb hTT rfl hlb12 rfl rfl ?_
    refine Goes.call rfl (ref15_New r9 f' t' k w12 (hR11.grow hw12) (by rw [hrl]; exact hm)) ?_
    rintro _ w13 ⟨rfl, hw13⟩
    refine Goes.adv hTT 400 rfl ?_
    refine Goes.alloc hTT rfl ?_
    intro zb w14 e14 hzb hw14 hz14
    refine Goes.adv hTT 400 rfl ?_
    refine Goes.store hTT rfl hzb rfl rfl ?_
    intro w15 hzb15 hs15 hz15
    refine Goes.adv hTT 400 rfl ?_
    have hw1215 : Chg None' w12 w15 := (hw13.trans hw14).since hs15 (fun z hz h => by have := hw13.size; omega)
    have hw015 : Chg None' w w15 := (hw011.trans hw12).trans hw1215
    have hM15 := hM12.grow hw1215
    have hR15 : RaOk w15 r9 := (((hR11.grow hw12).grow hw13).grow hw14).keep hzb (by simp [cellsL]) hs15
    have hlb15 := hw1215.heap' hlb12
    have hf : ∀ z, z < w.heap.size → mFt A M z → False := fun z hz h => by
      rcases h with h | h
      · exact hfA z hz h
      · have := hw011.size; omega
    have hlbf : ¬ mFt A M lb := fun h => by
      have h0 := lt_of_heap hlb2
      have := hw3.size
      rcases h with (h | h) | h
      · omega
      · rw [hmb] at h; cases h; omega
      · have := ((hw3.trans hw4).size); have := hs5.size; have := hw511.size; omega
    have hrf9 : ∀ b off s, r9.a = some ⟨b, off, s⟩ → ¬ foot A b := fun b off s e h => by
      obtain ⟨g, g1, g2⟩ := hn9
      rw [g1] at e; cases e
      have := hA5'.foot_lt _ h
      have := hw58.size
      omega
    refine Goes.no hTT rfl rfl rfl ?_
    refine Goes.no hTT rfl rfl rfl ?_
    rw [show ((f' : Nat) : Int) = ((M.f : Nat) : Int) from by rw [hMf], show ((k : Nat) : Int) = ((M.size : Nat) : Int) from by rw [hMs]] at hlb15
    refine Goes.loop (α := Nat) (fun i => [(2, false, .slice ca xs.length cc), (4, false, .pointer (some ⟨lb, 0, none⟩)), (7, false, .bool true), (8, false, .pointer (some ⟨w2.heap.size, 0, none⟩)), (9, false, .pointer (some ⟨A.ab, 0, none⟩)), (15, false, .pointer (some ⟨M.mv, 0, none⟩)), (17, false, .pointer (some ⟨zb, 0, none⟩)), (19, false, .int .i64 i)])
      (fun i w' => i ≤ xs.length ∧ ∃ (V : ArV) (g : Nat) (m : RM), MvOk w' A V M g ∧ RaOk w' m.ra ∧ m.ra.bs = V.bs ∧ m.ra.steps = V.total ∧ V.bs.length = 128 ∧ m.f = M.f ∧ m.t = M.t ∧ m.size = M.size ∧ m.gone = g ∧ 0 ≤ V.total ∧ V.total ≤ 128 + i * 256 ∧ (∀ b off s, m.ra.a = some ⟨b, off, s⟩ → ¬ foot A b) ∧
        w'.heap[zb]? = some (.cells (rmL m).toArray 58 (0, 0)) ∧ w'.heap[lb]? = some (.cells [.int .i64 M.f, .int .i64 t', .int .i64 M.size].toArray 53 (0, 0)) ∧ Chg None' w w') (fun i => xs.length - i) 0 ⟨rfl, rfl, rfl, rfl, rfl, rfl, rfl, rfl, trivial⟩
      ⟨by omega, ⟨l, 128, 0⟩, 0, ⟨r9, f', t', k, 0⟩, hM15, hR15, hb9, hst9', hlen, hMf.symm, hMt.symm, hMs.symm, rfl, by simp, by simp, hrf9, hzb15, hlb15, hw015⟩ ?_
    rintro i w16 ⟨hi, V, g, m, hM16, hR16, hmb', hms', hVN, hmf, hmt, hmz, hmg, ht0, hti, hmf0, hzb16, hlb16, hw016⟩ ih
    subst hmg
    have hzf : ¬ mFt A M zb := fun h => by
      rcases h with (h | h) | h
      · exact blk_ne hM16.ar.dat hzb16 (by decide) h.symm
      · exact blk_ne (hM16.ar.met _ h).1 hzb16 (by decide) rfl
      · exact blk_ne hM16.obj hzb16 (by decide) h.symm
    refine Goes.adv hTT 400 rfl ?_
    refine Goes.fork hTT rfl rfl rfl (fun hc => ?_) (fun hc => ?_)
    · have hlt : i < xs.length := by have := of_decide_eq_true hc; omega
      obtain ⟨ub, uoff, rfl, hcell⟩ := hrs.at hlt
      have hxok := hxs _ (List.getElem_mem hlt)
      have hcell' : ∀ {w'}, Chg None' w w' → ∀ j v, (actL xs[i])[j]? = some v → w'.cell? ⟨ub, uoff + i * 4 + j, none⟩ = some v := fun hc j v hv => below_cell hc.below (hcell j v hv)
      have hubf : ¬ mFt A M ub := fun h => hf ub (by have := hcell 0 _ rfl; exact World.block_lt_of_cell? w _ this) h
      refine Goes.drawn (q := 12) (mFt A M) hTT mixed (by kernel_rfl) rfl ?_
      intro hB
      refine Drawn.index hTT hB rfl (j := 0) (by omega) (by omega) (by first | rfl | omega | (simp; done) | (simp; omega)) rfl ?_
      refine Drawn.index hTT hB rfl (j := 2) (by omega) (by omega) (by first | rfl | omega | (simp; done) | (simp; omega)) rfl ?_
      refine Drawn.index hTT hB rfl (j := (i * 4)) (by omega) (by omega) (by first | rfl | omega | (simp; done) | (simp; omega)) rfl ?_
      refine Drawn.loadb hTT hB rfl hlb16 (by first | exact fun h => h | (intro h; omega) | assumption) rfl rfl ?_
      refine Drawn.loadb hTT hB rfl hlb16 (by first | exact fun h => h | (intro h; omega) | assumption) rfl rfl ?_
      refine Drawn.loadC hTT hB (actL xs[i]) rfl rfl (hcell' hw016) (by first | exact fun h => h | (intro h; omega) | assumption) rfl ?_
      refine Drawn.turn1 hB rfl ?_
      intro w17 hw17
      have hM17 := hM16.grow hw17
      have hdo := law15_do A V M m.gone xs[i] w17 hM17 (hxok.chg (hw016.trans hw17))
      refine Turn.call rfl hdo.fn (Post := fun v w2 => v = .int .i64 (actK M m.gone xs[i]) ∧ MvOk w2 A (actV A V M m.gone xs[i]) M (m.gone + actK M m.gone xs[i]) ∧ Chg (mFt A M) w17 w2) (fun h0 => hdo.mono fun v w2 hp => ⟨h0.trans hp.2.2, hp⟩) ?_
      rintro _ w18a _ ⟨rfl, hM18a, hs18a⟩
      refine Drawn.adv hTT hB rfl ?_
      refine Drawn.nil hB ?_
      intro w18 hw18
      refine Goes.adv hTT 400 rfl ?_
      have hM18 := hM18a.grow hw18
      have hs18 : Chg (mFt A M) w17 w18 := hs18a.trans (hw18.mono fun _ _ h => h.elim)
      have hcl := actC_le (size := M.size) (g := m.gone) (x := xs[i]) hM16.gone
      have hMsz : M.size ≤ 128 := by have := hM16.t; omega
      obtain ⟨V', hV'⟩ : ∃ V', V' = actV A V M m.gone xs[i] := ⟨_, rfl⟩
      have hVb : V'.bs = actB V.bs M.f M.t M.size m.gone xs[i] := by rw [hV']; exact actV_bs
      have hVt : V'.total = V.total + actC M.size m.gone xs[i] := by rw [hV']; exact actV_total hmb (by omega)
      rw [← hV', actG_eq] at hM18
      rw [actG_eq]
      have hw018 : Chg None' w w18 := (hw016.trans hw17).since hs18 hf
      have hs1618 : Chg (mFt A M) w16 w18 := (hw17.mono fun _ _ h => h.elim).trans hs18
      have hzb18 := hs1618.heap hzb16 hzf
      have hlb18 := hs1618.heap hlb16 hlbf
      have hmfM : ∀ b off s, m.ra.a = some ⟨b, off, s⟩ → ¬ mFt A M b := fun b off s e h => by
        rcases h with h | h
        · exact hmf0 b off s e h
        · subst h
          obtain ⟨b', off', e', hcl'⟩ := hR16.rd 0 (by rw [hmb']; omega)
          rw [e] at e'; cases e'
          rw [cell_of hM16.obj] at hcl'
          simp [mvCells] at hcl'
          rcases off with _ | _ | _ | _ | _ | off <;> simp at hcl'
      have hR18 := hR16.far hmfM hs1618
      have hst : StOk m.ra.steps := by unfold StOk; rw [hms']; omega
      have hlt18 := lt_of_heap hzb18
      have hd : ∀ w', Chg None' w18 w' → Does Try.prog 30 #[.agg (rmL m).toArray, .agg (actL xs[i]).toArray] w' (fun v w2 => Chg None' w' w2 ∧ ∃ m', v = acF M.size m.gone xs[i] m' ∧ acQ m V'.bs V'.total (m.gone + actG M.size m.gone xs[i]) A m' w2) := fun w' hw' =>
        (ref15_Do m xs[i] w' ⟨hR18.grow hw', by rw [hmz]; exact hM16.pos, by rw [hmz]; exact hM16.gone, by rw [hmf, hmz, hmb']; exact hM16.f, by rw [hmt, hmz, hmb']; exact hM16.t⟩ hst (by rw [hms']; omega) (hxok.chg (hw018.trans hw'))).mono fun v w2 ⟨m', h1, h2, h3, h4, h5, h6, h7, h8, h9, h10⟩ => by
          rw [hmz] at h1 h2 h3 h7
          rw [hmf, hmt, hmb', ← hVb] at h2
          rw [hms', ← hVt] at h3
          exact ⟨h9, m', h1, h2, h3, h4, h5, h6, h7, h8, noFoot hM16.ar (Nat.le_trans hs1618.size hw'.size) hmf0 h10⟩
      refine Goes.drawn (q := 12) None' hTT mixed (by kernel_rfl) rfl ?_
      intro hB
      refine Drawn.loads hTT hB rfl hzb18 (by first | exact fun h => h | (intro h; omega) | assumption) rfl rfl ?_
      refine Drawn.index hTT hB rfl (j := (i * 4)) (by omega) (by omega) (by first | rfl | omega | (simp; done) | (simp; omega)) rfl ?_
      refine Drawn.loadC hTT hB (actL xs[i]) rfl rfl (hcell' hw018) (by first | exact fun h => h | (intro h; omega) | assumption) rfl ?_
      refine Drawn.callAlloc (acF M.size m.gone xs[i]) (acQ m V'.bs V'.total (m.gone + actG M.size m.gone xs[i]) A) hTT hB rfl rfl rfl (fun _ => rfl) rfl (fun _ => rfl) (fun _ => rfl) rfl rfl (fun _ _ => rfl) rfl (fun _ _ => rfl) (hd) (fun x w2 w3 ⟨h1, h2, h3, h4, h5, h6, h7, h8⟩ hc => ⟨h1, h2, h3, h4, h5, h6, h7.grow hc, h8⟩) (fun _ h => h.elim) ?_
      rintro nb m2 w19 hnb hzn hw19 ⟨q1, q2, q3, q4, q5, q6, hR19, hrf19⟩
      refine Drawn.turn1 hB rfl ?_
      intro w20 hw20
      refine Turn.store hTT hB rfl (hw20.heap' hzn) (by first | (intro h; exact rfl) | (intro h; omega)) rfl rfl rfl ?_
      intro w21 hnb21 hs21 hz21
      refine Drawn.nil hB ?_
      intro w22 hw22
      refine Goes.adv hTT 400 rfl ?_
      have hw1821 : Chg None' w18 w21 := (hw19.trans hw20).since hs21 (fun x hx h => by omega)
      have hw1822 := hw1821.trans hw22
      refine Goes.loads hTT rfl (hw22.heap' hnb21) rfl rfl ?_
      refine Goes.store hTT rfl (hw1822.heap' hzb18) rfl rfl ?_
      intro w23 hzb23 hs23 hz23
      refine Goes.adv hTT 400 rfl ?_
      have hw023 : Chg None' w w23 := (hw018.trans hw1822).since hs23 (fun x hx h => by have := (hw011.trans hw12).trans hw13; have := this.size; omega)
      have hM22 := hM18.grow hw1822
      have hM23 : MvOk w23 A V' M (m.gone + actG M.size m.gone xs[i]) := hM22.far hs23 (fun b hb e => by
        have hx22 := hw1822.heap' hzb18
        rcases hb with h | h | h | h | h
        · exact blk_ne hM22.ar.obj hx22 (by decide) (by omega)
        · exact blk_ne hM22.ar.dat hx22 (by decide) (by omega)
        · exact blk_ne hM22.ar.cap hx22 (by decide) (by omega)
        · exact blk_ne (hM22.ar.met _ h).1 hx22 (by decide) (by omega)
        · exact blk_ne hM22.obj hx22 (by decide) (by omega))
      have hR21 : RaOk w21 m2.ra := RaOk.keep (hR19.grow hw20) (hw20.heap' hzn) (by simp [cellsL]) hs21
      have hR23 : RaOk w23 m2.ra := RaOk.keep (hR21.grow hw22) (hw1822.heap' hzb18) (by simp [rmL]) hs23
      have hlb23 := hs23.heap (hw1822.heap' hlb18) (fun e => blk_ne hlb18 hzb18 (by decide) (by omega))
      refine Goes.drawn (q := 21) None' hTT mixed (by kernel_rfl) rfl ?_
      intro hB
      refine Drawn.no hTT hB rfl (bne_self_eq_false _) rfl ?_
      refine Drawn.call hTT hB rfl (fun w' hw' => move_Left A V' M _ w' (hM23.grow hw')) rfl ?_
      refine Drawn.loadb hTT hB rfl hzb23 (by first | exact fun h => h | (intro h; omega) | assumption) rfl rfl ?_
      refine Drawn.loadb hTT hB rfl hzb23 (by first | exact fun h => h | (intro h; omega) | assumption) rfl rfl ?_
      refine Drawn.arith hTT hB rfl (w64 (by have := hM23.gone; have := hM23.t; rw [q5, q6, hmz]; omega)) rfl ?_
      refine Drawn.no hTT hB rfl (by rw [q5, q6, hmz]; have := hM23.gone; simp; omega) rfl ?_
      refine Drawn.call hTT hB rfl (fun w' hw' => (meter_Total w2.heap.size _ _ w' ((hM23.ar.grow hw').met _ hmb)).grow) rfl ?_
      refine Drawn.loadb hTT hB rfl hzb23 (by first | exact fun h => h | (intro h; omega) | assumption) rfl rfl ?_
      refine Drawn.nil hB ?_
      intro w24 hw24
      refine Goes.adv hTT 400 rfl ?_
      refine Goes.no hTT rfl (by rw [q2]; exact bne_self_eq_false _) rfl ?_
      refine Goes.arith hTT rfl (w64 (by omega)) rfl ?_
      exact ih (i + 1) _ _ ⟨by omega, V', _, m2, hM23.grow hw24, hR23.grow hw24, q1, q2, by rw [hVb, actB_length hM16.gone hM16.f hM16.t, hVN], q3.trans hmf, q4.trans hmt, q5.trans hmz, q6, by omega, by omega, hrf19, hw24.heap' hzb23, hw24.heap' hlb23, hw023.trans hw24⟩ (by omega) ⟨rfl, rfl, rfl, rfl, rfl, rfl, rfl, rfl, trivial⟩
    · refine Goes.call rfl (arena_Read A V 0 128 w16 hM16.ar (by omega)) ?_
      rintro _ w17 ⟨v17, rfl, ho17, hA17, hs17⟩
      refine Goes.adv hTT 400 rfl ?_
      have hw017 : Chg None' w w17 := hw016.since hs17 (fun x hx h => hfA x hx (.inr h))
      have hall : sub V.bs 0 128 = V.bs := by unfold Go.Proofs.Ytommemplakcaaaa.sub; rw [List.drop_zero, ← hVN]; exact List.take_length
      rw [hall] at ho17
      obtain ⟨g17, c17, u17, rfl, _, _, _, _, hr17⟩ := ho17.rd
      have hR17 := hR16.far (S := mFoot A) (fun b off s e h => hmf0 b off s e (.inr h)) hs17
      have hzb17 := hs17.heap hzb16 (fun h => hzf (.inl (.inr h)))
      refine Goes.yes hTT rfl rfl rfl ?_
      refine Goes.bstrN hTT (V.bs) rfl rfl (hr17) rfl ?_
      refine Goes.loadb hTT rfl hzb17 rfl rfl ?_
      refine Goes.bstrN hTT (m.ra.bs) rfl rfl (hR17.rd) rfl ?_
      rw [hmb']
      refine Goes.streq hTT rfl (rfl) rfl ?_
      exact Goes.ret1 hTT rfl Try.func7 rfl rfl ⟨rfl, hw017⟩
end Go.Proofs.Ytommemplakcaaaa
