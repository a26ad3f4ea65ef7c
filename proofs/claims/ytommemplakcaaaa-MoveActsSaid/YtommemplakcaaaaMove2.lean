/-
  Layer 15: a new move; the statements' own small functions.
-/
import Derived.Test.YtommemplakcaaaaMove
namespace Go.Proofs.Ytommemplakcaaaa
open Go.RowKit

theorem shiftA_zero {g cap k : Nat} : shiftA (some ⟨g, 0, none⟩) cap 0 k = some ⟨g, 0, none⟩ := by
  unfold shiftA
  split
  · rfl
  · simp [Addr.add]
theorem inB_iff {N : Nat} {size x : Int} : inB N size x = true ↔ 0 ≤ x ∧ size ≤ N ∧ x ≤ N - size := by unfold inB; simp [and_assoc]
theorem move_New (A : Ar) (V : ArV) (f t size : Nat) (w : World) (hA : ArOk w A V) (hm : mvMay V.bs.length f t size = true) : Does Try.prog 22 #[.pointer (some ⟨A.ab, 0, none⟩), .int .i64 f, .int .i64 t, .int .i64 size] w
    (fun v w' => ∃ M : Mv, v = .tuple #[.pointer (some ⟨M.mv, 0, none⟩), .int .i64 0] ∧ M.f = f ∧ M.t = t ∧ M.size = size ∧ w.heap.size ≤ M.mv ∧ MvOk w' A V M 0 ∧ Chg None' w w') := by
  have hl := hA.len
  have g := mvMay_iff.1 hm
  have hif : inB V.bs.length size f = true := inB_iff.2 (by omega)
  have hit : inB V.bs.length size t = true := inB_iff.2 (by omega)
  refine Does.enter Try.func22 rfl Try.ntmps22 rfl rfl ?_
  refine Goes.adv hTT 400 rfl ?_
  refine Goes.alloc hTT rfl ?_
  intro pb w1 e1 hpb hw1 hz1
  refine Goes.adv hTT 400 rfl ?_
  refine Goes.alloc hTT rfl ?_
  intro sb w2 e2 hsb hw2 hz2
  refine Goes.adv hTT 400 rfl ?_
  have hA2 := (hA.grow hw1).grow hw2
  have hpb2 := hw2.heap' hpb
  refine Goes.loadb hTT rfl hpb2 rfl rfl ?_
  refine Goes.loadb hTT rfl hsb rfl rfl ?_
  refine Goes.no hTT rfl (decide_eq_false (by omega)) rfl ?_
  refine Goes.call rfl (move_in A V f size sb pb w2 hA2 hsb hpb2 (by omega)) ?_
  rintro _ w3 ⟨rfl, hw3⟩
  refine Goes.adv hTT 400 rfl ?_
  refine Goes.no hTT rfl (by rw [hif]; rfl) rfl ?_
  refine Goes.call rfl (move_in A V t size sb pb w3 (hA2.grow hw3) (hw3.heap' hsb) (hw3.heap' hpb2) (by omega)) ?_
  rintro _ w4 ⟨rfl, hw4⟩
  refine Goes.adv hTT 400 rfl ?_
  refine Goes.no hTT rfl (by rw [hit]; rfl) rfl ?_
  refine Goes.arith hTT rfl (w64 (by split <;> split <;> omega)) rfl ?_
  have hsb4 := hw4.heap' (hw3.heap' hsb)
  have hpb4 := hw4.heap' (hw3.heap' hpb2)
  refine Goes.loadb hTT rfl hsb4 rfl rfl ?_
  refine Goes.no hTT rfl (decide_eq_false (by split <;> split <;> omega)) rfl ?_
  refine Goes.loadb hTT rfl hpb4 rfl rfl ?_
  refine Goes.loadb hTT rfl hsb4 rfl rfl ?_
  refine Goes.build hTT rfl rfl ?_
  refine Goes.alloc hTT rfl ?_
  intro mv w5 e5 hmv hw5 hz5
  refine Goes.adv hTT 400 rfl ?_
  have hc : Chg None' w w5 := (((hw1.trans hw2).trans hw3).trans hw4).trans hw5
  exact Goes.ret2 hTT rfl Try.func22 rfl rfl rfl ⟨⟨mv, f, t, size⟩, rfl, rfl, rfl, rfl, by have := ((hw1.trans hw2).trans hw3).trans hw4; have := this.size; simp only; omega, ⟨hA.grow hc, hmv, by simp only; omega, Nat.zero_le _, by simp only; omega, by simp only; omega⟩, hc⟩
theorem move_New_no (A : Ar) (V : ArV) (f t size : Int) (w : World) (hA : ArOk w A V) (hf : -9223372036854775808 ≤ f ∧ f ≤ 9223372036854775807) (ht : -9223372036854775808 ≤ t ∧ t ≤ 9223372036854775807) (hm : mvMay V.bs.length f t size = false) : Does Try.prog 22 #[.pointer (some ⟨A.ab, 0, none⟩), .int .i64 f, .int .i64 t, .int .i64 size] w
    (Grow (.tuple #[.pointer none, .int .i64 1]) w) := by
  have hl := hA.len
  have g : ¬ (1 ≤ size ∧ (0 ≤ f ∧ size ≤ V.bs.length ∧ f ≤ V.bs.length - size) ∧ (0 ≤ t ∧ t ≤ V.bs.length - size) ∧ (f + size ≤ t ∨ t + size ≤ f)) := fun hh => by rw [mvMay_iff.2 hh] at hm; cases hm
  refine Does.enter Try.func22 rfl Try.ntmps22 rfl rfl ?_
  refine Goes.adv hTT 400 rfl ?_
  refine Goes.alloc hTT rfl ?_
  intro pb w1 e1 hpb hw1 hz1
  refine Goes.adv hTT 400 rfl ?_
  refine Goes.alloc hTT rfl ?_
  intro sb w2 e2 hsb hw2 hz2
  refine Goes.adv hTT 400 rfl ?_
  have hA2 := (hA.grow hw1).grow hw2
  have hpb2 := hw2.heap' hpb
  have hc2 := hw1.trans hw2
  refine Goes.loadb hTT rfl hpb2 rfl rfl ?_
  refine Goes.loadb hTT rfl hsb rfl rfl ?_
  refine Goes.fork hTT rfl rfl rfl (fun h1 => ?_) (fun h1 => ?_)
  · exact Goes.ret2 hTT rfl Try.func22 rfl rfl rfl ⟨rfl, hc2⟩
  have g1 := of_decide_eq_false h1
  refine Goes.call rfl (move_in A V f size sb pb w2 hA2 hsb hpb2 (by omega)) ?_
  rintro _ w3 ⟨rfl, hw3⟩
  refine Goes.adv hTT 400 rfl ?_
  refine Goes.fork hTT rfl rfl rfl (fun h2 => ?_) (fun h2 => ?_)
  · exact Goes.ret2 hTT rfl Try.func22 rfl rfl rfl ⟨rfl, hc2.trans hw3⟩
  have g2 := inB_iff.1 (show inB V.bs.length size f = true by simpa using h2)
  refine Goes.call rfl (move_in A V t size sb pb w3 (hA2.grow hw3) (hw3.heap' hsb) (hw3.heap' hpb2) (by omega)) ?_
  rintro _ w4 ⟨rfl, hw4⟩
  refine Goes.adv hTT 400 rfl ?_
  refine Goes.fork hTT rfl rfl rfl (fun h3 => ?_) (fun h3 => ?_)
  · exact Goes.ret2 hTT rfl Try.func22 rfl rfl rfl ⟨rfl, (hc2.trans hw3).trans hw4⟩
  have g3 := inB_iff.1 (show inB V.bs.length size t = true by simpa using h3)
  refine Goes.arith hTT rfl (w64 (by split <;> split <;> omega)) rfl ?_
  have hsb4 := hw4.heap' (hw3.heap' hsb)
  refine Goes.loadb hTT rfl hsb4 rfl rfl ?_
  refine Goes.yes hTT rfl (decide_eq_true (by split <;> split <;> omega)) rfl ?_
  exact Goes.ret2 hTT rfl Try.func22 rfl rfl rfl ⟨rfl, (hc2.trans hw3).trans hw4⟩
theorem move_New_nil (f t size : Int) (w : World) : Does Try.prog 22 #[.pointer none, .int .i64 f, .int .i64 t, .int .i64 size] w (Grow (.tuple #[.pointer none, .int .i64 1]) w) := by
  refine Does.enter Try.func22 rfl Try.ntmps22 rfl rfl ?_
  refine Goes.adv hTT 400 rfl ?_
  refine Goes.alloc hTT rfl ?_
  intro pb w1 e1 hpb hw1 hz1
  refine Goes.adv hTT 400 rfl ?_
  refine Goes.alloc hTT rfl ?_
  intro sb w2 e2 hsb hw2 hz2
  refine Goes.adv hTT 400 rfl ?_
  refine Goes.loadb hTT rfl (hw2.heap' hpb) rfl rfl ?_
  exact Goes.ret2 hTT rfl Try.func22 rfl rfl rfl ⟨rfl, hw1.trans hw2⟩
theorem law15_awake (w : World) : Does Try.prog 20 #[] w (Grow (.bool true) w) := by
  refine Does.enter Try.func20 rfl Try.ntmps20 rfl rfl ?_
  refine Goes.adv hTT 400 rfl ?_
  refine Goes.call rfl (arena_New none 0 0 1 64 w (fun b hb => by cases hb) (by decide)) ?_
  rintro _ w1 ⟨A, rfl, hmb, ha1, ha2, ha3, hA1, hw1⟩
  refine Goes.adv hTT 400 rfl ?_
  have hf := foot_new (w := w) (A := A) (by omega) (fun b hb => by rw [hmb] at hb; cases hb)
  refine Goes.buildSlice hTT rfl ?_
  intro b2 w2 e2 hb2 hw2 hz2
  refine Goes.adv hTT 400 rfl ?_
  refine Goes.mark hTT rfl hb2 ?_
  intro w3 fz3 hb3 hs3 hz3
  refine Goes.adv hTT 400 rfl ?_
  have hA2 := hA1.grow hw2
  have hA3 := hA2.chg hs3 (fun b hb e => by
    have h1 := lt_of_heap hA1.obj
    have h2 := lt_of_heap hA1.dat
    have h3 := lt_of_heap hA1.cap
    rcases hb with h | h | h | h
    · omega
    · omega
    · omega
    · rw [hmb] at h; cases h)
  have hc3 : Chg None' w w3 := (hw1.trans hw2).since hs3 (fun x hx h => by have := hw1.size; omega)
  have hz : (zeros (1 * 64 : Int).toNat).length = 64 := rfl
  refine Goes.call rfl (arena_Write A _ 0 (some ⟨b2, 0, none⟩) 10 [97, 98, 99, 100, 101, 102, 103, 104, 105, 106] w3 hA3 (RdU.of hb3 rfl) (by unfold InB; decide) (by decide)) ?_
  rintro _ w4 ⟨rfl, hA4, hs4⟩
  refine Goes.adv hTT 400 rfl ?_
  rw [ArV.charge_none hmb] at hA4
  have hA4' : ArOk w4 A ⟨wrB (zeros 64) 0 [97, 98, 99, 100, 101, 102, 103, 104, 105, 106], 0, 0⟩ := hA4
  have hc4 : Chg None' w w4 := hc3.since hs4 (fun x hx h => hf x hx h)
  refine Goes.call rfl (move_New A _ 0 20 10 w4 hA4' (by decide)) ?_
  rintro _ w5 ⟨M, rfl, hMf, hMt, hMs, hM0, hM5, hw5⟩
  refine Goes.adv hTT 400 rfl ?_
  have hc5 := hc4.trans hw5
  have hff : ∀ x, x < w.heap.size → mFt A M x → False := fun x hx h => by
    rcases h with h | h
    · exact hf x hx h
    · have := hc4.size; omega
  obtain ⟨mv, mf, mt, ms⟩ := M
  simp only at hMf hMt hMs hM0
  subst hMf hMt hMs
  refine Goes.call rfl (move_Step A ⟨wrB (zeros 64) 0 [97, 98, 99, 100, 101, 102, 103, 104, 105, 106], 0, 0⟩ ⟨mv, 0, 20, 10⟩ 0 4 w5 hM5) ?_
  rintro _ w6 ⟨rfl, hM6, hs6⟩
  refine Goes.adv hTT 400 rfl ?_
  have hv6 : stepV A ⟨wrB (zeros 64) 0 [97, 98, 99, 100, 101, 102, 103, 104, 105, 106], 0, 0⟩ ⟨mv, 0, 20, 10⟩ 0 (stepK 4 (10 - 0)) = ⟨cpB (wrB (zeros 64) 0 [97, 98, 99, 100, 101, 102, 103, 104, 105, 106]) 20 0 4, 0, 0⟩ := by
    unfold stepV
    rw [if_neg (by decide), ArV.charge_none hmb]
    rfl
  have hM6' : MvOk w6 A ⟨cpB (wrB (zeros 64) 0 [97, 98, 99, 100, 101, 102, 103, 104, 105, 106]) 20 0 4, 0, 0⟩ ⟨mv, 0, 20, 10⟩ 4 := by rw [← hv6]; exact hM6
  have hc6 : Chg None' w w6 := hc5.since hs6 (fun x hx h => hff x hx h)
  refine Goes.buildSlice hTT rfl ?_
  intro b7 w7 e7 hb7 hw7 hz7
  refine Goes.adv hTT 400 rfl ?_
  refine Goes.mark hTT rfl hb7 ?_
  intro w8 fz8 hb8 hs8 hz8
  refine Goes.adv hTT 400 rfl ?_
  have hM7 := hM6'.grow hw7
  have hM8 : MvOk w8 A _ ⟨mv, 0, 20, 10⟩ 4 := hM7.far hs8 (fun x hx e => by have := hM6'.lt x hx; omega)
  have hc8 : Chg None' w w8 := (hc6.trans hw7).since hs8 (fun x hx h => by have := hc6.size; omega)
  refine Goes.call rfl (arena_Write A _ 2 (some ⟨b7, 0, none⟩) 1 [88] w8 hM8.ar (RdU.of hb8 rfl) (by unfold InB; decide) (by decide)) ?_
  rintro _ w9 ⟨rfl, hA9, hs9⟩
  refine Goes.adv hTT 400 rfl ?_
  rw [ArV.charge_none hmb] at hA9
  have hM9 : MvOk w9 A ⟨wrB (cpB (wrB (zeros 64) 0 [97, 98, 99, 100, 101, 102, 103, 104, 105, 106]) 20 0 4) 2 [88], 0, 0⟩ ⟨mv, 0, 20, 10⟩ 4 := hM8.laid hA9 hs9 (by decide)
  have hc9 : Chg None' w w9 := hc8.since hs9 (fun x hx h => hf x hx h)
  refine Goes.call rfl (move_Wrote A _ ⟨mv, 0, 20, 10⟩ 4 2 1 w9 hM9 (by show 2 + 1 ≤ 10; decide)) ?_
  rintro _ w10 ⟨rfl, hM10, hs10⟩
  refine Goes.adv hTT 400 rfl ?_
  have hc10 : Chg None' w w10 := hc9.since hs10 (fun x hx h => hf x hx h)
  have hv10 : wroteV A ⟨wrB (cpB (wrB (zeros 64) 0 [97, 98, 99, 100, 101, 102, 103, 104, 105, 106]) 20 0 4) 2 [88], 0, 0⟩ ⟨mv, 0, 20, 10⟩ 4 2 1 = ⟨cpB (wrB (cpB (wrB (zeros 64) 0 [97, 98, 99, 100, 101, 102, 103, 104, 105, 106]) 20 0 4) 2 [88]) 22 2 1, 0, 0⟩ := by
    unfold wroteV
    rw [if_neg (by decide), ArV.charge_none hmb]
    rfl
  rw [hv10] at hM10
  obtain ⟨bs, hbs⟩ : ∃ bs, bs = cpB (wrB (cpB (wrB (zeros 64) 0 [97, 98, 99, 100, 101, 102, 103, 104, 105, 106]) 20 0 4) 2 [88]) 22 2 1 := ⟨_, rfl⟩
  rw [← hbs] at hM10
  have hbl : bs.length = 64 := by rw [hbs]; decide
  refine Goes.call rfl (arena_Read A _ 20 10 w10 hM10.ar (by simp only; omega)) ?_
  rintro _ w11 ⟨v11, rfl, ho11, hA11, hs11⟩
  refine Goes.adv hTT 400 rfl ?_
  have hc11 : Chg None' w w11 := hc10.since hs11 (fun x hx h => hf x hx (.inr h))
  rw [ArV.charge_none hmb] at hA11
  have hsub : sub bs 20 10 = [97, 98, 88, 100, 0, 0, 0, 0, 0, 0] := by rw [hbs]; decide
  simp only [hsub] at ho11
  obtain ⟨g, cap, cur, rfl, hg1, hg2, hg3, hg4, hr11⟩ := ho11.rd
  have hM11 : MvOk w11 A ⟨bs, 0, 0⟩ ⟨mv, 0, 20, 10⟩ 4 := hM10.laid hA11 (hs11.mono fun b _ hb => .inr hb) rfl
  refine Goes.call rfl (move_New_no A ⟨bs, 0, 0⟩ 0 9 10 w11 hA11 (by omega) (by omega) (by rw [hbs]; decide)) ?_
  rintro _ w12 ⟨rfl, hw12⟩
  refine Goes.adv hTT 400 rfl ?_
  have hM12 := hM11.grow hw12
  have hr12 := hr11.chg hw12
  refine Goes.yes hTT rfl rfl rfl ?_
  refine Goes.yes hTT rfl (by show (((stepK 4 (10 - 0) : Nat) : Int) == 4) = true; decide) rfl ?_
  refine Goes.yes hTT rfl rfl rfl ?_
  refine Goes.call rfl (move_Left A _ _ 4 w12 hM12) ?_
  rintro _ w13 ⟨rfl, hw13⟩
  refine Goes.adv hTT 400 rfl ?_
  refine Goes.yes hTT rfl (by show (((10 - 4 : Nat) : Int) == 6) = true; decide) rfl ?_
  have hcap : 10 ≤ cap := hg3
  have h10 : ([97, 98, 88, 100, 0, 0, 0, 0, 0, 0] : List Int).length = 10 := rfl
  have hr13 := hr12.chg hw13
  have hM13 := hM12.grow hw13
  refine Goes.slice hTT rfl (l := 0) (h := 4) (by first | rfl | omega | simp [loV]) (by first | rfl | omega | simp [hiV]) (by omega) (by omega) rfl ?_
  rw [shiftA_zero]
  have hr4 : Rd .u8 w13 (some ⟨g, 0, none⟩) [97, 98, 88, 100] := by
    intro i hi
    have hi' : i < 4 := hi
    obtain ⟨b, off, e, hc⟩ := hr13 i (by show i < 10; omega)
    refine ⟨b, off, e, ?_⟩
    rw [hc]
    have : i = 0 ∨ i = 1 ∨ i = 2 ∨ i = 3 := by omega
    rcases this with rfl | rfl | rfl | rfl <;> rfl
  refine Goes.bstr hTT [97, 98, 88, 100] rfl rfl hr4 rfl ?_
  refine Goes.streq hTT rfl rfl rfl ?_
  obtain ⟨b5, off5, e5, hc5'⟩ := hr13.at (by show 0 < 10; decide)
  cases e5
  refine Goes.index hTT rfl (j := 4) (by omega) (by omega) (by first | rfl | omega | (simp; done) | (simp; omega)) rfl ?_
  refine Goes.load hTT rfl (hc5' 4 (by show 4 < 10; decide)) rfl ?_
  refine Goes.yes hTT rfl rfl rfl ?_
  refine Goes.yes hTT rfl rfl rfl ?_
  refine Goes.call rfl (move_Wrote_no A _ _ 4 9 2 w13 hM13 (by show ¬ ((0 : Int) ≤ 9 ∧ (0 : Int) ≤ 2 ∧ (2 : Int) ≤ ((10 : Nat) : Int) ∧ (9 : Int) ≤ ((10 : Nat) : Int) - 2); decide)) ?_
  rintro _ _ ⟨rfl, rfl⟩
  refine Goes.adv hTT 400 rfl ?_
  exact Goes.ret1 hTT rfl Try.func20 rfl rfl ⟨rfl, (hc11.trans hw12).trans hw13⟩
theorem law_MoveNobody (n : Int) (w : World) : Does Try.prog 6 #[.int .i64 n] w (Grow (.bool true) w) := by
  refine Does.enter Try.func6 rfl Try.ntmps6 rfl rfl ?_
  refine Goes.adv hTT 400 rfl ?_
  refine Goes.call rfl (law15_awake w) ?_
  rintro _ w1 ⟨rfl, hw1⟩
  refine Goes.adv hTT 400 rfl ?_
  refine Goes.call rfl (move_New_nil 0 64 8 w1) ?_
  rintro _ w2 ⟨rfl, hw2⟩
  refine Goes.adv hTT 400 rfl ?_
  refine Goes.yes hTT rfl rfl rfl ?_
  refine Goes.yes hTT rfl rfl rfl ?_
  refine Goes.yes hTT rfl rfl rfl ?_
  refine Goes.call rfl (move_Step_nil n w2) ?_
  rintro _ _ ⟨rfl, rfl⟩
  refine Goes.adv hTT 400 rfl ?_
  refine Goes.yes hTT rfl rfl rfl ?_
  refine Goes.call rfl (move_Left_nil w2) ?_
  rintro _ _ ⟨rfl, rfl⟩
  refine Goes.adv hTT 400 rfl ?_
  refine Goes.yes hTT rfl rfl rfl ?_
  refine Goes.call rfl (move_Wrote_nil 0 0 w2) ?_
  rintro _ _ ⟨rfl, rfl⟩
  refine Goes.adv hTT 400 rfl ?_
  exact Goes.ret1 hTT rfl Try.func6 rfl rfl ⟨rfl, hw1.trans hw2⟩
end Go.Proofs.Ytommemplakcaaaa
