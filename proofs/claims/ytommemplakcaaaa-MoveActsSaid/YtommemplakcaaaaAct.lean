/-
  Layer 15: steps, and writes that are told.
-/
import Derived.Test.YtommemplakcaaaaLaws15
import Derived.Test.YtommemplakcaaaaLaws6d
namespace Go.Proofs.Ytommemplakcaaaa
open Go.RowKit

structure Act where
  step : Bool
  at' : Int
  n : Int
  a : Option Addr
  cap : Nat
  bs : List Int
def actL (x : Act) : List Value := [.bool x.step, .int .i64 x.at', .int .i64 x.n, .slice x.a x.bs.length x.cap]
structure ActOk (w : World) (x : Act) : Prop where
  rd : Rd .u8 w x.a x.bs
  rng : InB x.bs
  len : x.bs.length ≤ 9223372036854775807
theorem ActOk.chg {w w' : World} {x : Act} (h : ActOk w x) (hc : Chg None' w w') : ActOk w' x := ⟨h.rd.chg hc, h.rng, h.len⟩
/-- May an act's bytes be laid in a move's? -/
def actIn (size : Nat) (x : Act) : Bool := thereB size x.at' x.bs.length
def actK (M : Mv) (g : Nat) (x : Act) : Nat := if x.step then stepK x.n (M.size - g) else 0
def actV (A : Ar) (V : ArV) (M : Mv) (g : Nat) (x : Act) : ArV :=
  if x.step then stepV A V M g (stepK x.n (M.size - g))
  else if actIn M.size x then wroteV A { V.charge A x.bs.length with bs := wrB V.bs (M.f + x.at'.toNat) x.bs } M g x.at'.toNat x.bs.length
  else V
theorem actIn_no {size : Nat} {x : Act} (h : x.at' < 0 ∨ size < x.bs.length ∨ x.at' > (size : Int) - x.bs.length) : actIn size x = false := by
  unfold actIn
  exact thereB_no (fun hh => by omega)
theorem law15_do (A : Ar) (V : ArV) (M : Mv) (g : Nat) (x : Act) (w : World) (h : MvOk w A V M g) (hx : ActOk w x) :
    Does Try.prog 23 #[.pointer (some ⟨A.ab, 0, none⟩), .pointer (some ⟨M.mv, 0, none⟩), .int .i64 M.f, .int .i64 M.size, .agg (actL x).toArray] w
      (fun v w' => v = .int .i64 (actK M g x) ∧ MvOk w' A (actV A V M g x) M (g + actK M g x) ∧ Chg (mFt A M) w w') := by
  have hl := h.ar.len
  have hg := h.gone
  have hf := h.f
  have ht := h.t
  have hxl := hx.len
  refine Does.enter Try.func23 rfl Try.ntmps23 rfl rfl ?_
  refine Goes.adv hTT 400 rfl ?_
  refine Goes.alloc hTT rfl ?_
  intro ub w1 e1 hub hw1 hz1
  refine Goes.adv hTT 400 rfl ?_
  have h1 := h.grow hw1
  have hx1 := hx.chg hw1
  have hlt := h.lt
  have hback : ∀ {w'}, Chg (mFt A M) w1 w' → Chg (mFt A M) w w' := fun hc => (hw1.mono fun _ _ h => h.elim).trans hc
  obtain ⟨stp, at', n, a, cap, bs⟩ := x
  simp only at hxl
  replace hub : w1.heap[ub]? = some (.cells ([.bool stp, .int .i64 at', .int .i64 n, .slice a bs.length cap] : List Value).toArray 48 (0, 0)) := hub
  refine Goes.loadb hTT rfl hub rfl rfl ?_
  refine Goes.fork hTT rfl rfl rfl (fun hs => ?_) (fun hs => ?_)
  · subst hs
    refine Goes.loadb hTT rfl hub rfl rfl ?_
    refine Goes.call rfl (move_Step A V M g n w1 h1) ?_
    rintro _ w2 ⟨rfl, hM2, hs2⟩
    refine Goes.adv hTT 400 rfl ?_
    exact Goes.ret1 hTT rfl Try.func23 rfl rfl ⟨rfl, hM2, hback hs2⟩
  · subst hs
    have hno : ∀ {w'}, MvOk w' A V M g → actIn M.size ⟨false, at', n, a, cap, bs⟩ = false → MvOk w' A (actV A V M g ⟨false, at', n, a, cap, bs⟩) M (g + 0) := fun hM hi => by
      unfold actV
      rw [if_neg (by simp), if_neg (by simp [hi])]
      exact hM
    refine Goes.loadb hTT rfl hub rfl rfl ?_
    refine Goes.fork hTT rfl rfl rfl (fun h2 => ?_) (fun h2 => ?_)
    · have g2 := of_decide_eq_true h2
      exact Goes.ret1 hTT rfl Try.func23 rfl rfl ⟨rfl, hno h1 (actIn_no (.inl g2)), hback (Chg.refl _ _)⟩
    have g2 := of_decide_eq_false h2
    refine Goes.loadb hTT rfl hub rfl rfl ?_
    refine Goes.fork hTT rfl rfl rfl (fun h3 => ?_) (fun h3 => ?_)
    · have g3 := of_decide_eq_true h3
      exact Goes.ret1 hTT rfl Try.func23 rfl rfl ⟨rfl, hno h1 (actIn_no (.inr (.inl (by simp only; omega)))), hback (Chg.refl _ _)⟩
    have g3 := of_decide_eq_false h3
    refine Goes.loadb hTT rfl hub rfl rfl ?_
    refine Goes.loadb hTT rfl hub rfl rfl ?_
    refine Goes.arith hTT rfl (w64 (by omega)) rfl ?_
    refine Goes.fork hTT rfl rfl rfl (fun h4 => ?_) (fun h4 => ?_)
    · have g4 := of_decide_eq_true h4
      exact Goes.ret1 hTT rfl Try.func23 rfl rfl ⟨rfl, hno h1 (actIn_no (.inr (.inr (by simp only; omega)))), hback (Chg.refl _ _)⟩
    have g4 := of_decide_eq_false h4
    obtain ⟨i, rfl⟩ := Int.eq_ofNat_of_zero_le (show 0 ≤ at' by omega)
    have hin : actIn M.size ⟨false, i, n, a, cap, bs⟩ = true := thereB_iff.2 (by simp only; omega)
    refine Goes.loadb hTT rfl hub rfl rfl ?_
    refine Goes.arith hTT rfl (w64 (by omega)) rfl ?_
    rw [show ((M.f : Int) + i) = ((M.f + i : Nat) : Int) from by omega]
    refine Goes.loadb hTT rfl hub rfl rfl ?_
    refine Goes.call rfl (arena_Write A V (M.f + i) a cap bs w1 h1.ar hx1.rd hx1.rng (by omega)) ?_
    rintro _ w2 ⟨rfl, hA2, hs2⟩
    refine Goes.adv hTT 400 rfl ?_
    have hM2 := h1.laid hA2 hs2 (by simp only; exact wrB_length (by omega))
    have hub2 := hs2.heap hub (fun hb => by have := h.ar.foot_lt _ hb; omega)
    refine Goes.loadb hTT rfl hub2 rfl rfl ?_
    refine Goes.loadb hTT rfl hub2 rfl rfl ?_
    refine Goes.call rfl (move_Wrote A _ M g i bs.length w2 hM2 (by omega)) ?_
    rintro _ w3 ⟨rfl, hM3, hs3⟩
    refine Goes.adv hTT 400 rfl ?_
    exact Goes.ret1 hTT rfl Try.func23 rfl rfl ⟨rfl, by unfold actV; rw [if_neg (by simp), if_pos hin]; exact hM3, hback ((hs2.trans hs3).mono fun _ _ h => .inl h)⟩
theorem ref15_Few (a : Option Addr) (cap : Nat) (xs : List Act) (w : World) (hr : Rows actL 4 w a xs) (hl : xs.length ≤ 9223372036854775807) :
    Does Try.prog 21 #[.slice a xs.length cap] w (fun v w' => ∃ b, v = .bool b ∧ (b = true → xs.length ≤ 20 ∧ ∀ x ∈ xs, x.bs.length ≤ 60) ∧ w = w') := by
  refine Does.enter Try.func21 rfl Try.ntmps21 rfl rfl ?_
  refine Goes.adv hTT 400 rfl ?_
  refine Goes.loop (α := Nat) (fun k => [(0, false, .slice a xs.length cap), (3, false, .int .i64 k)])
    (fun k w' => w = w' ∧ k ≤ xs.length ∧ k ≤ 21 ∧ ∀ j (h : j < xs.length), j < k → xs[j].bs.length ≤ 60) (fun k => xs.length - k) 0 ⟨rfl, rfl, trivial⟩ ⟨rfl, by omega, by omega, fun j _ h => by omega⟩ ?_
  rintro k w1 ⟨hw, hk, hk21, hall⟩ ih
  subst hw
  refine Goes.adv hTT 400 rfl ?_
  refine Goes.fork hTT rfl rfl rfl (fun h0 => ?_) (fun h0 => ?_)
  · have g0 := of_decide_eq_true h0
    refine Goes.fork hTT rfl rfl rfl (fun h1 => ?_) (fun h1 => ?_)
    · have g1 := of_decide_eq_true h1
      obtain ⟨b, off, rfl, hc⟩ := hr.at (i := k) (by omega)
      refine Goes.index hTT rfl (j := (k * 4)) (by omega) (by omega) (by first | rfl | omega | (simp; done) | (simp; omega)) rfl ?_
      refine Goes.load hTT rfl (hc 3 _ rfl) rfl ?_
      refine Goes.fork hTT rfl rfl rfl (fun h2 => ?_) (fun h2 => ?_)
      · exact Goes.ret1 hTT rfl Try.func21 rfl rfl ⟨false, rfl, (fun h => by cases h), rfl⟩
      · have g2 := of_decide_eq_false h2
        refine Goes.arith hTT rfl (w64 (by omega)) rfl ?_
        exact ih (k + 1) _ _ ⟨rfl, by omega, by omega, fun j hj hjk => by
          by_cases e : j = k
          · subst e; omega
          · exact hall j hj (by omega)⟩ (by omega) ⟨rfl, rfl, trivial⟩
    · have g1 := of_decide_eq_false h1
      exact Goes.ret1 hTT rfl Try.func21 rfl rfl ⟨_, rfl, (fun h => by have := of_decide_eq_true h; omega), rfl⟩
  · have g0 := of_decide_eq_false h0
    exact Goes.ret1 hTT rfl Try.func21 rfl rfl ⟨_, rfl, (fun h => ⟨by have := of_decide_eq_true h; omega, fun x hx => by
      obtain ⟨j, hj, rfl⟩ := List.mem_iff_getElem.1 hx
      exact hall j hj (by omega)⟩), rfl⟩

/-! ### What is gone stands at both places alike -/
def Alike (bs : List Int) (f t g : Nat) : Prop := ∀ j, j < g → bs.getD (f + j) 0 = bs.getD (t + j) 0
theorem cpB_getD {bs : List Int} {t f n j : Nat} (hf : f + n ≤ bs.length) (ht : t + n ≤ bs.length) : (cpB bs t f n).getD j 0 = if j < t then bs.getD j 0 else if j < t + n then bs.getD (f + (j - t)) 0 else bs.getD j 0 := by
  unfold cpB
  rw [wrB_getD (by rw [sub_length hf]; exact ht), sub_length hf]
  by_cases h1 : j < t
  · rw [if_pos h1, if_pos h1]
  · rw [if_neg h1, if_neg h1]
    by_cases h2 : j < t + n
    · rw [if_pos h2, if_pos h2, sub_getD (by omega)]
    · rw [if_neg h2, if_neg h2]
theorem Alike.step {bs : List Int} {f t g k size : Nat} (h : Alike bs f t g) (hk : g + k ≤ size) (hd : f + size ≤ t) (ht : t + size ≤ bs.length) : Alike (cpB bs (t + g) (f + g) k) f t (g + k) := fun j hj => by
  rw [cpB_getD (by omega) (by omega), cpB_getD (by omega) (by omega), if_pos (by omega)]
  by_cases hjg : j < g
  · rw [if_pos (show t + j < t + g by omega)]; exact h j hjg
  · rw [if_neg (show ¬ t + j < t + g by omega), if_pos (by omega), show f + g + (t + j - (t + g)) = f + j from by omega]
theorem Alike.write {bs l : List Int} {f t g i size : Nat} (h : Alike bs f t g) (hi : i + l.length ≤ size) (hg : g ≤ size) (hd : f + size ≤ t) (ht : t + size ≤ bs.length) :
    Alike (if wroteK i l.length g = 0 then wrB bs (f + i) l else cpB (wrB bs (f + i) l) (t + i) (f + i) (wroteK i l.length g)) f t g := by
  have hwl : (wrB bs (f + i) l).length = bs.length := wrB_length (by omega)
  have hw : ∀ j, j < g → ¬ (i ≤ j ∧ j < i + l.length) → (wrB bs (f + i) l).getD (f + j) 0 = (wrB bs (f + i) l).getD (t + j) 0 := fun j hj hno => by
    rw [wrB_getD (by omega), wrB_getD (by omega)]
    rw [if_neg (show ¬ t + j < f + i by omega), if_neg (show ¬ t + j < f + i + l.length by omega)]
    by_cases h1 : f + j < f + i
    · rw [if_pos h1]; exact h j hj
    · rw [if_neg h1, if_neg (by omega)]; exact h j hj
  split
  · rename_i h0
    intro j hj
    exact hw j hj (by unfold wroteK at h0; omega)
  · rename_i h0
    have hk : wroteK i l.length g = min (i + l.length) g - i := rfl
    intro j hj
    rw [cpB_getD (by omega) (by omega), cpB_getD (by omega) (by omega), if_pos (by omega)]
    by_cases h1 : t + j < t + i
    · rw [if_pos h1]; exact hw j hj (by omega)
    · rw [if_neg h1]
      by_cases h2 : t + j < t + i + wroteK i l.length g
      · rw [if_pos h2, show f + i + (t + j - (t + i)) = f + j from by omega]
      · rw [if_neg h2]; exact hw j hj (by omega)
theorem actV_none {A : Ar} {M : Mv} {g : Nat} {x : Act} {bs : List Int} (hmb : A.mb = none) : ∃ bs', actV A ⟨bs, 0, 0⟩ M g x = ⟨bs', 0, 0⟩ ∧ bs' = if x.step then (if stepK x.n (M.size - g) = 0 then bs else cpB bs (M.t + g) (M.f + g) (stepK x.n (M.size - g))) else if actIn M.size x then (if wroteK x.at'.toNat x.bs.length g = 0 then wrB bs (M.f + x.at'.toNat) x.bs else cpB (wrB bs (M.f + x.at'.toNat) x.bs) (M.t + x.at'.toNat) (M.f + x.at'.toNat) (wroteK x.at'.toNat x.bs.length g)) else bs := by
  refine ⟨_, ?_, rfl⟩
  unfold actV stepV wroteV
  simp only [ArV.charge_none hmb]
  split
  · split <;> rfl
  · split
    · split <;> rfl
    · rfl
theorem Alike.act {A : Ar} {M : Mv} {g : Nat} {x : Act} {bs : List Int} (hmb : A.mb = none) (h : Alike bs M.f M.t g) (hg : g ≤ M.size) (hd : M.f + M.size ≤ M.t) (ht : M.t + M.size ≤ bs.length) :
    ∃ bs', actV A ⟨bs, 0, 0⟩ M g x = ⟨bs', 0, 0⟩ ∧ Alike bs' M.f M.t (g + actK M g x) ∧ bs'.length = bs.length := by
  obtain ⟨bs', he, hb⟩ := actV_none (A := A) (M := M) (g := g) (x := x) (bs := bs) hmb
  refine ⟨bs', he, ?_⟩
  subst hb
  unfold actK
  cases hs : x.step with
  | true =>
    simp only [if_true]
    obtain ⟨k, hk⟩ : ∃ k, k = stepK x.n (M.size - g) := ⟨_, rfl⟩
    rw [← hk]
    have hkl : k ≤ M.size - g := by rw [hk]; unfold stepK; omega
    by_cases h0 : k = 0
    · subst h0; rw [if_pos rfl]; exact ⟨h, rfl⟩
    · rw [if_neg h0]; exact ⟨h.step (size := M.size) (by omega) hd ht, cpB_length (by omega) (by omega)⟩
  | false =>
    simp only [Bool.false_eq_true, if_false]
    cases hi : actIn M.size x with
    | false => simp only [Bool.false_eq_true, if_false]; exact ⟨h, trivial⟩
    | true =>
      simp only [if_true]
      have hi' := thereB_iff.1 hi
      have hwl : (wrB bs (M.f + x.at'.toNat) x.bs).length = bs.length := wrB_length (by omega)
      refine ⟨h.write (size := M.size) (by omega) hg hd ht, ?_⟩
      split
      · exact hwl
      · rw [cpB_length (by rw [hwl]; unfold wroteK; omega) (by rw [hwl]; unfold wroteK; omega), hwl]
theorem Alike.subs {bs : List Int} {f t g : Nat} (h : Alike bs f t g) (hf : f + g ≤ bs.length) (ht : t + g ≤ bs.length) : sub bs f g = sub bs t g :=
  ext_getD (by rw [sub_length hf, sub_length ht]) fun j hj => by rw [sub_length hf] at hj; rw [sub_getD hj, sub_getD hj]; exact h j hj
theorem law_MoveAlike (a : Option Addr) (cap : Nat) (l : List Int) (x y z : Int) (ca : Option Addr) (cc : Nat) (xs : List Act) (w : World) (hr : Rd .u8 w a l) (hb : InB l) (hx : 0 ≤ x ∧ x < 256) (hy : 0 ≤ y ∧ y < 256) (hz : 0 ≤ z ∧ z < 256)
    (hrs : Rows actL 4 w ca xs) (hl : xs.length ≤ 9223372036854775807) (hxs : ∀ x ∈ xs, ActOk w x) : Does Try.prog 5 #[.slice a l.length cap, .agg #[.int .u8 x, .int .u8 y, .int .u8 z], .slice ca xs.length cc] w (Grow (.bool true) w) := by
  refine Does.enter Try.func5 rfl Try.ntmps5 rfl rfl ?_
  refine Goes.adv hTT 400 rfl ?_
  refine Goes.alloc hTT rfl ?_
  intro lb w1 e1 hlb hw1 hz1
  refine Goes.adv hTT 400 rfl ?_
  refine Goes.call rfl (law15_awake w1) ?_
  rintro _ w2 ⟨rfl, hw2⟩
  refine Goes.adv hTT 400 rfl ?_
  have hw02 := hw1.trans hw2
  refine Goes.fork hTT rfl rfl rfl (fun h0 => ?_) (fun h0 => ?_)
  · exact Goes.ret1 hTT rfl Try.func5 rfl rfl ⟨rfl, hw02⟩
  have hlen : l.length = 128 := by simp at h0; omega
  refine Goes.call rfl (ref15_Few ca cc xs w2 (hrs.chg hw02) (by omega)) ?_
  rintro _ w3 ⟨b0, rfl, hb0, rfl⟩
  refine Goes.adv hTT 400 rfl ?_
  refine Goes.fork hTT rfl rfl rfl (fun h1 => ?_) (fun h1 => ?_)
  · exact Goes.ret1 hTT rfl Try.func5 rfl rfl ⟨rfl, hw02⟩
  have hfew := hb0 (by simpa using h1)
  have hlb2 := hw2.heap' hlb
  refine Goes.index hTT rfl (j := 2) (by omega) (by omega) (by first | rfl | omega | (simp; done) | (simp; omega)) rfl ?_
  refine Goes.loadb hTT rfl hlb2 rfl rfl ?_
  refine Goes.arith hTT rfl (w64 (by omega)) rfl ?_
  refine Goes.div hTT rfl (by omega) (rem_ (by omega)) rfl ?_
  refine Goes.arith hTT rfl (w64 (by omega)) rfl ?_
  obtain ⟨k, hk⟩ := Int.eq_ofNat_of_zero_le (show 0 ≤ 1 + z % 64 by omega)
  have hk1 : 1 ≤ k ∧ k ≤ 64 := by omega
  rw [hk]
  refine Goes.index hTT rfl (j := 0) (by omega) (by omega) (by first | rfl | omega | (simp; done) | (simp; omega)) rfl ?_
  refine Goes.loadb hTT rfl hlb2 rfl rfl ?_
  refine Goes.arith hTT rfl (w64 (by omega)) rfl ?_
  refine Goes.arith hTT rfl (w64 (by omega)) rfl ?_
  obtain ⟨f', hf'⟩ := Int.eq_ofNat_of_zero_le (Int.emod_nonneg x (show (65 - (k : Int)) ≠ 0 by omega))
  have hfl : x % (65 - (k : Int)) < 65 - (k : Int) := Int.emod_lt_of_pos _ (by omega)
  refine Goes.div hTT rfl (by omega) (rem_ (by omega)) rfl ?_
  rw [hf']
  refine Goes.index hTT rfl (j := 1) (by omega) (by omega) (by first | rfl | omega | (simp; done) | (simp; omega)) rfl ?_
  refine Goes.loadb hTT rfl hlb2 rfl rfl ?_
  refine Goes.arith hTT rfl (w64 (by omega)) rfl ?_
  refine Goes.arith hTT rfl (w64 (by omega)) rfl ?_
  obtain ⟨t', ht'⟩ := Int.eq_ofNat_of_zero_le (Int.emod_nonneg y (show (65 - (k : Int)) ≠ 0 by omega))
  have htl : y % (65 - (k : Int)) < 65 - (k : Int) := Int.emod_lt_of_pos _ (by omega)
  refine Goes.div hTT rfl (by omega) (rem_ (by omega)) rfl ?_
  rw [ht']
  refine Goes.arith hTT rfl (w64 (by omega)) rfl ?_
  rw [show ((64 : Int) + t') = ((64 + t' : Nat) : Int) from by omega]
  refine Goes.call rfl (arena_New none 0 0 2 64 w2 (fun b hb => by cases hb) (by decide)) ?_
  rintro _ w4 ⟨A, rfl, hmb, ha1, ha2, ha3, hA4, hw4⟩
  refine Goes.adv hTT 400 rfl ?_
  have hfA := foot_new (w := w) (A := A) (by have := hw02.size; omega) (fun b hb => by rw [hmb] at hb; cases hb)
  have hw04 := hw02.trans hw4
  have hz0 : (zeros (2 * 64 : Int).toNat).length = 128 := rfl
  refine Goes.call rfl (arena_Write A _ 0 a cap l w4 hA4 (hr.chg hw04) hb (by simp only; omega)) ?_
  rintro _ w5 ⟨rfl, hA5, hs5⟩
  refine Goes.adv hTT 400 rfl ?_
  have hw05 : Chg None' w w5 := hw04.since hs5 (fun x hx h => hfA x hx h)
  rw [ArV.charge_none hmb] at hA5
  have hA5' : ArOk w5 A ⟨l, 0, 0⟩ := by
    have h := hA5
    simp only [wrB_full (show (zeros (2 * 64 : Int).toNat).length = l.length by rw [hz0, hlen])] at h
    exact h
  refine Goes.call rfl (move_New A _ f' (64 + t') k w5 hA5' (mvMay_iff.2 (by simp only; omega))) ?_
  rintro _ w6 ⟨M, rfl, hMf, hMt, hMs, hM0, hM6, hw6⟩
  refine Goes.adv hTT 400 rfl ?_
  have hw06 := hw05.trans hw6
  have hf : ∀ z, z < w.heap.size → mFt A M z → False := fun z hz h => by
    rcases h with h | h
    · exact hfA z hz h
    · have := hw05.size; omega
  refine Goes.no hTT rfl rfl rfl ?_
  rw [show ((k : Nat) : Int) = ((M.size : Nat) : Int) from by rw [hMs], show ((f' : Nat) : Int) = ((M.f : Nat) : Int) from by rw [hMf], show ((64 + t' : Nat) : Int) = ((M.t : Nat) : Int) from by rw [hMt]]
  refine Goes.loop (α := Nat) (fun i => [(2, false, .slice ca xs.length cc), (7, false, .bool true), (8, false, .int .i64 M.size), (9, false, .int .i64 M.f), (10, false, .int .i64 M.t), (11, false, .pointer (some ⟨A.ab, 0, none⟩)), (13, false, .pointer (some ⟨M.mv, 0, none⟩)), (15, false, .int .i64 i)])
    (fun i w' => i ≤ xs.length + 1 ∧ ∃ bs g, MvOk w' A ⟨bs, 0, 0⟩ M g ∧ Alike bs M.f M.t g ∧ bs.length = 128 ∧ (i = xs.length + 1 → g = M.size) ∧ Chg None' w w') (fun i => xs.length + 1 - i) 0 ⟨rfl, rfl, rfl, rfl, rfl, rfl, rfl, rfl, trivial⟩
    ⟨by omega, l, 0, hM6, fun j h => by omega, hlen, fun h => by omega, hw06⟩ ?_
  rintro i w7 ⟨hi, bs, g, hM7, hal, hbl, hend, hw07⟩ ih
  have hdis : M.f + M.size ≤ M.t := by omega
  have htm : M.t + M.size ≤ bs.length := by omega
  refine Goes.adv hTT 400 rfl ?_
  refine Goes.fork hTT rfl rfl rfl (fun hc => ?_) (fun hc => ?_)
  · have gc := of_decide_eq_true hc
    refine Goes.fork hTT rfl rfl rfl (fun hd => ?_) (fun hd => ?_)
    · have hlt : i < xs.length := by have := of_decide_eq_true hd; omega
      obtain ⟨ub, uoff, rfl, hcell⟩ := hrs.at hlt
      have hxok := hxs _ (List.getElem_mem hlt)
      refine Goes.index hTT rfl (j := (i * 4)) (by omega) (by omega) (by first | rfl | omega | (simp; done) | (simp; omega)) rfl ?_
      refine Goes.loadC hTT (actL xs[i]) rfl rfl (fun j v hv => below_cell hw07.below (hcell j v hv)) rfl ?_
      refine Goes.call rfl (law15_do A ⟨bs, 0, 0⟩ M g xs[i] w7 hM7 (hxok.chg hw07)) ?_
      rintro _ w8 ⟨rfl, hM8, hs8⟩
      refine Goes.adv hTT 400 rfl ?_
      obtain ⟨bs', hV, hal', hbl'⟩ := hal.act (x := xs[i]) hmb hM7.gone hdis htm
      rw [hV] at hM8
      have hw08 : Chg None' w w8 := hw07.since hs8 hf
      obtain ⟨g', hg'⟩ : ∃ g', g' = g + actK M g xs[i] := ⟨_, rfl⟩
      rw [← hg'] at hM8 hal'
      have hgend : i + 1 = xs.length + 1 → g' = M.size := fun h => by omega
      have hgone := hM8.gone
      refine Goes.call rfl (move_Left A _ M g' w8 hM8) ?_
      rintro _ w10 ⟨rfl, hw10⟩
      refine Goes.adv hTT 400 rfl ?_
      have hM10 := hM8.grow hw10
      refine Goes.arith hTT rfl (w64 (by omega)) rfl ?_
      rw [show ((M.size : Int) - ((M.size - g' : Nat) : Int)) = ((g' : Nat) : Int) from by omega, show (if (0 : Int) > ((g' : Nat) : Int) then 0 else ((g' : Nat) : Int)) = ((g' : Nat) : Int) from by split <;> omega]
      refine Goes.call rfl (arena_Read A _ M.f g' w10 hM10.ar (by simp only; omega)) ?_
      rintro _ w11 ⟨v11, rfl, ho11, hA11, hs11⟩
      refine Goes.adv hTT 400 rfl ?_
      obtain ⟨g11, c11, u11, rfl, hb11, _, _, _, hr11⟩ := ho11.rd
      have hM11 := hM10.laid hA11 (hs11.mono fun b _ hb => .inr hb) (by rw [ArV.charge_bs])
      rw [ArV.charge_none hmb] at hM11
      rw [show (if (0 : Int) > ((g' : Nat) : Int) then 0 else ((g' : Nat) : Int)) = ((g' : Nat) : Int) from by split <;> omega]
      refine Goes.call rfl (arena_Read A _ M.t g' w11 hM11.ar (by simp only; omega)) ?_
      rintro _ w12 ⟨v12, rfl, ho12, hA12, hs12⟩
      refine Goes.adv hTT 400 rfl ?_
      obtain ⟨g12, c12, u12, rfl, hb12, _, _, _, hr12⟩ := ho12.rd
      have hM12 := hM11.laid hA12 (hs12.mono fun b _ hb => .inr hb) (by rw [ArV.charge_bs])
      rw [ArV.charge_none hmb] at hM12
      have hc012 : Chg None' w w12 := ((hw08.trans hw10).since hs11 (fun z hz h => hf z hz (.inl (.inr h)))).since hs12 (fun z hz h => hf z hz (.inl (.inr h)))
      refine Goes.no hTT rfl rfl rfl ?_
      refine Goes.no hTT rfl rfl rfl ?_
      refine Goes.bstrN hTT (_) rfl rfl (hr11.metered hM11.ar hs12) rfl ?_
      refine Goes.bstrN hTT (_) rfl rfl (hr12) rfl ?_
      simp only
      rw [hal'.subs (by omega) (by omega)]
      refine Goes.streq hTT rfl (rfl) rfl ?_
      refine Goes.arith hTT rfl (w64 (by omega)) rfl ?_
      exact ih (i + 1) _ _ ⟨by omega, bs', g', hM12, hal', by omega, hgend, hc012⟩ (by omega) ⟨rfl, rfl, rfl, rfl, rfl, rfl, rfl, rfl, trivial⟩
    · have hie : i = xs.length := by have := of_decide_eq_false hd; omega
      refine Goes.call rfl (move_Step A ⟨bs, 0, 0⟩ M g M.size w7 hM7) ?_
      rintro _ w8 ⟨rfl, hM8, hs8⟩
      refine Goes.adv hTT 400 rfl ?_
      obtain ⟨bs', hV, hal', hbl'⟩ := hal.act (x := ⟨true, 0, M.size, none, 0, []⟩) hmb hM7.gone hdis htm
      have hV' : stepV A ⟨bs, 0, 0⟩ M g (stepK M.size (M.size - g)) = ⟨bs', 0, 0⟩ := hV
      rw [hV'] at hM8
      have hw08 : Chg None' w w8 := hw07.since hs8 hf
      obtain ⟨g', hg'⟩ : ∃ g', g' = g + stepK M.size (M.size - g) := ⟨_, rfl⟩
      have hal'' : Alike bs' M.f M.t (g + stepK M.size (M.size - g)) := hal'
      rw [← hg'] at hM8 hal''
      replace hal' := hal''
      have hgend : i + 1 = xs.length + 1 → g' = M.size := fun h => by have := hM7.gone; rw [hg']; unfold stepK; omega
      have hgone := hM8.gone
      refine Goes.call rfl (move_Left A _ M g' w8 hM8) ?_
      rintro _ w10 ⟨rfl, hw10⟩
      refine Goes.adv hTT 400 rfl ?_
      have hM10 := hM8.grow hw10
      refine Goes.arith hTT rfl (w64 (by omega)) rfl ?_
      rw [show ((M.size : Int) - ((M.size - g' : Nat) : Int)) = ((g' : Nat) : Int) from by omega, show (if (0 : Int) > ((g' : Nat) : Int) then 0 else ((g' : Nat) : Int)) = ((g' : Nat) : Int) from by split <;> omega]
      refine Goes.call rfl (arena_Read A _ M.f g' w10 hM10.ar (by simp only; omega)) ?_
      rintro _ w11 ⟨v11, rfl, ho11, hA11, hs11⟩
      refine Goes.adv hTT 400 rfl ?_
      obtain ⟨g11, c11, u11, rfl, hb11, _, _, _, hr11⟩ := ho11.rd
      have hM11 := hM10.laid hA11 (hs11.mono fun b _ hb => .inr hb) (by rw [ArV.charge_bs])
      rw [ArV.charge_none hmb] at hM11
      rw [show (if (0 : Int) > ((g' : Nat) : Int) then 0 else ((g' : Nat) : Int)) = ((g' : Nat) : Int) from by split <;> omega]
      refine Goes.call rfl (arena_Read A _ M.t g' w11 hM11.ar (by simp only; omega)) ?_
      rintro _ w12 ⟨v12, rfl, ho12, hA12, hs12⟩
      refine Goes.adv hTT 400 rfl ?_
      obtain ⟨g12, c12, u12, rfl, hb12, _, _, _, hr12⟩ := ho12.rd
      have hM12 := hM11.laid hA12 (hs12.mono fun b _ hb => .inr hb) (by rw [ArV.charge_bs])
      rw [ArV.charge_none hmb] at hM12
      have hc012 : Chg None' w w12 := ((hw08.trans hw10).since hs11 (fun z hz h => hf z hz (.inl (.inr h)))).since hs12 (fun z hz h => hf z hz (.inl (.inr h)))
      refine Goes.no hTT rfl rfl rfl ?_
      refine Goes.no hTT rfl rfl rfl ?_
      refine Goes.bstrN hTT (_) rfl rfl (hr11.metered hM11.ar hs12) rfl ?_
      refine Goes.bstrN hTT (_) rfl rfl (hr12) rfl ?_
      simp only
      rw [hal'.subs (by omega) (by omega)]
      refine Goes.streq hTT rfl (rfl) rfl ?_
      refine Goes.arith hTT rfl (w64 (by omega)) rfl ?_
      exact ih (i + 1) _ _ ⟨by omega, bs', g', hM12, hal', by omega, hgend, hc012⟩ (by omega) ⟨rfl, rfl, rfl, rfl, rfl, rfl, rfl, rfl, trivial⟩
  · have hie := hend (by have := of_decide_eq_false hc; omega)
    subst hie
    refine Goes.yes hTT rfl rfl rfl ?_
    refine Goes.call rfl (move_Left A _ M M.size w7 hM7) ?_
    rintro _ w8 ⟨rfl, hw8⟩
    refine Goes.adv hTT 400 rfl ?_
    exact Goes.ret1 hTT rfl Try.func5 rfl rfl ⟨bool_v (by simp), hw07.trans hw8⟩
end Go.Proofs.Ytommemplakcaaaa
