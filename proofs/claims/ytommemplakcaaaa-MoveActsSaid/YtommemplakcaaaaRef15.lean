/-
  Layer 15: what the document says of a move.
-/
import Derived.Test.YtommemplakcaaaaAct
namespace Go.Proofs.Ytommemplakcaaaa
open Go.RowKit

/-- The document's move. -/
structure RM where
  ra : RA
  f : Nat
  t : Nat
  size : Nat
  gone : Nat
def rmL (m : RM) : List Value := [.slice m.ra.a m.ra.bs.length m.ra.cap, .int .i64 m.ra.steps, .int .i64 m.f, .int .i64 m.t, .int .i64 m.size, .int .i64 m.gone]
structure RmOk (w : World) (m : RM) : Prop where
  ra : RaOk w m.ra
  pos : 1 ≤ m.size
  gone : m.gone ≤ m.size
  f : m.f + m.size ≤ m.ra.bs.length
  t : m.t + m.size ≤ m.ra.bs.length
theorem RmOk.grow {w w' : World} {m : RM} (h : RmOk w m) (hc : Chg None' w w') : RmOk w' m := ⟨h.ra.grow hc, h.pos, h.gone, h.f, h.t⟩
/-- The document's move with another arena. -/
def RmTo (m : RM) (w : World) (bs : List Int) (st : Int) (g : Nat) (m' : RM) (w' : World) : Prop :=
  m'.ra.bs = bs ∧ m'.ra.steps = st ∧ m'.f = m.f ∧ m'.t = m.t ∧ m'.size = m.size ∧ m'.gone = g ∧ RaOk w' m'.ra ∧ Chg None' w w' ∧ (NewA w m'.ra ∨ m'.ra.a = m.ra.a)
theorem RmTo.self {m : RM} {w w' : World} (h : RaOk w' m.ra) (hc : Chg None' w w') : RmTo m w m.ra.bs m.ra.steps m.gone m w' := ⟨rfl, rfl, rfl, rfl, rfl, rfl, h, hc, .inr rfl⟩
theorem ref15_in (r : RA) (i n : Int) (w : World) (hl : r.bs.length ≤ 4194304) (hn : 1 ≤ n) : Does Try.prog 48 #[.agg (raL r).toArray, .int .i64 i, .int .i64 n] w (Grow (.bool (inB r.bs.length n i)) w) := by
  refine Does.enter Try.func48 rfl Try.ntmps48 rfl rfl ?_
  refine Goes.adv hTT 400 rfl ?_
  refine Goes.alloc hTT rfl ?_
  intro b w1 e1 hb hw1 hz1
  refine Goes.adv hTT 400 rfl ?_
  refine Goes.fork hTT rfl rfl rfl (fun h1 => ?_) (fun h1 => ?_)
  · have g1 : 0 ≤ i := of_decide_eq_true h1
    refine Goes.loadb hTT rfl hb rfl rfl ?_
    refine Goes.fork hTT rfl rfl rfl (fun h2 => ?_) (fun h2 => ?_)
    · have g2 := of_decide_eq_true h2
      refine Goes.loadb hTT rfl hb rfl rfl ?_
      refine Goes.arith hTT rfl (w64 (by omega)) rfl ?_
      exact Goes.ret1 hTT rfl Try.func48 rfl rfl ⟨bool_v (by unfold inB; rw [decide_eq_true g1, decide_eq_true g2]; rfl), hw1⟩
    · exact Goes.ret1 hTT rfl Try.func48 rfl rfl ⟨bool_v (by unfold inB; rw [decide_eq_false (of_decide_eq_false h2)]; simp), hw1⟩
  · have g1 : ¬ 0 ≤ i := of_decide_eq_false h1
    exact Goes.ret1 hTT rfl Try.func48 rfl rfl ⟨bool_v (by unfold inB; rw [decide_eq_false g1]; rfl), hw1⟩
theorem ref15_some (m : RM) (i n : Nat) (w : World) (h : RmOk w m) (hst : StOk m.ra.steps) (hi : i + n ≤ m.size) (hn : 0 < n) : Does Try.prog 59 #[.agg (rmL m).toArray, .int .i64 i, .int .i64 n] w
    (fun v w' => ∃ m', v = .agg (rmL m').toArray ∧ RmTo m w (cpB m.ra.bs (m.t + i) (m.f + i) n) (m.ra.steps + n) m.gone m' w') := by
  have hl := h.ra.len
  have hf := h.f
  have ht := h.t
  have e1 : ((m.t : Int) + i) = ((m.t + i : Nat) : Int) := by omega
  have e2 : ((m.f : Int) + i) = ((m.f + i : Nat) : Int) := by omega
  refine Does.enter Try.func59 rfl Try.ntmps59 rfl rfl ?_
  refine Goes.adv hTT 400 rfl ?_
  refine Goes.alloc hTT rfl ?_
  intro mb w1 ew1 hmb hw1 hz1
  refine Goes.adv hTT 400 rfl ?_
  refine Goes.alloc hTT rfl ?_
  intro qb w2 ew2 hqb hw2 hz2
  refine Goes.adv hTT 400 rfl ?_
  refine Goes.no hTT rfl (decide_eq_false (by omega)) rfl ?_
  have hmb2 := hw2.heap' hmb
  refine Goes.loads hTT rfl hmb2 rfl rfl ?_
  refine Goes.loadb hTT rfl hmb2 rfl rfl ?_
  refine Goes.arith hTT rfl (w64 (by omega)) rfl ?_
  refine Goes.loadb hTT rfl hmb2 rfl rfl ?_
  refine Goes.arith hTT rfl (w64 (by omega)) rfl ?_
  rw [e1, e2]
  refine Goes.call rfl (ref06_Copy m.ra (m.t + i) (m.f + i) n w2 ((h.ra.grow hw1).grow hw2) hst (by have := h.pos; omega) (by omega) (by omega)) ?_
  rintro _ w3 ⟨r3, rfl, hb3, hs3, hR3, hw3, hn3⟩
  refine Goes.adv hTT 400 rfl ?_
  refine Goes.alloc hTT rfl ?_
  intro nb w4 ew4 hnb hw4 hz4
  refine Goes.adv hTT 400 rfl ?_
  refine Goes.store hTT rfl hnb rfl rfl ?_
  intro w5 hnb5 hs5 hz5
  refine Goes.adv hTT 400 rfl ?_
  have hc5 : Chg None' w3 w5 := hw4.since hs5 (fun x hx hxe => by omega)
  refine Goes.loads hTT rfl hnb5 rfl rfl ?_
  have hmb5 := hc5.heap' (hw3.heap' hmb2)
  refine Goes.store hTT rfl hmb5 rfl rfl ?_
  intro w6 hmb6 hs6 hz6
  refine Goes.adv hTT 400 rfl ?_
  refine Goes.loads hTT rfl hmb6 rfl rfl ?_
  have hqb6 := hs6.heap (hc5.heap' (hw3.heap' hqb)) (show ¬ _ by omega)
  refine Goes.store hTT rfl hqb6 rfl rfl ?_
  intro w7 hqb7 hs7 hz7
  refine Goes.adv hTT 400 rfl ?_
  have hc7 : Chg None' w w7 := ((((hw1.trans hw2).trans hw3).trans hc5).since hs6 (fun x hx hxe => by omega)).since hs7 (fun x hx hxe => by omega)
  have hR7 : RaOk w7 r3 := ((hR3.grow hc5).keep hmb5 (by simp [cellsL, rmL]) hs6).keep hqb6 (by simp [cellsL]) hs7
  exact Goes.ret hTT rfl Try.func59 (ResOk.cell rfl rfl rfl hqb7 rfl .nil) ⟨{ m with ra := r3 }, rfl, hb3, hs3, rfl, rfl, rfl, rfl, hR7, hc7, .inl (hn3.back (hw1.trans hw2).size)⟩
theorem ref15_some0 (m : RM) (i n : Int) (w : World) (hn : n < 1) : Does Try.prog 59 #[.agg (rmL m).toArray, .int .i64 i, .int .i64 n] w (Grow (.agg (rmL m).toArray) w) := by
  refine Does.enter Try.func59 rfl Try.ntmps59 rfl rfl ?_
  refine Goes.adv hTT 400 rfl ?_
  refine Goes.alloc hTT rfl ?_
  intro mb w1 ew1 hmb hw1 hz1
  refine Goes.adv hTT 400 rfl ?_
  refine Goes.alloc hTT rfl ?_
  intro qb w2 ew2 hqb hw2 hz2
  refine Goes.adv hTT 400 rfl ?_
  refine Goes.yes hTT rfl (decide_eq_true (by omega)) rfl ?_
  refine Goes.loads hTT rfl (hw2.heap' hmb) rfl rfl ?_
  refine Goes.store hTT rfl hqb rfl rfl ?_
  intro w3 hqb3 hs3 hz3
  refine Goes.adv hTT 400 rfl ?_
  exact Goes.ret hTT rfl Try.func59 (ResOk.cell rfl rfl rfl hqb3 rfl .nil) ⟨rfl, (hw1.trans hw2).since hs3 (fun x hx hxe => by omega)⟩
def stepB (bs : List Int) (f t g k : Nat) : List Int := if k = 0 then bs else cpB bs (t + g) (f + g) k
theorem ref15_Step (m : RM) (n : Int) (w : World) (h : RmOk w m) (hst : StOk m.ra.steps) : Does Try.prog 49 #[.agg (rmL m).toArray, .int .i64 n] w
    (fun v w' => ∃ m', v = .tuple #[.agg (rmL m').toArray, .int .i64 (stepK n (m.size - m.gone))] ∧ RmTo m w (stepB m.ra.bs m.f m.t m.gone (stepK n (m.size - m.gone))) (m.ra.steps + stepK n (m.size - m.gone)) (m.gone + stepK n (m.size - m.gone)) m' w') := by
  have hl := h.ra.len
  have hg := h.gone
  have ht := h.t
  obtain ⟨k, hk⟩ : ∃ k, k = stepK n (m.size - m.gone) := ⟨_, rfl⟩
  rw [← hk]
  unfold stepK at hk
  refine Does.enter Try.func49 rfl Try.ntmps49 rfl rfl ?_
  refine Goes.adv hTT 400 rfl ?_
  refine Goes.alloc hTT rfl ?_
  intro mb w1 ew1 hmb hw1 hz1
  refine Goes.adv hTT 400 rfl ?_
  refine Goes.alloc hTT rfl ?_
  intro qb w2 ew2 hqb hw2 hz2
  refine Goes.adv hTT 400 rfl ?_
  have hmb2 := hw2.heap' hmb
  refine Goes.loadb hTT rfl hmb2 rfl rfl ?_
  refine Goes.loadb hTT rfl hmb2 rfl rfl ?_
  refine Goes.arith hTT rfl (w64 (by omega)) rfl ?_
  have hkv : (if ((m.size : Int) - m.gone) < n then ((m.size : Int) - m.gone) else n) < 1 ∧ k = 0 ∨ (if ((m.size : Int) - m.gone) < n then ((m.size : Int) - m.gone) else n) = (k : Int) ∧ 1 ≤ k := by
    split <;> omega
  rcases hkv with ⟨hk1, hk0⟩ | ⟨hk1, hk0⟩
  · subst hk0
    refine Goes.yes hTT rfl (decide_eq_true hk1) rfl ?_
    refine Goes.loads hTT rfl hmb2 rfl rfl ?_
    refine Goes.store hTT rfl hqb rfl rfl ?_
    intro w3 hqb3 hs3 hz3
    refine Goes.adv hTT 400 rfl ?_
    have hc3 : Chg None' w w3 := (hw1.trans hw2).since hs3 (fun x hx hxe => by omega)
    have hR3 : RaOk w3 m.ra := (h.ra.grow (hw1.trans hw2)).keep hqb (by simp [cellsL]) hs3
    exact Goes.ret hTT rfl Try.func49 (ResOk.cell rfl rfl rfl hqb3 rfl (.tmp rfl .nil)) ⟨m, rfl, by unfold stepB; rw [if_pos rfl], by simp, rfl, rfl, rfl, by simp, hR3, hc3, .inr rfl⟩
  · rw [hk1]
    refine Goes.no hTT rfl (decide_eq_false (by omega)) rfl ?_
    have h2 := (h.grow hw1).grow hw2
    refine Goes.loads hTT rfl hmb2 rfl rfl ?_
    refine Goes.loadb hTT rfl hmb2 rfl rfl ?_
    refine Goes.call rfl (ref15_some m m.gone k w2 h2 hst (by omega) (by omega)) ?_
    rintro _ w3 ⟨m3, rfl, hb3, hs3, hf3, ht3, hz3, hg3, hR3, hw3, hn3⟩
    refine Goes.adv hTT 400 rfl ?_
    refine Goes.alloc hTT rfl ?_
    intro nb w4 ew4 hnb hw4 hz4
    refine Goes.adv hTT 400 rfl ?_
    refine Goes.store hTT rfl hnb rfl rfl ?_
    intro w5 hnb5 hs5 hz5
    refine Goes.adv hTT 400 rfl ?_
    have hc5 : Chg None' w3 w5 := hw4.since hs5 (fun x hx hxe => by omega)
    have hmb5 := hc5.heap' (hw3.heap' hmb2)
    refine Goes.loadb hTT rfl hmb5 rfl rfl ?_
    refine Goes.arith hTT rfl (w64 (by omega)) rfl ?_
    rw [show ((m.gone : Int) + k) = ((m.gone + k : Nat) : Int) from by omega]
    refine Goes.store hTT rfl hnb5 rfl rfl ?_
    intro w6 hnb6 hs6 hz6
    refine Goes.adv hTT 400 rfl ?_
    refine Goes.loads hTT rfl hnb6 rfl rfl ?_
    have hqb6 := hs6.heap (hc5.heap' (hw3.heap' hqb)) (show ¬ _ by have := hw3.size; omega)
    refine Goes.store hTT rfl hqb6 rfl rfl ?_
    intro w7 hqb7 hs7 hz7
    refine Goes.adv hTT 400 rfl ?_
    have hc7 : Chg None' w w7 := ((((hw1.trans hw2).trans hw3).trans hc5).since hs6 (fun x hx hxe => by have := hw3.size; omega)).since hs7 (fun x hx hxe => by omega)
    have hR7 : RaOk w7 m3.ra := ((hR3.grow hc5).keep hnb5 (by simp [cellsL, rmL]) hs6).keep hqb6 (by simp [cellsL]) hs7
    exact Goes.ret hTT rfl Try.func49 (ResOk.cell rfl rfl rfl hqb7 rfl (.tmp rfl .nil)) ⟨{ m3 with gone := m.gone + k }, rfl, by unfold stepB; rw [if_neg (by omega)]; exact hb3, hs3, hf3, ht3, hz3, rfl, hR7, hc7, hn3.imp (fun h => h.back (hw1.trans hw2).size) id⟩
def wroteB (bs : List Int) (f t g i n : Nat) : List Int := if wroteK i n g = 0 then bs else cpB bs (t + i) (f + i) (wroteK i n g)
theorem ref15_Wrote (m : RM) (i n : Nat) (w : World) (h : RmOk w m) (hst : StOk m.ra.steps) (hi : i + n ≤ m.size) : Does Try.prog 50 #[.agg (rmL m).toArray, .int .i64 i, .int .i64 n] w
    (fun v w' => ∃ m', v = .tuple #[.agg (rmL m').toArray, .int .i64 0] ∧ RmTo m w (wroteB m.ra.bs m.f m.t m.gone i n) (m.ra.steps + wroteK i n m.gone) m.gone m' w') := by
  have hl := h.ra.len
  have hg := h.gone
  have ht := h.t
  refine Does.enter Try.func50 rfl Try.ntmps50 rfl rfl ?_
  refine Goes.adv hTT 400 rfl ?_
  refine Goes.alloc hTT rfl ?_
  intro mb w1 ew1 hmb hw1 hz1
  refine Goes.adv hTT 400 rfl ?_
  refine Goes.alloc hTT rfl ?_
  intro qb w2 ew2 hqb hw2 hz2
  refine Goes.adv hTT 400 rfl ?_
  have hmb2 := hw2.heap' hmb
  refine Goes.no hTT rfl (decide_eq_false (by omega)) rfl ?_
  refine Goes.no hTT rfl (decide_eq_false (by omega)) rfl ?_
  refine Goes.loadb hTT rfl hmb2 rfl rfl ?_
  refine Goes.no hTT rfl (decide_eq_false (by omega)) rfl ?_
  refine Goes.loadb hTT rfl hmb2 rfl rfl ?_
  refine Goes.arith hTT rfl (w64 (by omega)) rfl ?_
  refine Goes.no hTT rfl (decide_eq_false (by omega)) rfl ?_
  refine Goes.loads hTT rfl hmb2 rfl rfl ?_
  refine Goes.arith hTT rfl (w64 (by omega)) rfl ?_
  refine Goes.loadb hTT rfl hmb2 rfl rfl ?_
  refine Goes.arith hTT rfl (w64 (by split <;> omega)) rfl ?_
  by_cases hk : wroteK i n m.gone = 0
  · refine Goes.call rfl (ref15_some0 m i _ w2 (by unfold wroteK at hk; split <;> omega)) ?_
    rintro _ w3 ⟨rfl, hw3⟩
    refine Goes.adv hTT 400 rfl ?_
    have hqb3 := hw3.heap' hqb
    refine Goes.store hTT rfl hqb3 rfl rfl ?_
    intro w4 hqb4 hs4 hz4
    refine Goes.adv hTT 400 rfl ?_
    have hc4 : Chg None' w w4 := ((hw1.trans hw2).trans hw3).since hs4 (fun x hx hxe => by omega)
    have hR4 : RaOk w4 m.ra := (((h.ra.grow hw1).grow hw2).grow hw3).keep hqb3 (by simp [cellsL]) hs4
    exact Goes.ret hTT rfl Try.func50 (ResOk.cell rfl rfl rfl hqb4 rfl (.tmp rfl .nil)) ⟨m, rfl, by unfold wroteB; rw [if_pos hk], by rw [hk]; simp, rfl, rfl, rfl, rfl, hR4, hc4, .inr rfl⟩
  · have e : (if (m.gone : Int) < (i : Int) + n then (m.gone : Int) else (i : Int) + n) - i = ((wroteK i n m.gone : Nat) : Int) := by unfold wroteK at hk ⊢; split <;> omega
    rw [e]
    refine Goes.call rfl (ref15_some m i (wroteK i n m.gone) w2 ((h.grow hw1).grow hw2) hst (by unfold wroteK; omega) (by omega)) ?_
    rintro _ w3 ⟨m3, rfl, hb3, hs3, hf3, ht3, hz3, hg3, hR3, hw3, hn3⟩
    refine Goes.adv hTT 400 rfl ?_
    have hqb3 := hw3.heap' hqb
    refine Goes.store hTT rfl hqb3 rfl rfl ?_
    intro w4 hqb4 hs4 hz4
    refine Goes.adv hTT 400 rfl ?_
    have hc4 : Chg None' w w4 := ((hw1.trans hw2).trans hw3).since hs4 (fun x hx hxe => by omega)
    have hR4 : RaOk w4 m3.ra := hR3.keep hqb3 (by simp [cellsL]) hs4
    exact Goes.ret hTT rfl Try.func50 (ResOk.cell rfl rfl rfl hqb4 rfl (.tmp rfl .nil)) ⟨m3, rfl, by unfold wroteB; rw [if_neg hk]; exact hb3, hs3, hf3, ht3, hz3, hg3, hR4, hc4, hn3.imp (fun h => h.back (hw1.trans hw2).size) id⟩
/-- The bytes, and the charge, of an act. -/
def actB (bs : List Int) (f t size g : Nat) (x : Act) : List Int :=
  if x.step then stepB bs f t g (stepK x.n (size - g))
  else if actIn size x then wroteB (wrB bs (f + x.at'.toNat) x.bs) f t g x.at'.toNat x.bs.length
  else bs
def actC (size g : Nat) (x : Act) : Nat :=
  if x.step then stepK x.n (size - g)
  else if actIn size x then x.bs.length + wroteK x.at'.toNat x.bs.length g
  else 0
def actG (size g : Nat) (x : Act) : Nat := if x.step then stepK x.n (size - g) else 0
theorem ref15_Do (m : RM) (x : Act) (w : World) (h : RmOk w m) (hst : StOk m.ra.steps) (hst' : m.ra.steps ≤ 100000000000) (hx : ActOk w x) : Does Try.prog 30 #[.agg (rmL m).toArray, .agg (actL x).toArray] w
    (fun v w' => ∃ m', v = .tuple #[.agg (rmL m').toArray, .int .i64 (actG m.size m.gone x)] ∧ RmTo m w (actB m.ra.bs m.f m.t m.size m.gone x) (m.ra.steps + actC m.size m.gone x) (m.gone + actG m.size m.gone x) m' w') := by
  have hl := h.ra.len
  have hg := h.gone
  have hf := h.f
  have ht := h.t
  have hxl := hx.len
  refine Does.enter Try.func30 rfl Try.ntmps30 rfl rfl ?_
  refine Goes.adv hTT 400 rfl ?_
  refine Goes.alloc hTT rfl ?_
  intro mb w1 ew1 hmb hw1 hz1
  refine Goes.adv hTT 400 rfl ?_
  refine Goes.alloc hTT rfl ?_
  intro xb w2 ew2 hxb hw2 hz2
  refine Goes.adv hTT 400 rfl ?_
  refine Goes.alloc hTT rfl ?_
  intro qb w3 ew3 hqb hw3 hz3
  refine Goes.adv hTT 400 rfl ?_
  have hc3 := (hw1.trans hw2).trans hw3
  have h3 := h.grow hc3
  have hx3 := hx.chg hc3
  obtain ⟨stp, at', n, a, cap, bs⟩ := x
  simp only at hxl
  replace hxb : w3.heap[xb]? = some (.cells ([.bool stp, .int .i64 at', .int .i64 n, .slice a bs.length cap] : List Value).toArray 48 (0, 0)) := hw3.heap' hxb
  have hmb3 := hw3.heap' (hw2.heap' hmb)
  refine Goes.loadb hTT rfl hxb rfl rfl ?_
  refine Goes.fork hTT rfl rfl rfl (fun hs => ?_) (fun hs => ?_)
  · subst hs
    refine Goes.loads hTT rfl hmb3 rfl rfl ?_
    refine Goes.loadb hTT rfl hxb rfl rfl ?_
    refine Goes.call rfl (ref15_Step m n w3 h3 hst) ?_
    rintro _ w4 ⟨m4, rfl, hb4, hs4, hf4, ht4, hz4, hg4, hR4, hw4, hn4⟩
    refine Goes.adv hTT 400 rfl ?_
    have hqb4 := hw4.heap' hqb
    refine Goes.store hTT rfl hqb4 rfl rfl ?_
    intro w5 hqb5 hs5 hz5
    refine Goes.adv hTT 400 rfl ?_
    have hc5 : Chg None' w w5 := (hc3.trans hw4).since hs5 (fun x hx hxe => by omega)
    have hR5 : RaOk w5 m4.ra := hR4.keep hqb4 (by simp [cellsL]) hs5
    exact Goes.ret hTT rfl Try.func30 (ResOk.cell rfl rfl rfl hqb5 rfl (.tmp rfl .nil)) ⟨m4, rfl, hb4, hs4, hf4, ht4, hz4, hg4, hR5, hc5, hn4.imp (fun h => h.back hc3.size) id⟩
  · subst hs
    have hno : ∀ {w'}, RaOk w' m.ra → Chg None' w w' → actIn m.size ⟨false, at', n, a, cap, bs⟩ = false → RmTo m w (actB m.ra.bs m.f m.t m.size m.gone ⟨false, at', n, a, cap, bs⟩) (m.ra.steps + actC m.size m.gone ⟨false, at', n, a, cap, bs⟩) (m.gone + actG m.size m.gone ⟨false, at', n, a, cap, bs⟩) m w' := fun hR hc hi => by
      unfold actB actC actG
      simp only [hi, Bool.false_eq_true, if_false]
      exact ⟨rfl, by simp, rfl, rfl, rfl, rfl, hR, hc, .inr rfl⟩
    refine Goes.loadb hTT rfl hxb rfl rfl ?_
    refine Goes.fork hTT rfl rfl rfl (fun h2 => ?_) (fun h2 => ?_)
    · have g2 := of_decide_eq_true h2
      refine Goes.loads hTT rfl hmb3 rfl rfl ?_
      refine Goes.store hTT rfl hqb rfl rfl ?_
      intro w4 hqb4 hs4 hz4
      refine Goes.adv hTT 400 rfl ?_
      have hc4 : Chg None' w w4 := hc3.since hs4 (fun x hx hxe => by omega)
      exact Goes.ret hTT rfl Try.func30 (ResOk.cell rfl rfl rfl hqb4 rfl (.tmp rfl .nil)) ⟨m, rfl, hno (h3.ra.keep hqb (by simp [cellsL]) hs4) hc4 (actIn_no (.inl g2))⟩
    have g2 := of_decide_eq_false h2
    refine Goes.loadb hTT rfl hxb rfl rfl ?_
    refine Goes.loadb hTT rfl hmb3 rfl rfl ?_
    refine Goes.fork hTT rfl rfl rfl (fun h4 => ?_) (fun h4 => ?_)
    · have g4 := of_decide_eq_true h4
      refine Goes.loads hTT rfl hmb3 rfl rfl ?_
      refine Goes.store hTT rfl hqb rfl rfl ?_
      intro w4 hqb4 hs4 hz4
      refine Goes.adv hTT 400 rfl ?_
      have hc4 : Chg None' w w4 := hc3.since hs4 (fun x hx hxe => by omega)
      exact Goes.ret hTT rfl Try.func30 (ResOk.cell rfl rfl rfl hqb4 rfl (.tmp rfl .nil)) ⟨m, rfl, hno (h3.ra.keep hqb (by simp [cellsL]) hs4) hc4 (actIn_no (.inr (.inl (by simp only; omega))))⟩
    have g4 := of_decide_eq_false h4
    refine Goes.loadb hTT rfl hxb rfl rfl ?_
    refine Goes.loadb hTT rfl hmb3 rfl rfl ?_
    refine Goes.loadb hTT rfl hxb rfl rfl ?_
    refine Goes.arith hTT rfl (w64 (by omega)) rfl ?_
    refine Goes.fork hTT rfl rfl rfl (fun h5 => ?_) (fun h5 => ?_)
    · have g5 := of_decide_eq_true h5
      refine Goes.loads hTT rfl hmb3 rfl rfl ?_
      refine Goes.store hTT rfl hqb rfl rfl ?_
      intro w4 hqb4 hs4 hz4
      refine Goes.adv hTT 400 rfl ?_
      have hc4 : Chg None' w w4 := hc3.since hs4 (fun x hx hxe => by omega)
      exact Goes.ret hTT rfl Try.func30 (ResOk.cell rfl rfl rfl hqb4 rfl (.tmp rfl .nil)) ⟨m, rfl, hno (h3.ra.keep hqb (by simp [cellsL]) hs4) hc4 (actIn_no (.inr (.inr (by simp only; omega))))⟩
    have g5 := of_decide_eq_false h5
    obtain ⟨i, rfl⟩ := Int.eq_ofNat_of_zero_le (show 0 ≤ at' by omega)
    have hin : actIn m.size ⟨false, i, n, a, cap, bs⟩ = true := thereB_iff.2 (by simp only; omega)
    refine Goes.loads hTT rfl hmb3 rfl rfl ?_
    refine Goes.loadb hTT rfl hmb3 rfl rfl ?_
    refine Goes.loadb hTT rfl hxb rfl rfl ?_
    refine Goes.arith hTT rfl (w64 (by omega)) rfl ?_
    rw [show ((m.f : Int) + i) = ((m.f + i : Nat) : Int) from by omega]
    refine Goes.loadb hTT rfl hxb rfl rfl ?_
    refine Goes.call rfl (ref06_Write m.ra (m.f + i) a cap bs w3 h3.ra hst (by have := h.pos; omega) hx3.rd hx3.rng (by omega)) ?_
    rintro _ w4 ⟨r4, rfl, hb4, hs4, hR4, hw4, hn4⟩
    refine Goes.adv hTT 400 rfl ?_
    have hbl4 : r4.bs.length = m.ra.bs.length := by rw [hb4, wrB_length (by omega)]
    refine Goes.alloc hTT rfl ?_
    intro nb w5 ew5 hnb hw5 hz5
    refine Goes.adv hTT 400 rfl ?_
    refine Goes.store hTT rfl hnb rfl rfl ?_
    intro w6 hnb6 hs6 hz6
    refine Goes.adv hTT 400 rfl ?_
    have hc6 : Chg None' w4 w6 := hw5.since hs6 (fun x hx hxe => by omega)
    refine Goes.loads hTT rfl hnb6 rfl rfl ?_
    have hmb6 := hc6.heap' (hw4.heap' hmb3)
    refine Goes.store hTT rfl hmb6 rfl rfl ?_
    intro w7 hmb7 hs7 hz7
    refine Goes.adv hTT 400 rfl ?_
    have hR7 : RaOk w7 r4 := (hR4.grow hc6).keep hmb6 (by simp [cellsL, rmL]) hs7
    have hc7 : Chg None' w w7 := ((hc3.trans hw4).trans hc6).since hs7 (fun x hx hxe => by omega)
    have hxb7 := hs7.heap (hc6.heap' (hw4.heap' hxb)) (show ¬ _ by omega)
    refine Goes.loads hTT rfl hmb7 rfl rfl ?_
    refine Goes.loadb hTT rfl hxb7 rfl rfl ?_
    refine Goes.loadb hTT rfl hxb7 rfl rfl ?_
    have hst4 : StOk r4.steps := by rw [hs4]; unfold StOk at hst ⊢; omega
    refine Goes.call rfl (ref15_Wrote ⟨r4, m.f, m.t, m.size, m.gone⟩ i bs.length w7 ⟨hR7, h.pos, h.gone, by simp only; omega, by simp only; omega⟩ hst4 (by simp only; omega)) ?_
    rintro _ w8 ⟨m8, rfl, hb8, hs8, hf8, ht8, hz8, hg8, hR8, hw8, hn8⟩
    refine Goes.adv hTT 400 rfl ?_
    refine Goes.alloc hTT rfl ?_
    intro kb w9 ew9 hkb hw9 hz9
    refine Goes.adv hTT 400 rfl ?_
    refine Goes.store hTT rfl hkb rfl rfl ?_
    intro w10 hkb10 hs10 hz10
    refine Goes.adv hTT 400 rfl ?_
    have hc10 : Chg None' w8 w10 := hw9.since hs10 (fun x hx hxe => by omega)
    refine Goes.loads hTT rfl hkb10 rfl rfl ?_
    have hqb7 := hs7.heap (hc6.heap' (hw4.heap' hqb)) (show ¬ _ by omega)
    have hqb10 := hc10.heap' (hw8.heap' hqb7)
    refine Goes.store hTT rfl hqb10 rfl rfl ?_
    intro w11 hqb11 hs11 hz11
    refine Goes.adv hTT 400 rfl ?_
    have hc11 : Chg None' w w11 := ((hc7.trans hw8).trans hc10).since hs11 (fun x hx hxe => by omega)
    have hR11 : RaOk w11 m8.ra := (hR8.grow hc10).keep hqb10 (by simp [cellsL]) hs11
    have hnew : NewA w m8.ra ∨ m8.ra.a = m.ra.a := by
      rcases hn8 with h | h
      · exact .inl (h.back hc7.size)
      · obtain ⟨g, g1, g2⟩ := hn4
        exact .inl ⟨g, h.trans g1, Nat.le_trans hc3.size g2⟩
    exact Goes.ret hTT rfl Try.func30 (ResOk.cell rfl rfl rfl hqb11 rfl (.tmp rfl .nil)) ⟨m8, rfl, by unfold actB; simp only [hin, Bool.false_eq_true, if_false, if_true]; rw [hb8, hb4]; rfl, by unfold actC; simp only [hin, Bool.false_eq_true, if_false, if_true]; rw [hs8, hs4]; simp only [Int.toNat_natCast]; omega, hf8, ht8, hz8, hg8, hR11, hc11, hnew⟩
end Go.Proofs.Ytommemplakcaaaa
