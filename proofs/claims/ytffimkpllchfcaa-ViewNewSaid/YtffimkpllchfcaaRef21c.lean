/-
  Layer 21: a new one, or what forbids it.
-/
import Derived.Test.YtffimkpllchfcaaRef21
namespace Go.Proofs.Ytffimkpllchfcaa
open Go.RowKit

def zero21 : List Value := [.int .i64 0, .int .i64 0, .slice none 0 0, .slice none 0 0, .int .i64 0, .int .i64 0, .int .i64 0, .int .i64 0, .slice none 0 0, .int .i64 0]
theorem ref21_New (c : Conf) (p : ConfAt) (n k : Int) (w : World) (hc : ConfOk w c p) (ht : arMay n k = true) : Does Try.prog 16 #[.agg (confL c p).toArray, .int .i64 n, .int .i64 k] w
    (fun u w' => Chg None' w w' ∧ (((mayB c = true ∧ n * k = c.size * c.pages) ∧ ∃ r : RA, u = .tuple #[.agg (confL c p ++ raL r).toArray, .int .i64 0]) ∨ (¬ (mayB c = true ∧ n * k = c.size * c.pages) ∧ u = .tuple #[.agg zero21.toArray, .int .i64 1]))) := by
  have g := arMay_iff.1 ht
  have h0 : 0 ≤ n * k := Int.mul_nonneg (by omega) (by omega)
  have hlen : (zeros (n * k).toNat).length = (n * k).toNat := List.length_replicate
  refine Does.enter Try.func16 rfl Try.ntmps16 rfl rfl ?_
  refine Goes.adv hTT 400 rfl ?_
  refine Goes.alloc hTT rfl ?_
  intro cb w1 e1 hcb hw1 hz1
  refine Goes.adv hTT 400 rfl ?_
  refine Goes.alloc hTT rfl ?_
  intro xb w2 e2 hxb hw2 hz2
  refine Goes.adv hTT 400 rfl ?_
  replace hcb : w1.heap[cb]? = some (.cells (confL c p).toArray 24 (0, 0)) := hcb
  have hw := hw1.trans hw2
  refine Goes.call rfl (ref06_New n k w2 ht) ?_
  rintro _ w3 ⟨b, rfl, hb, hR, hw3⟩
  refine Goes.adv hTT 400 rfl ?_
  refine Goes.alloc hTT rfl ?_
  intro ab w4 e4 hab hw4 hz4
  refine Goes.adv hTT 400 rfl ?_
  refine Goes.store hTT rfl hab rfl rfl ?_
  intro w5 hab5 hs5 hz5
  refine Goes.adv hTT 400 rfl ?_
  have hwa : Chg None' w w5 := ((hw.trans hw3).trans hw4).since hs5 (fun z hz e => by have := hw.size; have := hw3.size; omega)
  have hw25 : Chg None' w2 w5 := (hw3.trans hw4).since hs5 (fun z hz e => by have := hw3.size; omega)
  have hcb5 := (hw2.heap' hcb)
  have hcb5 := hw25.heap' hcb5
  refine Goes.loads hTT rfl hcb5 rfl rfl ?_
  refine Goes.call rfl (ref03_May c p w5 (hc.chg hwa)) ?_
  rintro _ w6 ⟨rfl, hw6⟩
  refine Goes.adv hTT 400 rfl ?_
  have hwb := hwa.trans hw6
  have hw26 := hw25.trans hw6
  have hlx := lt_of_heap hxb
  cases hm : mayB c with
  | false =>
    rw [show mayM c = 1 from by unfold mayM; rw [hm]; rfl]
    refine Goes.yes hTT rfl rfl rfl ?_
    refine Goes.build hTT rfl rfl ?_
    refine Goes.store hTT rfl (hw26.heap' hxb) rfl rfl ?_
    intro w7 hx7 hs7 hz7
    refine Goes.adv hTT 400 rfl ?_
    exact Goes.ret hTT rfl Try.func16 (ResOk.cell rfl rfl rfl hx7 rfl (.tmp rfl .nil)) ⟨hwb.since hs7 (fun z hz e => by have := hw1.size; omega), .inr ⟨fun h => by simp at h, rfl⟩⟩
  | true =>
    rw [show mayM c = 0 from by unfold mayM; rw [hm]; rfl]
    have htot := size_total hm
    refine Goes.no hTT rfl rfl rfl ?_
    refine Goes.no hTT rfl rfl rfl ?_
    refine Goes.loadb hTT rfl (hw6.heap' hab5) rfl rfl ?_
    refine Goes.loadb hTT rfl (hw6.heap' hcb5) rfl rfl ?_
    refine Goes.loadb hTT rfl (hw6.heap' hcb5) rfl rfl ?_
    refine Goes.arith hTT rfl (w64 (by omega)) rfl ?_
    by_cases hl : n * k = c.size * c.pages
    · refine Goes.no hTT rfl (show ((((zeros (n * k).toNat).length : Nat) : Int) != c.size * c.pages) = false by rw [hlen, show (((n * k).toNat : Nat) : Int) = c.size * c.pages by omega]; exact bne_self_eq_false _) rfl ?_
      refine Goes.loads hTT rfl (hw6.heap' hcb5) rfl rfl ?_
      refine Goes.loads hTT rfl (hw6.heap' hab5) rfl rfl ?_
      refine Goes.build hTT rfl rfl ?_
      refine Goes.store hTT rfl (hw26.heap' hxb) rfl rfl ?_
      intro w7 hx7 hs7 hz7
      refine Goes.adv hTT 400 rfl ?_
      exact Goes.ret hTT rfl Try.func16 (ResOk.cell rfl rfl rfl hx7 rfl (.tmp rfl .nil)) ⟨hwb.since hs7 (fun z hz e => by have := hw1.size; omega), .inl ⟨⟨rfl, hl⟩, _, rfl⟩⟩
    · refine Goes.yes hTT rfl (show ((((zeros (n * k).toNat).length : Nat) : Int) != c.size * c.pages) = true by rw [hlen]; simp; omega) rfl ?_
      refine Goes.build hTT rfl rfl ?_
      refine Goes.store hTT rfl (hw26.heap' hxb) rfl rfl ?_
      intro w7 hx7 hs7 hz7
      refine Goes.adv hTT 400 rfl ?_
      exact Goes.ret hTT rfl Try.func16 (ResOk.cell rfl rfl rfl hx7 rfl (.tmp rfl .nil)) ⟨hwb.since hs7 (fun z hz e => by have := hw1.size; omega), .inr ⟨fun h => hl h.2, rfl⟩⟩
theorem law_ViewNew (c : Conf) (p : ConfAt) (a b : Int) (w : World) (hc : ConfOk w c p) (ha : 0 ≤ a ∧ a < 256) (hb : 0 ≤ b ∧ b < 256) : Does Try.prog 4 #[.agg (confL c p).toArray, .int .u8 a, .int .u8 b] w (Grow (.bool true) w) := by
  refine Does.enter Try.func4 rfl Try.ntmps4 rfl rfl ?_
  refine Goes.adv hTT 400 rfl ?_
  refine Goes.alloc hTT rfl ?_
  intro cb w1 e1 hcb hw1 hz1
  refine Goes.adv hTT 400 rfl ?_
  replace hcb : w1.heap[cb]? = some (.cells (confL c p).toArray 24 (0, 0)) := hcb
  refine Goes.call rfl (law21_awake w1) ?_
  rintro _ w2 ⟨rfl, hw2⟩
  refine Goes.adv hTT 400 rfl ?_
  have hw := hw1.trans hw2
  have hcb2 := hw2.heap' hcb
  refine Goes.loadb hTT rfl hcb2 rfl rfl ?_
  refine Goes.fork hTT rfl rfl rfl (fun h1 => ?_) (fun h1 => ?_)
  · exact Goes.ret1 hTT rfl Try.func4 rfl rfl ⟨rfl, hw⟩
  refine Goes.loadb hTT rfl hcb2 rfl rfl ?_
  refine Goes.fork hTT rfl rfl rfl (fun h2 => ?_) (fun h2 => ?_)
  · exact Goes.ret1 hTT rfl Try.func4 rfl rfl ⟨rfl, hw⟩
  refine Goes.arith hTT rfl (w64 (by omega)) rfl ?_
  refine Goes.div hTT rfl (by omega) (rem_ (by omega)) rfl ?_
  refine Goes.arith hTT rfl (w64 (by omega)) rfl ?_
  refine Goes.arith hTT rfl (w64 (by omega)) rfl ?_
  refine Goes.div hTT rfl (by omega) (rem_ (by omega)) rfl ?_
  refine Goes.arith hTT rfl (w64 (by omega)) rfl ?_
  refine Goes.arith hTT rfl (w64 (by omega)) rfl ?_
  have hmay : arMay (1 + a % 24) (64 + 8 * (b % 25)) = true := arMay_iff.2 (by omega)
  refine Goes.call rfl (arena_New none 0 0 (1 + a % 24) (64 + 8 * (b % 25)) w2 (fun b hb => by cases hb) hmay) ?_
  rintro _ w3 ⟨A, rfl, hmb, ha1, ha2, ha3, hA3, hw3⟩
  refine Goes.adv hTT 400 rfl ?_
  have hwa := hw.trans hw3
  have hcb3 := hw3.heap' hcb2
  have h0 : 0 ≤ (1 + a % 24) * (64 + 8 * (b % 25)) := Int.mul_nonneg (by omega) (by omega)
  have hlen : (zeros ((1 + a % 24) * (64 + 8 * (b % 25))).toNat).length = ((1 + a % 24) * (64 + 8 * (b % 25))).toNat := List.length_replicate
  refine Goes.loads hTT rfl hcb3 rfl rfl ?_
  by_cases hcnd : mayB c = true ∧ (1 + a % 24) * (64 + 8 * (b % 25)) = c.size * c.pages
  · have hcond : mayB c = true ∧ (((⟨zeros ((1 + a % 24) * (64 + 8 * (b % 25))).toNat, 0, 0⟩ : ArV).bs.length : Nat) : Int) = c.size * c.pages := ⟨hcnd.1, by show (((zeros ((1 + a % 24) * (64 + 8 * (b % 25))).toNat).length : Nat) : Int) = _; rw [hlen]; omega⟩
    have hVN : Does Try.prog 11 #[.agg (confL c p).toArray, .pointer (some ⟨A.ab, 0, none⟩), ptr A.mb] w3 (fun u w' => Chg None' w3 w' ∧ ∃ vb, u = .tuple #[.pointer (some ⟨vb, 0, none⟩), .int .i64 0]) :=
      (view_New c p A _ w3 (hc.chg hwa) hA3).mono fun u w' h => ⟨h.1, by have h2 := h.2; rw [if_pos hcond] at h2; obtain ⟨vb, h3, _⟩ := h2; exact ⟨vb, h3⟩⟩
    rw [hmb] at hVN
    refine Goes.call rfl (hVN) ?_
    rintro _ w4 ⟨hw4, vb, rfl⟩
    refine Goes.adv hTT 400 rfl ?_
    refine Goes.loads hTT rfl (hw4.heap' hcb3) rfl rfl ?_
    have hRN : Does Try.prog 16 #[.agg (confL c p).toArray, .int .i64 (1 + a % 24), .int .i64 (64 + 8 * (b % 25))] w4 (fun u w' => Chg None' w4 w' ∧ ∃ r : RA, u = .tuple #[.agg (confL c p ++ raL r).toArray, .int .i64 0]) :=
      (ref21_New c p _ _ w4 (hc.chg (hwa.trans hw4)) hmay).mono fun u w' h => ⟨h.1, by rcases h.2 with h | h; exact h.2; exact absurd hcnd h.1⟩
    refine Goes.call rfl (hRN) ?_
    rintro _ w5 ⟨hw5, r, rfl⟩
    refine Goes.adv hTT 400 rfl ?_
    refine Goes.alloc hTT rfl ?_
    intro yb w6 e6 hyb hw6 hz6
    refine Goes.adv hTT 400 rfl ?_
    refine Goes.store hTT rfl hyb rfl rfl ?_
    intro w7 hy7 hs7 hz7
    refine Goes.adv hTT 400 rfl ?_
    refine Goes.yes hTT rfl rfl rfl ?_
    refine Goes.yes hTT rfl rfl rfl ?_
    exact Goes.ret1 hTT rfl Try.func4 rfl rfl ⟨rfl, (((hwa.trans hw4).trans hw5).trans hw6).since hs7 (fun z hz e => by have := hwa.size; have := hw4.size; have := hw5.size; omega)⟩
  · have hcond : ¬ (mayB c = true ∧ (((⟨zeros ((1 + a % 24) * (64 + 8 * (b % 25))).toNat, 0, 0⟩ : ArV).bs.length : Nat) : Int) = c.size * c.pages) := fun h => hcnd ⟨h.1, by
      have h2 : (((zeros ((1 + a % 24) * (64 + 8 * (b % 25))).toNat).length : Nat) : Int) = c.size * c.pages := h.2
      rw [hlen] at h2; omega⟩
    have hVN : Does Try.prog 11 #[.agg (confL c p).toArray, .pointer (some ⟨A.ab, 0, none⟩), ptr A.mb] w3 (Grow (.tuple #[.pointer none, .int .i64 1]) w3) :=
      (view_New c p A _ w3 (hc.chg hwa) hA3).mono fun u w' h => ⟨by have h2 := h.2; rw [if_neg hcond] at h2; exact h2, h.1⟩
    rw [hmb] at hVN
    refine Goes.call rfl (hVN) ?_
    rintro _ w4 ⟨rfl, hw4⟩
    refine Goes.adv hTT 400 rfl ?_
    refine Goes.loads hTT rfl (hw4.heap' hcb3) rfl rfl ?_
    have hRN : Does Try.prog 16 #[.agg (confL c p).toArray, .int .i64 (1 + a % 24), .int .i64 (64 + 8 * (b % 25))] w4 (Grow (.tuple #[.agg zero21.toArray, .int .i64 1]) w4) :=
      (ref21_New c p _ _ w4 (hc.chg (hwa.trans hw4)) hmay).mono fun u w' h => ⟨by rcases h.2 with h | h; exact absurd h.1 hcnd; exact h.2, h.1⟩
    refine Goes.call rfl (hRN) ?_
    rintro _ w5 ⟨rfl, hw5⟩
    refine Goes.adv hTT 400 rfl ?_
    refine Goes.alloc hTT rfl ?_
    intro yb w6 e6 hyb hw6 hz6
    refine Goes.adv hTT 400 rfl ?_
    refine Goes.store hTT rfl hyb rfl rfl ?_
    intro w7 hy7 hs7 hz7
    refine Goes.adv hTT 400 rfl ?_
    refine Goes.yes hTT rfl rfl rfl ?_
    refine Goes.yes hTT rfl rfl rfl ?_
    exact Goes.ret1 hTT rfl Try.func4 rfl rfl ⟨rfl, (((hwa.trans hw4).trans hw5).trans hw6).since hs7 (fun z hz e => by have := hwa.size; have := hw4.size; have := hw5.size; omega)⟩
end Go.Proofs.Ytffimkpllchfcaa
