/-
  Layer 16: the list of spans.
-/
import Derived.Test.YtffimkpllchfcaaChain
namespace Go.Proofs.Ytffimkpllchfcaa
open Go.RowKit

theorem chain_spans (at' n page : Int) (w : World) : Does Try.prog 75 #[.int .i64 at', .int .i64 n, .int .i64 page] w (fun v w' => ∃ pa pp pn, v = .func (.func 78) #[] #[.pointer (some ⟨pa, 0, none⟩), .pointer (some ⟨pp, 0, none⟩), .pointer (some ⟨pn, 0, none⟩)] ∧
    w.heap.size ≤ pa ∧ w.heap.size ≤ pp ∧ w.heap.size ≤ pn ∧ (pa ≠ pp ∧ pa ≠ pn ∧ pp ≠ pn) ∧ intBox w' pa at' ∧ intBox w' pp page ∧ intBox w' pn n ∧ Chg None' w w') := by
  refine Does.enter Try.func75 rfl Try.ntmps75 rfl rfl ?_
  refine Goes.adv hTT 400 rfl ?_
  refine Goes.alloc hTT rfl ?_
  intro pa w1 e1 ha hw1 hz1
  refine Goes.adv hTT 400 rfl ?_
  refine Goes.alloc hTT rfl ?_
  intro pn w2 e2 hn hw2 hz2
  refine Goes.adv hTT 400 rfl ?_
  refine Goes.alloc hTT rfl ?_
  intro pp w3 e3 hp hw3 hz3
  refine Goes.adv hTT 400 rfl ?_
  exact Goes.ret1 hTT rfl Try.func75 rfl rfl ⟨pa, pp, pn, rfl, by omega, by omega, by omega, by omega, hw3.heap' (hw2.heap' ha), hp, hw3.heap' hn, (hw1.trans hw2).trans hw3⟩
/-- Spans in a slice of one's own. -/
theorem rows_of_own {base t : Nat} {w : World} {v : Value} {L : List Span} (h : Own base t 3 w v L.length (L.flatMap spanL)) : ∃ a cap, v = .slice a L.length cap ∧ Rows spanL 3 w a L ∧ ∀ b off s, a = some ⟨b, off, s⟩ → base ≤ b := by
  rcases h.2 with ⟨rfl, h0⟩ | ⟨g, cap, cur, rfl, h2, h3, h4, h5, h6, h7⟩
  · obtain rfl : L = [] := List.length_eq_zero_iff.1 h0
    exact ⟨none, 0, rfl, fun i x hx => by simp at hx, fun _ _ _ e => by cases e⟩
  · refine ⟨some ⟨g, 0, none⟩, cap, rfl, fun i x hx => ⟨g, 0, rfl, fun j v hv => ?_⟩, fun b off s e => by cases e; exact h2⟩
    have hil := (List.getElem?_eq_some_iff.1 hx).1
    have hj : j < 3 := by have := (List.getElem?_eq_some_iff.1 hv).1; simpa [spanL] using this
    rw [cell_of h3]
    have hfl : ∀ (L : List Span) (i : Nat) (x : Span), L[i]? = some x → (L.flatMap spanL)[i * 3 + j]? = (spanL x)[j]? := by
      intro L
      induction L with
      | nil => intro i x hx; simp at hx
      | cons s r ih =>
        intro i x hx
        rw [List.flatMap_cons]
        have hl3 : (spanL s).length = 3 := rfl
        cases i with
        | zero =>
          simp at hx; subst hx
          rw [Nat.zero_mul, Nat.zero_add, List.getElem?_append_left (by rw [hl3]; exact hj)]
        | succ i =>
          rw [List.getElem?_append_right (by rw [hl3]; omega), hl3, show (i + 1) * 3 + j - 3 = i * 3 + j from by omega]
          exact ih i x (by simpa using hx)
    have h8 := hfl L i x hx
    rw [hv, ← h7, List.getElem?_take, if_pos (by omega)] at h8
    rw [Nat.zero_add]
    simpa using h8
theorem chain_Cut (at' n page : Nat) (w : World) (hb : at' + n ≤ 16777216 ∧ 1 ≤ page ∧ page ≤ 16777216) : Does Try.prog 72 #[.int .i64 at', .int .i64 n, .int .i64 page] w
    (fun v w' => ∃ a cap, v = .slice a (spansM at' n page).length cap ∧ Rows spanL 3 w' a (spansM at' n page) ∧ (∀ b off s, a = some ⟨b, off, s⟩ → w.heap.size ≤ b) ∧ Chg None' w w') := by
  have hml : maxLen = 9223372036854775807 := rfl
  have hsl := spansM_length (page := page) hb.2.1 n at'
  refine Does.enter Try.func72 rfl Try.ntmps72 rfl rfl ?_
  refine Goes.adv hTT 400 rfl ?_
  refine Goes.no hTT rfl (decide_eq_false (by omega)) rfl ?_
  refine Goes.no hTT rfl (decide_eq_false (by omega)) rfl ?_
  refine Goes.no hTT rfl (decide_eq_false (by omega)) rfl ?_
  refine Goes.no hTT rfl (decide_eq_false (by omega)) rfl ?_
  refine Goes.arith hTT rfl (w64 (by omega)) rfl ?_
  refine Goes.no hTT rfl (decide_eq_false (by omega)) rfl ?_
  refine Goes.alloc hTT rfl ?_
  intro lb w1 e1 hlb hw1 hz1
  refine Goes.adv hTT 400 rfl ?_
  refine Goes.call rfl (chain_spans at' n page w1) ?_
  rintro _ w2 ⟨pa, pp, pn, rfl, ha2, hp2, hn2, hne, hba, hbp, hbn, hw2⟩
  refine Goes.adv hTT 400 rfl ?_
  have hbla := lt_of_heap hba
  have hblp := lt_of_heap hbp
  have hbln := lt_of_heap hbn
  have hw02 := hw1.trans hw2
  have hlb2 := hw2.heap' hlb
  have hs2 := hw2.size
  refine Goes.rangeFunc rfl rfl ⟨Try.f78, Try.func78, rfl, rfl⟩ ?_
  intro r0 B tmps w3 hr0 hB hfit hmk hlr hw3 hz3
  have hw03 := hw02.trans hw3
  have hr0s : r0.state = .ready := by rw [hr0]
  have hr0r : ({ r0 with state := .ready, pending := none } : Loop) = r0 := by rw [hr0]
  have hr0p : r0.pending = none := by rw [hr0]
  refine (chain_spans1 (B + 1) pa pp pn at' n page w3 (fun z => z = lb ∨ z = B + 1 ∨ B + 2 ≤ z)
    (fun k w' => k ≤ (spansM at' n page).length ∧ ∃ v, w'.heap[lb]? = some (.cells ([v] : List Value).toArray 107 (0, 0)) ∧ Own (B + 2) 110 3 w' v k (((spansM at' n page).take k).flatMap spanL) ∧
      w'.heap[B + 1]? = some (.loop r0) ∧ w'.heap[B]? = some (.deferred (some [])) ∧ B + 2 ≤ w'.heap.size ∧ Chg None' w w')
    hb (hw3.heap' hba) (hw3.heap' hbp) (hw3.heap' hbn) hne ⟨by omega, by omega, by omega⟩ ?_ ?_ ⟨Nat.zero_le _, _, hw3.heap' hlb2, World.ownsRow_nil _ _ _ _, hlr, hmk, by omega, hw03⟩).mono ?_
  · rintro k w4 w5 ⟨hk, v, h1, h2, h3, h4, h5, h6⟩ hs
    refine ⟨hk, v, hs.heap h1 (by omega), h2.chg hs (fun b hb e => ?_), hs.heap h3 (by omega), hs.heap h4 (by omega), Nat.le_trans h5 hs.size, h6.since hs (fun z hz e => by have := hw1.size; omega)⟩
    have := (World.ownsRow.lt h2 b hb.symm).1
    omega
  · rintro k w4 w5 hk ⟨hk', v, h1, h2, h3, h4, h5, h6⟩ hw5
    have hlt3 := lt_of_heap h3
    have hlt1 := lt_of_heap h1
    subst hr0
    refine YDoes.enter (ps := [33]) (hw5.heap' h3) rfl rfl hfit rfl ?_
    refine Goes.adv hTT 400 rfl ?_
    refine Goes.alloc hTT rfl ?_
    intro sb w6 e6 hsb hw6 hz6
    refine Goes.adv hTT 400 rfl ?_
    refine Goes.store hTT rfl hsb rfl rfl ?_
    intro w7 hsb7 hs7 hz7
    refine Goes.adv hTT 400 rfl ?_
    have hw47 : Chg None' w4 w7 := (hw5.trans hw6).since hs7 (fun z hz e => by have := hw5.size; omega)
    have hsz5 := hw5.size
    refine Goes.beginRound rfl (hw47.heap' h3) rfl ?_
    intro w8 hl8 hs8 hz8
    refine Goes.adv hTT 400 rfl ?_
    refine Goes.loadb hTT rfl (hs8.heap (hw47.heap' h1) (by omega)) rfl rfl ?_
    refine Goes.loads hTT rfl (hs8.heap hsb7 (by omega)) rfl rfl ?_
    refine Goes.buildSlice hTT rfl ?_
    intro b9 w9 e9 hb9 hw9 hz9
    refine Goes.adv hTT 400 rfl ?_
    have ho9 := ((h2.chg hw47 (fun _ _ h => h)).chg hs8 (fun b hb e => by have := (World.ownsRow.lt h2 b hb.symm).1; omega)).chg hw9 (fun _ _ h => h)
    have htk : ((spansM at' n page).take (k + 1)).flatMap spanL = ((spansM at' n page).take k).flatMap spanL ++ spanL (spansM at' n page)[k] := by
      rw [List.take_add_one, List.getElem?_eq_getElem hk, List.flatMap_append]; simp
    refine Goes.append (base := B + 2) (news := spanL (spansM at' n page)[k]) hTT rfl ho9 (by have := hw47.size; have := hs8.size; have := hw9.size; omega) rfl (fun i u hu => by rw [add_off, cell_of hb9]; simpa [spanL, zeroRow] using hu) (fun u hu => by simp [spanL] at hu; rcases hu with rfl | rfl | rfl <;> rfl) (by simp only; omega) ?_
    intro v10 w10 ho10 hs10 hv10
    obtain ⟨g10, cap10, cur10, hv10e, -⟩ := ho10.form (by omega)
    subst hv10e
    refine Goes.adv hTT 400 rfl ?_
    have hlb10 := hs10.heap (hw9.heap' (hs8.heap (hw47.heap' h1) (by omega))) (fun e => by have := (World.ownsRow.lt ho9 lb e.symm).1; omega)
    refine Goes.store hTT rfl hlb10 rfl rfl ?_
    intro w11 hlb11 hs11 hz11
    refine Goes.adv hTT 400 rfl ?_
    have hl10 := hs10.heap (hw9.heap' hl8) (fun e => by have := (World.ownsRow.lt ho9 _ e.symm).1; omega)
    have hl11 := hs11.heap hl10 (by omega)
    refine Goes.roundEnd rfl hl11 ?_
    intro w12 hl12 hs12 hz12
    have hm12 : w12.heap[B]? = some (.deferred (some [])) := hs12.heap (hs11.heap (hs10.heap (hw9.heap' (hs8.heap (hw47.heap' h4) (by omega))) (fun e => by have := (World.ownsRow.lt ho9 _ e.symm).1; omega)) (by omega)) (by omega)
    have hc : ∀ S : Nat → Prop, S lb → S (B + 1) → (∀ z, some z = v.ownBlock → S z) → Chg S w5 w12 := fun S c1 c2 c3 => by
      have a1 : Chg S w5 w7 := (hw6.mono fun _ _ h => h.elim).since hs7 (fun z hz e => by omega)
      have a2 : Chg S w7 w8 := hs8.mono fun z _ e => by subst e; exact c2
      have a3 : Chg S w8 w10 := (hw9.mono fun _ _ h => h.elim).trans (hs10.mono fun z _ e => c3 z e)
      have a4 : Chg S w10 w11 := hs11.mono fun z _ e => by subst e; exact c1
      have a5 : Chg S w11 w12 := hs12.mono fun z _ e => by subst e; exact c2
      exact (((a1.trans a2).trans a3).trans a4).trans a5
    refine ⟨_, rfl, rfl, ⟨hk, _, hs12.heap hlb11 (by omega), ?_, hl12, hm12, by have := hw47.size; have := hs8.size; have := hw9.size; have := hs10.size; omega, (h6.trans hw5).since (hc (fun z => z = lb ∨ B + 1 ≤ z) (.inl rfl) (.inr (Nat.le_refl _)) (fun z e => .inr (by have := (World.ownsRow.lt h2 z e.symm).1; omega))) (fun z hz e => by have := hw1.size; omega)⟩,
      hc _ ⟨.inl rfl, hlt1⟩ ⟨.inr (.inl rfl), hlt3⟩ (fun z e => ⟨.inr (.inr (World.ownsRow.lt h2 z e.symm).1), (World.ownsRow.lt h2 z e.symm).2⟩)⟩
    rw [htk]
    exact (ho10.chg hs11 (fun b hb e => by have := (World.ownsRow.lt ho10 b hb.symm).1; omega)).chg hs12 (fun b hb e => by have := (World.ownsRow.lt ho10 b hb.symm).1; omega)
  · rintro _ w4 ⟨rfl, ⟨hk, v, h1, h2, h3, h4, h5, h6⟩, hs4⟩
    refine ⟨_, h3, by rw [hr0s]; simp, ?_⟩
    intro w5 hs5 hz5
    rw [hr0p]
    refine Goes.adv hTT 400 rfl ?_
    refine Goes.loadb hTT rfl (hs5.heap h1 (by omega)) rfl rfl ?_
    rw [List.take_length] at h2
    have h25 := h2.chg hs5 (fun b hb e => by have := (World.ownsRow.lt h2 b hb.symm).1; omega)
    refine Goes.retM hTT rfl Try.func72 (hs5.heap h4 (by omega)) (vs := [v]) (fun _ _ => .tmp rfl .nil) ?_
    intro w6 hs6 hz6
    have h26 := h25.chg hs6 (fun b hb e => by have := (World.ownsRow.lt h2 b hb.symm).1; omega)
    obtain ⟨a, cap, rfl, hrows, hnew⟩ := rows_of_own h26
    exact ⟨a, cap, rfl, hrows, fun b off s e => by have := hnew b off s e; have := hw02.size; omega, (h6.since hs5 (fun z hz e => by have := hw1.size; omega)).since hs6 (fun z hz e => by have := hw1.size; omega)⟩
end Go.Proofs.Ytffimkpllchfcaa
