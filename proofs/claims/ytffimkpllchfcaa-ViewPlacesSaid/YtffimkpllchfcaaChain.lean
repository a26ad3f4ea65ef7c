/-
  Layer 16: a large thing's bytes, page by page.
-/
import Derived.Test.YtffimkpllchfcaaRule11
import Derived.Test.YtffimkpllchfcaaRowsD
import Derived.Test.YtffimkpllchfcaaPost
namespace Go.Proofs.Ytffimkpllchfcaa
open Go.RowKit

abbrev Span := Nat × Nat × Nat
def spanL (s : Span) : List Value := [.int .i64 (s.1 : Nat), .int .i64 (s.2.1 : Nat), .int .i64 (s.2.2 : Nat)]
def headS (at' n page : Nat) : Span := (at' / page, at' % page, min n (page - at' % page))
def spansF : Nat → Nat → Nat → Nat → List Span
  | 0, _, _, _ => []
  | f + 1, at', n, page => if n = 0 then [] else headS at' n page :: spansF f (at' + min n (page - at' % page)) (n - min n (page - at' % page)) page
def spansM (at' n page : Nat) : List Span := spansF n at' n page
theorem headS_pos {at' n page : Nat} (hp : 1 ≤ page) (hn : 0 < n) : 0 < min n (page - at' % page) := by
  have := Nat.mod_lt at' (show 0 < page by omega); omega
theorem spansF_fuel {page : Nat} (hp : 1 ≤ page) : ∀ (f g at' n : Nat), n ≤ f → n ≤ g → spansF f at' n page = spansF g at' n page
  | 0, 0, _, _, _, _ => rfl
  | 0, g + 1, at', n, h, _ => by obtain rfl : n = 0 := by omega
                                 simp [spansF]
  | f + 1, 0, at', n, _, h => by obtain rfl : n = 0 := by omega
                                 simp [spansF]
  | f + 1, g + 1, at', n, h1, h2 => by
    unfold spansF
    split
    · rfl
    · rename_i hn
      have := headS_pos (at' := at') hp (show 0 < n by omega)
      rw [spansF_fuel hp f g _ _ (by omega) (by omega)]
theorem spansM_nil (at' page : Nat) : spansM at' 0 page = [] := rfl
theorem spansM_cons {at' n page : Nat} (hp : 1 ≤ page) (hn : 0 < n) : spansM at' n page = headS at' n page :: spansM (at' + min n (page - at' % page)) (n - min n (page - at' % page)) page := by
  have := headS_pos (at' := at') hp hn
  unfold spansM
  obtain ⟨m, rfl⟩ : ∃ m, n = m + 1 := ⟨n - 1, by omega⟩
  rw [show spansF (m + 1) at' (m + 1) page = headS at' (m + 1) page :: spansF m (at' + min (m + 1) (page - at' % page)) (m + 1 - min (m + 1) (page - at' % page)) page from by
    show (if m + 1 = 0 then [] else _) = _
    rw [if_neg (by omega)]]
  rw [spansF_fuel hp m _ _ _ (by omega) (Nat.le_refl _)]
theorem spansM_length {page : Nat} (hp : 1 ≤ page) : ∀ (n at' : Nat), (spansM at' n page).length ≤ n := by
  intro n
  induction n using Nat.strongRecOn with
  | _ n ih =>
    intro at'
    by_cases hn : n = 0
    · subst hn; exact Nat.le_refl _
    · have := headS_pos (at' := at') hp (show 0 < n by omega)
      rw [spansM_cons hp (by omega), List.length_cons]
      have := ih (n - min n (page - at' % page)) (by omega) (at' + min n (page - at' % page))
      omega
abbrev intBox (w : World) (b : Nat) (x : Int) : Prop := w.heap[b]? = some (.cells ([.int .i64 x] : List Value).toArray 3 (0, 0))
theorem chain_next (pa pp pn at' page n : Nat) (w : World) (ha : intBox w pa at') (hp : intBox w pp page) (hn : intBox w pn n) (hb : at' + n ≤ 16777216 ∧ 1 ≤ page ∧ page ≤ 16777216) :
    Does Try.prog 79 #[.pointer (some ⟨pa, 0, none⟩), .pointer (some ⟨pp, 0, none⟩), .pointer (some ⟨pn, 0, none⟩)] w (Grow (.agg (spanL (headS at' n page)).toArray) w) := by
  have hmod : 0 ≤ (at' : Int) % page ∧ (at' : Int) % page < page := ⟨Int.emod_nonneg _ (by omega), Int.emod_lt_of_pos _ (by omega)⟩
  have e3 : ((min n (page - at' % page) : Nat) : Int) = if (page : Int) - (at' : Int) % page < n then (page : Int) - (at' : Int) % page else n := by
    rw [show ((at' : Int) % page) = ((at' % page : Nat) : Int) from rfl]
    have := Nat.mod_lt at' (show 0 < page by omega)
    split <;> omega
  refine Does.enter Try.func79 rfl Try.ntmps79 rfl rfl ?_
  refine Goes.adv hTT 400 rfl ?_
  refine Goes.alloc hTT rfl ?_
  intro rb w1 e1 hrb hw1 hz1
  refine Goes.adv hTT 400 rfl ?_
  refine Goes.loadb hTT rfl (hw1.heap' ha) rfl rfl ?_
  refine Goes.loadb hTT rfl (hw1.heap' hp) rfl rfl ?_
  refine Goes.div hTT rfl (by omega) (rem_ (by omega)) rfl ?_
  refine Goes.drawn (q := 10) None' hTT mixed (by kernel_rfl) rfl ?_
  intro hB
  refine Drawn.loadb hTT hB rfl (hw1.heap' ha) (by first | exact fun h => h | (intro h; omega) | assumption) rfl rfl ?_
  refine Drawn.loadb hTT hB rfl (hw1.heap' hp) (by first | exact fun h => h | (intro h; omega) | assumption) rfl rfl ?_
  refine Drawn.div hTT hB rfl (by omega) (quo64 (by omega) (by omega)) rfl ?_
  refine Drawn.loadb hTT hB rfl (hw1.heap' hn) (by first | exact fun h => h | (intro h; omega) | assumption) rfl rfl ?_
  refine Drawn.loadb hTT hB rfl (hw1.heap' hp) (by first | exact fun h => h | (intro h; omega) | assumption) rfl rfl ?_
  refine Drawn.arith hTT hB rfl (w64 (by omega)) rfl ?_
  refine Drawn.adv hTT hB rfl ?_
  refine Drawn.build hTT hB rfl rfl ?_
  refine Drawn.nil hB ?_
  intro w2 hw2
  refine Goes.adv hTT 400 rfl ?_
  refine Goes.store hTT rfl (hw2.heap' hrb) rfl rfl ?_
  intro w3 hr3 hs3 hz3
  refine Goes.adv hTT 400 rfl ?_
  have hc3 : Chg None' w w3 := (hw1.trans hw2).since hs3 (fun x hx hx' => by omega)
  exact Goes.ret hTT rfl Try.func79 (ResOk.cell rfl rfl rfl hr3 rfl .nil) ⟨by unfold spanL headS; simp only; rw [e3]; rfl, hc3⟩
theorem chain_spans1 (l pa pp pn at0 n0 page : Nat) (w : World) (Y : Nat → Prop) (I : Nat → World → Prop) (hb : at0 + n0 ≤ 16777216 ∧ 1 ≤ page ∧ page ≤ 16777216) (ha : intBox w pa at0) (hp : intBox w pp page) (hn : intBox w pn n0)
    (hne : pa ≠ pp ∧ pa ≠ pn ∧ pp ≠ pn) (hY : ¬ Y pa ∧ ¬ Y pp ∧ ¬ Y pn) (hI : ∀ k w w', I k w → Chg (fun z => z = pa ∨ z = pn) w w' → I k w')
    (hy : ∀ k w0 w (h : k < (spansM at0 n0 page).length), I k w0 → Chg None' w0 w → YDoes Try.prog l [.agg (spanL (spansM at0 n0 page)[k]).toArray] w (fun v w' => v = .bool true ∧ I (k + 1) w' ∧ Chg (fun z => Y z ∧ z < w0.heap.size) w w'))
    (h0 : I 0 w) :
    Does Try.prog 78 #[yieldV l, .pointer (some ⟨pa, 0, none⟩), .pointer (some ⟨pp, 0, none⟩), .pointer (some ⟨pn, 0, none⟩)] w (fun v w' => v = .tuple #[] ∧ I (spansM at0 n0 page).length w' ∧ Chg (fun z => z = pa ∨ z = pn ∨ Y z) w w') := by
  refine Does.enter Try.func78 rfl Try.ntmps78 rfl rfl ?_
  refine Goes.adv hTT 400 rfl ?_
  refine Goes.loop (α := Nat × Nat × Nat) (fun _ => [(0, false, yieldV l), (1, false, .pointer (some ⟨pa, 0, none⟩)), (3, false, .pointer (some ⟨pn, 0, none⟩)), (5, false, .func (.func 79) #[] #[.pointer (some ⟨pa, 0, none⟩), .pointer (some ⟨pp, 0, none⟩), .pointer (some ⟨pn, 0, none⟩)])])
    (fun p w' => ∃ pre, spansM at0 n0 page = pre ++ spansM p.2.1 p.2.2 page ∧ pre.length = p.1 ∧ p.2.1 + p.2.2 = at0 + n0 ∧ I p.1 w' ∧ intBox w' pa p.2.1 ∧ intBox w' pp page ∧ intBox w' pn p.2.2 ∧ Chg (fun z => z = pa ∨ z = pn ∨ Y z) w w') (fun p => p.2.2) (0, at0, n0) ⟨rfl, rfl, rfl, rfl, trivial⟩
    ⟨[], rfl, rfl, rfl, h0, ha, hp, hn, Chg.refl _ _⟩ ?_
  rintro ⟨k, at', n⟩ w1 ⟨pre, hpre, hk, hsum, hI1, ha1, hp1, hn1, hc1⟩ ih
  simp only at hpre hk hsum hI1 ha1 hn1
  subst hk
  refine Goes.adv hTT 400 rfl ?_
  refine Goes.loadb hTT rfl hn1 rfl rfl ?_
  refine Goes.fork hTT rfl rfl rfl (fun hc => ?_) (fun hc => ?_)
  · have hn0 : 0 < n := by have := of_decide_eq_true hc; omega
    have hlen := headS_pos (at' := at') hb.2.1 hn0
    have hcons := spansM_cons (at' := at') hb.2.1 hn0
    refine Goes.call rfl (chain_next pa pp pn at' page n w1 ha1 hp1 hn1 (by omega)) ?_
    rintro _ w2 ⟨rfl, hw2⟩
    refine Goes.adv hTT 400 rfl ?_
    refine Goes.alloc hTT rfl ?_
    intro sb w3 e3 hsb hw3 hz3
    refine Goes.adv hTT 400 rfl ?_
    refine Goes.store hTT rfl hsb rfl rfl ?_
    intro w4 hsb4 hs4 hz4
    refine Goes.adv hTT 400 rfl ?_
    have hw14 : Chg None' w1 w4 := (hw2.trans hw3).since hs4 (fun z hz e => by have := hw2.size; omega)
    have hlt : pre.length < (spansM at0 n0 page).length := by rw [hpre, hcons]; simp
    have hel : (spansM at0 n0 page)[pre.length] = headS at' n page := by
      simp only [hpre, hcons]; simp
    have hyk := hy pre.length w1 w4 hlt hI1 hw14
    rw [hel] at hyk
    replace hsb4 : w4.heap[sb]? = some (.cells (spanL (headS at' n page)).toArray 110 (0, 0)) := hsb4
    refine Goes.loads hTT rfl hsb4 rfl rfl ?_
    refine Goes.yield rfl hyk ?_
    rintro _ w5 ⟨rfl, hI5, hs5⟩
    refine Goes.adv hTT 400 rfl ?_
    refine Goes.no hTT rfl rfl rfl ?_
    have hsbs : w1.heap.size ≤ sb := by have := hw2.size; omega
    have hla := lt_of_heap ha1
    have hlp := lt_of_heap hp1
    have hln := lt_of_heap hn1
    have ha5 : intBox w5 pa at' := hs5.heap (hw14.heap' ha1) (fun h => hY.1 h.1)
    have hp5 : intBox w5 pp page := hs5.heap (hw14.heap' hp1) (fun h => hY.2.1 h.1)
    have hn5 : intBox w5 pn n := hs5.heap (hw14.heap' hn1) (fun h => hY.2.2 h.1)
    have hsb5 := hs5.heap hsb4 (fun h => by have := h.2; omega)
    refine Goes.drawn (q := 9) (fun z => z = pa) hTT mixed (by kernel_rfl) rfl ?_
    intro hB
    refine Drawn.loadbAt (4) hTT hB rfl rfl rfl hn5 (by first | exact fun h => h | (intro h; omega) | assumption) rfl rfl ?_
    refine Drawn.loadbAt (2) hTT hB rfl rfl rfl hsb5 (by first | exact fun h => h | (intro h; omega) | assumption) rfl rfl ?_
    refine Drawn.loadbAt (6) hTT hB rfl rfl rfl hsb5 (by first | exact fun h => h | (intro h; omega) | assumption) rfl rfl ?_
    refine Drawn.arith hTT hB rfl (w64 (by show _ ∧ _; unfold headS; simp only; omega)) rfl ?_
    refine Drawn.turn1 hB rfl ?_
    intro w6 hw6
    refine Turn.loadb hTT hB rfl (hw6.heap' ha5) rfl rfl ?_
    refine Drawn.arith hTT hB rfl (w64 (by show _ ∧ _; unfold headS; simp only; omega)) rfl ?_
    refine Drawn.turn1 hB rfl ?_
    intro w6b hw6b
    refine Turn.store hTT hB rfl (hw6b.heap' (hw6.heap' ha5)) (by first | (intro h; exact rfl) | (intro h; omega)) rfl rfl rfl ?_
    intro w7a ha7a hs7 hz7
    refine Drawn.nil hB ?_
    intro w7 hw7
    refine Goes.adv hTT 400 rfl ?_
    have hw66 := hw6.trans hw6b
    have ha7 := hw7.heap' ha7a
    refine Goes.store hTT rfl (hw7.heap' (hs7.heap (hw66.heap' hn5) (fun e => hne.2.1 e.symm))) rfl rfl ?_
    intro w8 hn8 hs8 hz8
    refine Goes.adv hTT 400 rfl ?_
    have ha8 := hs8.heap ha7 hne.2.1
    have hp8 : intBox w8 pp page := hs8.heap (hw7.heap' (hs7.heap (hw66.heap' hp5) (fun e => hne.1 e.symm))) hne.2.2
    have hc68 : Chg (fun z => z = pa ∨ z = pn) w6b w8 := ((hs7.mono fun _ _ h => .inl h).trans (hw7.mono fun _ _ h => h.elim)).trans (hs8.mono fun _ _ h => .inr h)
    have hc58 : Chg (fun z => z = pa ∨ z = pn) w5 w8 := (hw66.mono fun _ _ h => h.elim).trans hc68
    have hc18 : Chg (fun z => z = pa ∨ z = pn ∨ Y z) w1 w8 := ((hw14.mono fun _ _ h => h.elim).trans (hs5.mono fun _ _ h => .inr (.inr h.1))).trans (hc58.mono fun _ _ h => h.elim .inl (fun h => .inr (.inl h)))
    exact ih (pre.length + 1, at' + min n (page - at' % page), n - min n (page - at' % page)) _ _ ⟨pre ++ [headS at' n page], by rw [hpre, hcons]; simp, by simp, by simp only; omega, hI _ _ _ hI5 hc58, by
      have e : ((at' : Int) + ((headS at' n page).2.2 : Nat)) = ((at' + min n (page - at' % page) : Nat) : Int) := by unfold headS; simp only; omega
      simp only
      rw [← e]; exact ha8, hp8, by
      have e : ((n : Int) - ((headS at' n page).2.2 : Nat)) = ((n - min n (page - at' % page) : Nat) : Int) := by unfold headS; simp only; omega
      simp only
      rw [← e]; exact hn8, hc1.trans hc18⟩ (by simp only; omega) ⟨rfl, rfl, rfl, rfl, trivial⟩
  · have hn0 : n = 0 := by have := of_decide_eq_false hc; omega
    subst hn0
    have hlen : (spansM at0 n0 page).length = pre.length := by rw [hpre, spansM_nil]; simp
    exact Goes.ret0 hTT rfl Try.func78 rfl ⟨rfl, by rw [hlen]; exact hI1, hc1⟩
end Go.Proofs.Ytffimkpllchfcaa
