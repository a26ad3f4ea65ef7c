/-
  Layer 6: what the document's operations answer.
-/
import Derived.Test.YtommemplakcaaaaLaws6b
namespace Go.Proofs.Ytommemplakcaaaa
open Go.RowKit

theorem ref06_there (r : RA) (i n : Int) (w : World) (hl : r.bs.length ≤ 4194304) : Does Try.prog 46 #[.agg (raL r).toArray, .int .i64 i, .int .i64 n] w (Grow (.bool (thereB r.bs.length i n)) w) := by
  refine Does.enter Try.func46 rfl Try.ntmps46 rfl rfl ?_
  refine Goes.adv hTT 400 rfl ?_
  refine Goes.alloc hTT rfl ?_
  intro b w1 e1 hb hw1 hz1
  refine Goes.adv hTT 400 rfl ?_
  refine Goes.fork hTT rfl rfl rfl (fun h1 => ?_) (fun h1 => ?_)
  · have g1 : 0 ≤ i := of_decide_eq_true h1
    refine Goes.fork hTT rfl rfl rfl (fun h2 => ?_) (fun h2 => ?_)
    · have g2 : 0 ≤ n := of_decide_eq_true h2
      refine Goes.loadb hTT rfl hb rfl rfl ?_
      refine Goes.fork hTT rfl rfl rfl (fun h3 => ?_) (fun h3 => ?_)
      · have g3 := of_decide_eq_true h3
        refine Goes.loadb hTT rfl hb rfl rfl ?_
        refine Goes.arith hTT rfl (w64 (by omega)) rfl ?_
        exact Goes.ret1 hTT rfl Try.func46 rfl rfl ⟨bool_v (by unfold thereB; rw [decide_eq_true g1, decide_eq_true g2, decide_eq_true g3]; rfl), hw1⟩
      · exact Goes.ret1 hTT rfl Try.func46 rfl rfl ⟨bool_v (by unfold thereB; rw [decide_eq_false (of_decide_eq_false h3)]; simp), hw1⟩
    · have g2 : ¬ 0 ≤ n := of_decide_eq_false h2
      exact Goes.ret1 hTT rfl Try.func46 rfl rfl ⟨bool_v (by unfold thereB; rw [decide_eq_false g2]; simp), hw1⟩
  · have g1 : ¬ 0 ≤ i := of_decide_eq_false h1
    exact Goes.ret1 hTT rfl Try.func46 rfl rfl ⟨bool_v (by unfold thereB; rw [decide_eq_false g1]; rfl), hw1⟩
theorem Rd.keepU {w w' : World} {a : Option Addr} {l : List Int} {q t : Nat} {c : Array Value} {fz : Nat × Nat} (hr : Rd .u8 w a l) (hq : w.heap[q]? = some (.cells c t fz)) (hc : ∀ x ∈ c.toList, ∀ z, x ≠ .int .u8 z) (hs : Chg (fun b => b = q) w w') : Rd .u8 w' a l := fun j hj => by
  obtain ⟨b, off, e, hcell⟩ := hr j hj
  refine ⟨b, off, e, hs.cell hcell (fun hx => ?_)⟩
  subst hx
  rw [cell_of hq] at hcell
  exact hc _ (Array.mem_toList_iff.2 (Array.mem_of_getElem? hcell)) _ rfl
theorem setV_app {l : List Int} {rest : List Value} {i : Nat} {x : Int} (hi : i < l.length) : setV (l.map (Value.int .u8) ++ rest) i [.int .u8 x] = some ((l.set i x).map (Value.int .u8) ++ rest) := by
  rw [setV_one _ _ _ (by simp; omega), List.set_append_left _ _ (by simpa using hi), List.map_set]
/-- An arena whose bytes are new. -/
def NewA (w : World) (r : RA) : Prop := ∃ g, r.a = some ⟨g, 0, none⟩ ∧ w.heap.size ≤ g
theorem NewA.back {w w' : World} {r : RA} (h : NewA w' r) (hs : w.heap.size ≤ w'.heap.size) : NewA w r := by obtain ⟨g, h1, h2⟩ := h; exact ⟨g, h1, Nat.le_trans hs h2⟩
theorem ref06_lay (r : RA) (i : Nat) (a : Option Addr) (cap : Nat) (l : List Int) (w : World) (h : RaOk w r) (h0 : 0 < r.bs.length) (hr : Rd .u8 w a l) (hb : InB l) (hi : i + l.length ≤ r.bs.length) :
    Does Try.prog 47 #[.agg (raL r).toArray, .int .i64 i, .slice a l.length cap] w (fun v w' => ∃ r' : RA, v = .agg (raL r').toArray ∧ r'.bs = wrB r.bs i l ∧ r'.steps = r.steps ∧ RaOk w' r' ∧ Chg None' w w' ∧ NewA w r') := by
  have hlen := h.len
  have hml : maxLen = 9223372036854775807 := rfl
  obtain ⟨ra, rc, bs, st⟩ := r
  simp only at h0 hi hlen
  obtain ⟨b1, off1, ea, _⟩ := h.rd.at h0
  simp only at ea
  subst ea
  refine Does.enter Try.func47 rfl Try.ntmps47 rfl rfl ?_
  refine Goes.adv hTT 400 rfl ?_
  refine Goes.alloc hTT rfl ?_
  intro rb w1 e1 hrb hw1 hz1
  refine Goes.adv hTT 400 rfl ?_
  refine Goes.alloc hTT rfl ?_
  intro qb w2 e2 hqb hw2 hz2
  refine Goes.adv hTT 400 rfl ?_
  refine Goes.buildSlice hTT rfl ?_
  intro b3 w3 e3 hb3 hw3 hz3
  refine Goes.adv hTT 400 rfl ?_
  have hc3 := (hw1.trans hw2).trans hw3
  refine Goes.loadb hTT rfl (hw3.heap' (hw2.heap' hrb)) rfl rfl ?_
  have ho : Own w2.heap.size 5 1 w3 (.slice (some ⟨b3, 0, none⟩) 0 0) 0 [] := Own.empty (by omega) hb3
  refine Goes.append (base := w2.heap.size) (xs := []) (news := bs.map (Value.int .u8)) hTT rfl ho hw3.size (by simp) (h.rd.chg hc3).cells plain_ints (by simp only; omega) ?_
  intro v4 w4 ho4 hs4 hv4
  refine Goes.adv hTT 400 rfl ?_
  have hw4 := ho.since hw3 (Nat.le_refl _) hs4
  obtain ⟨g, cap4, cur, rfl, hg1, hg2, hg3, hg4, hg5⟩ := ho4.form (by simp only; omega)
  have hcur : cur.toList = bs.map (Value.int .u8) ++ cur.toList.drop bs.length := by
    have e := List.take_append_drop bs.length cur.toList
    rw [show cur.toList.take bs.length = bs.map (Value.int .u8) from by simpa using hg5] at e
    exact e.symm
  obtain ⟨rest, hrest⟩ : ∃ rest, rest = cur.toList.drop bs.length := ⟨_, rfl⟩
  rw [← hrest] at hcur
  have hg2' : w4.heap[g]? = some (.cells (bs.map (Value.int .u8) ++ rest).toArray 5 (0, 0)) := by rw [← hcur]; exact hg2
  have hl4 : 0 + bs.length = bs.length := by omega
  rw [hl4] at hg3 ⊢
  refine Goes.loop (α := Nat) (fun k => [(1, false, .int .i64 i), (2, false, .slice a l.length cap), (3, false, .pointer (some ⟨rb, 0, none⟩)), (6, false, .pointer (some ⟨qb, 0, none⟩)), (7, false, .slice (some ⟨g, 0, none⟩) bs.length cap4), (8, false, .int .i64 k)])
    (fun k w' => w'.heap[g]? = some (.cells ((partW bs i l k).map (Value.int .u8) ++ rest).toArray 5 (0, 0)) ∧ Chg None' w2 w' ∧ k ≤ l.length) (fun k => l.length - k) 0 ⟨rfl, rfl, rfl, rfl, rfl, rfl, trivial⟩ ⟨by rw [partW_zero]; exact hg2', hw4, by omega⟩ ?_
  rintro k w5 ⟨h5, hc5, hk⟩ ih
  have hc05 : Chg None' w w5 := (hw1.trans hw2).trans hc5
  refine Goes.adv hTT 400 rfl ?_
  refine Goes.fork hTT rfl rfl rfl (fun hh => ?_) (fun hh => ?_)
  · have hlt : k < l.length := by have := of_decide_eq_true hh; omega
    obtain ⟨b6, off6, rfl, hc6⟩ := (hr.chg hc05) k hlt
    refine Goes.arith hTT rfl (w64 (by omega)) rfl ?_
    refine Goes.index hTT rfl (j := k) (by omega) (by omega) (by first | rfl | omega | (simp; done) | (simp; omega)) rfl ?_
    refine Goes.load hTT rfl hc6 rfl ?_
    refine Goes.index hTT rfl (j := (i + k)) (by omega) (by omega) (by first | rfl | omega | (simp; done) | (simp; omega)) rfl ?_
    have hpl := partW_length (k := k) (l := l) (i := i) (bs := bs) hi
    refine Goes.store hTT rfl h5 (setV_app (by rw [hpl]; omega)) rfl ?_
    intro w6 h6 hs6 hz6
    refine Goes.adv hTT 400 rfl ?_
    rw [Nat.zero_add, partW_step hi hlt] at h6
    refine Goes.arith hTT rfl (w64 (by omega)) rfl ?_
    exact ih (k + 1) _ _ ⟨h6, hc5.since hs6 (fun x hx hxe => by omega), by omega⟩ (by omega) ⟨rfl, rfl, rfl, rfl, rfl, rfl, trivial⟩
  · have hge : k = l.length := by have := of_decide_eq_false hh; omega
    subst hge
    rw [partW_all] at h5
    have hrb5 := hc5.heap' (hw2.heap' hrb)
    refine Goes.store hTT rfl hrb5 rfl rfl ?_
    intro w6 hrb6 hs6 hz6
    refine Goes.adv hTT 400 rfl ?_
    refine Goes.loads hTT rfl hrb6 rfl rfl ?_
    refine Goes.store hTT rfl (hs6.heap (hc5.heap' hqb) (by omega)) rfl rfl ?_
    intro w7 hqb7 hs7 hz7
    refine Goes.adv hTT 400 rfl ?_
    have hg67 : w7.heap[g]? = some (.cells ((wrB bs i l).map (Value.int .u8) ++ rest).toArray 5 (0, 0)) := hs7.heap (hs6.heap h5 (by omega)) (by omega)
    have hwl := wrB_length hi
    have hc7 : Chg None' w w7 := (hc05.since hs6 (fun x hx hxe => by omega)).since hs7 (fun x hx hxe => by omega)
    have hrd : Rd .u8 w7 (some ⟨g, 0, none⟩) (wrB bs i l) := Rd.of_take hg67 (by simp)
    rw [← hwl] at hqb7
    exact Goes.ret hTT rfl Try.func47 (ResOk.cell rfl rfl rfl hqb7 rfl .nil) ⟨⟨some ⟨g, 0, none⟩, cap4, wrB bs i l, st⟩, rfl, rfl, rfl, ⟨hrd, by simp only [hwl]; exact hlen, by simp only [hwl]; exact hg3, fun x hx => (wrB_mem hx).elim (h.rng x) (hb x)⟩, hc7, g, rfl, by have := hw1.size; have := hw2.size; omega⟩
/-- The document's arena, behind an operation: its bytes, its steps; and what is wrong. -/
def RaTo (w : World) (bs : List Int) (st e : Int) : Value → World → Prop := fun v w' => ∃ r' : RA, v = .tuple #[.agg (raL r').toArray, .int .i64 e] ∧ r'.bs = bs ∧ r'.steps = st ∧ RaOk w' r' ∧ Chg None' w w' ∧ NewA w r'
def StOk (st : Int) : Prop := 0 ≤ st ∧ st ≤ 1000000000000
theorem ref06_Write (r : RA) (i : Nat) (a : Option Addr) (cap : Nat) (l : List Int) (w : World) (h : RaOk w r) (hst : StOk r.steps) (h0 : 0 < r.bs.length) (hr : Rd .u8 w a l) (hb : InB l) (hi : i + l.length ≤ r.bs.length) :
    Does Try.prog 28 #[.agg (raL r).toArray, .int .i64 i, .slice a l.length cap] w (RaTo w (wrB r.bs i l) (r.steps + l.length) 0) := by
  have hlen := h.len
  unfold StOk at hst
  refine Does.enter Try.func28 rfl Try.ntmps28 rfl rfl ?_
  refine Goes.adv hTT 400 rfl ?_
  refine Goes.alloc hTT rfl ?_
  intro rb w1 e1 hrb hw1 hz1
  refine Goes.adv hTT 400 rfl ?_
  refine Goes.alloc hTT rfl ?_
  intro qb w2 e2 hqb hw2 hz2
  refine Goes.adv hTT 400 rfl ?_
  refine Goes.loads hTT rfl (hw2.heap' hrb) rfl rfl ?_
  refine Goes.call rfl (ref06_there r i l.length w2 hlen) ?_
  rintro _ w3 ⟨rfl, hw3⟩
  refine Goes.adv hTT 400 rfl ?_
  refine Goes.no hTT rfl (by rw [thereB_iff.2 (by omega)]; rfl) rfl ?_
  have hrb3 := hw3.heap' (hw2.heap' hrb)
  refine Goes.loadb hTT rfl hrb3 rfl rfl ?_
  refine Goes.arith hTT rfl (w64 (by omega)) rfl ?_
  refine Goes.store hTT rfl hrb3 rfl rfl ?_
  intro w4 hrb4 hs4 hz4
  refine Goes.adv hTT 400 rfl ?_
  have hc4 : Chg None' w w4 := ((hw1.trans hw2).trans hw3).since hs4 (fun x hx hxe => by omega)
  have h4 := h.grow hc4
  refine Goes.loads hTT rfl hrb4 rfl rfl ?_
  refine Goes.call rfl (ref06_lay { r with steps := r.steps + l.length } i a cap l w4 ⟨h4.rd, h4.len, h4.lc, h4.rng⟩ h0 (hr.chg hc4) hb hi) ?_
  rintro _ w5 ⟨r5, rfl, hr5, hs5, hR5, hw5, hn5⟩
  refine Goes.adv hTT 400 rfl ?_
  have hqb5 := hw5.heap' (hs4.heap (hw3.heap' hqb) (by omega))
  refine Goes.store hTT rfl hqb5 rfl rfl ?_
  intro w6 hqb6 hs6 hz6
  refine Goes.adv hTT 400 rfl ?_
  have hc6 : Chg None' w w6 := (hc4.trans hw5).since hs6 (fun x hx hxe => by omega)
  have hR6 : RaOk w6 r5 := by
    exact ⟨hR5.rd.keepU hqb5 (by simp [cellsL]) hs6, hR5.len, hR5.lc, hR5.rng⟩
  exact Goes.ret hTT rfl Try.func28 (ResOk.cell rfl rfl rfl hqb6 rfl (.tmp rfl .nil)) ⟨r5, rfl, hr5, hs5, hR6, hc6, hn5.back hc4.size⟩
theorem ref06_Write_no (r : RA) (i : Int) (a : Option Addr) (cap n : Nat) (w : World) (hlen : r.bs.length ≤ 4194304) (hi : thereB r.bs.length i n = false) :
    Does Try.prog 28 #[.agg (raL r).toArray, .int .i64 i, .slice a n cap] w (Grow (.tuple #[.agg (raL r).toArray, .int .i64 8]) w) := by
  refine Does.enter Try.func28 rfl Try.ntmps28 rfl rfl ?_
  refine Goes.adv hTT 400 rfl ?_
  refine Goes.alloc hTT rfl ?_
  intro rb w1 e1 hrb hw1 hz1
  refine Goes.adv hTT 400 rfl ?_
  refine Goes.alloc hTT rfl ?_
  intro qb w2 e2 hqb hw2 hz2
  refine Goes.adv hTT 400 rfl ?_
  refine Goes.loads hTT rfl (hw2.heap' hrb) rfl rfl ?_
  refine Goes.call rfl (ref06_there r i n w2 hlen) ?_
  rintro _ w3 ⟨rfl, hw3⟩
  refine Goes.adv hTT 400 rfl ?_
  refine Goes.yes hTT rfl (by rw [hi]; rfl) rfl ?_
  refine Goes.loads hTT rfl (hw3.heap' (hw2.heap' hrb)) rfl rfl ?_
  refine Goes.store hTT rfl (hw3.heap' hqb) rfl rfl ?_
  intro w4 hqb4 hs4 hz4
  refine Goes.adv hTT 400 rfl ?_
  have hc4 : Chg None' w w4 := ((hw1.trans hw2).trans hw3).since hs4 (fun x hx hxe => by omega)
  exact Goes.ret hTT rfl Try.func28 (ResOk.cell rfl rfl rfl hqb4 rfl (.tmp rfl .nil)) ⟨rfl, hc4⟩
theorem ref06_Read (r : RA) (i n : Nat) (w : World) (h : RaOk w r) (hst : StOk r.steps) (h0 : 0 < r.bs.length) (hi : i + n ≤ r.bs.length) :
    Does Try.prog 51 #[.agg (raL r).toArray, .int .i64 i, .int .i64 n] w (fun v w' => ∃ x cx, v = .tuple #[.agg (raL { r with steps := r.steps + n }).toArray, .slice x n cx, .int .i64 0] ∧ Rd .u8 w' x (sub r.bs i n) ∧ x.isSome = true ∧ Chg None' w w') := by
  have hlen := h.len
  have hlc := h.lc
  unfold StOk at hst
  refine Does.enter Try.func51 rfl Try.ntmps51 rfl rfl ?_
  refine Goes.adv hTT 400 rfl ?_
  refine Goes.alloc hTT rfl ?_
  intro rb w1 e1 hrb hw1 hz1
  refine Goes.adv hTT 400 rfl ?_
  refine Goes.alloc hTT rfl ?_
  intro qb w2 e2 hqb hw2 hz2
  refine Goes.adv hTT 400 rfl ?_
  refine Goes.loads hTT rfl (hw2.heap' hrb) rfl rfl ?_
  refine Goes.call rfl (ref06_there r i n w2 hlen) ?_
  rintro _ w3 ⟨rfl, hw3⟩
  refine Goes.adv hTT 400 rfl ?_
  refine Goes.no hTT rfl (by rw [thereB_iff.2 (by omega)]; rfl) rfl ?_
  have hrb3 := hw3.heap' (hw2.heap' hrb)
  refine Goes.loadb hTT rfl hrb3 rfl rfl ?_
  refine Goes.arith hTT rfl (w64 (by omega)) rfl ?_
  refine Goes.store hTT rfl hrb3 rfl rfl ?_
  intro w4 hrb4 hs4 hz4
  refine Goes.adv hTT 400 rfl ?_
  have hc4 : Chg None' w w4 := ((hw1.trans hw2).trans hw3).since hs4 (fun x hx hxe => by omega)
  have hqb4 := hs4.heap (hw3.heap' hqb) (by omega)
  refine Goes.drawn (q := 9) (fun b => b = qb) hTT mixed (by kernel_rfl) rfl ?_
  intro hB
  refine Drawn.loads hTT hB rfl hrb4 (by first | exact fun h => h | (intro h; omega) | assumption) rfl rfl ?_
  refine Drawn.loadb hTT hB rfl hrb4 (by first | exact fun h => h | (intro h; omega) | assumption) rfl rfl ?_
  refine Drawn.arith hTT hB rfl (w64 (by omega)) rfl ?_
  refine Drawn.slice hTT hB rfl (l := i) (h := (i+n)) (by first | rfl | omega | simp [loV]) (by first | rfl | omega | simp [hiV]) (by omega) (by omega) rfl ?_
  refine Drawn.turn1 hB rfl ?_
  intro w5 hw5
  refine Turn.store hTT hB rfl (hw5.heap' hqb4) (by first | (intro h; exact rfl) | (intro h; omega)) rfl rfl rfl ?_
  intro w6 hqb6 hs6 hz6
  refine Drawn.nil hB ?_
  intro w7 hw7
  refine Goes.adv hTT 400 rfl ?_
  have hc6 : Chg None' w w6 := (hc4.trans hw5).since hs6 (fun x hx hxe => by omega)
  have hc7 := hc6.trans hw7
  have ha : r.a.isSome = true := by obtain ⟨b, off, e, _⟩ := h.rd.at h0; rw [e]; rfl
  have hrd : Rd .u8 w7 (shiftA r.a r.cap i 1) (sub r.bs i n) := (h.rd.chg hc7).shift hi hlc
  have hss : (shiftA r.a r.cap i 1).isSome = true := by unfold shiftA; split <;> simp [ha]
  rw [show i + n - i = n from by omega]
  exact Goes.ret hTT rfl Try.func51 (ResOk.cell rfl rfl rfl (hw7.heap' hqb6) rfl (.tmp rfl (.tmp rfl .nil))) ⟨_, _, rfl, hrd, hss, hc7⟩
theorem ref06_Read_no (r : RA) (i n : Int) (w : World) (hlen : r.bs.length ≤ 4194304) (hi : thereB r.bs.length i n = false) :
    Does Try.prog 51 #[.agg (raL r).toArray, .int .i64 i, .int .i64 n] w (Grow (.tuple #[.agg (raL r).toArray, .slice none 0 0, .int .i64 8]) w) := by
  refine Does.enter Try.func51 rfl Try.ntmps51 rfl rfl ?_
  refine Goes.adv hTT 400 rfl ?_
  refine Goes.alloc hTT rfl ?_
  intro rb w1 e1 hrb hw1 hz1
  refine Goes.adv hTT 400 rfl ?_
  refine Goes.alloc hTT rfl ?_
  intro qb w2 e2 hqb hw2 hz2
  refine Goes.adv hTT 400 rfl ?_
  refine Goes.loads hTT rfl (hw2.heap' hrb) rfl rfl ?_
  refine Goes.call rfl (ref06_there r i n w2 hlen) ?_
  rintro _ w3 ⟨rfl, hw3⟩
  refine Goes.adv hTT 400 rfl ?_
  refine Goes.yes hTT rfl (by rw [hi]; rfl) rfl ?_
  refine Goes.loads hTT rfl (hw3.heap' (hw2.heap' hrb)) rfl rfl ?_
  refine Goes.store hTT rfl (hw3.heap' hqb) rfl rfl ?_
  intro w4 hqb4 hs4 hz4
  refine Goes.adv hTT 400 rfl ?_
  have hc4 : Chg None' w w4 := ((hw1.trans hw2).trans hw3).since hs4 (fun x hx hxe => by omega)
  exact Goes.ret hTT rfl Try.func51 (ResOk.cell rfl rfl rfl hqb4 rfl (.tmp rfl (.tmp rfl .nil))) ⟨rfl, hc4⟩
theorem ref06_Copy (r : RA) (t f n : Nat) (w : World) (h : RaOk w r) (hst : StOk r.steps) (h0 : 0 < r.bs.length) (hf : f + n ≤ r.bs.length) (ht : t + n ≤ r.bs.length) :
    Does Try.prog 53 #[.agg (raL r).toArray, .int .i64 t, .int .i64 f, .int .i64 n] w (RaTo w (wrB r.bs t (sub r.bs f n)) (r.steps + n) 0) := by
  have hlen := h.len
  have hlc := h.lc
  refine Does.enter Try.func53 rfl Try.ntmps53 rfl rfl ?_
  refine Goes.adv hTT 400 rfl ?_
  refine Goes.alloc hTT rfl ?_
  intro rb w1 e1 hrb hw1 hz1
  refine Goes.adv hTT 400 rfl ?_
  refine Goes.alloc hTT rfl ?_
  intro qb w2 e2 hqb hw2 hz2
  refine Goes.adv hTT 400 rfl ?_
  refine Goes.loads hTT rfl (hw2.heap' hrb) rfl rfl ?_
  refine Goes.call rfl (ref06_there r f n w2 hlen) ?_
  rintro _ w3 ⟨rfl, hw3⟩
  refine Goes.adv hTT 400 rfl ?_
  refine Goes.no hTT rfl (by rw [thereB_iff.2 (by omega)]; rfl) rfl ?_
  refine Goes.loads hTT rfl (hw3.heap' (hw2.heap' hrb)) rfl rfl ?_
  refine Goes.call rfl (ref06_there r t n w3 hlen) ?_
  rintro _ w4 ⟨rfl, hw4⟩
  refine Goes.adv hTT 400 rfl ?_
  refine Goes.no hTT rfl (by rw [thereB_iff.2 (by omega)]; rfl) rfl ?_
  have hrb4 := hw4.heap' (hw3.heap' (hw2.heap' hrb))
  have hc4 : Chg None' w w4 := ((hw1.trans hw2).trans hw3).trans hw4
  have hqb4 := hw4.heap' (hw3.heap' hqb)
  refine Goes.drawn (q := 14) (fun b => b = qb) hTT mixed (by kernel_rfl) rfl ?_
  intro hB
  refine Drawn.loads hTT hB rfl hrb4 (by first | exact fun h => h | (intro h; omega) | assumption) rfl rfl ?_
  refine Drawn.loadb hTT hB rfl hrb4 (by first | exact fun h => h | (intro h; omega) | assumption) rfl rfl ?_
  refine Drawn.arith hTT hB rfl (w64 (by omega)) rfl ?_
  refine Drawn.slice hTT hB rfl (l := f) (h := (f+n)) (by first | rfl | omega | simp [loV]) (by first | rfl | omega | simp [hiV]) (by omega) (by omega) rfl ?_
  rw [show f + n - f = n from by omega]
  refine Drawn.turn1 hB rfl ?_
  intro w5 hw5
  have hc5 := hc4.trans hw5
  have hln := sub_length hf
  have hcall := ref06_Write r t (shiftA r.a r.cap f 1) (r.cap - f) (sub r.bs f n) w5 (h.grow hc5) hst h0 ((h.rd.chg hc5).shift hf hlc) (fun x hx => h.rng x (List.mem_of_mem_drop (List.mem_of_mem_take hx))) (by rw [hln]; exact ht)
  rw [hln] at hcall
  refine Turn.call rfl hcall.fn (fun h0' => hcall.mono fun v w2 hp => ⟨by obtain ⟨_, _, _, _, _, hq, _⟩ := hp; exact h0'.up hq, hp⟩) ?_
  rintro _ w6 _ ⟨r6, rfl, hb6, hs6, hR6, hw6, hn6⟩
  refine Drawn.adv hTT hB rfl ?_
  refine Drawn.turn1 hB rfl ?_
  intro w7 hw7
  have hqb7 := hw7.heap' (hw6.heap' (hw5.heap' hqb4))
  refine Turn.store hTT hB rfl hqb7 (by first | (intro h; exact rfl) | (intro h; omega)) rfl rfl rfl ?_
  intro w8 hqb8 hs8 hz8
  refine Drawn.nil hB ?_
  intro w9 hw9
  refine Goes.adv hTT 400 rfl ?_
  have hc8 : Chg None' w w8 := ((hc5.trans hw6).trans hw7).since hs8 (fun x hx hxe => by omega)
  have hR9 : RaOk w9 r6 := RaOk.grow ⟨((hR6.grow hw7).rd).keepU hqb7 (by simp [cellsL]) hs8, hR6.len, hR6.lc, hR6.rng⟩ hw9
  exact Goes.ret hTT rfl Try.func53 (ResOk.cell rfl rfl rfl (hw9.heap' hqb8) rfl (.tmp rfl .nil)) ⟨r6, rfl, hb6, hs6, hR9, hc8.trans hw9, hn6.back hc5.size⟩
theorem ref06_Copy_no (r : RA) (t f n : Int) (w : World) (hlen : r.bs.length ≤ 4194304) (hi : (thereB r.bs.length f n && thereB r.bs.length t n) = false) :
    Does Try.prog 53 #[.agg (raL r).toArray, .int .i64 t, .int .i64 f, .int .i64 n] w (Grow (.tuple #[.agg (raL r).toArray, .int .i64 8]) w) := by
  refine Does.enter Try.func53 rfl Try.ntmps53 rfl rfl ?_
  refine Goes.adv hTT 400 rfl ?_
  refine Goes.alloc hTT rfl ?_
  intro rb w1 e1 hrb hw1 hz1
  refine Goes.adv hTT 400 rfl ?_
  refine Goes.alloc hTT rfl ?_
  intro qb w2 e2 hqb hw2 hz2
  refine Goes.adv hTT 400 rfl ?_
  refine Goes.loads hTT rfl (hw2.heap' hrb) rfl rfl ?_
  refine Goes.call rfl (ref06_there r f n w2 hlen) ?_
  rintro _ w3 ⟨rfl, hw3⟩
  refine Goes.adv hTT 400 rfl ?_
  cases h1 : thereB r.bs.length f n with
  | false =>
    refine Goes.yes hTT rfl rfl rfl ?_
    refine Goes.loads hTT rfl (hw3.heap' (hw2.heap' hrb)) rfl rfl ?_
    refine Goes.store hTT rfl (hw3.heap' hqb) rfl rfl ?_
    intro w4 hqb4 hs4 hz4
    refine Goes.adv hTT 400 rfl ?_
    have hc4 : Chg None' w w4 := ((hw1.trans hw2).trans hw3).since hs4 (fun x hx hxe => by omega)
    exact Goes.ret hTT rfl Try.func53 (ResOk.cell rfl rfl rfl hqb4 rfl (.tmp rfl .nil)) ⟨rfl, hc4⟩
  | true =>
    rw [h1, Bool.true_and] at hi
    refine Goes.no hTT rfl rfl rfl ?_
    refine Goes.loads hTT rfl (hw3.heap' (hw2.heap' hrb)) rfl rfl ?_
    refine Goes.call rfl (ref06_there r t n w3 hlen) ?_
    rintro _ w4 ⟨rfl, hw4⟩
    refine Goes.adv hTT 400 rfl ?_
    refine Goes.yes hTT rfl (by rw [hi]; rfl) rfl ?_
    refine Goes.loads hTT rfl (hw4.heap' (hw3.heap' (hw2.heap' hrb))) rfl rfl ?_
    refine Goes.store hTT rfl (hw4.heap' (hw3.heap' hqb)) rfl rfl ?_
    intro w5 hqb5 hs5 hz5
    refine Goes.adv hTT 400 rfl ?_
    have hc5 : Chg None' w w5 := (((hw1.trans hw2).trans hw3).trans hw4).since hs5 (fun x hx hxe => by omega)
    exact Goes.ret hTT rfl Try.func53 (ResOk.cell rfl rfl rfl hqb5 rfl (.tmp rfl .nil)) ⟨rfl, hc5⟩
end Go.Proofs.Ytommemplakcaaaa
