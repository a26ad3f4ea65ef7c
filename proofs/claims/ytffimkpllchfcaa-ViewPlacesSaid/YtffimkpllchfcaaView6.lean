/-
  Layer 21: a view: reading.
-/
import Derived.Test.YtffimkpllchfcaaView5
namespace Go.Proofs.Ytffimkpllchfcaa
open Go.RowKit

theorem spansM_sum {page : Nat} (hp : 1 ≤ page) : ∀ (n at' : Nat), ((spansM at' n page).map fun s => s.2.2).sum = n := by
  intro n
  induction n using Nat.strongRecOn with
  | _ n ih =>
    intro at'
    by_cases hn : n = 0
    · subst hn; rfl
    · have hpos := headS_pos (at' := at') hp (show 0 < n by omega)
      rw [spansM_cons hp (by omega), List.map_cons, List.sum_cons, ih _ (by omega)]
      unfold headS
      simp only
      omega
/-- How many all parts are. -/
def totalM (ps : List (Int × Int)) : Nat := (ps.map fun p => p.2.toNat).sum
theorem totalM_cons (p : Int × Int) (ps : List (Int × Int)) : totalM (p :: ps) = p.2.toNat + totalM ps := by simp [totalM]
theorem totalM_append (a b : List (Int × Int)) : totalM (a ++ b) = totalM a + totalM b := by simp [totalM]
theorem parts_total {c : Conf} {q : Plc} {at' n : Nat} (hm : mayB c = true) : totalM (partsM c q at' n) = n := by
  obtain ⟨m1, m2, m3⟩ := may_facts hm
  unfold partsM
  split
  · unfold totalM
    rw [List.map_map]
    have := spansM_sum (page := c.size.toNat) (by omega) n at'
    exact this
  · simp [totalM]
theorem totalM_take {ps : List (Int × Int)} {k : Nat} (h : k < ps.length) : totalM (ps.take k) + ps[k].2.toNat ≤ totalM ps := by
  have e : ps = ps.take k ++ ps[k] :: ps.drop (k + 1) := by rw [← List.drop_eq_getElem_cons h, List.take_append_drop]
  have e2 : totalM ps = totalM (ps.take k) + (ps[k].2.toNat + totalM (ps.drop (k + 1))) := by
    conv => lhs; rw [e]
    rw [totalM_append, totalM_cons]
  omega
theorem readM_length {bs : List Int} {N : Nat} (hN : bs.length = N) : ∀ {ps : List (Int × Int)}, (∀ p ∈ ps, ∃ i m : Nat, p = ((i : Int), (m : Int)) ∧ i + m ≤ N) → (readM bs ps).length = totalM ps
  | [], _ => rfl
  | p :: r, h => by
    obtain ⟨i, m, rfl, him⟩ := h p List.mem_cons_self
    rw [totalM_cons]
    unfold readM
    rw [List.flatMap_cons, List.length_append]
    have := readM_length hN (ps := r) (fun p hp => h p (List.mem_cons_of_mem _ hp))
    unfold readM at this
    rw [this]
    simp only [Int.toNat_natCast]
    rw [sub_length (by omega)]
theorem vsT_succ {q : Plc} {A : Ar} {V : ArV} {ps : List (Int × Int)} {k : Nat} (h : k < ps.length) : vsT q A V ps (k + 1) = (chgL q A (vsT q A V ps k)).charge A ps[k].2 := by
  show (chgL q A (vsT q A V ps k)).charge A (ps.getD k (0, 0)).2 = _
  rw [List.getD_eq_getElem?_getD, List.getElem?_eq_getElem h]; rfl
theorem view_Read (v : Vw) (q : Plc) (at' n : Nat) (A : Ar) (V : ArV) (w : World) (hv : VwOk w v) (hq : PlcOk w q) (hmb : v.mb = A.mb) (hab : v.ab = A.ab) (hck : checkM v.c q at' n = 0) (hfew : q.pages.length ≤ 4096)
    (hPv : ¬ mFoot A v.vb) (hPq : 0 < q.pages.length → OutA (mFoot A) q.pa) (hPc : 0 < v.c.classes.length → OutA (mFoot A) v.p.ca) (hPk : 0 < v.c.keep.length → OutA (mFoot A) v.p.ka) (hA : ArOk w A V) (hlen : (V.bs.length : Int) = v.c.size * v.c.pages) :
    Does Try.prog 19 #[vwV v, .agg (plL q).toArray, .int .i64 at', .int .i64 n] w (fun u w' => ∃ u1, u = .tuple #[u1, .int .i64 0] ∧ ArOk w' A (vsT q A V (partsM v.c q at' n) (partsM v.c q at' n).length) ∧ Chg (mFoot A) w w' ∧
      Own w.heap.size 5 1 w' u1 (readM V.bs (partsM v.c q at' n)).length ((readM V.bs (partsM v.c q at' n)).map (Value.int .u8))) := by
  obtain ⟨ps, hps⟩ : ∃ ps, ps = partsM v.c q at' n := ⟨_, rfl⟩
  have hpin : ∀ p ∈ ps, ∃ i m : Nat, p = ((i : Int), (m : Int)) ∧ i + m ≤ V.bs.length := fun p hp => by
    obtain ⟨i, m, h1, h2⟩ := parts_in hv.may hck hfew p (hps ▸ hp)
    exact ⟨i, m, h1, by omega⟩
  have htot : totalM ps = n := by rw [hps]; exact parts_total hv.may
  have hhb := viewHolds_bound (c := v.c) (q := q) hv.may hfew
  have hn : n ≤ 16777216 := by
    unfold checkM at hck
    split at hck
    · cases hck
    · split at hck
      · cases hck
      · omega
  rw [← hps]
  refine Does.enter Try.func19 rfl Try.ntmps19 rfl rfl ?_
  refine Goes.adv hTT 400 rfl ?_
  refine Goes.alloc hTT rfl ?_
  intro vb w1 e1 hvb hw1 hz1
  refine Goes.adv hTT 400 rfl ?_
  refine Goes.alloc hTT rfl ?_
  intro qb w2 e2 hqb hw2 hz2
  refine Goes.adv hTT 400 rfl ?_
  refine Goes.alloc hTT rfl ?_
  intro ob w3 e3 hob hw3 hz3
  refine Goes.adv hTT 400 rfl ?_
  replace hqb : plcBox w2 qb q := hqb
  have hw := (hw1.trans hw2).trans hw3
  have hvb3 : ptrBox w3 vb v := (hw2.trans hw3).heap' hvb
  refine Goes.loadb hTT rfl hvb3 rfl rfl ?_
  refine Goes.loads hTT rfl (hw3.heap' hqb) rfl rfl ?_
  have hmlt := hA.mlt
  have hvl := lt_of_heap hv.obj
  have hE := view_each v q at' n 40 [.pointer (some ⟨vb, 0, none⟩), .pointer (some ⟨ob, 0, none⟩)] A (vsT q A V ps)
    (fun k Y x => ∃ u, x.heap[ob]? = some (.cells ([u] : List Value).toArray 39 (0, 0)) ∧ Own w3.heap.size 5 1 x u (readM V.bs (ps.take k)).length ((readM V.bs (ps.take k)).map (Value.int .u8)) ∧
      (∀ z, Y z ↔ z = ob ∨ some z = u.ownBlock ∨ mFoot A z) ∧ ptrBox x vb v ∧ x.heap[v.vb]? = some (.cells (vwL v).toArray 75 (0, 0)) ∧ w3.heap.size ≤ x.heap.size)
    (fun z => z = ob ∨ mFoot A z) w3 (hv.grow hw) (hq.grow hw) hmb hck hfew
    (by rintro (( h | h) | h); omega; exact hPv h; exact hPv h)
    (hq.rd.outNew hPq (fun z hz => by rcases hz with (h | h) | h; exact .inr (by omega); exact .inl h; exact .inl h))
    (hv.conf.classes.outNew hPc (fun z hz => by rcases hz with (h | h) | h; exact .inr (by omega); exact .inl h; exact .inl h))
    (hv.conf.keep.outNew hPk (fun z hz => by rcases hz with (h | h) | h; exact .inr (by omega); exact .inl h; exact .inl h))
    (by
      rintro k Y x ⟨u, h1, h2, h3, h4, h5, h6⟩ z hz
      rcases (h3 z).1 hz with rfl | h | h
      · exact lt_of_heap h1
      · exact (World.ownsRow.lt h2 z h.symm).2
      · have := hmlt z h; omega)
    (by
      rintro k Y x y S ⟨u, h1, h2, h3, h4, h5, h6⟩ hs hS
      have no : ∀ z, z < w3.heap.size → ¬ mFoot A z → ¬ S z := fun z hz hm h => (hS z h).elim hm (fun h => by omega)
      exact ⟨u, hs.heap h1 (no _ (by omega) (fun h => by have := hmlt _ h; omega)), h2.chg hs (fun b hb h => by
        have hbb := World.ownsRow.lt h2 b hb.symm
        rcases hS b h with hm | hm
        · have := hmlt b hm; omega
        · exact hm.1 ((h3 b).2 (.inr (.inl hb)))), h3, hs.heap h4 (no _ (by omega) (fun h => by have := hmlt _ h; omega)), hs.heap h5 (no _ (by omega) hPv), Nat.le_trans h6 hs.size⟩)
    (by
      rintro k Y x hk hAx ⟨u, h1, h2, h3, h4, h5, h6⟩
      rw [← hps] at hk
      obtain ⟨i, m, hp, him⟩ := hpin ps[k] (List.getElem_mem hk)
      have hbs : (chgL q A (vsT q A V ps k)).bs = V.bs := by rw [chgL_bs, vsT_bs]
      have hrl : (readM V.bs (ps.take k)).length = totalM (ps.take k) := readM_length rfl (fun p hp => hpin p (List.mem_of_mem_take hp))
      have htk := totalM_take hk
      rw [hp] at htk
      simp only [Int.toNat_natCast] at htk
      have hAb : ∀ b, b = A.ab ∨ b = A.db ∨ b = A.mc ∨ A.mb = some b → b < w.heap.size := hA.blt
      have hR := view_Read1 v vb ob A (chgL q A (vsT q A V ps k)) i m w3.heap.size (readM V.bs (ps.take k)).length u (readM V.bs (ps.take k)) x h4 h5 hab h1 h2 h6 (by omega) hAx (by rw [hbs]; exact him) (by omega)
        (fun z hz => by have := hmlt z hz; omega) (fun b hb e => by have := hAb b hb; have := (World.ownsRow.lt h2 b e.symm).1; omega) (fun b hb e => by have := hAb b hb; omega)
      simp only [← hps]
      rw [hp]
      refine hR.mono fun _ y ⟨a1, a2, u', a3, a4, a5⟩ => ?_
      rw [hbs] at a4
      have htake : readM V.bs (ps.take (k + 1)) = readM V.bs (ps.take k) ++ sub V.bs i m := by
        rw [List.take_add_one, List.getElem?_eq_getElem hk, hp]
        unfold readM
        rw [List.flatMap_append]
        simp
      refine ⟨by rw [vsT_succ hk, hp]; exact a1, a2.mono fun z _ hz => (h3 z).2 hz, fun z => z = ob ∨ some z = u'.ownBlock ∨ mFoot A z, ⟨u', a3, ?_, fun z => Iff.rfl, ?_, ?_, Nat.le_trans h6 a2.size⟩, fun z hz => ?_⟩
      · rw [htake, List.length_append, sub_length him]
        exact a4
      · exact a2.heap h4 (fun h => by rcases h with h | h | h; omega; have := (World.ownsRow.lt h2 _ h.symm).1; omega; have := hmlt _ h; omega)
      · exact a2.heap h5 (fun h => by rcases h with h | h | h; omega; have := (World.ownsRow.lt h2 _ h.symm).1; omega; exact hPv h)
      · rcases hz with h | h | h
        · exact .inl ((h3 z).2 (.inl h))
        · rcases a5 z h with h | h
          · exact .inl ((h3 z).2 (.inr (.inl h)))
          · exact .inr h
        · exact .inl ((h3 z).2 (.inr (.inr h))))
    (hA.grow hw) ⟨.slice none 0 0, hob, World.ownsRow_nil _ _ _ _, fun z => ⟨fun h => h.elim .inl (fun h => .inr (.inr h)), fun h => by rcases h with h | h | h; exact .inl h; cases h; exact .inr h⟩, hvb3, hw.heap' hv.obj, Nat.le_refl _⟩
  rw [← hps] at hE
  refine Goes.call rfl (hE) ?_
  rintro _ w4 ⟨rfl, hA4, ⟨Y', ⟨u, h1, h2, h3, h4, h5, h6⟩, hY'⟩, hs4⟩
  refine Goes.adv hTT 400 rfl ?_
  rw [List.take_length] at h2
  have hch : Chg (mFoot A) w w4 := (hw.mono fun _ _ h => h.elim).since hs4 (fun z hz h => by rcases h with (h | h) | h; omega; exact h; exact h)
  have ho : Own w.heap.size 5 1 w4 u (readM V.bs ps).length ((readM V.bs ps).map (Value.int .u8)) := by
    refine ⟨h2.1, ?_⟩
    rcases h2.2 with h | ⟨g, cap, cur, a1, a2, a3⟩
    · exact .inl h
    · exact .inr ⟨g, cap, cur, a1, by omega, a3⟩
  refine Goes.loadb hTT rfl h1 rfl rfl ?_
  exact Goes.ret2 hTT rfl Try.func19 rfl rfl rfl ⟨u, rfl, hA4, hch, ho⟩
theorem view_Read_no (v : Vw) (q : Plc) (at' n : Int) (w : World) (hv : VwOk w v) (hq : PlcOk w q) (hfew : q.pages.length ≤ 4096) (hn : checkM v.c q at' n ≠ 0) :
    Does Try.prog 19 #[vwV v, .agg (plL q).toArray, .int .i64 at', .int .i64 n] w (Grow (.tuple #[.slice none 0 0, .int .i64 (checkM v.c q at' n)]) w) := by
  refine Does.enter Try.func19 rfl Try.ntmps19 rfl rfl ?_
  refine Goes.adv hTT 400 rfl ?_
  refine Goes.alloc hTT rfl ?_
  intro vb w1 e1 hvb hw1 hz1
  refine Goes.adv hTT 400 rfl ?_
  refine Goes.alloc hTT rfl ?_
  intro qb w2 e2 hqb hw2 hz2
  refine Goes.adv hTT 400 rfl ?_
  refine Goes.alloc hTT rfl ?_
  intro ob w3 e3 hob hw3 hz3
  refine Goes.adv hTT 400 rfl ?_
  replace hqb : plcBox w2 qb q := hqb
  have hw := (hw1.trans hw2).trans hw3
  refine Goes.loadb hTT rfl ((hw2.trans hw3).heap' hvb) rfl rfl ?_
  refine Goes.loads hTT rfl (hw3.heap' hqb) rfl rfl ?_
  refine Goes.call rfl (view_each_no v q at' n 40 [.pointer (some ⟨vb, 0, none⟩), .pointer (some ⟨ob, 0, none⟩)] w3 (hv.grow hw) (hq.grow hw) hfew hn) ?_
  rintro _ w4 ⟨rfl, hw4⟩
  refine Goes.adv hTT 400 rfl ?_
  refine Goes.loadb hTT rfl (hw4.heap' hob) rfl rfl ?_
  exact Goes.ret2 hTT rfl Try.func19 rfl rfl rfl ⟨rfl, hw.trans hw4⟩
theorem view_Read_nil (q : Plc) (at' n : Int) (w : World) : Does Try.prog 19 #[.pointer none, .agg (plL q).toArray, .int .i64 at', .int .i64 n] w (Grow (.tuple #[.slice none 0 0, .int .i64 1]) w) := by
  refine Does.enter Try.func19 rfl Try.ntmps19 rfl rfl ?_
  refine Goes.adv hTT 400 rfl ?_
  refine Goes.alloc hTT rfl ?_
  intro vb w1 e1 hvb hw1 hz1
  refine Goes.adv hTT 400 rfl ?_
  refine Goes.alloc hTT rfl ?_
  intro qb w2 e2 hqb hw2 hz2
  refine Goes.adv hTT 400 rfl ?_
  refine Goes.alloc hTT rfl ?_
  intro ob w3 e3 hob hw3 hz3
  refine Goes.adv hTT 400 rfl ?_
  replace hqb : plcBox w2 qb q := hqb
  have hw := (hw1.trans hw2).trans hw3
  refine Goes.loadb hTT rfl ((hw2.trans hw3).heap' hvb) rfl rfl ?_
  refine Goes.loads hTT rfl (hw3.heap' hqb) rfl rfl ?_
  refine Goes.call rfl (view_each_nil q at' n 40 [.pointer (some ⟨vb, 0, none⟩), .pointer (some ⟨ob, 0, none⟩)] w3) ?_
  rintro _ w4 ⟨rfl, hw4⟩
  refine Goes.adv hTT 400 rfl ?_
  refine Goes.loadb hTT rfl (hw4.heap' hob) rfl rfl ?_
  exact Goes.ret2 hTT rfl Try.func19 rfl rfl rfl ⟨rfl, hw.trans hw4⟩
end Go.Proofs.Ytffimkpllchfcaa
