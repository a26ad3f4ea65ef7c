/-
  Texts put together: Ref12, Ref08, Ref08b, Ref13, Ref13b, Ref13c, Ref13d, Ref13e, Ref13f, Flat, Ref20, Ref20b, Ref20c, Ref20d.
-/
import Derived.Test.YtkiionjcapnepaaGreatDoorPt2
import Derived.Test.YtkiionjcapnepaaGreatDoorRule6
import Derived.Test.YtkiionjcapnepaaGreatDoorRule15
set_option linter.unusedVariables false
/-
  Layer 12: what the document's functions answer.
-/
namespace Go.Proofs.YtkiionjcapnepaaGreatDoor
open Go.RowKit

/-- A list of whole numbers: where it lies. -/
structure IL where
  a : Option Addr
  cap : Nat
  x : List Int
abbrev ilV (l : IL) : Value := .slice l.a l.x.length l.cap
structure IlOk (w : World) (l : IL) : Prop where
  rd : Rd .i64 w l.a l.x
  len : l.x.length ≤ 512
theorem IlOk.grow {w w' : World} {l : IL} (h : IlOk w l) (hc : Chg None' w w') : IlOk w' l := ⟨h.rd.chg hc, h.len⟩
theorem IlOk.far {w w' : World} {l : IL} {S : Nat → Prop} (h : IlOk w l) (hs : OutA S l.a) (hc : Chg S w w') : IlOk w' l :=
  ⟨(RdS.chg ⟨h.rd, fun b off s e _ => hs b off s e⟩ hc).1, h.len⟩
theorem plain_i64 {x : List Int} : ∀ u ∈ x.map (Value.int .i64), u.oneCell' = true := by
  intro u hu
  obtain ⟨z, _, rfl⟩ := List.mem_map.1 hu
  rfl
theorem getD_m1 {x : List Int} {i : Nat} (h : i < x.length) : x.getD i (-1) = x.getD i 0 := by
  rw [List.getD_eq_getElem?_getD, List.getD_eq_getElem?_getD, List.getElem?_eq_getElem h]; rfl
theorem IlOk.at {w : World} {l : IL} (h : IlOk w l) {i : Nat} (hi : i < l.x.length) : ∃ b off, l.a = some ⟨b, off, none⟩ ∧ w.cell? ⟨b, off + i, none⟩ = some (.int .i64 (l.x.getD i (-1))) := by
  obtain ⟨b, off, e, hc⟩ := h.rd i hi
  exact ⟨b, off, e, by rw [getD_m1 hi]; exact hc⟩
theorem Rd.atm {w : World} {a : Option Addr} {x : List Int} (h : Rd .i64 w a x) {i : Nat} (hi : i < x.length) : ∃ b off, a = some ⟨b, off, none⟩ ∧ w.cell? ⟨b, off + i, none⟩ = some (.int .i64 (x.getD i (-1))) := by
  obtain ⟨b, off, e, hc⟩ := h i hi
  exact ⟨b, off, e, by rw [getD_m1 hi]; exact hc⟩
theorem ref12_New (m : Nat) (w : World) (h : 1 ≤ m ∧ m ≤ 512) : Does Tryz.prog 147 #[.int .i64 m] w (fun v w' => ∃ l : IL, v = .tuple #[ilV l, .int .i64 0] ∧ l.x = List.replicate m (-1) ∧ IlOk w' l ∧ Chg None' w w' ∧ Newer w none l.a) := by
  have hml : maxLen = 9223372036854775807 := rfl
  refine Does.enter Tryz.func147 rfl Tryz.ntmps147 rfl rfl ?_
  refine Goes.adv hTT 400 rfl ?_
  refine Goes.no hTT rfl (decide_eq_false (by omega)) rfl ?_
  refine Goes.no hTT rfl (decide_eq_false (by omega)) rfl ?_
  refine Goes.loop (α := Nat × Value) (fun p => [(0, false, .int .i64 m), (4, false, p.2), (5, false, .int .i64 p.1)])
    (fun p w' => p.1 ≤ m ∧ Own w.heap.size 3 1 w' p.2 p.1 ((List.replicate p.1 (-1)).map (Value.int .i64)) ∧ Chg None' w w') (fun p => m - p.1) (0, .slice none 0 0) ⟨rfl, rfl, rfl, trivial⟩ ⟨Nat.zero_le _, World.ownsRow_nil _ _ _ _, Chg.refl _ _⟩ ?_
  rintro ⟨i, v⟩ w1 ⟨hi, ho, hw1⟩ ih
  simp only at hi ho
  refine Goes.adv hTT 400 rfl ?_
  refine Goes.fork hTT rfl rfl rfl (fun hc => ?_) (fun hc => ?_)
  · have hlt : i < m := by have := of_decide_eq_true hc; omega
    refine Goes.buildSlice hTT rfl ?_
    intro b2 w2 e2 hb2 hw2 hz2
    refine Goes.adv hTT 400 rfl ?_
    have ho2 := ho.chg hw2 (fun _ _ h => h)
    refine Goes.append (base := w.heap.size) (xs := (List.replicate i (-1)).map (Value.int .i64)) (news := [.int .i64 (-1)]) hTT rfl ho2 (by have := hw1.size; have := hw2.size; omega) (by simp) (cells1 hb2) (by simp [Value.oneCell']) (by simp only; omega) ?_
    intro v3 w3 ho3 hs3 hv3
    refine Goes.adv hTT 400 rfl ?_
    refine Goes.arith hTT rfl (w64 (by omega)) rfl ?_
    exact ih (i + 1, v3) _ _ ⟨hlt, by
      have e : (List.replicate (i + 1) (-1 : Int)).map (Value.int .i64) = (List.replicate i (-1)).map (Value.int .i64) ++ [.int .i64 (-1)] := by rw [List.replicate_succ', List.map_append]; rfl
      rw [e]; exact ho3, (ho2.since (hw1.trans hw2) (Nat.le_refl _) hs3)⟩ (by simp only; omega) ⟨rfl, rfl, rfl, trivial⟩
  · have hge : i = m := by have := of_decide_eq_false hc; omega
    subst hge
    obtain ⟨g, cap4, cur, rfl, hg1, hg2, hg3, hg4, hg5⟩ := ho.form (by omega)
    have hlen : (List.replicate i (-1 : Int)).length = i := List.length_replicate
    exact Goes.ret2 hTT rfl Tryz.func147 rfl rfl rfl ⟨⟨some ⟨g, 0, none⟩, cap4, List.replicate i (-1)⟩, by show _ = Value.tuple #[.slice _ (List.replicate i (-1 : Int)).length _, _]; rw [hlen], rfl, ⟨Rd.of_take hg2 (by simp only [hlen]; simpa using hg5), by simp only; omega⟩, hw1, .inr ⟨g, 0, rfl, hg1⟩⟩
theorem ref12_New_no (m : Int) (w : World) (h : ¬ (1 ≤ m ∧ m ≤ 512)) : Does Tryz.prog 147 #[.int .i64 m] w (Same (.tuple #[.slice none 0 0, .int .i64 1]) w) := by
  refine Does.enter Tryz.func147 rfl Tryz.ntmps147 rfl rfl ?_
  refine Goes.adv hTT 400 rfl ?_
  refine Goes.fork hTT rfl rfl rfl (fun h1 => ?_) (fun h1 => ?_)
  · exact Goes.ret2 hTT rfl Tryz.func147 rfl rfl rfl ⟨rfl, rfl⟩
  have g1 := of_decide_eq_false h1
  refine Goes.yes hTT rfl (decide_eq_true (by omega)) rfl ?_
  exact Goes.ret2 hTT rfl Tryz.func147 rfl rfl rfl ⟨rfl, rfl⟩
theorem ref12_Owner (l : IL) (i : Int) (w : World) (h : IlOk w l) : Does Tryz.prog 135 #[ilV l, .int .i64 i] w (Same (.int .i64 (pgOwn l.x i)) w) := by
  obtain ⟨a, cap, x⟩ := l
  have hl := h.len
  have hr := h.rd
  simp only at hl hr
  show Does Tryz.prog 135 #[.slice a x.length cap, .int .i64 i] w (Same (.int .i64 (pgOwn x i)) w)
  refine Does.enter Tryz.func135 rfl Tryz.ntmps135 rfl rfl ?_
  refine Goes.adv hTT 400 rfl ?_
  refine Goes.fork hTT rfl rfl rfl (fun h1 => ?_) (fun h1 => ?_)
  · have g1 := of_decide_eq_true h1
    exact Goes.ret1 hTT rfl Tryz.func135 rfl rfl ⟨int_v (pgOwn_out (by omega)).symm, rfl⟩
  have g1 := of_decide_eq_false h1
  refine Goes.fork hTT rfl rfl rfl (fun h2 => ?_) (fun h2 => ?_)
  · have g2 := of_decide_eq_true h2
    exact Goes.ret1 hTT rfl Tryz.func135 rfl rfl ⟨int_v (pgOwn_out (by omega)).symm, rfl⟩
  have g2 := of_decide_eq_false h2
  obtain ⟨i, rfl⟩ := Int.eq_ofNat_of_zero_le (show 0 ≤ i by omega)
  obtain ⟨b, off, rfl, hc⟩ := hr.atm (i := i) (by omega)
  refine Goes.index hTT rfl (j := i) (by omega) (by omega) (by first | rfl | omega | (simp; done) | (simp; omega)) rfl ?_
  refine Goes.load hTT rfl hc rfl ?_
  exact Goes.ret1 hTT rfl Tryz.func135 rfl rfl ⟨int_v (by unfold pgOwn; rw [if_pos (by omega)]; rfl), rfl⟩
theorem pgB_take (x : List Int) (k : Nat) : (pgB x).take k = pgB (x.take k) := by unfold pgB; rw [List.map_take]
theorem pgB_at {x : List Int} {j : Nat} (h : j < (pgB x).length) : (pgB x)[j] = !(x.getD j (-1) == -1) := by rw [← pgB_getD, getD_is h]
theorem ref12_Used (l : IL) (w : World) (h : IlOk w l) : Does Tryz.prog 91 #[ilV l] w (Same (.int .i64 (pgUsed l.x)) w) := by
  obtain ⟨a, cap, x⟩ := l
  have hl := h.len
  have hr := h.rd
  simp only at hl hr
  show Does Tryz.prog 91 #[.slice a x.length cap] w (Same (.int .i64 (pgUsed x)) w)
  refine Does.enter Tryz.func91 rfl Tryz.ntmps91 rfl rfl ?_
  refine Goes.adv hTT 400 rfl ?_
  refine Goes.loop (α := Nat) (fun k => [(0, false, .slice a x.length cap), (3, false, .int .i64 (cnt ((pgB x).take k))), (4, false, .int .i64 k)])
    (fun k w' => w' = w ∧ k ≤ x.length) (fun k => x.length - k) 0 ⟨rfl, rfl, rfl, trivial⟩ ⟨rfl, Nat.zero_le _⟩ ?_
  rintro k w1 ⟨hw, hk⟩ ih
  subst hw
  have hcl := cnt_le ((pgB x).take k)
  rw [List.length_take, pgB_length] at hcl
  refine Goes.adv hTT 400 rfl ?_
  refine Goes.fork hTT rfl rfl rfl (fun h0 => ?_) (fun h0 => ?_)
  · have hlt : k < x.length := by have := of_decide_eq_true h0; omega
    obtain ⟨b, off, rfl, hc⟩ := hr.atm hlt
    have hs := cnt_take_succ' (pgB x) k (by rw [pgB_length]; exact hlt)
    rw [pgB_at] at hs
    refine Goes.index hTT rfl (j := k) (by omega) (by omega) (by first | rfl | omega | (simp; done) | (simp; omega)) rfl ?_
    refine Goes.load hTT rfl hc rfl ?_
    cases hb : (x.getD k (-1) == -1) with
    | true =>
      rw [hb, if_neg (by decide)] at hs
      refine Goes.no hTT rfl (show (x.getD k (-1) != -1) = false by simpa [bne] using hb) rfl ?_
      refine Goes.arith hTT rfl (w64 (by omega)) rfl ?_
      exact ih (k + 1) _ _ ⟨rfl, hlt⟩ (by omega) ⟨rfl, by rw [hs]; rfl, rfl, trivial⟩
    | false =>
      rw [hb, if_pos (by decide)] at hs
      refine Goes.yes hTT rfl (show (x.getD k (-1) != -1) = true by simpa [bne] using hb) rfl ?_
      refine Goes.arith hTT rfl (w64 (by omega)) rfl ?_
      refine Goes.arith hTT rfl (w64 (by omega)) rfl ?_
      exact ih (k + 1) _ _ ⟨rfl, hlt⟩ (by omega) ⟨rfl, by rw [hs]; rfl, rfl, trivial⟩
  · have hge : k = x.length := by have := of_decide_eq_false h0; omega
    subst hge
    exact Goes.ret1 hTT rfl Tryz.func91 rfl rfl ⟨int_v (by unfold pgUsed; rw [List.take_of_length_le (by rw [pgB_length]; omega)]), rfl⟩
theorem ref12_Hole (l : IL) (w : World) (h : IlOk w l) : Does Tryz.prog 122 #[ilV l] w (Same (.int .i64 (pgHole l.x)) w) := by
  obtain ⟨a, cap, x⟩ := l
  have hl := h.len
  have hr := h.rd
  simp only at hl hr
  show Does Tryz.prog 122 #[.slice a x.length cap] w (Same (.int .i64 (pgHole x)) w)
  refine Does.enter Tryz.func122 rfl Tryz.ntmps122 rfl rfl ?_
  refine Goes.adv hTT 400 rfl ?_
  refine Goes.loop (α := Nat) (fun k => [(0, false, .slice a x.length cap), (3, false, .int .i64 k)])
    (fun k w' => w' = w ∧ k ≤ x.length ∧ ∀ j, j < k → (x.getD j (-1) == -1) = false) (fun k => x.length - k) 0 ⟨rfl, rfl, trivial⟩ ⟨rfl, Nat.zero_le _, fun _ h => by omega⟩ ?_
  rintro k w1 ⟨hw, hk, hpre⟩ ih
  subst hw
  refine Goes.adv hTT 400 rfl ?_
  refine Goes.fork hTT rfl rfl rfl (fun h0 => ?_) (fun h0 => ?_)
  · have hlt : k < x.length := by have := of_decide_eq_true h0; omega
    obtain ⟨b, off, rfl, hc⟩ := hr.atm hlt
    refine Goes.index hTT rfl (j := k) (by omega) (by omega) (by first | rfl | omega | (simp; done) | (simp; omega)) rfl ?_
    refine Goes.load hTT rfl hc rfl ?_
    cases hb : (x.getD k (-1) == -1) with
    | true =>
      refine Goes.yes hTT rfl rfl rfl ?_
      exact Goes.ret1 hTT rfl Tryz.func122 rfl rfl ⟨int_v (idx_at (p := fun b => !b) (by rw [pgB_length]; exact hlt) (fun j hj hjk => by rw [pgB_at, hpre j hjk]; rfl) (by rw [pgB_at, hb]; rfl)).symm, rfl⟩
    | false =>
      refine Goes.no hTT rfl rfl rfl ?_
      refine Goes.arith hTT rfl (w64 (by omega)) rfl ?_
      exact ih (k + 1) _ _ ⟨rfl, hlt, fun j hjk => by
        by_cases e : j = k
        · subst e; exact hb
        · exact hpre j (by omega)⟩ (by omega) ⟨rfl, rfl, trivial⟩
  · have hge : k = x.length := by have := of_decide_eq_false h0; omega
    exact Goes.ret1 hTT rfl Tryz.func122 rfl rfl ⟨int_v (idx_none (p := fun b => !b) (fun j hj => by rw [pgB_at, hpre j (by rw [pgB_length] at hj; omega)]; rfl)).symm, rfl⟩
theorem ref12_Top (l : IL) (w : World) (h : IlOk w l) : Does Tryz.prog 134 #[ilV l] w (Same (.int .i64 (pgTop l.x)) w) := by
  obtain ⟨a, cap, x⟩ := l
  have hl := h.len
  have hr := h.rd
  simp only at hl hr
  show Does Tryz.prog 134 #[.slice a x.length cap] w (Same (.int .i64 (pgTop x)) w)
  refine Does.enter Tryz.func134 rfl Tryz.ntmps134 rfl rfl ?_
  refine Goes.adv hTT 400 rfl ?_
  refine Goes.arith hTT rfl (w64 (by omega)) rfl ?_
  refine Goes.loop (α := Nat) (fun k => [(0, false, .slice a x.length cap), (3, false, .int .i64 ((k : Int) - 1))])
    (fun k w' => w' = w ∧ k ≤ x.length ∧ ∀ j, k ≤ j → (x.getD j (-1) == -1) = true) (fun k => k) x.length ⟨rfl, rfl, trivial⟩ ⟨rfl, Nat.le_refl _, fun j h => by rw [List.getD_eq_getElem?_getD, List.getElem?_eq_none h]; rfl⟩ ?_
  rintro k w1 ⟨hw, hk, hpre⟩ ih
  subst hw
  refine Goes.adv hTT 400 rfl ?_
  refine Goes.fork hTT rfl rfl rfl (fun h0 => ?_) (fun h0 => ?_)
  · have hlt : 0 < k := by have := of_decide_eq_true h0; omega
    obtain ⟨k, rfl⟩ : ∃ m, k = m + 1 := ⟨k - 1, by omega⟩
    obtain ⟨b, off, rfl, hc⟩ := hr.atm (i := k) (by omega)
    rw [show (((k + 1 : Nat) : Int) - 1) = (k : Int) from by omega]
    refine Goes.index hTT rfl (j := k) (by omega) (by omega) (by first | rfl | omega | (simp; done) | (simp; omega)) rfl ?_
    refine Goes.load hTT rfl hc rfl ?_
    cases hb : (x.getD k (-1) == -1) with
    | false =>
      refine Goes.yes hTT rfl (show (x.getD k (-1) != -1) = true by simpa [bne] using hb) rfl ?_
      exact Goes.ret1 hTT rfl Tryz.func134 rfl rfl ⟨int_v (ridx_at (p := id) (by rw [pgB_length]; omega) (fun j hj hjk => by rw [pgB_at, hpre j (by omega)]; rfl) (by rw [pgB_at, hb]; rfl)).symm, rfl⟩
    | true =>
      refine Goes.no hTT rfl (show (x.getD k (-1) != -1) = false by simpa [bne] using hb) rfl ?_
      refine Goes.arith hTT rfl (w64 (by omega)) rfl ?_
      exact ih k _ _ ⟨rfl, by omega, fun j hjk => by
        by_cases e : j = k
        · subst e; exact hb
        · exact hpre j (by omega)⟩ (by omega) ⟨rfl, rfl, trivial⟩
  · have hge : k = 0 := by have := of_decide_eq_false h0; omega
    exact Goes.ret1 hTT rfl Tryz.func134 rfl rfl ⟨int_v (ridx_none (p := id) (fun j hj => by rw [pgB_at, hpre j (by omega)]; rfl)).symm, rfl⟩
theorem ref12_With (l : IL) (i : Nat) (v : Int) (w : World) (h : IlOk w l) (hi : i < l.x.length) : Does Tryz.prog 148 #[ilV l, .int .i64 i, .int .i64 v] w
    (fun u w' => ∃ l' : IL, u = ilV l' ∧ l'.x = l.x.set i v ∧ IlOk w' l' ∧ Chg None' w w' ∧ Newer w l.a l'.a) := by
  obtain ⟨a, cap, x⟩ := l
  have hl := h.len
  have hr := h.rd
  simp only at hl hr hi
  show Does Tryz.prog 148 #[.slice a x.length cap, .int .i64 i, .int .i64 v] w _
  have hml : maxLen = 9223372036854775807 := rfl
  obtain ⟨b, off, rfl, hc⟩ := hr i hi
  refine Does.enter Tryz.func148 rfl Tryz.ntmps148 rfl rfl ?_
  refine Goes.adv hTT 400 rfl ?_
  refine Goes.buildSlice hTT rfl ?_
  intro b3 w3 e3 hb3 hw3 hz3
  refine Goes.adv hTT 400 rfl ?_
  have ho : Own w.heap.size 3 1 w3 (.slice (some ⟨b3, 0, none⟩) 0 0) 0 [] := Own.empty (by omega) hb3
  refine Goes.append (base := w.heap.size) (xs := []) (news := x.map (Value.int .i64)) hTT rfl ho hw3.size (by simp) (hr.chg hw3).cells plain_i64 (by simp only; omega) ?_
  intro v4 w4 ho4 hs4 hv4
  refine Goes.adv hTT 400 rfl ?_
  have hw4 := ho.since hw3 (Nat.le_refl _) hs4
  obtain ⟨g, cap4, cur, rfl, hg1, hg2, hg3, hg4, hg5⟩ := ho4.form (by omega)
  have hcur : cur.toList = x.map (Value.int .i64) ++ cur.toList.drop x.length := by
    have e := List.take_append_drop x.length cur.toList
    rw [show cur.toList.take x.length = x.map (Value.int .i64) from by simpa using hg5] at e
    exact e.symm
  obtain ⟨rest, hrest⟩ : ∃ rest, rest = cur.toList.drop x.length := ⟨_, rfl⟩
  rw [← hrest] at hcur
  have hg2' : w4.heap[g]? = some (.cells (x.map (Value.int .i64) ++ rest).toArray 3 (0, 0)) := by rw [← hcur]; exact hg2
  have hl4 : 0 + x.length = x.length := by omega
  rw [hl4] at hg3 ⊢
  refine Goes.index hTT rfl (j := i) (by omega) (by omega) (by first | rfl | omega | (simp; done) | (simp; omega)) rfl ?_
  refine Goes.store hTT rfl hg2' (show setV (x.map (Value.int .i64) ++ rest) (0 + i) [.int .i64 v] = some ((x.set i v).map (Value.int .i64) ++ rest) from by rw [Nat.zero_add, setV_oneL _ _ _ (by simp; omega), List.set_append_left _ _ (by simpa using hi), List.map_set]) rfl ?_
  intro w5 hg5' hs5 hz5
  refine Goes.adv hTT 400 rfl ?_
  have hw5 : Chg None' w w5 := hw4.since hs5 (fun z hz hze => by omega)
  have hsl : (x.set i v).length = x.length := by simp
  exact Goes.ret1 hTT rfl Tryz.func148 rfl rfl ⟨⟨some ⟨g, 0, none⟩, cap4, x.set i v⟩, by show _ = Value.slice _ (x.set i v).length _; rw [hsl], rfl, ⟨Rd.of_take hg5' (by simp), by simp only; omega⟩, hw5, .inr ⟨g, 0, rfl, hg1⟩⟩
theorem ref12_Take (l : IL) (who : Int) (w : World) (h : IlOk w l) : Does Tryz.prog 120 #[ilV l, .int .i64 who] w
    (fun v w' => ∃ l' : IL, v = .tuple #[ilV l', .int .i64 (pgTakeA l.x who), .int .i64 (pgTakeE l.x who)] ∧ l'.x = pgTake l.x who ∧ IlOk w' l' ∧ Chg None' w w' ∧ Newer w l.a l'.a) := by
  refine Does.enter Tryz.func120 rfl Tryz.ntmps120 rfl rfl ?_
  refine Goes.adv hTT 400 rfl ?_
  refine Goes.fork hTT rfl rfl rfl (fun h0 => ?_) (fun h0 => ?_)
  · have g0 := of_decide_eq_true h0
    have he : pgTakeE l.x who = 1 := by unfold pgTakeE; rw [if_pos g0]
    have ha : pgTakeA l.x who = 0 := by unfold pgTakeA; rw [he]; rfl
    have ht : pgTake l.x who = l.x := by unfold pgTake; rw [he]; rfl
    rw [he, ha, ht]
    exact Goes.ret hTT rfl Tryz.func120 (.tmp rfl (.tmp rfl (.tmp rfl .nil))) ⟨l, rfl, rfl, h, Chg.refl _ _, .inl rfl⟩
  have g0 := of_decide_eq_false h0
  refine Goes.call rfl (ref12_Hole l w h) ?_
  rintro _ _ ⟨rfl, rfl⟩
  refine Goes.adv hTT 400 rfl ?_
  refine Goes.fork hTT rfl rfl rfl (fun h1 => ?_) (fun h1 => ?_)
  · have g1 := of_decide_eq_true h1
    have he : pgTakeE l.x who = 5 := by unfold pgTakeE; rw [if_neg g0, if_pos g1]
    have ha : pgTakeA l.x who = 0 := by unfold pgTakeA; rw [he]; rfl
    have ht : pgTake l.x who = l.x := by unfold pgTake; rw [he]; rfl
    rw [he, ha, ht]
    exact Goes.ret hTT rfl Tryz.func120 (.tmp rfl (.tmp rfl (.tmp rfl .nil))) ⟨l, rfl, rfl, h, Chg.refl _ _, .inl rfl⟩
  have g1 := of_decide_eq_false h1
  have he : pgTakeE l.x who = 0 := by unfold pgTakeE; rw [if_neg g0, if_neg g1]
  have ha : pgTakeA l.x who = pgHole l.x := by unfold pgTakeA; rw [he]; rfl
  have ht : pgTake l.x who = l.x.set (pgHole l.x).toNat who := by unfold pgTake; rw [he]; rfl
  obtain ⟨hin, hat⟩ := pg_hole_in g1
  rw [he, ha, ht]
  obtain ⟨k, hk⟩ := Int.eq_ofNat_of_zero_le (show 0 ≤ pgHole l.x by omega)
  rw [hk]
  rw [hk] at hin
  refine Goes.call rfl (ref12_With l k who w h hin) ?_
  rintro _ w1 ⟨l', rfl, hx, hl, hw, hne⟩
  refine Goes.adv hTT 400 rfl ?_
  exact Goes.ret hTT rfl Tryz.func120 (.tmp rfl (.tmp rfl (.tmp rfl .nil))) ⟨l', rfl, hx, hl, hw, hne⟩
theorem ref12_Give (l : IL) (i : Int) (w : World) (h : IlOk w l) : Does Tryz.prog 126 #[ilV l, .int .i64 i] w
    (fun v w' => ∃ l' : IL, v = .tuple #[ilV l', .int .i64 (pgGiveE l.x i)] ∧ l'.x = pgGive l.x i ∧ IlOk w' l' ∧ Chg None' w w' ∧ Newer w l.a l'.a) := by
  have hk : ∀ e : Int, pgGiveE l.x i = e → e ≠ 0 → pgGive l.x i = l.x := fun e h1 h2 => by unfold pgGive; rw [h1, if_neg h2]
  obtain ⟨a, cap, x⟩ := l
  have hr := h.rd
  have hl := h.len
  simp only at hr hk hl
  show Does Tryz.prog 126 #[.slice a x.length cap, .int .i64 i] w (fun v w' => ∃ l' : IL, v = .tuple #[ilV l', .int .i64 (pgGiveE x i)] ∧ l'.x = pgGive x i ∧ IlOk w' l' ∧ Chg None' w w' ∧ Newer w a l'.a)
  refine Does.enter Tryz.func126 rfl Tryz.ntmps126 rfl rfl ?_
  refine Goes.adv hTT 400 rfl ?_
  refine Goes.fork hTT rfl rfl rfl (fun h0 => ?_) (fun h0 => ?_)
  · have g0 := of_decide_eq_true h0
    have he : pgGiveE x i = 1 := by unfold pgGiveE; rw [if_pos (by omega)]
    rw [he, hk 1 he (by decide)]
    exact Goes.ret2 hTT rfl Tryz.func126 rfl rfl rfl ⟨⟨a, cap, x⟩, rfl, rfl, h, Chg.refl _ _, .inl rfl⟩
  have g0 := of_decide_eq_false h0
  refine Goes.fork hTT rfl rfl rfl (fun h1 => ?_) (fun h1 => ?_)
  · have g1 := of_decide_eq_true h1
    have he : pgGiveE x i = 1 := by unfold pgGiveE; rw [if_pos (by omega)]
    rw [he, hk 1 he (by decide)]
    exact Goes.ret2 hTT rfl Tryz.func126 rfl rfl rfl ⟨⟨a, cap, x⟩, rfl, rfl, h, Chg.refl _ _, .inl rfl⟩
  have g1 := of_decide_eq_false h1
  obtain ⟨i, rfl⟩ := Int.eq_ofNat_of_zero_le (show 0 ≤ i by omega)
  have hko : pgOwn x (i : Int) = x.getD i (-1) := by unfold pgOwn; rw [if_pos (by omega)]; rfl
  obtain ⟨b, off, rfl, hc⟩ := hr.atm (i := i) (by omega)
  refine Goes.index hTT rfl (j := i) (by omega) (by omega) (by first | rfl | omega | (simp; done) | (simp; omega)) rfl ?_
  refine Goes.load hTT rfl hc rfl ?_
  by_cases h2 : x.getD i (-1) = -1
  · have he : pgGiveE x i = 9 := by unfold pgGiveE; rw [if_neg (by omega), if_pos (by rw [hko]; exact h2)]
    rw [he]
    refine Goes.yes hTT rfl (show (x.getD i (-1) == -1) = true by rw [h2]; rfl) rfl ?_
    exact Goes.ret2 hTT rfl Tryz.func126 rfl rfl rfl ⟨⟨_, cap, x⟩, rfl, (hk 9 he (by decide)).symm, h, Chg.refl _ _, .inl rfl⟩
  · have he : pgGiveE x i = 0 := by unfold pgGiveE; rw [if_neg (by omega), if_neg (by rw [hko]; exact h2)]
    have ht : pgGive x i = x.set i (-1) := by unfold pgGive; rw [he]; rfl
    rw [he]
    refine Goes.no hTT rfl (show (x.getD i (-1) == -1) = false by simpa using h2) rfl ?_
    refine Goes.call rfl (ref12_With ⟨_, cap, x⟩ i (-1) w h (show i < x.length by omega)) ?_
    rintro _ w1 ⟨l', rfl, hx, hl, hw, hne⟩
    refine Goes.adv hTT 400 rfl ?_
    exact Goes.ret2 hTT rfl Tryz.func126 rfl rfl rfl ⟨l', rfl, by rw [hx]; exact ht.symm, hl, hw, hne⟩
theorem ref12_Own (l : IL) (i who : Int) (w : World) (h : IlOk w l) : Does Tryz.prog 128 #[ilV l, .int .i64 i, .int .i64 who] w
    (fun v w' => ∃ l' : IL, v = .tuple #[ilV l', .int .i64 (pgOwnE l.x i who)] ∧ l'.x = pgOwnS l.x i who ∧ IlOk w' l' ∧ Chg None' w w' ∧ Newer w l.a l'.a) := by
  have hk : ∀ e : Int, pgOwnE l.x i who = e → e ≠ 0 → pgOwnS l.x i who = l.x := fun e h1 h2 => by unfold pgOwnS; rw [h1, if_neg h2]
  obtain ⟨a, cap, x⟩ := l
  have hr := h.rd
  have hl := h.len
  simp only at hr hk hl
  show Does Tryz.prog 128 #[.slice a x.length cap, .int .i64 i, .int .i64 who] w (fun v w' => ∃ l' : IL, v = .tuple #[ilV l', .int .i64 (pgOwnE x i who)] ∧ l'.x = pgOwnS x i who ∧ IlOk w' l' ∧ Chg None' w w' ∧ Newer w a l'.a)
  refine Does.enter Tryz.func128 rfl Tryz.ntmps128 rfl rfl ?_
  refine Goes.adv hTT 400 rfl ?_
  refine Goes.fork hTT rfl rfl rfl (fun h0 => ?_) (fun h0 => ?_)
  · have g0 := of_decide_eq_true h0
    have he : pgOwnE x i who = 1 := by unfold pgOwnE; rw [if_pos (by omega)]
    rw [he, hk 1 he (by decide)]
    exact Goes.ret2 hTT rfl Tryz.func128 rfl rfl rfl ⟨⟨a, cap, x⟩, rfl, rfl, h, Chg.refl _ _, .inl rfl⟩
  have g0 := of_decide_eq_false h0
  refine Goes.fork hTT rfl rfl rfl (fun h1 => ?_) (fun h1 => ?_)
  · have g1 := of_decide_eq_true h1
    have he : pgOwnE x i who = 1 := by unfold pgOwnE; rw [if_pos (by omega)]
    rw [he, hk 1 he (by decide)]
    exact Goes.ret2 hTT rfl Tryz.func128 rfl rfl rfl ⟨⟨a, cap, x⟩, rfl, rfl, h, Chg.refl _ _, .inl rfl⟩
  have g1 := of_decide_eq_false h1
  refine Goes.fork hTT rfl rfl rfl (fun hw0 => ?_) (fun hw0 => ?_)
  · have gw := of_decide_eq_true hw0
    have he : pgOwnE x i who = 1 := by unfold pgOwnE; rw [if_pos (by omega)]
    rw [he, hk 1 he (by decide)]
    exact Goes.ret2 hTT rfl Tryz.func128 rfl rfl rfl ⟨⟨a, cap, x⟩, rfl, rfl, h, Chg.refl _ _, .inl rfl⟩
  have gw := of_decide_eq_false hw0
  obtain ⟨i, rfl⟩ := Int.eq_ofNat_of_zero_le (show 0 ≤ i by omega)
  have hko : pgOwn x (i : Int) = x.getD i (-1) := by unfold pgOwn; rw [if_pos (by omega)]; rfl
  obtain ⟨b, off, rfl, hc⟩ := hr.atm (i := i) (by omega)
  refine Goes.index hTT rfl (j := i) (by omega) (by omega) (by first | rfl | omega | (simp; done) | (simp; omega)) rfl ?_
  refine Goes.load hTT rfl hc rfl ?_
  by_cases h2 : x.getD i (-1) = -1
  · have he : pgOwnE x i who = 9 := by unfold pgOwnE; rw [if_neg (by omega), if_pos (by rw [hko]; exact h2)]
    rw [he]
    refine Goes.yes hTT rfl (show (x.getD i (-1) == -1) = true by rw [h2]; rfl) rfl ?_
    exact Goes.ret2 hTT rfl Tryz.func128 rfl rfl rfl ⟨⟨_, cap, x⟩, rfl, (hk 9 he (by decide)).symm, h, Chg.refl _ _, .inl rfl⟩
  · have he : pgOwnE x i who = 0 := by unfold pgOwnE; rw [if_neg (by omega), if_neg (by rw [hko]; exact h2)]
    have ht : pgOwnS x i who = x.set i who := by unfold pgOwnS; rw [he]; rfl
    rw [he]
    refine Goes.no hTT rfl (show (x.getD i (-1) == -1) = false by simpa using h2) rfl ?_
    refine Goes.call rfl (ref12_With ⟨_, cap, x⟩ i who w h (show i < x.length by omega)) ?_
    rintro _ w1 ⟨l', rfl, hx, hl, hw, hne⟩
    refine Goes.adv hTT 400 rfl ?_
    exact Goes.ret2 hTT rfl Tryz.func128 rfl rfl rfl ⟨l', rfl, by rw [hx]; exact ht.symm, hl, hw, hne⟩
end Go.Proofs.YtkiionjcapnepaaGreatDoor
/-
  Layer 8: what the document says of a pool.
-/
namespace Go.Proofs.YtkiionjcapnepaaGreatDoor
open Go.RowKit

/-- An address in a block that there is. -/
def ALt (w : World) (a : Option Addr) : Prop := ∀ b off s, a = some ⟨b, off, s⟩ → b < w.heap.size
/-- An address in a new block. -/
def Fresh (w : World) (a : Option Addr) : Prop := ∀ b off s, a = some ⟨b, off, s⟩ → w.heap.size ≤ b
structure IlX (w : World) (l : IL) : Prop where
  ok : IlOk w l
  cap : l.x.length ≤ l.cap
  lt : ALt w l.a
theorem ALt.grow {w w' : World} {a : Option Addr} (h : ALt w a) (hs : w.heap.size ≤ w'.heap.size) : ALt w' a := fun b off s e => by have := h b off s e; omega
theorem IlX.grow {w w' : World} {l : IL} (h : IlX w l) (hc : Chg None' w w') : IlX w' l := ⟨h.ok.grow hc, h.cap, h.lt.grow hc.size⟩
theorem IlX.far {w w' : World} {l : IL} {S : Nat → Prop} (h : IlX w l) (hs : OutA S l.a) (hc : Chg S w w') : IlX w' l := ⟨h.ok.far hs hc, h.cap, h.lt.grow hc.size⟩
theorem ALt.out {w : World} {a : Option Addr} {S : Nat → Prop} (h : ALt w a) (hs : ∀ z, S z → w.heap.size ≤ z) : OutA S a := fun b off s e hz => by
  have := h b off s e
  have := hs b hz
  omega
theorem Fresh.out {w : World} {a : Option Addr} {S : Nat → Prop} (h : Fresh w a) (hs : ∀ z, S z → z < w.heap.size) : OutA S a := fun b off s e hz => by
  have := h b off s e
  have := hs b hz
  omega
theorem Fresh.back {w w' : World} {a : Option Addr} (h : Fresh w' a) (hs : w.heap.size ≤ w'.heap.size) : Fresh w a := fun b off s e => by have := h b off s e; omega
theorem Rd.cellsA {w : World} {a : Option Addr} {x : List Int} (h : Rd .i64 w a x) : ∀ i u, (x.map (Value.int .i64))[i]? = some u → ∃ a', a = some a' ∧ w.cell? (a'.add i) = some u := fun i u hu => by
  have hi : i < x.length := by have := (List.getElem?_eq_some_iff.1 hu).1; simpa using this
  obtain ⟨b, off, rfl, _⟩ := h i hi
  exact ⟨_, rfl, h.cells i u hu⟩
theorem Rd.noneA {w : World} {a : Option Addr} {x : List Int} {k : IntKind} (h : Rd k w a x) : a = none → x.length = 0 := fun e => by
  cases x with
  | nil => rfl
  | cons z r =>
    obtain ⟨b, off, e', _⟩ := h 0 (by simp)
    rw [e] at e'; cases e'
theorem Own.il {base m : Nat} {w : World} {v : Value} {x : List Int} (h : Own base 3 1 w v m (x.map (Value.int .i64))) (hm : x.length = m) (hx : x.length ≤ 512) :
    ∃ l : IL, v = ilV l ∧ l.x = x ∧ IlX w l ∧ ∀ b off s, l.a = some ⟨b, off, s⟩ → base ≤ b := by
  rcases h.2 with ⟨rfl, h2⟩ | ⟨g, cap, cur, rfl, hg, hh, hcap, hm2, _, hx2⟩
  · have : x = [] := List.length_eq_zero_iff.1 (by omega)
    subst this
    exact ⟨⟨none, 0, []⟩, rfl, rfl, ⟨⟨Rd.nil _ _ _, hx⟩, Nat.le_refl _, (by intro b off s e; cases e)⟩, (by intro b off s e; cases e)⟩
  · subst hm
    exact ⟨⟨some ⟨g, 0, none⟩, cap, x⟩, rfl, rfl, ⟨⟨Rd.of_take hh (by simpa using hx2), hx⟩, hcap, (by intro b off s e; cases e; exact lt_of_heap hh)⟩, (by intro b off s e; cases e; exact hg)⟩
theorem Own.one {base b : Nat} {w : World} {t : TypeId} {u : Value} (hb : base ≤ b) (h : w.heap[b]? = some (.cells #[u] t (0, 0))) : Own base t 1 w (.slice (some ⟨b, 0, none⟩) 1 1) 1 [u] :=
  ⟨by simp, .inr ⟨b, 1, #[u], rfl, hb, h, Nat.le_refl _, by decide, by simp, by simp⟩⟩
/-- The document's pool. -/
structure RP where
  o : IL
  f : IL
def rpL (r : RP) : List Value := [ilV r.o, ilV r.f]
structure RpOk (w : World) (r : RP) (pl : PlM) : Prop where
  o : IlX w r.o
  f : IlX w r.f
  eo : r.o.x = pl.own
  ef : r.f.x = pl.free.map (fun n : Nat => (n : Int))
theorem RpOk.grow {w w' : World} {r : RP} {pl : PlM} (h : RpOk w r pl) (hc : Chg None' w w') : RpOk w' r pl := ⟨h.o.grow hc, h.f.grow hc, h.eo, h.ef⟩
theorem ref08_with (o f : IL) (i : Nat) (v : Int) (w : World) (h : IlX w o) (hf : IlX w f) (hi : i < o.x.length) : Does Tryz.prog 112 #[.agg (rpL ⟨o, f⟩).toArray, .int .i64 i, .int .i64 v] w
    (fun u w' => ∃ l' : IL, u = .agg (rpL ⟨l', f⟩).toArray ∧ l'.x = o.x.set i v ∧ IlX w' l' ∧ Fresh w l'.a ∧ Chg None' w w') := by
  obtain ⟨a, cap, x⟩ := o
  have hl := h.ok.len
  have hr := h.ok.rd
  simp only at hl hr hi
  have hml : maxLen = 9223372036854775807 := rfl
  obtain ⟨b, off, rfl, hc⟩ := hr i hi
  refine Does.enter Tryz.func112 rfl Tryz.ntmps112 rfl rfl ?_
  refine Goes.adv hTT 400 rfl ?_
  refine Goes.alloc hTT rfl ?_
  intro pb w1 e1 hpb hw1 hz1
  refine Goes.adv hTT 400 rfl ?_
  refine Goes.alloc hTT rfl ?_
  intro qb w2 e2 hqb hw2 hz2
  refine Goes.adv hTT 400 rfl ?_
  replace hpb : w1.heap[pb]? = some (.cells ([.slice (some ⟨b, off, none⟩) x.length cap, ilV f] : List Value).toArray 31 (0, 0)) := hpb
  refine Goes.buildSlice hTT rfl ?_
  intro b3 w3 e3 hb3 hw3 hz3
  refine Goes.adv hTT 400 rfl ?_
  have hw13 := hw2.trans hw3
  have hw03 := hw1.trans hw13
  refine Goes.loadb hTT rfl (hw13.heap' hpb) rfl rfl ?_
  have ho : Own w2.heap.size 3 1 w3 (.slice (some ⟨b3, 0, none⟩) 0 0) 0 [] := Own.empty (by omega) hb3
  refine Goes.appendA (base := w2.heap.size) (xs := []) (news := x.map (Value.int .i64)) hTT rfl ho hw3.size (fun e => by cases e) (by simp) (hr.chg hw03).cellsA plain_i64 (by simp only; omega) ?_
  intro v4 w4 ho4 hs4 hv4
  refine Goes.adv hTT 400 rfl ?_
  have hw4 := ho.since hw3 (Nat.le_refl _) hs4
  obtain ⟨g, cap4, cur, rfl, hg1, hg2, hg3, hg4, hg5⟩ := ho4.form (by omega)
  have hcur : cur.toList = x.map (Value.int .i64) ++ cur.toList.drop x.length := by
    have e := List.take_append_drop x.length cur.toList
    rw [show cur.toList.take x.length = x.map (Value.int .i64) from by simpa using hg5] at e
    exact e.symm
  obtain ⟨rest, hrest⟩ : ∃ rest, rest = cur.toList.drop x.length := ⟨_, rfl⟩
  rw [← hrest] at hcur
  have hg2' : w4.heap[g]? = some (.cells (x.map (Value.int .i64) ++ rest).toArray 3 (0, 0)) := by rw [← hcur]; exact hg2
  have hl4 : 0 + x.length = x.length := by omega
  rw [hl4] at hg3 ⊢
  refine Goes.index hTT rfl (j := i) (by omega) (by omega) (by first | rfl | omega | (simp; done) | (simp; omega)) rfl ?_
  refine Goes.store hTT rfl hg2' (show setV (x.map (Value.int .i64) ++ rest) (0 + i) [.int .i64 v] = some ((x.set i v).map (Value.int .i64) ++ rest) from by rw [Nat.zero_add, setV_oneL _ _ _ (by simp; omega), List.set_append_left _ _ (by simpa using hi), List.map_set]) rfl ?_
  intro w5 hg5' hs5 hz5
  refine Goes.adv hTT 400 rfl ?_
  have hsl : (x.set i v).length = x.length := by simp
  have hs2 := hw2.size
  have hs4' := hw4.size
  have hlp := lt_of_heap hpb
  have hlq := lt_of_heap hqb
  have hpb5 := hs5.heap (hw4.heap' (hw2.heap' hpb)) (show ¬ pb = g by omega)
  have hqb5 := hs5.heap (hw4.heap' hqb) (show ¬ qb = g by omega)
  refine Goes.store hTT rfl hpb5 rfl rfl ?_
  intro w6 hpb6 hs6 hz6
  refine Goes.adv hTT 400 rfl ?_
  refine Goes.loads hTT rfl hpb6 rfl rfl ?_
  have hqb6 := hs6.heap hqb5 (by omega)
  refine Goes.store hTT rfl hqb6 rfl rfl ?_
  intro w7 hqb7 hs7 hz7
  refine Goes.adv hTT 400 rfl ?_
  have hg7 := hs7.heap (hs6.heap hg5' (by omega)) (by omega)
  have hw05 : Chg None' w w5 := ((hw1.trans hw2).trans hw4).since hs5 (fun z hz e => by have := hw1.size; omega)
  have hw07 : Chg None' w w7 := (hw05.since hs6 (fun z hz e => by omega)).since hs7 (fun z hz e => by have := hw1.size; omega)
  exact Goes.ret hTT rfl Tryz.func112 (ResOk.cell rfl rfl rfl hqb7 rfl .nil) ⟨⟨some ⟨g, 0, none⟩, cap4, x.set i v⟩, by show _ = Value.agg [Value.slice _ (x.set i v).length _, _].toArray; rw [hsl]; rfl, rfl, ⟨⟨Rd.of_take hg7 (by simp), by simp only; omega⟩, by simp only; omega, (by intro b off s e; cases e; exact lt_of_heap hg7)⟩, (by intro b off s e; cases e; have := hw1.size; omega), hw07⟩
/-- A slice of a list. -/
def IL.sl (l : IL) (lo hi : Nat) : IL := ⟨shiftA l.a l.cap lo 1, l.cap - lo, (l.x.drop lo).take (hi - lo)⟩
theorem shiftA_blk {a : Option Addr} {cap l sz : Nat} {b off : Nat} {s : Option Nat} (h : shiftA a cap l sz = some ⟨b, off, s⟩) : ∃ off' s', a = some ⟨b, off', s'⟩ := by
  unfold shiftA at h
  by_cases hc : cap = l
  · rw [if_pos hc] at h; exact ⟨off, s, h⟩
  · rw [if_neg hc] at h
    cases a with
    | none => cases h
    | some x =>
      obtain ⟨xb, xo, xs⟩ := x
      simp only [Option.map_some, Option.some.injEq] at h
      unfold Addr.add at h
      refine ⟨xo, xs, ?_⟩
      have hb : xb = b := by split at h <;> (cases h; rfl)
      rw [hb]
theorem IL.sl_out {l : IL} {lo hi : Nat} {S : Nat → Prop} (h : OutA S l.a) : OutA S (l.sl lo hi).a := fun b off s e => by
  obtain ⟨off', s', e'⟩ := shiftA_blk e
  exact h b off' s' e'
theorem IlX.sl {w : World} {l : IL} (h : IlX w l) {lo hi : Nat} (h1 : lo ≤ hi) (h2 : hi ≤ l.x.length) : IlX w (l.sl lo hi) ∧ (l.sl lo hi).x.length = hi - lo := by
  have hlen : ((l.x.drop lo).take (hi - lo)).length = hi - lo := by rw [List.length_take, List.length_drop]; omega
  have hc := h.cap
  have hl := h.ok.len
  refine ⟨⟨⟨h.ok.rd.shift (by omega) hc, by show ((l.x.drop lo).take (hi - lo)).length ≤ 512; omega⟩, by show ((l.x.drop lo).take (hi - lo)).length ≤ l.cap - lo; omega, fun b off s e => ?_⟩, hlen⟩
  obtain ⟨off', s', e'⟩ := shiftA_blk e
  exact h.lt b off' s' e'
theorem drop1 (y : List Int) (z : Int) : ((z :: y).drop 1).take ((z :: y).length - 1) = y := by simp
theorem ref08_Take_no (r : RP) (who : Int) (pl : PlM) (w : World) (h : RpOk w r pl) (hw0 : 0 ≤ who) (hf : pl.free = []) : Does Tryz.prog 71 #[.agg (rpL r).toArray, .int .i64 who] w (Grow (.tuple #[.agg (rpL r).toArray, .int .i64 0, .int .i64 5]) w) := by
  have hfl : r.f.x.length = 0 := by rw [h.ef, hf]; rfl
  refine Does.enter Tryz.func71 rfl Tryz.ntmps71 rfl rfl ?_
  refine Goes.adv hTT 400 rfl ?_
  refine Goes.alloc hTT rfl ?_
  intro pb w1 e1 hpb hw1 hz1
  refine Goes.adv hTT 400 rfl ?_
  refine Goes.alloc hTT rfl ?_
  intro qb w2 e2 hqb hw2 hz2
  refine Goes.adv hTT 400 rfl ?_
  replace hpb : w1.heap[pb]? = some (.cells (rpL r).toArray 31 (0, 0)) := hpb
  have hpb2 := hw2.heap' hpb
  refine Goes.no hTT rfl (decide_eq_false (by omega)) rfl ?_
  refine Goes.loadb hTT rfl hpb2 rfl rfl ?_
  refine Goes.yes hTT rfl (by rw [hfl]; rfl) rfl ?_
  refine Goes.loads hTT rfl hpb2 rfl rfl ?_
  refine Goes.store hTT rfl hqb rfl rfl ?_
  intro w3 hqb3 hs3 hz3
  refine Goes.adv hTT 400 rfl ?_
  replace hqb3 : w3.heap[qb]? = some (.cells (rpL r).toArray 31 (0, 0)) := hqb3
  exact Goes.ret hTT rfl Tryz.func71 (ResOk.cell rfl rfl rfl hqb3 rfl (.tmp rfl (.tmp rfl .nil))) ⟨rfl, (hw1.trans hw2).since hs3 (fun z hz e => by have := hw1.size; omega)⟩
theorem ref08_Take (r : RP) (who : Int) (pl : PlM) (n : Nat) (t : List Nat) (w : World) (h : RpOk w r pl) (hg : pl.Good) (hw0 : 0 ≤ who) (hf : pl.free = n :: t) : Does Tryz.prog 71 #[.agg (rpL r).toArray, .int .i64 who] w
    (fun v w' => ∃ l : IL, v = .tuple #[.agg (rpL ⟨l, r.f.sl 1 r.f.x.length⟩).toArray, .int .i64 n, .int .i64 0] ∧ RpOk w' ⟨l, r.f.sl 1 r.f.x.length⟩ (pl.take who) ∧ Fresh w l.a ∧ Chg None' w w') := by
  obtain ⟨o, f⟩ := r
  have hef := h.ef
  rw [hf] at hef
  simp only [List.map_cons] at hef
  have hfl : f.x.length = t.length + 1 := by rw [hef]; simp
  obtain ⟨hn, _⟩ := hg.free n (by rw [hf]; simp)
  have hno : n < o.x.length := by have := h.eo; simp only at this; rw [this]; exact hn
  have hX := h.f
  simp only at hX
  have hcap := hX.cap
  obtain ⟨fb, foff, hfa, hfc⟩ := hX.ok.rd 0 (by omega)
  have hf0 : f.x.getD 0 0 = n := by rw [hef]; rfl
  rw [hf0] at hfc
  obtain ⟨fa, fcap, fx⟩ := f
  simp only at hfa hfc hef hfl hcap
  subst hfa
  refine Does.enter Tryz.func71 rfl Tryz.ntmps71 rfl rfl ?_
  refine Goes.adv hTT 400 rfl ?_
  refine Goes.alloc hTT rfl ?_
  intro pb w1 e1 hpb hw1 hz1
  refine Goes.adv hTT 400 rfl ?_
  refine Goes.alloc hTT rfl ?_
  intro qb w2 e2 hqb hw2 hz2
  refine Goes.adv hTT 400 rfl ?_
  replace hpb : w1.heap[pb]? = some (.cells ([ilV o, .slice (some ⟨fb, foff, none⟩) fx.length fcap] : List Value).toArray 31 (0, 0)) := hpb
  have hpb2 := hw2.heap' hpb
  have hw02 := hw1.trans hw2
  refine Goes.no hTT rfl (decide_eq_false (by omega)) rfl ?_
  refine Goes.loadb hTT rfl hpb2 rfl rfl ?_
  refine Goes.no hTT rfl (by rw [hfl]; simp; omega) rfl ?_
  refine Goes.loadb hTT rfl hpb2 rfl rfl ?_
  refine Goes.index hTT rfl (j := 0) (by omega) (by omega) (by first | rfl | omega | (simp; done) | (simp; omega)) rfl ?_
  refine Goes.load hTT rfl (hw02.cell hfc id) rfl ?_
  refine Goes.loads hTT rfl hpb2 rfl rfl ?_
  refine Goes.call rfl (ref08_with o ⟨some ⟨fb, foff, none⟩, fcap, fx⟩ n who w2 (h.o.grow hw02) (hX.grow hw02) hno) ?_
  rintro _ w3 ⟨l, rfl, hlx, hlX, hlF, hw3⟩
  refine Goes.adv hTT 400 rfl ?_
  have hw23 := hw02.trans hw3
  have hs2 := hw02.size
  have hs3 := hw3.size
  refine Goes.alloc hTT rfl ?_
  intro tb w4 e4 htb hw4 hz4
  refine Goes.adv hTT 400 rfl ?_
  refine Goes.store hTT rfl htb rfl rfl ?_
  intro w5 htb5 hs5 hz5
  refine Goes.adv hTT 400 rfl ?_
  replace htb5 : w5.heap[tb]? = some (.cells (rpL ⟨l, ⟨some ⟨fb, foff, none⟩, fcap, fx⟩⟩).toArray 31 (0, 0)) := htb5
  have hc35 : Chg None' w3 w5 := hw4.since hs5 (fun z hz e => by omega)
  refine Goes.loadb hTT rfl (hc35.heap' (hw3.heap' hpb2)) rfl rfl ?_
  refine Goes.slice hTT rfl (l := 1) (h := fx.length) (by first | rfl | omega | simp [loV]) (by first | rfl | omega | simp [hiV]) (by omega) (by omega) rfl ?_
  refine Goes.store hTT rfl htb5 rfl rfl ?_
  intro w6 htb6 hs6 hz6
  refine Goes.adv hTT 400 rfl ?_
  have hc36 : Chg None' w3 w6 := hc35.since hs6 (fun z hz e => by omega)
  obtain ⟨hsl, hsll⟩ := hX.sl (lo := 1) (hi := fx.length) (by omega) (Nat.le_refl _)
  obtain ⟨f', hf'⟩ : ∃ f' : IL, f' = (⟨some ⟨fb, foff, none⟩, fcap, fx⟩ : IL).sl 1 fx.length := ⟨_, rfl⟩
  have hfv : ilV f' = .slice (shiftA (some ⟨fb, foff, none⟩) fcap 1 1) (fx.length - 1) (fcap - 1) := by rw [hf']; show Value.slice _ ((fx.drop 1).take (fx.length - 1)).length _ = _; rw [List.length_take, List.length_drop, Nat.min_self]; rfl
  replace htb6 : w6.heap[tb]? = some (.cells [ilV l, .slice (shiftA (some ⟨fb, foff, none⟩) fcap 1 1) (fx.length - 1) (fcap - 1)].toArray 31 (0, 0)) := htb6
  rw [← hfv] at htb6
  rw [← hf'] at hsl hsll ⊢
  refine Goes.loads hTT rfl htb6 rfl rfl ?_
  have hqb6 := hc36.heap' (hw3.heap' hqb)
  refine Goes.store hTT rfl hqb6 rfl rfl ?_
  intro w7 hqb7 hs7 hz7
  refine Goes.adv hTT 400 rfl ?_
  replace hqb7 : w7.heap[qb]? = some (.cells (rpL ⟨l, f'⟩).toArray 31 (0, 0)) := hqb7
  have hlq := lt_of_heap hqb
  have hc06 := hw23.trans hc36
  have hl6 := hlX.grow hc36
  have hl7 : IlX w7 l := hl6.far (hlF.out (fun z hz => by omega)) hs7
  have hf7 : IlX w7 f' := (hsl.grow hc06).far (hsl.lt.out (fun z hz => by omega)) hs7
  have ee : pl.take who = ⟨pl.own.set n who, t⟩ := by unfold PlM.take; rw [hf]
  exact Goes.ret hTT rfl Tryz.func71 (ResOk.cell rfl rfl rfl hqb7 rfl (.tmp rfl (.tmp rfl .nil))) ⟨l, rfl, ⟨hl7, hf7, by rw [ee]; show l.x = pl.own.set n who; rw [hlx]; have := h.eo; simp only at this; rw [this], by rw [ee, hf']; show (fx.drop 1).take (fx.length - 1) = t.map _; rw [hef]; exact drop1 _ _⟩, hlF.back hs2, hc06.since hs7 (fun z hz e => by omega)⟩
end Go.Proofs.YtkiionjcapnepaaGreatDoor
/-
  Layer 8: what the document says of a pool: a page given back; a new pool.
-/
namespace Go.Proofs.YtkiionjcapnepaaGreatDoor
open Go.RowKit

theorem ref08_Give (r : RP) (n : Nat) (pl : PlM) (w : World) (h : RpOk w r pl) (hg : pl.Good) (hn : n < pl.own.length) (ho : pl.own.getD n 0 ≠ -1) : Does Tryz.prog 73 #[.agg (rpL r).toArray, .int .i64 n] w
    (fun v w' => ∃ r', v = .tuple #[.agg (rpL r').toArray, .int .i64 0] ∧ RpOk w' r' (pl.give n) ∧ Fresh w r'.o.a ∧ Fresh w r'.f.a ∧ Chg None' w w') := by
  obtain ⟨o, f⟩ := r
  have heo := h.eo
  have hef := h.ef
  simp only at heo hef
  have hol := h.o.ok.len
  have hfl := h.f.ok.len
  simp only at hol hfl
  have hno : n < o.x.length := by rw [heo]; exact hn
  have hgm := (hg.give hn ho).many
  have hfl' : f.x.length = pl.free.length := by rw [hef]; simp
  have hfb : f.x.length + 1 ≤ 512 := by
    have e1 : (pl.give n).free.length = pl.free.length + 1 := rfl
    have e2 : (pl.give n).own.length = pl.own.length := by show (pl.own.set n (-1)).length = _; simp
    have e3 : o.x.length = pl.own.length := by rw [heo]
    omega
  have hX := h.o
  simp only at hX
  obtain ⟨ob, ooff, hoa, hoc⟩ := hX.ok.rd n hno
  have hon : o.x.getD n 0 ≠ -1 := by rw [heo]; exact ho
  have hml : maxLen = 9223372036854775807 := rfl
  obtain ⟨oa, ocap, ox⟩ := o
  simp only at hoa hoc hol hno hon heo
  subst hoa
  refine Does.enter Tryz.func73 rfl Tryz.ntmps73 rfl rfl ?_
  refine Goes.adv hTT 400 rfl ?_
  refine Goes.alloc hTT rfl ?_
  intro pb w1 e1 hpb hw1 hz1
  refine Goes.adv hTT 400 rfl ?_
  refine Goes.alloc hTT rfl ?_
  intro qb w2 e2 hqb hw2 hz2
  refine Goes.adv hTT 400 rfl ?_
  replace hpb : w1.heap[pb]? = some (.cells ([.slice (some ⟨ob, ooff, none⟩) ox.length ocap, ilV f] : List Value).toArray 31 (0, 0)) := hpb
  have hpb2 := hw2.heap' hpb
  have hw02 := hw1.trans hw2
  refine Goes.no hTT rfl (decide_eq_false (by omega)) rfl ?_
  refine Goes.loadb hTT rfl hpb2 rfl rfl ?_
  refine Goes.no hTT rfl (decide_eq_false (by omega)) rfl ?_
  refine Goes.loadb hTT rfl hpb2 rfl rfl ?_
  refine Goes.index hTT rfl (j := n) (by omega) (by omega) (by first | rfl | omega | (simp; done) | (simp; omega)) rfl ?_
  refine Goes.load hTT rfl (hw02.cell hoc id) rfl ?_
  refine Goes.no hTT rfl (by simpa using hon) rfl ?_
  refine Goes.loads hTT rfl hpb2 rfl rfl ?_
  refine Goes.call rfl (ref08_with ⟨some ⟨ob, ooff, none⟩, ocap, ox⟩ f n (-1) w2 (hX.grow hw02) (h.f.grow hw02) hno) ?_
  rintro _ w3 ⟨l, rfl, hlx, hlX, hlF, hw3⟩
  refine Goes.adv hTT 400 rfl ?_
  have hs2 := hw02.size
  have hs3 := hw3.size
  refine Goes.alloc hTT rfl ?_
  intro tb w4 e4 htb hw4 hz4
  refine Goes.adv hTT 400 rfl ?_
  refine Goes.store hTT rfl htb rfl rfl ?_
  intro w5 htb5 hs5 hz5
  refine Goes.adv hTT 400 rfl ?_
  replace htb5 : w5.heap[tb]? = some (.cells ([ilV l, ilV f] : List Value).toArray 31 (0, 0)) := htb5
  have hc35 : Chg None' w3 w5 := hw4.since hs5 (fun z hz e => by omega)
  have hc05 := (hw02.trans hw3).trans hc35
  refine Goes.buildSlice hTT rfl ?_
  intro b6 w6 e6 hb6 hw6 hz6
  refine Goes.adv hTT 400 rfl ?_
  have hc06 := hc05.trans hw6
  refine Goes.loadb hTT rfl (hw6.heap' (hc35.heap' (hw3.heap' hpb2))) rfl rfl ?_
  have ho6 : Own w5.heap.size 3 1 w6 (.slice (some ⟨b6, 0, none⟩) 1 1) 1 [.int .i64 n] := Own.one (by omega) hb6
  have hrf := h.f.ok.rd
  simp only at hrf
  refine Goes.appendA (base := w5.heap.size) (xs := [.int .i64 n]) (news := f.x.map (Value.int .i64)) hTT rfl ho6 hw6.size hrf.noneA (by simp) (hrf.chg hc06).cellsA plain_i64 (by simp only; omega) ?_
  intro v7 w7 ho7 hs7 hv7
  refine Goes.adv hTT 400 rfl ?_
  have hw57 := ho6.since hw6 (Nat.le_refl _) hs7
  have hs57 := hw57.size
  obtain ⟨fl, hflv, hflx, hflX, hflb⟩ := Own.il (x := (n : Int) :: f.x) (show Own w5.heap.size 3 1 w7 v7 (1 + f.x.length) (((n : Int) :: f.x).map (Value.int .i64)) from ho7) (by simp; omega) (by simp; omega)
  subst hflv
  refine Goes.store hTT rfl (hw57.heap' htb5) rfl rfl ?_
  intro w8 htb8 hs8 hz8
  refine Goes.adv hTT 400 rfl ?_
  replace htb8 : w8.heap[tb]? = some (.cells ([ilV l, ilV fl] : List Value).toArray 31 (0, 0)) := htb8
  have htl := lt_of_heap htb5
  refine Goes.loads hTT rfl htb8 rfl rfl ?_
  have hc37 := hc35.trans hw57
  have hc38 : Chg None' w3 w8 := hc37.since hs8 (fun z hz e => by omega)
  have hlq := lt_of_heap hqb
  refine Goes.store hTT rfl (hc38.heap' (hw3.heap' hqb)) rfl rfl ?_
  intro w9 hqb9 hs9 hz9
  refine Goes.adv hTT 400 rfl ?_
  replace hqb9 : w9.heap[qb]? = some (.cells (rpL ⟨l, fl⟩).toArray 31 (0, 0)) := hqb9
  have hfF : Fresh w2 fl.a := fun b off s e => by have := hflb b off s e; omega
  have hl9 : IlX w9 l := (hlX.grow hc38).far (hlF.out (fun z hz => by omega)) hs9
  have hf9 : IlX w9 fl := (hflX.far (by intro b off s e hz; have := hflb b off s e; omega) hs8).far (hfF.out (fun z hz => by omega)) hs9
  exact Goes.ret hTT rfl Tryz.func73 (ResOk.cell rfl rfl rfl hqb9 rfl (.tmp rfl .nil)) ⟨⟨l, fl⟩, rfl, ⟨hl9, hf9, by show l.x = pl.own.set n (-1); rw [hlx, ← heo], by show fl.x = (n :: pl.free).map _; rw [hflx, hef]; rfl⟩, hlF.back hs2, hfF.back hs2, ((hw02.trans hw3).trans hc38).since hs9 (fun z hz e => by omega)⟩
theorem Own.isSlice {base t size m : Nat} {w : World} {v : Value} {xs : List Value} (h : Own base t size w v m xs) : ∃ a n c, v = .slice a n c := by
  rcases h.2 with ⟨h, _⟩ | ⟨g, cap, cur, h, _⟩
  · exact ⟨_, _, _, h⟩
  · exact ⟨_, _, _, h⟩
theorem range_map_succ (i : Nat) : ((List.range (i + 1)).map (fun n : Nat => (n : Int))).map (Value.int .i64) = ((List.range i).map (fun n : Nat => (n : Int))).map (Value.int .i64) ++ [.int .i64 (i : Int)] := by
  rw [List.range_succ, List.map_append, List.map_append]; rfl
theorem ref08_New (N : Nat) (w : World) (hN : 1 ≤ N ∧ N ≤ 512) : Does Tryz.prog 69 #[.int .i64 N] w
    (fun v w' => ∃ r, v = .tuple #[.agg (rpL r).toArray, .int .i64 0] ∧ RpOk w' r (plNew N) ∧ Fresh w r.o.a ∧ Fresh w r.f.a ∧ Chg None' w w') := by
  have hml : maxLen = 9223372036854775807 := rfl
  refine Does.enter Tryz.func69 rfl Tryz.ntmps69 rfl rfl ?_
  refine Goes.adv hTT 400 rfl ?_
  refine Goes.alloc hTT rfl ?_
  intro qb w1 e1 hqb hw1 hz1
  refine Goes.adv hTT 400 rfl ?_
  refine Goes.alloc hTT rfl ?_
  intro tb w2 e2 htb hw2 hz2
  refine Goes.adv hTT 400 rfl ?_
  replace htb : w2.heap[tb]? = some (.cells ([.slice none 0 0, .slice none 0 0] : List Value).toArray 31 (0, 0)) := htb
  have hw02 := hw1.trans hw2
  refine Goes.no hTT rfl (decide_eq_false (by omega)) rfl ?_
  refine Goes.no hTT rfl (decide_eq_false (by omega)) rfl ?_
  have htl := lt_of_heap htb
  have hql := lt_of_heap hqb
  refine Goes.loop (α := Nat × Value × Value) (fun p => [(0, false, .int .i64 N), (2, false, .pointer (some ⟨qb, 0, none⟩)), (4, false, .pointer (some ⟨tb, 0, none⟩)), (5, false, .int .i64 p.1)])
    (fun p w' => p.1 ≤ N ∧ w'.heap[tb]? = some (.cells ([p.2.1, p.2.2] : List Value).toArray 31 (0, 0)) ∧ Own w2.heap.size 3 1 w' p.2.1 p.1 ((List.replicate p.1 (-1)).map (Value.int .i64)) ∧ Own w2.heap.size 3 1 w' p.2.2 p.1 (((List.range p.1).map (fun n : Nat => (n : Int))).map (Value.int .i64)) ∧ (∀ b, some b = p.2.1.ownBlock → some b ≠ p.2.2.ownBlock) ∧ Chg (fun z => z = tb) w2 w')
    (fun p => N - p.1) (0, .slice none 0 0, .slice none 0 0) ⟨rfl, rfl, rfl, rfl, trivial⟩ ⟨Nat.zero_le _, htb, World.ownsRow_nil _ _ _ _, World.ownsRow_nil _ _ _ _, (fun b h => by cases h), Chg.refl _ _⟩ ?_
  rintro ⟨i, vo, vf⟩ w3 ⟨hi, htb3, hoo, hof, hne, hs3⟩ ih
  simp only at hi htb3 hoo hof hne
  have hsz3 := hs3.size
  refine Goes.adv hTT 400 rfl ?_
  refine Goes.fork hTT rfl rfl rfl (fun hc => ?_) (fun hc => ?_)
  · have hlt : i < N := by have := of_decide_eq_true hc; omega
    refine Goes.loadb hTT rfl htb3 rfl rfl ?_
    refine Goes.buildSlice hTT rfl ?_
    intro b4 w4 e4 hb4 hw4 hz4
    refine Goes.adv hTT 400 rfl ?_
    have hoo4 := hoo.chg hw4 (fun _ _ h => h)
    have hof4 := hof.chg hw4 (fun _ _ h => h)
    have htb4 := hw4.heap' htb3
    refine Goes.append (base := w2.heap.size) (xs := (List.replicate i (-1)).map (Value.int .i64)) (news := [.int .i64 (-1)]) hTT rfl hoo4 (by omega) (by simp) (cells1 hb4) (by simp [Value.oneCell']) (by simp only; omega) ?_
    intro vo' w5 hoo5 hs5 hv5
    obtain ⟨oa5, on5, oc5, rfl⟩ := Own.isSlice hoo5
    refine Goes.adv hTT 400 rfl ?_
    have hz5 := hs5.size
    have htb5 := hs5.heap htb4 (fun e => by have := (World.ownsRow.lt hoo4 tb (Eq.symm e)).1; omega)
    have hof5 := hof4.chg hs5 (fun b hb e => hne b e hb)
    refine Goes.store hTT rfl htb5 rfl rfl ?_
    intro w6 htb6 hs6 hz6
    refine Goes.adv hTT 400 rfl ?_
    have hoo6 := hoo5.chg hs6 (fun b hb e => by have := (World.ownsRow.lt hoo5 b hb.symm).1; omega)
    have hof6 := hof5.chg hs6 (fun b hb e => by have := (World.ownsRow.lt hof5 b hb.symm).1; omega)
    have hne' : ∀ b, some b = (Value.slice oa5 on5 oc5).ownBlock → some b ≠ vf.ownBlock := fun b hb e => by
      rcases hv5.2 with h | h
      · exact hne b (hb.trans h) e
      · rw [h] at hb
        have e1 := Option.some.inj hb
        have := (World.ownsRow.lt hof4 b e.symm).2
        omega
    replace htb6 : w6.heap[tb]? = some (.cells ([.slice oa5 on5 oc5, vf] : List Value).toArray 31 (0, 0)) := htb6
    refine Goes.loadb hTT rfl htb6 rfl rfl ?_
    refine Goes.buildSlice hTT rfl ?_
    intro b7 w7 e7 hb7 hw7 hz7
    refine Goes.adv hTT 400 rfl ?_
    have hoo7 := hoo6.chg hw7 (fun _ _ h => h)
    have hof7 := hof6.chg hw7 (fun _ _ h => h)
    have htb7 := hw7.heap' htb6
    refine Goes.append (base := w2.heap.size) (xs := ((List.range i).map (fun n : Nat => (n : Int))).map (Value.int .i64)) (news := [.int .i64 (i : Int)]) hTT rfl hof7 (by omega) (by simp) (cells1 hb7) (by simp [Value.oneCell']) (by simp only; omega) ?_
    intro vf' w8 hof8 hs8 hv8
    obtain ⟨fa8, fn8, fc8, rfl⟩ := Own.isSlice hof8
    refine Goes.adv hTT 400 rfl ?_
    have htb8 := hs8.heap htb7 (fun e => by have := (World.ownsRow.lt hof7 tb (Eq.symm e)).1; omega)
    have hoo8 := hoo7.chg hs8 (fun b hb e => hne' b hb e)
    refine Goes.store hTT rfl htb8 rfl rfl ?_
    intro w9 htb9 hs9 hz9
    refine Goes.adv hTT 400 rfl ?_
    replace htb9 : w9.heap[tb]? = some (.cells ([.slice oa5 on5 oc5, .slice fa8 fn8 fc8] : List Value).toArray 31 (0, 0)) := htb9
    have hoo9 := hoo8.chg hs9 (fun b hb e => by have := (World.ownsRow.lt hoo8 b hb.symm).1; omega)
    have hof9 := hof8.chg hs9 (fun b hb e => by have := (World.ownsRow.lt hof8 b hb.symm).1; omega)
    have hne9 : ∀ b, some b = (Value.slice oa5 on5 oc5).ownBlock → some b ≠ (Value.slice fa8 fn8 fc8).ownBlock := fun b hb e => by
      rcases hv8.2 with h | h
      · exact hne' b hb (e.trans h)
      · rw [h] at e
        have e1 := Option.some.inj e
        have := (World.ownsRow.lt hoo7 b hb.symm).2
        omega
    have hS : Chg (fun z => z = tb) w2 w9 := by
      have a1 : Chg (fun z => z = tb) w2 w5 := (hs3.trans (hw4.mono fun _ _ h => h.elim)).since hs5 (fun z hz e => by have := (World.ownsRow.lt hoo4 z (Eq.symm e)).1; omega)
      have a2 := (a1.trans hs6).trans (hw7.mono (fun _ _ h => h.elim) : Chg (fun z => z = tb) w6 w7)
      exact (a2.since hs8 (fun z hz e => by have := (World.ownsRow.lt hof7 z (Eq.symm e)).1; omega)).trans hs9
    refine Goes.arith hTT rfl (w64 (by omega)) rfl ?_
    exact ih (i + 1, .slice oa5 on5 oc5, .slice fa8 fn8 fc8) _ _ ⟨hlt, htb9, by
      have e : (List.replicate (i + 1) (-1 : Int)).map (Value.int .i64) = (List.replicate i (-1)).map (Value.int .i64) ++ [.int .i64 (-1)] := by rw [List.replicate_succ', List.map_append]; rfl
      rw [e]; exact hoo9, by rw [range_map_succ]; exact hof9, hne9, hS⟩ (by simp only; omega) ⟨rfl, rfl, rfl, rfl, trivial⟩
  · have hge : i = N := by have := of_decide_eq_false hc; omega
    subst hge
    obtain ⟨ol, holv, holx, holX, holb⟩ := Own.il (x := List.replicate i (-1)) hoo (by simp) (by simp; omega)
    obtain ⟨fl, hflv, hflx, hflX, hflb⟩ := Own.il (x := (List.range i).map (fun n : Nat => (n : Int))) hof (by simp) (by simp; omega)
    subst holv
    subst hflv
    refine Goes.loads hTT rfl htb3 rfl rfl ?_
    have hqb3 := hs3.heap (hw2.heap' hqb) (show ¬ qb = tb by omega)
    refine Goes.store hTT rfl hqb3 rfl rfl ?_
    intro w4 hqb4 hs4 hz4
    refine Goes.adv hTT 400 rfl ?_
    replace hqb4 : w4.heap[qb]? = some (.cells (rpL ⟨ol, fl⟩).toArray 31 (0, 0)) := hqb4
    have hw03 : Chg None' w w3 := hw02.since hs3 (fun z hz e => by have := hw1.size; omega)
    have hs02 := hw02.size
    exact Goes.ret hTT rfl Tryz.func69 (ResOk.cell rfl rfl rfl hqb4 rfl (.tmp rfl .nil)) ⟨⟨ol, fl⟩, rfl, ⟨holX.far (by intro b off s e hz; have := holb b off s e; omega) hs4, hflX.far (by intro b off s e hz; have := hflb b off s e; omega) hs4, holx, hflx⟩, fun b off s e => by have := holb b off s e; omega, fun b off s e => by have := hflb b off s e; omega, hw03.since hs4 (fun z hz e => by have := hw1.size; omega)⟩
end Go.Proofs.YtkiionjcapnepaaGreatDoor
/-
  Layer 13: what the document says of a shelf.
-/
namespace Go.Proofs.YtkiionjcapnepaaGreatDoor
open Go.RowKit

/-- The document's shelf. -/
structure RS where
  p : RP
  cls : Int
  blocks : Nat
  nums : IL
  pa : Option Addr
  pcap : Nat
  ps : List IL
  opn : IL
def rsL (r : RS) : List Value := [ilV r.p.o, ilV r.p.f, .int .i64 r.cls, .int .i64 (r.blocks : Int), ilV r.nums, .slice r.pa r.ps.length r.pcap, ilV r.opn]
/-- A slice of lists. -/
def RdP (w : World) (a : Option Addr) (ps : List IL) : Prop := ∀ (i : Nat) (l : IL), ps[i]? = some l → ∃ b off, a = some ⟨b, off, none⟩ ∧ w.cell? ⟨b, off + i, none⟩ = some (ilV l)
theorem RdP.grow {w w' : World} {a : Option Addr} {ps : List IL} (h : RdP w a ps) (hc : Chg None' w w') : RdP w' a ps := fun i l hl => by
  obtain ⟨b, off, e, hcell⟩ := h i l hl
  exact ⟨b, off, e, hc.cell hcell id⟩
theorem RdP.far {w w' : World} {a : Option Addr} {ps : List IL} {S : Nat → Prop} (h : RdP w a ps) (hs : OutA S a) (hc : Chg S w w') : RdP w' a ps := fun i l hl => by
  obtain ⟨b, off, e, hcell⟩ := h i l hl
  exact ⟨b, off, e, hc.cell hcell (hs b off none e)⟩
theorem RdP.noneA {w : World} {a : Option Addr} {ps : List IL} (h : RdP w a ps) : a = none → ps.length = 0 := fun e => by
  cases ps with
  | nil => rfl
  | cons l r =>
    obtain ⟨b, off, e', _⟩ := h 0 l rfl
    rw [e] at e'; cases e'
theorem RdP.cellsA {w : World} {a : Option Addr} {ps : List IL} (h : RdP w a ps) : ∀ i u, (ps.map ilV)[i]? = some u → ∃ a', a = some a' ∧ w.cell? (a'.add i) = some u := fun i u hu => by
  rw [List.getElem?_map, Option.map_eq_some_iff] at hu
  obtain ⟨l, hl, rfl⟩ := hu
  obtain ⟨b, off, rfl, hc⟩ := h i l hl
  exact ⟨_, rfl, by rw [add_off]; exact hc⟩
theorem plain_il {ps : List IL} : ∀ u ∈ ps.map ilV, u.oneCell' = true := fun u hu => by
  obtain ⟨l, _, rfl⟩ := List.mem_map.1 hu
  rfl
theorem Own.pl {base m : Nat} {w : World} {v : Value} {ps : List IL} (h : Own base 22 1 w v m (ps.map ilV)) (hm : ps.length = m) :
    ∃ pa pcap, v = .slice pa ps.length pcap ∧ RdP w pa ps ∧ ALt w pa ∧ ps.length ≤ pcap ∧ ∀ b off s, pa = some ⟨b, off, s⟩ → base ≤ b := by
  rcases h.2 with ⟨rfl, h2⟩ | ⟨g, cap, cur, rfl, hg, hh, hcap, hm2, _, hx2⟩
  · have : ps = [] := List.length_eq_zero_iff.1 (by omega)
    subst this
    exact ⟨none, 0, rfl, (fun i l hl => by simp at hl), (by intro b off s e; cases e), Nat.le_refl _, (by intro b off s e; cases e)⟩
  · subst hm
    refine ⟨some ⟨g, 0, none⟩, cap, rfl, fun i l hl => ⟨g, 0, rfl, ?_⟩, (by intro b off s e; cases e; exact lt_of_heap hh), hcap, (by intro b off s e; cases e; exact hg)⟩
    have hi : i < ps.length := (List.getElem?_eq_some_iff.1 hl).1
    have h1 : (cur.toList.take ps.length)[i]? = (ps.map ilV)[i]? := by rw [← hx2, Nat.mul_one]
    rw [List.getElem?_take, if_pos hi, List.getElem?_map, hl] at h1
    rw [cell_of hh, Nat.zero_add, ← Array.getElem?_toList, h1]
    rfl
/-- A page's owners. -/
structure IlY (w : World) (l : IL) : Prop where
  ok : IlOk w l
  lt : ALt w l.a
theorem IlY.grow {w w' : World} {l : IL} (h : IlY w l) (hc : Chg None' w w') : IlY w' l := ⟨h.ok.grow hc, h.lt.grow hc.size⟩
theorem IlY.far {w w' : World} {l : IL} {S : Nat → Prop} (h : IlY w l) (hs : OutA S l.a) (hc : Chg S w w') : IlY w' l := ⟨h.ok.far hs hc, h.lt.grow hc.size⟩
theorem IlY.of {w : World} {l : IL} (h : IlOk w l) (hp : 0 < l.x.length) : IlY w l := ⟨h, fun b off s e => by
  obtain ⟨b', off', e', hc⟩ := h.rd 0 hp
  rw [e] at e'; cases e'
  exact World.block_lt_of_cell? w _ hc⟩
theorem Newer.outS {w : World} {a a' : Option Addr} {S : Nat → Prop} (h : Newer w a a') (ha : OutA S a) (hs : ∀ z, S z → z < w.heap.size) : OutA S a' := by
  rcases h with rfl | ⟨g, off, rfl, hg⟩
  · exact ha
  · intro b off' s e hb
    cases e
    have := hs _ hb
    omega
structure RsOk (w : World) (r : RS) (x : Sm) (pl : PlM) : Prop where
  p : RpOk w r.p pl
  nums : IlX w r.nums
  opn : IlX w r.opn
  rp : RdP w r.pa r.ps
  plt : ALt w r.pa
  pcap : r.ps.length ≤ r.pcap
  each : ∀ l ∈ r.ps, IlY w l
  e1 : r.cls = x.cls
  e2 : r.blocks = x.blocks
  e3 : r.nums.x = x.pg.map (fun e => ((e.1 : Nat) : Int))
  e4 : r.ps.map (·.x) = x.pg.map (·.2)
  e5 : r.opn.x = x.opn.map (fun n : Nat => (n : Int))
structure RsOut (S : Nat → Prop) (r : RS) : Prop where
  o : OutA S r.p.o.a
  f : OutA S r.p.f.a
  nums : OutA S r.nums.a
  opn : OutA S r.opn.a
  pa : OutA S r.pa
  each : ∀ l ∈ r.ps, OutA S l.a
theorem RsOk.grow {w w' : World} {r : RS} {x : Sm} {pl : PlM} (h : RsOk w r x pl) (hc : Chg None' w w') : RsOk w' r x pl :=
  ⟨h.p.grow hc, h.nums.grow hc, h.opn.grow hc, h.rp.grow hc, h.plt.grow hc.size, h.pcap, fun l hl => (h.each l hl).grow hc, h.e1, h.e2, h.e3, h.e4, h.e5⟩
theorem RsOk.far {w w' : World} {r : RS} {x : Sm} {pl : PlM} {S : Nat → Prop} (h : RsOk w r x pl) (ho : RsOut S r) (hc : Chg S w w') : RsOk w' r x pl :=
  ⟨⟨h.p.o.far ho.o hc, h.p.f.far ho.f hc, h.p.eo, h.p.ef⟩, h.nums.far ho.nums hc, h.opn.far ho.opn hc, h.rp.far ho.pa hc, h.plt.grow hc.size, h.pcap, fun l hl => (h.each l hl).far (ho.each l hl) hc, h.e1, h.e2, h.e3, h.e4, h.e5⟩
theorem RsOk.out {w : World} {r : RS} {x : Sm} {pl : PlM} {S : Nat → Prop} (h : RsOk w r x pl) (hs : ∀ z, S z → w.heap.size ≤ z) : RsOut S r :=
  ⟨h.p.o.lt.out hs, h.p.f.lt.out hs, h.nums.lt.out hs, h.opn.lt.out hs, h.plt.out hs, fun l hl => (h.each l hl).lt.out hs⟩
/-- What lay outside of old blocks still does. -/
def Keep (w : World) (r r' : RS) : Prop := ∀ S : Nat → Prop, (∀ z, S z → z < w.heap.size) → RsOut S r → RsOut S r'
theorem Keep.refl (w : World) (r : RS) : Keep w r r := fun _ _ h => h
theorem Keep.trans {w w1 : World} {r r1 r2 : RS} (h : Keep w r r1) (h' : Keep w1 r1 r2) (hs : w.heap.size ≤ w1.heap.size) : Keep w r r2 := fun S hS ho =>
  h' S (fun z hz => by have := hS z hz; omega) (h S hS ho)
def posI (l : List Int) (n : Int) : Int := idx (fun m => m == n) l
theorem pos_cases {l : PgL} {n : Int} : (smGet l n = none ∧ posI (l.map fun e => ((e.1 : Nat) : Int)) n = -1) ∨ ∃ (i : Nat) (p : List Int) (m : Nat), n = m ∧ smGet l n = some p ∧ posI (l.map fun e => ((e.1 : Nat) : Int)) n = (i : Int) ∧ i < l.length ∧ l[i]? = some (m, p) := by
  cases hg : smGet l n with
  | none =>
    refine .inl ⟨rfl, idx_none (p := fun m => m == n) fun j hj => ?_⟩
    rw [List.getElem_map]
    have hj' : j < l.length := by simpa using hj
    have := smGet_none hg l[j] (List.getElem_mem hj')
    simpa using this
  | some p =>
    right
    have key : ∀ {l : PgL}, smGet l n = some p → ∃ (i m : Nat), n = m ∧ i < l.length ∧ l[i]? = some (m, p) ∧ ∀ (j : Nat) (h : j < l.length), j < i → ((l[j].1 : Nat) : Int) ≠ n := by
      intro l
      induction l with
      | nil => intro h; cases h
      | cons e r ih =>
        obtain ⟨a, q⟩ := e
        intro h
        unfold smGet at h
        by_cases ha : (a : Int) = n
        · rw [if_pos ha] at h; cases h
          exact ⟨0, a, ha.symm, by simp, rfl, fun j _ h => absurd h (Nat.not_lt_zero _)⟩
        · rw [if_neg ha] at h
          obtain ⟨i, m, h1, h2, h3, h4⟩ := ih h
          refine ⟨i + 1, m, h1, by simp; omega, by simpa using h3, fun j hj hji => ?_⟩
          cases j with
          | zero => exact ha
          | succ j => exact h4 j (by simpa using hj) (by omega)
    obtain ⟨i, m, h1, h2, h3, h4⟩ := key hg
    refine ⟨i, p, m, h1, rfl, idx_at (p := fun m => m == n) (by simpa using h2) (fun j hj hji => ?_) ?_, h2, h3⟩
    · rw [List.getElem_map]
      have := h4 j (by simpa using hj) hji
      simpa using this
    · rw [List.getElem_map]
      have : l[i] = (m, p) := by rw [List.getElem?_eq_getElem h2] at h3; exact Option.some.inj h3
      rw [this, h1]; simp
theorem ref13_find (r : RS) (n : Int) (w : World) (h : IlX w r.nums) : Does Tryz.prog 119 #[.agg (rsL r).toArray, .int .i64 n] w (Grow (.int .i64 (posI r.nums.x n)) w) := by
  have hl := h.ok.len
  refine Does.enter Tryz.func119 rfl Tryz.ntmps119 rfl rfl ?_
  refine Goes.adv hTT 400 rfl ?_
  refine Goes.alloc hTT rfl ?_
  intro rb w1 e1 hrb hw1 hz1
  refine Goes.adv hTT 400 rfl ?_
  replace hrb : w1.heap[rb]? = some (.cells (rsL r).toArray 45 (0, 0)) := hrb
  refine Goes.loop (α := Nat) (fun i => [(1, false, .int .i64 n), (2, false, .pointer (some ⟨rb, 0, none⟩)), (5, false, .int .i64 i)])
    (fun i w' => i ≤ r.nums.x.length ∧ Chg None' w1 w' ∧ ∀ (j : Nat) (h : j < r.nums.x.length), j < i → (r.nums.x[j] == n) = false) (fun i => r.nums.x.length - i) 0 ⟨rfl, rfl, rfl, trivial⟩ ⟨Nat.zero_le _, Chg.refl _ _, fun _ _ h => absurd h (Nat.not_lt_zero _)⟩ ?_
  rintro i w2 ⟨hi, hw2, hpre⟩ ih
  have hrb2 := hw2.heap' hrb
  refine Goes.adv hTT 400 rfl ?_
  refine Goes.loadb hTT rfl hrb2 rfl rfl ?_
  refine Goes.fork hTT rfl rfl rfl (fun hc => ?_) (fun hc => ?_)
  · have hlt : i < r.nums.x.length := by have := of_decide_eq_true hc; omega
    obtain ⟨b, off, ha, hcell⟩ := (h.ok.rd.chg (hw1.trans hw2)) i hlt
    obtain ⟨rp, cls, blocks, ⟨na, ncap, nx⟩, pa, pcap, ps, opn⟩ := r
    simp only at ha hcell hlt hpre hl hi
    subst ha
    replace hrb2 : w2.heap[rb]? = some (.cells ([ilV rp.o, ilV rp.f, .int .i64 cls, .int .i64 (blocks : Int), .slice (some ⟨b, off, none⟩) nx.length ncap, .slice pa ps.length pcap, ilV opn] : List Value).toArray 45 (0, 0)) := hrb2
    refine Goes.loadb hTT rfl hrb2 rfl rfl ?_
    refine Goes.index hTT rfl (j := i) (by omega) (by omega) (by first | rfl | omega | (simp; done) | (simp; omega)) rfl ?_
    refine Goes.load hTT rfl hcell rfl ?_
    rw [show nx.getD i 0 = nx[i] from by rw [List.getD_eq_getElem?_getD, List.getElem?_eq_getElem hlt]; rfl]
    refine Goes.fork hTT rfl rfl rfl (fun he => ?_) (fun he => ?_)
    · exact Goes.ret1 hTT rfl Tryz.func119 rfl rfl ⟨int_v (idx_at (p := fun m => m == n) hlt hpre he).symm, hw1.trans hw2⟩
    · refine Goes.arith hTT rfl (w64 (by omega)) rfl ?_
      exact ih (i + 1) _ _ ⟨hlt, hw2, fun j hj hji => by
        by_cases e : j = i
        · subst e; exact he
        · exact hpre j hj (by omega)⟩ (by simp only; omega) ⟨rfl, rfl, rfl, trivial⟩
  · have hge : i = r.nums.x.length := by have := of_decide_eq_false hc; omega
    exact Goes.ret1 hTT rfl Tryz.func119 rfl rfl ⟨int_v (idx_none (p := fun m => m == n) (fun j hj => hpre j hj (by omega))).symm, hw1.trans hw2⟩
theorem ref13_without (l : IL) (n : Int) (w : World) (h : IlX w l) : Does Tryz.prog 123 #[ilV l, .int .i64 n] w (fun v w' => ∃ l' : IL, v = ilV l' ∧ l'.x = l.x.filter (fun m => m != n) ∧ IlX w' l' ∧ Fresh w l'.a ∧ Chg None' w w') := by
  obtain ⟨a, cap, x⟩ := l
  have hl := h.ok.len
  have hr := h.ok.rd
  simp only at hl hr
  have hml : maxLen = 9223372036854775807 := rfl
  refine Does.enter Tryz.func123 rfl Tryz.ntmps123 rfl rfl ?_
  refine Goes.adv hTT 400 rfl ?_
  refine Goes.loop (α := Nat × Value) (fun p => [(0, false, .slice a x.length cap), (1, false, .int .i64 n), (5, false, p.2), (6, false, .int .i64 p.1)])
    (fun p w' => p.1 ≤ x.length ∧ Own w.heap.size 3 1 w' p.2 ((x.take p.1).filter (fun m => m != n)).length (((x.take p.1).filter (fun m => m != n)).map (Value.int .i64)) ∧ Chg None' w w') (fun p => x.length - p.1) (0, .slice none 0 0) ⟨rfl, rfl, rfl, rfl, trivial⟩ ⟨Nat.zero_le _, World.ownsRow_nil _ _ _ _, Chg.refl _ _⟩ ?_
  rintro ⟨i, v⟩ w1 ⟨hi, ho, hw1⟩ ih
  simp only at hi ho
  refine Goes.adv hTT 400 rfl ?_
  refine Goes.fork hTT rfl rfl rfl (fun hc => ?_) (fun hc => ?_)
  · have hlt : i < x.length := by have := of_decide_eq_true hc; omega
    obtain ⟨b, off, rfl, hcell⟩ := (hr.chg hw1) i hlt
    have hgd : x.getD i 0 = x[i] := by rw [List.getD_eq_getElem?_getD, List.getElem?_eq_getElem hlt]; rfl
    rw [hgd] at hcell
    have htk : x.take (i + 1) = x.take i ++ [x[i]] := by rw [List.take_add_one, List.getElem?_eq_getElem hlt]; rfl
    refine Goes.index hTT rfl (j := i) (by omega) (by omega) (by first | rfl | omega | (simp; done) | (simp; omega)) rfl ?_
    refine Goes.load hTT rfl hcell rfl ?_
    refine Goes.fork hTT rfl rfl rfl (fun hne => ?_) (fun hne => ?_)
    · refine Goes.index hTT rfl (j := i) (by omega) (by omega) (by first | rfl | omega | (simp; done) | (simp; omega)) rfl ?_
      refine Goes.load hTT rfl hcell rfl ?_
      refine Goes.buildSlice hTT rfl ?_
      intro b2 w2 e2 hb2 hw2 hz2
      refine Goes.adv hTT 400 rfl ?_
      have ho2 := ho.chg hw2 (fun _ _ h => h)
      have hfl : ((x.take i).filter (fun m => m != n)).length ≤ i := Nat.le_trans (List.length_filter_le _ _) (by rw [List.length_take]; omega)
      refine Goes.append (base := w.heap.size) (xs := ((x.take i).filter (fun m => m != n)).map (Value.int .i64)) (news := [.int .i64 x[i]]) hTT rfl ho2 (by have := hw1.size; have := hw2.size; omega) (by simp) (cells1 hb2) (by simp [Value.oneCell']) (by simp only; omega) ?_
      intro v3 w3 ho3 hs3 hv3
      refine Goes.adv hTT 400 rfl ?_
      refine Goes.arith hTT rfl (w64 (by omega)) rfl ?_
      have hf : (x.take (i + 1)).filter (fun m => m != n) = (x.take i).filter (fun m => m != n) ++ [x[i]] := by rw [htk, List.filter_append, List.filter_cons, if_pos hne]; rfl
      exact ih (i + 1, v3) _ _ ⟨hlt, by simp only; rw [hf, List.length_append, List.map_append]; exact ho3, ho2.since (hw1.trans hw2) (Nat.le_refl _) hs3⟩ (by simp only; omega) ⟨rfl, rfl, rfl, rfl, trivial⟩
    · have hf : (x.take (i + 1)).filter (fun m => m != n) = (x.take i).filter (fun m => m != n) := by rw [htk, List.filter_append, List.filter_cons, if_neg (by rw [hne]; decide)]; simp
      refine Goes.arith hTT rfl (w64 (by omega)) rfl ?_
      exact ih (i + 1, v) _ _ ⟨hlt, by simp only; rw [hf]; exact ho, hw1⟩ (by simp only; omega) ⟨rfl, rfl, rfl, rfl, trivial⟩
  · have hge : i = x.length := by have := of_decide_eq_false hc; omega
    subst hge
    rw [List.take_length] at ho
    obtain ⟨l', hv, hx, hX, hb⟩ := Own.il ho rfl (Nat.le_trans (List.length_filter_le _ _) hl)
    subst hv
    exact Goes.ret1 hTT rfl Tryz.func123 rfl rfl ⟨l', rfl, hx, hX, fun b off s e => hb b off s e, hw1⟩
theorem ref13_with (r : RS) (i : Nat) (p : IL) (w : World) (hrp : RdP w r.pa r.ps) (hi : i < r.ps.length) (hl : r.ps.length ≤ 512) : Does Tryz.prog 121 #[.agg (rsL r).toArray, .int .i64 i, ilV p] w
    (fun v w' => ∃ pa' pcap', v = .agg (rsL { r with pa := pa', pcap := pcap', ps := r.ps.set i p }).toArray ∧ RdP w' pa' (r.ps.set i p) ∧ ALt w' pa' ∧ (r.ps.set i p).length ≤ pcap' ∧ Fresh w pa' ∧ Chg None' w w') := by
  have hml : maxLen = 9223372036854775807 := rfl
  obtain ⟨rp, cls, blocks, nums, pa, pcap, ps, opn⟩ := r
  simp only at hi hl hrp
  refine Does.enter Tryz.func121 rfl Tryz.ntmps121 rfl rfl ?_
  refine Goes.adv hTT 400 rfl ?_
  refine Goes.alloc hTT rfl ?_
  intro rb w1 e1 hrb hw1 hz1
  refine Goes.adv hTT 400 rfl ?_
  refine Goes.alloc hTT rfl ?_
  intro qb w2 e2 hqb hw2 hz2
  refine Goes.adv hTT 400 rfl ?_
  replace hrb : w1.heap[rb]? = some (.cells ([ilV rp.o, ilV rp.f, .int .i64 cls, .int .i64 (blocks : Int), ilV nums, .slice pa ps.length pcap, ilV opn] : List Value).toArray 45 (0, 0)) := hrb
  refine Goes.buildSlice hTT rfl ?_
  intro b3 w3 e3 hb3 hw3 hz3
  refine Goes.adv hTT 400 rfl ?_
  have hw13 := hw2.trans hw3
  have hw03 := hw1.trans hw13
  refine Goes.loadb hTT rfl (hw13.heap' hrb) rfl rfl ?_
  have ho : Own w2.heap.size 22 1 w3 (.slice (some ⟨b3, 0, none⟩) 0 0) 0 [] := Own.empty (by omega) hb3
  refine Goes.appendA (base := w2.heap.size) (xs := []) (news := ps.map ilV) hTT rfl ho hw3.size hrp.noneA (by simp) (hrp.grow hw03).cellsA plain_il (by simp only; omega) ?_
  intro v4 w4 ho4 hs4 hv4
  refine Goes.adv hTT 400 rfl ?_
  have hw4 := ho.since hw3 (Nat.le_refl _) hs4
  obtain ⟨g, cap4, cur, rfl, hg1, hg2, hg3, hg4, hg5⟩ := ho4.form (by omega)
  have hcur : cur.toList = ps.map ilV ++ cur.toList.drop ps.length := by
    have e := List.take_append_drop ps.length cur.toList
    rw [show cur.toList.take ps.length = ps.map ilV from by simpa using hg5] at e
    exact e.symm
  obtain ⟨rest, hrest⟩ : ∃ rest, rest = cur.toList.drop ps.length := ⟨_, rfl⟩
  rw [← hrest] at hcur
  have hg2' : w4.heap[g]? = some (.cells (ps.map ilV ++ rest).toArray 22 (0, 0)) := by rw [← hcur]; exact hg2
  have hl4 : 0 + ps.length = ps.length := by omega
  rw [hl4] at hg3 ⊢
  refine Goes.index hTT rfl (j := i) (by omega) (by omega) (by first | rfl | omega | (simp; done) | (simp; omega)) rfl ?_
  refine Goes.store hTT rfl hg2' (show setV (ps.map ilV ++ rest) (0 + i) [ilV p] = some ((ps.set i p).map ilV ++ rest) from by rw [Nat.zero_add, setV_oneL _ _ _ (by simp; omega), List.set_append_left _ _ (by simpa using hi), List.map_set]) rfl ?_
  intro w5 hg5' hs5 hz5
  refine Goes.adv hTT 400 rfl ?_
  have hsl : (ps.set i p).length = ps.length := by simp
  have hs2 := hw2.size
  have hs4' := hw4.size
  have hlr := lt_of_heap hrb
  have hlq := lt_of_heap hqb
  have hrb5 := hs5.heap (hw4.heap' (hw2.heap' hrb)) (show ¬ rb = g by omega)
  have hqb5 := hs5.heap (hw4.heap' hqb) (show ¬ qb = g by omega)
  refine Goes.store hTT rfl hrb5 rfl rfl ?_
  intro w6 hrb6 hs6 hz6
  refine Goes.adv hTT 400 rfl ?_
  refine Goes.loads hTT rfl hrb6 rfl rfl ?_
  have hqb6 := hs6.heap hqb5 (by omega)
  refine Goes.store hTT rfl hqb6 rfl rfl ?_
  intro w7 hqb7 hs7 hz7
  refine Goes.adv hTT 400 rfl ?_
  have hg7 := hs7.heap (hs6.heap hg5' (by omega)) (by omega)
  have hw05 : Chg None' w w5 := ((hw1.trans hw2).trans hw4).since hs5 (fun z hz e => by have := hw1.size; omega)
  have hw07 : Chg None' w w7 := (hw05.since hs6 (fun z hz e => by omega)).since hs7 (fun z hz e => by have := hw1.size; omega)
  exact Goes.ret hTT rfl Tryz.func121 (ResOk.cell rfl rfl rfl hqb7 rfl .nil) ⟨some ⟨g, 0, none⟩, cap4, by show _ = Value.agg [_, _, _, _, _, Value.slice _ (ps.set i p).length _, _].toArray; rw [hsl]; rfl, fun j l hj => ⟨g, 0, rfl, by
    have hjl : j < ps.length := by have := (List.getElem?_eq_some_iff.1 hj).1; simpa using this
    rw [cell_of hg7, Nat.zero_add, List.getElem?_toArray, List.getElem?_append_left (by simpa using hjl), List.getElem?_map, hj]; rfl⟩, (by intro b off s e; cases e; exact lt_of_heap hg7), by rw [hsl]; omega, (by intro b off s e; cases e; have := hw1.size; omega), hw07⟩
end Go.Proofs.YtkiionjcapnepaaGreatDoor
/-
  Layer 13: what the document says of a shelf: a page more.
-/
namespace Go.Proofs.YtkiionjcapnepaaGreatDoor
open Go.RowKit

theorem smSet_idx {l : PgL} {m i : Nat} {p q : List Int} (hn : (l.map (·.1)).Nodup) (hi : l[i]? = some (m, q)) : smSet l m p = l.set i (m, p) := by
  have hil : i < l.length := (List.getElem?_eq_some_iff.1 hi).1
  refine List.ext_getElem? fun j => ?_
  unfold smSet
  rw [List.getElem?_map, List.getElem?_set]
  by_cases h : i = j
  · subst h
    rw [if_pos rfl, if_pos hil, hi]
    simp
  · rw [if_neg h]
    cases hj : l[j]? with
    | none => rfl
    | some e =>
      have hjl : j < l.length := (List.getElem?_eq_some_iff.1 hj).1
      have hne : e.1 ≠ m := fun e' => by
        have h1 : (l.map (·.1))[i]? = some m := by rw [List.getElem?_map, hi]; rfl
        have h2 : (l.map (·.1))[j]? = some m := by rw [List.getElem?_map, hj, ← e']; rfl
        exact h ((List.getElem?_inj (by simpa using hil) hn).1 (h1.trans h2.symm))
      simp [hne]
theorem smDel_idx {l : PgL} {m i : Nat} {q : List Int} (hn : (l.map (·.1)).Nodup) (hi : l[i]? = some (m, q)) : smDel l m = l.take i ++ l.drop (i + 1) := by
  have hil : i < l.length := (List.getElem?_eq_some_iff.1 hi).1
  have hli : l[i] = (m, q) := by rw [List.getElem?_eq_getElem hil] at hi; exact Option.some.inj hi
  have hs : l = l.take i ++ (m, q) :: l.drop (i + 1) := by
    conv => lhs; rw [← List.take_append_drop i l]
    rw [List.drop_eq_getElem_cons hil, hli]
  have hn2 := hn
  rw [hs, List.map_append, List.map_cons] at hn2
  obtain ⟨h1, h2, h3⟩ := List.nodup_append.1 hn2
  obtain ⟨h4, _⟩ := List.nodup_cons.1 h2
  conv => lhs; rw [hs]
  unfold smDel
  rw [List.filter_append, List.filter_cons]
  simp only [bne_self_eq_false, Bool.false_eq_true, if_false]
  rw [List.filter_eq_self.2 (fun e he => by simp only [bne_iff_ne, ne_eq]; exact fun e' => h3 e.1 (List.mem_map.2 ⟨e, he, rfl⟩) m (by simp) e'), List.filter_eq_self.2 (fun e he => by simp only [bne_iff_ne, ne_eq]; exact fun e' => h4 (List.mem_map.2 ⟨e, he, e'⟩))]
theorem RsOk.get {w : World} {r : RS} {x : Sm} {pl : PlM} (h : RsOk w r x pl) {i m : Nat} {p : List Int} (hi : x.pg[i]? = some (m, p)) : ∃ l, r.ps[i]? = some l ∧ l.x = p ∧ IlY w l := by
  have h1 : (x.pg.map (·.2))[i]? = some p := by rw [List.getElem?_map, hi]; rfl
  rw [← h.e4, List.getElem?_map, Option.map_eq_some_iff] at h1
  obtain ⟨l, hl, hx⟩ := h1
  exact ⟨l, hl, hx, h.each l (List.mem_of_getElem? hl)⟩
theorem RsOk.plen {w : World} {r : RS} {x : Sm} {pl : PlM} (h : RsOk w r x pl) : r.ps.length = x.pg.length := by
  have := congrArg List.length h.e4
  simpa using this
/-- There are few pages. -/
theorem RsOk.few {w : World} {r : RS} {x : Sm} {pl : PlM} (h : RsOk w r x pl) (hok : x.Ok) (hof : x.Of pl) : x.pg.length ≤ 512 ∧ x.opn.length ≤ 512 ∧ pl.own.length ≤ 512 := by
  have ho := h.p.o.ok.len
  rw [h.p.eo] at ho
  have h1 : (x.pg.map (·.1)).length ≤ pl.own.length := nodup_le _ _ hok.nodup (fun n hn => by obtain ⟨e, he, rfl⟩ := List.mem_map.1 hn; exact (hof e he).1)
  rw [List.length_map] at h1
  have h2 := nodup_le pl.own.length x.opn hok.onodup (fun n hn => by obtain ⟨p, hp⟩ := hok.osub n hn; exact (hof _ hp).1)
  exact ⟨by omega, by omega, ho⟩
theorem RpOk.out {w : World} {r : RP} {pl : PlM} {S : Nat → Prop} (h : RpOk w r pl) (hs : ∀ z, S z → w.heap.size ≤ z) : OutA S r.o.a ∧ OutA S r.f.a := ⟨h.o.lt.out hs, h.f.lt.out hs⟩
theorem ref13_fresh_no (r : RS) (x : Sm) (pl : PlM) (w : World) (h : RsOk w r x pl) (hok : x.Ok) (hf : pl.free = []) : Does Tryz.prog 118 #[.agg (rsL r).toArray] w (Grow (.tuple #[.agg (rsL r).toArray, .int .i64 5]) w) := by
  have hcl : 0 ≤ r.cls := by rw [h.e1]; exact hok.cls
  refine Does.enter Tryz.func118 rfl Tryz.ntmps118 rfl rfl ?_
  refine Goes.adv hTT 400 rfl ?_
  refine Goes.alloc hTT rfl ?_
  intro rb w1 e1 hrb hw1 hz1
  refine Goes.adv hTT 400 rfl ?_
  refine Goes.alloc hTT rfl ?_
  intro qb w2 e2 hqb hw2 hz2
  refine Goes.adv hTT 400 rfl ?_
  replace hrb : w1.heap[rb]? = some (.cells (rsL r).toArray 45 (0, 0)) := hrb
  have hrb2 := hw2.heap' hrb
  have hw02 := hw1.trans hw2
  refine Goes.loads hTT rfl hrb2 rfl rfl ?_
  refine Goes.loadb hTT rfl hrb2 rfl rfl ?_
  refine Goes.call rfl (ref08_Take_no r.p r.cls pl w2 (h.p.grow hw02) hcl hf) ?_
  rintro _ w3 ⟨rfl, hw3⟩
  refine Goes.adv hTT 400 rfl ?_
  refine Goes.alloc hTT rfl ?_
  intro tb w4 e4 htb hw4 hz4
  refine Goes.adv hTT 400 rfl ?_
  refine Goes.store hTT rfl htb rfl rfl ?_
  intro w5 htb5 hs5 hz5
  refine Goes.adv hTT 400 rfl ?_
  have hs2 := hw02.size
  have hs3 := hw3.size
  have hc25 : Chg None' w2 w5 := (hw3.trans hw4).since hs5 (fun z hz e => by omega)
  refine Goes.yes hTT rfl rfl rfl ?_
  refine Goes.loads hTT rfl (hc25.heap' hrb2) rfl rfl ?_
  refine Goes.store hTT rfl (hc25.heap' hqb) rfl rfl ?_
  intro w6 hqb6 hs6 hz6
  refine Goes.adv hTT 400 rfl ?_
  replace hqb6 : w6.heap[qb]? = some (.cells (rsL r).toArray 45 (0, 0)) := hqb6
  exact Goes.ret hTT rfl Tryz.func118 (ResOk.cell rfl rfl rfl hqb6 rfl (.tmp rfl .nil)) ⟨rfl, (hw02.trans hc25).since hs6 (fun z hz e => by have := hw1.size; omega)⟩
set_option maxRecDepth 100000 in
theorem ref13_fresh (r : RS) (x : Sm) (pl : PlM) (n : Nat) (t : List Nat) (w : World) (h : RsOk w r x pl) (hok : x.Ok) (hof : x.Of pl) (hg : pl.Good) (hf : pl.free = n :: t) : Does Tryz.prog 118 #[.agg (rsL r).toArray] w
    (fun v w' => ∃ r', v = .tuple #[.agg (rsL r').toArray, .int .i64 0] ∧ RsOk w' r' (x.fresh n) (pl.take x.cls) ∧ Keep w r r' ∧ Chg None' w w') := by
  have hcl : 0 ≤ r.cls := by rw [h.e1]; exact hok.cls
  have hbl := hok.blk
  have hml : maxLen = 9223372036854775807 := rfl
  obtain ⟨hfew1, hfew2, hfew3⟩ := h.few hok hof
  have hnew := free_new hok hof hg (n := n) (by rw [hf]; simp)
  have hnn : n ∉ x.opn := fun hm => by obtain ⟨p, hp⟩ := hok.osub n hm; exact hnew (List.mem_map.2 ⟨_, hp, rfl⟩)
  obtain ⟨hnl, _⟩ := hg.free n (by rw [hf]; simp)
  have hfew4 : x.pg.length + 1 ≤ 512 := by
    have : (n :: x.pg.map (·.1)).length ≤ pl.own.length := nodup_le _ _ (List.nodup_cons.2 ⟨hnew, hok.nodup⟩) (fun m hm => by
      rcases List.mem_cons.1 hm with rfl | hm
      · exact hnl
      · obtain ⟨e, he, rfl⟩ := List.mem_map.1 hm; exact (hof e he).1)
    simp only [List.length_cons, List.length_map] at this
    omega
  have hfew5 : x.opn.length + 1 ≤ 512 := by
    have : (n :: x.opn).length ≤ pl.own.length := nodup_le _ _ (List.nodup_cons.2 ⟨hnn, hok.onodup⟩) (fun m hm => by
      rcases List.mem_cons.1 hm with rfl | hm
      · exact hnl
      · obtain ⟨p, hp⟩ := hok.osub m hm; exact (hof _ hp).1)
    simp only [List.length_cons] at this
    omega
  have hnumL : r.nums.x.length = x.pg.length := by rw [h.e3]; simp
  have hpsL := h.plen
  have hopL : r.opn.x.length = x.opn.length := by rw [h.e5]; simp
  refine Does.enter Tryz.func118 rfl Tryz.ntmps118 rfl rfl ?_
  refine Goes.adv hTT 400 rfl ?_
  refine Goes.alloc hTT rfl ?_
  intro rb w1 e1 hrb hw1 hz1
  refine Goes.adv hTT 400 rfl ?_
  refine Goes.alloc hTT rfl ?_
  intro qb w2 e2 hqb hw2 hz2
  refine Goes.adv hTT 400 rfl ?_
  replace hrb : w1.heap[rb]? = some (.cells (rsL r).toArray 45 (0, 0)) := hrb
  have hrb2 := hw2.heap' hrb
  have hw02 := hw1.trans hw2
  have hs02 := hw02.size
  have hlr := lt_of_heap hrb2
  have hlq := lt_of_heap hqb
  refine Goes.loads hTT rfl hrb2 rfl rfl ?_
  refine Goes.loadb hTT rfl hrb2 rfl rfl ?_
  rw [h.e1]
  refine Goes.call rfl (ref08_Take r.p x.cls pl n t w2 (h.p.grow hw02) hg hok.cls hf) ?_
  rintro _ w3 ⟨l, rfl, hP3, hlF, hw3⟩
  refine Goes.adv hTT 400 rfl ?_
  obtain ⟨f', hf'⟩ : ∃ f', f' = r.p.f.sl 1 r.p.f.x.length := ⟨_, rfl⟩
  rw [← hf'] at hP3 ⊢
  have hs3 := hw3.size
  refine Goes.alloc hTT rfl ?_
  intro tb w4 e4 htb hw4 hz4
  refine Goes.adv hTT 400 rfl ?_
  refine Goes.store hTT rfl htb rfl rfl ?_
  intro w5 htb5 hs5 hz5
  refine Goes.adv hTT 400 rfl ?_
  replace htb5 : w5.heap[tb]? = some (.cells ([ilV l, ilV f'] : List Value).toArray 31 (0, 0)) := htb5
  have hc35 : Chg None' w3 w5 := hw4.since hs5 (fun z hz e => by omega)
  have hc25 := hw3.trans hc35
  refine Goes.no hTT rfl rfl rfl ?_
  refine Goes.loads hTT rfl htb5 rfl rfl ?_
  have hrb5 := hc25.heap' hrb2
  refine Goes.store hTT rfl hrb5 rfl rfl ?_
  intro w6 hrb6 hs6 hz6
  refine Goes.adv hTT 400 rfl ?_
  replace hrb6 : w6.heap[rb]? = some (.cells ([ilV l, ilV f', .int .i64 r.cls, .int .i64 (r.blocks : Int), ilV r.nums, .slice r.pa r.ps.length r.pcap, ilV r.opn] : List Value).toArray 45 (0, 0)) := hrb6
  have hsz35 := hc35.size
  have hqb6 := hs6.heap (hc25.heap' hqb) (show ¬ qb = rb by omega)
  have hP6 : RpOk w6 ⟨l, f'⟩ (pl.take x.cls) := by
    have h5 := hP3.grow hc35
    have hfo : OutA (fun z => z = rb) f'.a := by rw [hf']; exact IL.sl_out (h.p.f.lt.out (fun z hz => by omega))
    exact ⟨h5.o.far (hlF.out (fun z hz => by omega)) hs6, h5.f.far hfo hs6, h5.eo, h5.ef⟩
  have hc06 : Chg None' w w6 := (hw02.trans hc25).since hs6 (fun z hz e => by omega)
  have hs06 := hc06.size
  refine Goes.loadb hTT rfl hrb6 rfl rfl ?_
  rw [h.e2]
  refine Goes.call rfl (ref12_New x.blocks w6 hbl) ?_
  rintro _ w7 ⟨pg, rfl, hpx, hpI, hw7, hpN⟩
  refine Goes.adv hTT 400 rfl ?_
  have hpY : IlY w7 pg := IlY.of hpI (by rw [hpx]; simp; omega)
  have hpF : Fresh w6 pg.a := by
    rcases hpN with e | ⟨g, off, e, hgg⟩
    · intro b off s e'; rw [e] at e'; cases e'
    · intro b off' s e'; rw [e] at e'; cases e'; exact hgg
  have hs7 := hw7.size
  have hc07 := hc06.trans hw7
  have hrb7 := hw7.heap' hrb6
  -- nums
  refine Goes.buildSlice hTT rfl ?_
  intro b8 w8 e8 hb8 hw8 hz8
  refine Goes.adv hTT 400 rfl ?_
  have hc08 := hc07.trans hw8
  refine Goes.loadb hTT rfl (hw8.heap' hrb7) rfl rfl ?_
  have ho8 : Own w7.heap.size 3 1 w8 (.slice (some ⟨b8, 0, none⟩) 0 0) 0 [] := Own.empty (by omega) hb8
  refine Goes.appendA (base := w7.heap.size) (xs := []) (news := r.nums.x.map (Value.int .i64)) hTT rfl ho8 hw8.size h.nums.ok.rd.noneA (by simp) (h.nums.ok.rd.chg hc08).cellsA plain_i64 (by simp only; omega) ?_
  intro v9 w9 ho9 hs9 hv9
  refine Goes.adv hTT 400 rfl ?_
  have hw79 := ho8.since hw8 (Nat.le_refl _) hs9
  refine Goes.buildSlice hTT rfl ?_
  intro b10 w10 e10 hb10 hw10 hz10
  refine Goes.adv hTT 400 rfl ?_
  have ho10 := ho9.chg hw10 (fun _ _ h => h)
  have hw710 := hw79.trans hw10
  refine Goes.append (base := w7.heap.size) (news := [.int .i64 (n : Int)]) hTT rfl ho10 hw710.size (by simp) (cells1 hb10) (by simp [Value.oneCell']) (by simp only; omega) ?_
  intro v11 w11 ho11 hs11 hv11
  have hw711 := ho10.since hw710 (Nat.le_refl _) hs11
  obtain ⟨nl, rfl, hnx, hnX, hnB⟩ := Own.il (x := r.nums.x ++ [(n : Int)]) (v := v11) (m := 0 + r.nums.x.length + 1) (by rw [List.map_append]; exact ho11) (by simp) (by simp; omega)
  refine Goes.adv hTT 400 rfl ?_
  have hs711 := hw711.size
  refine Goes.store hTT rfl (hw711.heap' hrb7) rfl rfl ?_
  intro w12 hrb12 hs12 hz12
  refine Goes.adv hTT 400 rfl ?_
  replace hrb12 : w12.heap[rb]? = some (.cells ([ilV l, ilV f', .int .i64 r.cls, .int .i64 (r.blocks : Int), ilV nl, .slice r.pa r.ps.length r.pcap, ilV r.opn] : List Value).toArray 45 (0, 0)) := hrb12
  have hc012 : Chg None' w w12 := (hc07.trans hw711).since hs12 (fun z hz e => by omega)
  have hnX12 : IlX w12 nl := hnX.far (by intro b off s e hz; have := hnB b off s e; omega) hs12
  -- pages
  refine Goes.buildSlice hTT rfl ?_
  intro b13 w13 e13 hb13 hw13 hz13
  refine Goes.adv hTT 400 rfl ?_
  have hc013 := hc012.trans hw13
  refine Goes.loadb hTT rfl (hw13.heap' hrb12) rfl rfl ?_
  have ho13 : Own w12.heap.size 22 1 w13 (.slice (some ⟨b13, 0, none⟩) 0 0) 0 [] := Own.empty (by omega) hb13
  refine Goes.appendA (base := w12.heap.size) (xs := []) (news := r.ps.map ilV) hTT rfl ho13 hw13.size h.rp.noneA (by simp) (h.rp.grow hc013).cellsA plain_il (by simp only; omega) ?_
  intro v14 w14 ho14 hs14 hv14
  refine Goes.adv hTT 400 rfl ?_
  have hw1214 := ho13.since hw13 (Nat.le_refl _) hs14
  refine Goes.buildSlice hTT rfl ?_
  intro b15 w15 e15 hb15 hw15 hz15
  refine Goes.adv hTT 400 rfl ?_
  have ho15 := ho14.chg hw15 (fun _ _ h => h)
  have hw1215 := hw1214.trans hw15
  refine Goes.append (base := w12.heap.size) (news := [ilV pg]) hTT rfl ho15 hw1215.size (by simp) (cells1 hb15) (by simp [Value.oneCell']) (by simp only; omega) ?_
  intro v16 w16 ho16 hs16 hv16
  have hw1216 := ho15.since hw1215 (Nat.le_refl _) hs16
  obtain ⟨pa', pcap', rfl, hpR, hpL, hpC, hpB⟩ := Own.pl (ps := r.ps ++ [pg]) (v := v16) (m := 0 + r.ps.length + 1) (by rw [List.map_append]; exact ho16) (by simp)
  refine Goes.adv hTT 400 rfl ?_
  have hs1216 := hw1216.size
  have hs712 : w7.heap.size ≤ w12.heap.size := by omega
  refine Goes.store hTT rfl (hw1216.heap' hrb12) rfl rfl ?_
  intro w17 hrb17 hs17 hz17
  refine Goes.adv hTT 400 rfl ?_
  replace hrb17 : w17.heap[rb]? = some (.cells ([ilV l, ilV f', .int .i64 r.cls, .int .i64 (r.blocks : Int), ilV nl, .slice pa' (r.ps ++ [pg]).length pcap', ilV r.opn] : List Value).toArray 45 (0, 0)) := hrb17
  have hc017 : Chg None' w w17 := (hc012.trans hw1216).since hs17 (fun z hz e => by omega)
  have hpR17 : RdP w17 pa' (r.ps ++ [pg]) := hpR.far (by intro b off s e hz; have := hpB b off s e; omega) hs17
  -- open
  refine Goes.buildSlice hTT rfl ?_
  intro b18 w18 e18 hb18 hw18 hz18
  refine Goes.adv hTT 400 rfl ?_
  have hc018 := hc017.trans hw18
  refine Goes.loadb hTT rfl (hw18.heap' hrb17) rfl rfl ?_
  have ho18 : Own w17.heap.size 3 1 w18 (.slice (some ⟨b18, 0, none⟩) 1 1) 1 [.int .i64 (n : Int)] := Own.one (by omega) hb18
  refine Goes.appendA (base := w17.heap.size) (xs := [.int .i64 (n : Int)]) (news := r.opn.x.map (Value.int .i64)) hTT rfl ho18 hw18.size h.opn.ok.rd.noneA (by simp) (h.opn.ok.rd.chg hc018).cellsA plain_i64 (by simp only; omega) ?_
  intro v19 w19 ho19 hs19 hv19
  have hw1719 := ho18.since hw18 (Nat.le_refl _) hs19
  obtain ⟨ol, rfl, holx, holX, holB⟩ := Own.il (x := (n : Int) :: r.opn.x) (v := v19) (m := 1 + r.opn.x.length) (show Own w17.heap.size 3 1 w19 v19 (1 + r.opn.x.length) (((n : Int) :: r.opn.x).map (Value.int .i64)) from ho19) (by simp; omega) (by simp; omega)
  refine Goes.adv hTT 400 rfl ?_
  have hs1719 := hw1719.size
  refine Goes.store hTT rfl (hw1719.heap' hrb17) rfl rfl ?_
  intro w20 hrb20 hs20 hz20
  refine Goes.adv hTT 400 rfl ?_
  obtain ⟨r', hr'⟩ : ∃ r' : RS, r' = ⟨⟨l, f'⟩, r.cls, r.blocks, nl, pa', pcap', r.ps ++ [pg], ol⟩ := ⟨_, rfl⟩
  replace hrb20 : w20.heap[rb]? = some (.cells (rsL r').toArray 45 (0, 0)) := by rw [hr']; exact hrb20
  refine Goes.loads hTT rfl hrb20 rfl rfl ?_
  have hc020 : Chg None' w w20 := (hc017.trans hw1719).since hs20 (fun z hz e => by omega)
  have nn : ∀ {a b : World}, Chg None' a b → Chg (fun z => z = rb) a b := fun h => h.mono fun _ _ h => h.elim
  have cA : Chg (fun z => z = rb) w7 w12 := (nn hw711).trans hs12
  have cB : Chg (fun z => z = rb) w12 w17 := (nn hw1216).trans hs17
  have cC : Chg (fun z => z = rb) w17 w20 := (nn hw1719).trans hs20
  have cAll : Chg (fun z => z = rb) w6 w20 := (((nn hw7).trans cA).trans cB).trans cC
  have hfresh2 : w2.heap.size ≤ w6.heap.size := by have := hc25.size; omega
  have hkeep : ∀ Q : Nat → Prop, (∀ z, Q z → z < w2.heap.size) → RsOut Q r → RsOut Q r' := fun Q hQ ho => by
    have hlo : OutA Q l.a := hlF.out hQ
    have hfo : OutA Q f'.a := by rw [hf']; exact IL.sl_out ho.f
    have hno : OutA Q nl.a := by intro b off s e hz; have := hnB b off s e; have := hQ b hz; omega
    have hoo : OutA Q ol.a := by intro b off s e hz; have := holB b off s e; have := hQ b hz; omega
    have hpo : OutA Q pa' := by intro b off s e hz; have := hpB b off s e; have := hQ b hz; omega
    rw [hr']
    exact ⟨hlo, hfo, hno, hoo, hpo, fun l' hl' => by
      rcases List.mem_append.1 hl' with hl' | hl'
      · exact ho.each l' hl'
      · have : l' = pg := by simpa using hl'
        subst this
        exact hpF.out (fun z hz => by have := hQ z hz; omega)⟩
  have ho0 : RsOut (fun z => z = rb) r := h.out (fun z hz => by have := hw1.size; omega)
  have hor : RsOut (fun z => z = rb) r' := hkeep _ (fun z hz => by omega) ho0
  have hok20 : RsOk w20 r' (x.fresh n) (pl.take x.cls) := by
    rw [hr'] at hor
    have hP20 : RpOk w20 ⟨l, f'⟩ (pl.take x.cls) := ⟨hP6.o.far hor.o cAll, hP6.f.far hor.f cAll, hP6.eo, hP6.ef⟩
    rw [hr']
    exact ⟨hP20, hnX12.far hor.nums (cB.trans cC), holX.far hor.opn hs20, hpR17.far hor.pa cC, hpL.grow (by have := hs17.size; have := cC.size; omega), hpC, fun l' hl' => by
      rcases List.mem_append.1 hl' with hl' | hl'
      · exact (h.each l' hl').grow hc020
      · have : l' = pg := by simpa using hl'
        subst this
        exact hpY.far (hor.each _ (List.mem_append_right _ (by simp))) ((cA.trans cB).trans cC), h.e1, h.e2, by
        show nl.x = (x.pg ++ [(n, List.replicate x.blocks (-1))]).map _
        rw [hnx, h.e3, List.map_append]; rfl, by
        show (r.ps ++ [pg]).map _ = (x.pg ++ [(n, List.replicate x.blocks (-1))]).map _
        rw [List.map_append, List.map_append, h.e4]
        simp [hpx], by
        show ol.x = (n :: x.opn).map _
        rw [holx, h.e5]; rfl⟩
  have hqb20 := cAll.heap hqb6 (show ¬ qb = rb by omega)
  refine Goes.store hTT rfl hqb20 rfl rfl ?_
  intro w21 hqb21 hs21 hz21
  refine Goes.adv hTT 400 rfl ?_
  replace hqb21 : w21.heap[qb]? = some (.cells (rsL r').toArray 45 (0, 0)) := hqb21
  have hoq : RsOut (fun z => z = qb) r' := hkeep _ (fun z hz => by omega) (h.out (fun z hz => by have := hw1.size; omega))
  exact Goes.ret hTT rfl Tryz.func118 (ResOk.cell rfl rfl rfl hqb21 rfl (.tmp rfl .nil)) ⟨r', rfl, hok20.far hoq hs21, fun Q hQ ho => hkeep Q (fun z hz => by have := hQ z hz; omega) ho, hc020.since hs21 (fun z hz e => by have := hw1.size; omega)⟩
end Go.Proofs.YtkiionjcapnepaaGreatDoor
/-
  Layer 13: what the document says of a shelf: taking a block.
-/
namespace Go.Proofs.YtkiionjcapnepaaGreatDoor
open Go.RowKit

theorem RsOk.setPage {w : World} {r : RS} {x : Sm} {pl : PlM} (h : RsOk w r x pl) (hn : (x.pg.map (·.1)).Nodup) {i m : Nat} {q p' : List Int} {l' : IL} {pa' : Option Addr} {pcap' : Nat} (hi : x.pg[i]? = some (m, q)) (hx : l'.x = p') (hy : IlY w l')
    (h1 : RdP w pa' (r.ps.set i l')) (h2 : ALt w pa') (h3 : (r.ps.set i l').length ≤ pcap') : RsOk w { r with pa := pa', pcap := pcap', ps := r.ps.set i l' } { x with pg := smSet x.pg m p' } pl :=
  ⟨h.p, h.nums, h.opn, h1, h2, h3, fun l hl => by
    rcases List.mem_or_eq_of_mem_set hl with hl | rfl
    · exact h.each l hl
    · exact hy, h.e1, h.e2, by
    have e := smSet_fst x.pg m p'
    show r.nums.x = (smSet x.pg m p').map fun e => ((e.1 : Nat) : Int)
    rw [h.e3]
    have a1 : ∀ l : PgL, (l.map fun e => ((e.1 : Nat) : Int)) = (l.map (·.1)).map (fun n : Nat => (n : Int)) := fun l => by rw [List.map_map]; rfl
    rw [a1, a1, e], by
    show (r.ps.set i l').map (·.x) = (smSet x.pg m p').map (·.2)
    rw [smSet_idx hn hi, List.map_set, List.map_set, h.e4, hx], h.e5⟩
theorem RsOut.setPage {Q : Nat → Prop} {r : RS} (h : RsOut Q r) {i : Nat} {l' : IL} {pa' : Option Addr} {pcap' : Nat} (h1 : OutA Q pa') (h2 : OutA Q l'.a) : RsOut Q { r with pa := pa', pcap := pcap', ps := r.ps.set i l' } :=
  ⟨h.o, h.f, h.nums, h.opn, h1, fun l hl => by
    rcases List.mem_or_eq_of_mem_set hl with hl | rfl
    · exact h.each l hl
    · exact h2⟩
theorem RsOk.setOpn {w : World} {r : RS} {x : Sm} {pl : PlM} (h : RsOk w r x pl) {l' : IL} {o : List Nat} (hl : IlX w l') (he : l'.x = o.map (fun n : Nat => (n : Int))) : RsOk w { r with opn := l' } { x with opn := o } pl :=
  ⟨h.p, h.nums, hl, h.rp, h.plt, h.pcap, h.each, h.e1, h.e2, h.e3, h.e4, he⟩
theorem RsOut.setOpn {Q : Nat → Prop} {r : RS} (h : RsOut Q r) {l' : IL} (h1 : OutA Q l'.a) : RsOut Q { r with opn := l' } := ⟨h.o, h.f, h.nums, h1, h.pa, h.each⟩
theorem filter_cast (l : List Nat) (n : Nat) : (l.map (fun m : Nat => (m : Int))).filter (fun m => m != (n : Int)) = (l.filter (fun m => m != n)).map (fun m : Nat => (m : Int)) := by
  rw [List.filter_map]
  congr 1
  refine List.filter_congr fun m _ => ?_
  simp only [Function.comp]
  exact Bool.eq_iff_iff.2 (by simp only [bne_iff_ne, ne_eq]; omega)
theorem Rd.at0 {w : World} {a : Option Addr} {x : List Int} {k : IntKind} {i : Nat} (h : Rd k w a x) (hi : i < x.length) : ∃ b off, a = some ⟨b, off, none⟩ ∧ w.cell? ⟨b, off + i, none⟩ = some (.int k (x.getD i 0)) := h i hi
set_option maxRecDepth 100000 in
theorem ref13_Take (r : RS) (x : Sm) (pl : PlM) (who : Int) (w : World) (h : RsOk w r x pl) (hok : x.Ok) (hof : x.Of pl) (hg : pl.Good) : Does Tryz.prog 76 #[.agg (rsL r).toArray, .int .i64 who] w
    (fun v w' => ∃ r', v = .tuple #[.agg (rsL r').toArray, .int .i64 (shTakeN x pl who), .int .i64 (shTakeA x pl who), .int .i64 (shTakeE x pl who)] ∧ RsOk w' r' (shTake x pl who) (shTakeP x pl who) ∧ Keep w r r' ∧ Chg None' w w') := by
  have eN : ∀ e, shTakeE x pl who = e → e ≠ 0 → shTakeN x pl who = 0 ∧ shTakeA x pl who = 0 ∧ shTake x pl who = x ∧ shTakeP x pl who = pl := fun e h1 h2 => by
    unfold shTakeN shTakeA shTake shTakeP; rw [h1, if_neg h2, if_neg h2, if_neg h2, if_neg h2]; exact ⟨rfl, rfl, rfl, rfl⟩
  refine Does.enter Tryz.func76 rfl Tryz.ntmps76 rfl rfl ?_
  refine Goes.adv hTT 400 rfl ?_
  refine Goes.alloc hTT rfl ?_
  intro rb w1 e1 hrb hw1 hz1
  refine Goes.adv hTT 400 rfl ?_
  refine Goes.alloc hTT rfl ?_
  intro qb w2 e2 hqb hw2 hz2
  refine Goes.adv hTT 400 rfl ?_
  replace hrb : w1.heap[rb]? = some (.cells (rsL r).toArray 45 (0, 0)) := hrb
  have hrb2 := hw2.heap' hrb
  have hw02 := hw1.trans hw2
  have hs02 := hw02.size
  refine Goes.fork hTT rfl rfl rfl (fun g1 => ?_) (fun g1 => ?_)
  · have k1 : who < 0 := of_decide_eq_true g1
    have ee : shTakeE x pl who = 1 := by unfold shTakeE; rw [if_pos k1]
    obtain ⟨a, b, c, d⟩ := eN 1 ee (by decide)
    rw [a, b, c, d, ee]
    refine Goes.loads hTT rfl hrb2 rfl rfl ?_
    refine Goes.store hTT rfl hqb rfl rfl ?_
    intro w3 hqb3 hs3 hz3
    refine Goes.adv hTT 400 rfl ?_
    replace hqb3 : w3.heap[qb]? = some (.cells (rsL r).toArray 45 (0, 0)) := hqb3
    exact Goes.ret hTT rfl Tryz.func76 (ResOk.cell rfl rfl rfl hqb3 rfl (.tmp rfl (.tmp rfl (.tmp rfl .nil)))) ⟨r, rfl, (h.grow hw02).far (h.out (fun z hz => by omega)) hs3, Keep.refl _ _, hw02.since hs3 (fun z hz e => by omega)⟩
  have hw0 : 0 ≤ who := by have := of_decide_eq_false g1; omega
  refine Goes.loads hTT rfl hrb2 rfl rfl ?_
  refine Goes.alloc hTT rfl ?_
  intro kb w3 e3 hkb3 hw3 hz3
  refine Goes.adv hTT 400 rfl ?_
  refine Goes.store hTT rfl hkb3 rfl rfl ?_
  intro w4 hkb4 hs4 hz4
  refine Goes.adv hTT 400 rfl ?_
  replace hkb4 : w4.heap[kb]? = some (.cells (rsL r).toArray 45 (0, 0)) := hkb4
  have hc24 : Chg None' w2 w4 := hw3.since hs4 (fun z hz e => by omega)
  have hc04 := hw02.trans hc24
  have hrb4 := hc24.heap' hrb2
  have hqb4 := hc24.heap' hqb
  have hs24 := hc24.size
  have hlq4 := lt_of_heap hqb
  have hopL : r.opn.x.length = x.opn.length := by rw [h.e5]; simp
  have hqk : ¬ qb = kb := by omega
  have h4 := h.grow hc04
  refine Goes.loadb hTT rfl hrb4 rfl rfl ?_
  rw [hopL]
  cases ho : x.opn with
  | nil =>
    refine Goes.yes hTT rfl rfl rfl ?_
    refine Goes.loads hTT rfl hrb4 rfl rfl ?_
    cases hf : pl.free with
    | nil =>
      have ee : shTakeE x pl who = 5 := by unfold shTakeE; rw [if_neg (by omega), if_pos (by rw [ho, hf]; exact ⟨rfl, rfl⟩)]
      obtain ⟨a, b, c, d⟩ := eN 5 ee (by decide)
      rw [a, b, c, d, ee]
      refine Goes.call rfl (ref13_fresh_no r x pl w4 h4 hok hf) ?_
      rintro _ w5 ⟨rfl, hw5⟩
      refine Goes.adv hTT 400 rfl ?_
      refine Goes.alloc hTT rfl ?_
      intro tb w6 e6 htb hw6 hz6
      refine Goes.adv hTT 400 rfl ?_
      refine Goes.store hTT rfl htb rfl rfl ?_
      intro w7 htb7 hs7 hz7
      refine Goes.adv hTT 400 rfl ?_
      have hs5 := hw5.size
      have hc47 : Chg None' w4 w7 := (hw5.trans hw6).since hs7 (fun z hz e => by omega)
      have hc07 := hc04.trans hc47
      refine Goes.yes hTT rfl rfl rfl ?_
      refine Goes.loads hTT rfl (hc47.heap' hrb4) rfl rfl ?_
      refine Goes.store hTT rfl (hc47.heap' hqb4) rfl rfl ?_
      intro w8 hqb8 hs8 hz8
      refine Goes.adv hTT 400 rfl ?_
      replace hqb8 : w8.heap[qb]? = some (.cells (rsL r).toArray 45 (0, 0)) := hqb8
      exact Goes.ret hTT rfl Tryz.func76 (ResOk.cell rfl rfl rfl hqb8 rfl (.tmp rfl (.tmp rfl (.tmp rfl .nil)))) ⟨r, rfl, (h.grow hc07).far (h.out (fun z hz => by omega)) hs8, Keep.refl _ _, hc07.since hs8 (fun z hz e => by omega)⟩
    | cons n t =>
      have ee : shTakeE x pl who = 0 := by unfold shTakeE; rw [if_neg (by omega), if_neg (by rw [hf]; simp)]
      have hn4 : n < 1024 := by have := (hg.free n (by rw [hf]; simp)).1; have := hg.len; omega
      have hnew := free_new hok hof hg (n := n) (by rw [hf]; simp)
      rcases shTake_cases x pl who with ⟨hne, _⟩ | ⟨_, _, ⟨n', t', ho', _⟩ | ⟨n', t', _, hf', k1, k2, k3, k4, k5⟩⟩
      · exact absurd ee hne
      · rw [ho] at ho'; cases ho'
      rw [hf] at hf'
      cases hf'
      obtain ⟨x1, hx1e⟩ : ∃ x1, x1 = x.fresh n := ⟨_, rfl⟩
      obtain ⟨pl1, hpl1e⟩ : ∃ pl1, pl1 = pl.take x.cls := ⟨_, rfl⟩
      have hx1 : x1.Ok := by rw [hx1e]; exact hok.fresh hn4 hnew
      have hof1 : x1.Of pl1 := by rw [hx1e, hpl1e]; exact hof.fresh hg hf
      obtain ⟨p, hpd⟩ : ∃ p, p = List.replicate x.blocks (-1 : Int) := ⟨_, rfl⟩
      have hp : (n, p) ∈ x1.pg := by rw [hx1e, hpd]; exact List.mem_append_right _ (by simp)
      have hgp := smGet_of hx1.nodup hp
      rw [← hx1e, hgp] at k3
      simp only [Option.getD_some] at k3
      rw [← hx1e, k3] at k1
      rw [k3] at k5
      have hb1 : x1.blocks = x.blocks := by rw [hx1e]; rfl
      have hbk := hok.blk
      have hpl : p.length = x1.blocks := by rw [hb1, hpd]; exact List.length_replicate
      have hnf : pgUsed p ≠ x1.blocks := by rw [hb1, hpd, pgUsed_new]; omega
      have ho1 : x1.opn = n :: [] := by rw [hx1e]; show n :: x.opn = _; rw [ho]
      rcases pos_cases (l := x1.pg) (n := (n : Int)) with ⟨hno, _⟩ | ⟨i, p0, m, hm, hgp0, hpos, hil0, hi⟩
      · rw [hgp] at hno; cases hno
      have hmn : m = n := by omega
      subst hmn
      rw [hgp] at hgp0
      cases hgp0
      rw [k1, k2, k4, k5, ee]
      rw [← hpl1e]
      refine Goes.call rfl (ref13_fresh r x pl m t w4 h4 hok hof hg hf) ?_
      rintro _ w5 ⟨r1, rfl, hR5, hK5, hw5⟩
      refine Goes.adv hTT 400 rfl ?_
      rw [← hx1e, ← hpl1e] at hR5
      have hs5 := hw5.size
      refine Goes.alloc hTT rfl ?_
      intro tb w6 e6 htb hw6 hz6
      refine Goes.adv hTT 400 rfl ?_
      refine Goes.store hTT rfl htb rfl rfl ?_
      intro w7 htb7 hs7 hz7
      refine Goes.adv hTT 400 rfl ?_
      replace htb7 : w7.heap[tb]? = some (.cells (rsL r1).toArray 45 (0, 0)) := htb7
      have hc57 : Chg None' w5 w7 := hw6.since hs7 (fun z hz e => by omega)
      have hc47 := hw5.trans hc57
      refine Goes.no hTT rfl rfl rfl ?_
      refine Goes.loads hTT rfl htb7 rfl rfl ?_
      have hkb7 := hc47.heap' hkb4
      have hlk7 := lt_of_heap hkb4
      refine Goes.store hTT rfl hkb7 rfl rfl ?_
      intro W hkb hsW hzW
      refine Goes.adv hTT 400 rfl ?_
      replace hkb : W.heap[kb]? = some (.cells (rsL r1).toArray 45 (0, 0)) := hkb
      have hok' : RsOut (fun z => z = kb) r1 := hK5 _ (fun z hz => by omega) (h.out (fun z hz => by omega))
      have hoq' : RsOut (fun z => z = qb) r1 := hK5 _ (fun z hz => by omega) (h.out (fun z hz => by omega))
      have hR := (hR5.grow hc57).far hok' hsW
      have hqW := hsW.heap (hc47.heap' hqb4) hqk
      have hcW : Chg None' w W := (hc04.trans hc47).since hsW (fun z hz e => by omega)
      have hkW : ∀ Q : Nat → Prop, (∀ z, Q z → z < w.heap.size) → RsOut Q r → RsOut Q r1 := fun Q hQ ho => hK5 Q (fun z hz => by have := hQ z hz; omega) ho
      obtain ⟨n, hnm⟩ : ∃ n, n = m := ⟨_, rfl⟩
      rw [← hnm] at hi hpos ho1 hp ⊢
      have hopl : 0 < r1.opn.x.length := by rw [hR.e5, ho1]; simp
      obtain ⟨ob, ooff, hopa, hopc⟩ := hR.opn.ok.rd 0 hopl
      have hop0 : r1.opn.x.getD 0 0 = n := by rw [hR.e5, ho1]; rfl
      rw [hop0] at hopc
      have hkb1 : W.heap[kb]? = some (.cells ([ilV r1.p.o, ilV r1.p.f, .int .i64 r1.cls, .int .i64 (r1.blocks : Int), ilV r1.nums, .slice r1.pa r1.ps.length r1.pcap, .slice (some ⟨ob, ooff, none⟩) r1.opn.x.length r1.opn.cap] : List Value).toArray 45 (0, 0)) := by rw [← hopa]; exact hkb
      refine Goes.loadb hTT rfl hkb1 rfl rfl ?_
      refine Goes.index hTT rfl (j := 0) (by omega) (by omega) (by first | rfl | omega | (simp; done) | (simp; omega)) rfl ?_
      refine Goes.load hTT rfl hopc rfl ?_
      refine Goes.loads hTT rfl hkb rfl rfl ?_
      refine Goes.call rfl (ref13_find r1 n W hR.nums) ?_
      rintro _ Wa ⟨rfl, hWa⟩
      refine Goes.adv hTT 400 rfl ?_
      obtain ⟨hf1, hf2, hf3⟩ := hR.few hx1 hof1
      rw [hR.e3, hpos]
      have hRa := hR.grow hWa
      have hkba := hWa.heap' hkb
      obtain ⟨l, hl, hlx, hlY⟩ := hRa.get hi
      obtain ⟨pb, poff, hpa, hpc⟩ := hRa.rp i l hl
      have hkb2 : Wa.heap[kb]? = some (.cells ([ilV r1.p.o, ilV r1.p.f, .int .i64 r1.cls, .int .i64 (r1.blocks : Int), ilV r1.nums, .slice (some ⟨pb, poff, none⟩) r1.ps.length r1.pcap, ilV r1.opn] : List Value).toArray 45 (0, 0)) := by rw [← hpa]; exact hkba
      have hil : i < r1.ps.length := (List.getElem?_eq_some_iff.1 hl).1
      refine Goes.loadb hTT rfl hkb2 rfl rfl ?_
      refine Goes.index hTT rfl (j := i) (by omega) (by omega) (by first | rfl | omega | (simp; done) | (simp; omega)) rfl ?_
      refine Goes.load hTT rfl hpc rfl ?_
      refine Goes.call rfl (ref12_Take l who Wa hlY.ok) ?_
      rintro _ Wb ⟨l', rfl, hlx', hlI', hWb, hlN⟩
      refine Goes.adv hTT 400 rfl ?_
      rw [hlx] at hlx' ⊢
      have hRb := hRa.grow hWb
      have hlp' : 0 < l'.x.length := by rw [hlx', pgTake_len, hpl]; have := hx1.blk; omega
      have hlY' : IlY Wb l' := IlY.of hlI' hlp'
      have hkbb := hWb.heap' hkba
      refine Goes.loads hTT rfl hkbb rfl rfl ?_
      refine Goes.call rfl (ref13_with r1 i l' Wb hRb.rp hil (by rw [hR.plen]; omega)) ?_
      rintro _ Wc ⟨pa', pcap', rfl, hp1, hp2, hp3, hp4, hWc⟩
      refine Goes.adv hTT 400 rfl ?_
      have hRc := (hRb.grow hWc).setPage hx1.nodup hi hlx' (hlY'.grow hWc) hp1 hp2 hp3
      have hWac := (hWa.trans hWb).trans hWc
      have hsa := hWa.size
      have hsb := hWb.size
      have hsc := hWc.size
      obtain ⟨r2, hr2⟩ : ∃ r2 : RS, r2 = { r1 with pa := pa', pcap := pcap', ps := r1.ps.set i l' } := ⟨_, rfl⟩
      have hk2 : ∀ Q : Nat → Prop, (∀ z, Q z → z < W.heap.size) → RsOut Q r1 → RsOut Q r2 := fun Q hQ ho => by
        rw [hr2]
        exact ho.setPage (hp4.out (fun z hz => by have := hQ z hz; omega)) (hlN.outS (ho.each l (List.mem_of_getElem? hl)) (fun z hz => by have := hQ z hz; omega))
      rw [← hr2] at hRc ⊢
      have hlk := lt_of_heap hkb
      have hlq := lt_of_heap hqW
      refine Goes.store hTT rfl (hWac.heap' hkb) rfl rfl ?_
      intro Wd hkbd hsd hzd
      refine Goes.adv hTT 400 rfl ?_
      replace hkbd : Wd.heap[kb]? = some (.cells (rsL r2).toArray 45 (0, 0)) := hkbd
      have hRd := hRc.far (hk2 _ (fun z hz => by omega) hok') hsd
      have hqd := hsd.heap (hWac.heap' hqW) hqk
      have hcd : Chg None' w Wd := (hcW.trans hWac).since hsd (fun z hz e => by omega)
      have hYd : IlY Wd l' := (hlY'.grow hWc).far (hlN.outS (hok'.each l (List.mem_of_getElem? hl)) (fun z hz => by omega)) hsd
      refine Goes.call rfl (ref12_Hole l' Wd hYd.ok) ?_
      rintro _ _ ⟨rfl, rfl⟩
      refine Goes.adv hTT 400 rfl ?_
      rw [hlx']
      have hfullI : pgHole (pgTake p who) < 0 ↔ pgUsed (pgTake p who) = x1.blocks := by rw [pgHole_full, pgTake_len, hpl]
      have eE : pgTakeE p who = 0 := (pgTake_ok hw0 (by rw [hpl]; exact hnf)).1
      have eA : pgTakeA p who = pgHole p := by unfold pgTakeA; rw [if_pos eE]
      rw [eA]
      refine Goes.fork hTT rfl rfl rfl (fun hfl => ?_) (fun hfl => ?_)
      · have gfl : pgHole (pgTake p who) < 0 := of_decide_eq_true hfl
        refine Goes.loadb hTT rfl hkbd rfl rfl ?_
        refine Goes.call rfl (ref13_without r2.opn n Wd hRd.opn) ?_
        rintro _ We ⟨ol, rfl, holx, holX, holF, hWe⟩
        refine Goes.adv hTT 400 rfl ?_
        have hse := hWe.size
        refine Goes.store hTT rfl (hWe.heap' hkbd) rfl rfl ?_
        intro Wf hkbf hsf hzf
        refine Goes.adv hTT 400 rfl ?_
        obtain ⟨r3, hr3⟩ : ∃ r3 : RS, r3 = { r2 with opn := ol } := ⟨_, rfl⟩
        replace hkbf : Wf.heap[kb]? = some (.cells (rsL r3).toArray 45 (0, 0)) := by rw [hr3]; exact hkbf
        have hk3 : ∀ Q : Nat → Prop, (∀ z, Q z → z < W.heap.size) → RsOut Q r1 → RsOut Q r3 := fun Q hQ ho => by
          rw [hr3]; exact (hk2 Q hQ ho).setOpn (holF.out (fun z hz => by have := hQ z hz; have := hsd.size; omega))
        have hxe : ({ { x1 with pg := smSet x1.pg n (pgTake p who) } with opn := x1.opn.filter (fun m => m != n) } : Sm) = x1.takeAt n p who := by
          unfold Sm.takeAt; rw [if_pos (hfullI.1 gfl)]
        have hRe : RsOk We r3 (x1.takeAt n p who) pl1 := by
          rw [hr3, ← hxe]
          exact (hRd.grow hWe).setOpn holX (by rw [holx, hRd.e5]; exact filter_cast _ _)
        have hRf := hRe.far (hk3 _ (fun z hz => by omega) hok') hsf
        refine Goes.loads hTT rfl hkbf rfl rfl ?_
        have hqf := hsf.heap (hWe.heap' hqd) hqk
        refine Goes.store hTT rfl hqf rfl rfl ?_
        intro Wg hqg hsg hzg
        refine Goes.adv hTT 400 rfl ?_
        replace hqg : Wg.heap[qb]? = some (.cells (rsL r3).toArray 45 (0, 0)) := hqg
        have hRg := hRf.far (hk3 _ (fun z hz => by omega) hoq') hsg
        exact Goes.ret hTT rfl Tryz.func76 (ResOk.cell rfl rfl rfl hqg rfl (.tmp rfl (.tmp rfl (.tmp rfl .nil)))) ⟨r3, rfl, hRg, fun Q hQ ho => hk3 Q (fun z hz => by have := hQ z hz; have := hcW.size; omega) (hkW Q hQ ho), ((hcd.trans hWe).since hsf (fun z hz e => by omega)).since hsg (fun z hz e => by omega)⟩
      · have gfl : ¬ pgHole (pgTake p who) < 0 := of_decide_eq_false hfl
        have hxe : ({ x1 with pg := smSet x1.pg n (pgTake p who) } : Sm) = x1.takeAt n p who := by
          unfold Sm.takeAt; rw [if_neg (fun e => gfl (hfullI.2 e))]
        rw [hxe] at hRd
        refine Goes.loads hTT rfl hkbd rfl rfl ?_
        refine Goes.store hTT rfl hqd rfl rfl ?_
        intro Wg hqg hsg hzg
        refine Goes.adv hTT 400 rfl ?_
        replace hqg : Wg.heap[qb]? = some (.cells (rsL r2).toArray 45 (0, 0)) := hqg
        have hRg := hRd.far (hk2 _ (fun z hz => by omega) hoq') hsg
        exact Goes.ret hTT rfl Tryz.func76 (ResOk.cell rfl rfl rfl hqg rfl (.tmp rfl (.tmp rfl (.tmp rfl .nil)))) ⟨r2, rfl, hRg, fun Q hQ ho => hk2 Q (fun z hz => by have := hQ z hz; have := hcW.size; omega) (hkW Q hQ ho), hcd.since hsg (fun z hz e => by omega)⟩
  | cons n t =>
    have ee : shTakeE x pl who = 0 := by unfold shTakeE; rw [if_neg (by omega), if_neg (by rw [ho]; simp)]
    rcases shTake_cases x pl who with ⟨hne, _⟩ | ⟨_, _, ⟨n', t', ho', k1, k2, k3, k4, k5⟩ | ⟨n', t', ho', _⟩⟩
    · exact absurd ee hne
    · rw [ho] at ho'
      cases ho'
      obtain ⟨p, hp0⟩ := hok.osub n (by rw [ho]; simp)
      obtain ⟨x1, hx1e⟩ : ∃ x1, x1 = x := ⟨_, rfl⟩
      obtain ⟨pl1, hpl1e⟩ : ∃ pl1, pl1 = pl := ⟨_, rfl⟩
      have hx1 : x1.Ok := by rw [hx1e]; exact hok
      have hof1 : x1.Of pl1 := by rw [hx1e, hpl1e]; exact hof
      have hp : (n, p) ∈ x1.pg := by rw [hx1e]; exact hp0
      have hgp := smGet_of hx1.nodup hp
      have hgx := hgp
      rw [hx1e] at hgx
      rw [hgx] at k3
      simp only [Option.getD_some] at k3
      rw [k3] at k1 k5
      have hpl : p.length = x1.blocks := by rw [hx1e]; exact (hok.each _ hp0).2.1
      have hnf : pgUsed p ≠ x1.blocks := by rw [hx1e]; exact (hok.each _ hp0).2.2.1 (by rw [ho]; simp)
      have ho1 : x1.opn = n :: t := by rw [hx1e]; exact ho
      rcases pos_cases (l := x1.pg) (n := (n : Int)) with ⟨hno, _⟩ | ⟨i, p0, m, hm, hgp0, hpos, hil0, hi⟩
      · rw [hgp] at hno; cases hno
      have hmn : m = n := by omega
      subst hmn
      rw [hgp] at hgp0
      cases hgp0
      rw [k1, k2, k4, k5, ee, ← hx1e]
      rw [← hpl1e]
      refine Goes.no hTT rfl (by simp; omega) rfl ?_
      obtain ⟨r1, hr1⟩ : ∃ r1, r1 = r := ⟨_, rfl⟩
      obtain ⟨W, hW⟩ : ∃ W, W = w4 := ⟨_, rfl⟩
      have hR : RsOk W r1 x1 pl1 := by rw [hW, hr1, hx1e, hpl1e]; exact h4
      have hkb : W.heap[kb]? = some (.cells (rsL r1).toArray 45 (0, 0)) := by rw [hW, hr1]; exact hkb4
      have hok' : RsOut (fun z => z = kb) r1 := by rw [hr1]; exact h.out (fun z hz => by omega)
      have hoq' : RsOut (fun z => z = qb) r1 := by rw [hr1]; exact h.out (fun z hz => by omega)
      have hqW := hqb4
      rw [← hW] at hqW
      have hcW : Chg None' w W := by rw [hW]; exact hc04
      have hkW : ∀ Q : Nat → Prop, (∀ z, Q z → z < w.heap.size) → RsOut Q r → RsOut Q r1 := fun Q hQ ho => by rw [hr1]; exact ho
      have hgoal : ∀ {X : World → Prop}, X W → X w4 := fun h => hW ▸ h
      refine hgoal (X := fun w2 => Goes _ _ _ _ _ _ _ w2) ?_
      obtain ⟨n, hnm⟩ : ∃ n, n = m := ⟨_, rfl⟩
      rw [← hnm] at hi hpos ho1 hp ⊢
      have hopl : 0 < r1.opn.x.length := by rw [hR.e5, ho1]; simp
      obtain ⟨ob, ooff, hopa, hopc⟩ := hR.opn.ok.rd 0 hopl
      have hop0 : r1.opn.x.getD 0 0 = n := by rw [hR.e5, ho1]; rfl
      rw [hop0] at hopc
      have hkb1 : W.heap[kb]? = some (.cells ([ilV r1.p.o, ilV r1.p.f, .int .i64 r1.cls, .int .i64 (r1.blocks : Int), ilV r1.nums, .slice r1.pa r1.ps.length r1.pcap, .slice (some ⟨ob, ooff, none⟩) r1.opn.x.length r1.opn.cap] : List Value).toArray 45 (0, 0)) := by rw [← hopa]; exact hkb
      refine Goes.loadb hTT rfl hkb1 rfl rfl ?_
      refine Goes.index hTT rfl (j := 0) (by omega) (by omega) (by first | rfl | omega | (simp; done) | (simp; omega)) rfl ?_
      refine Goes.load hTT rfl hopc rfl ?_
      refine Goes.loads hTT rfl hkb rfl rfl ?_
      refine Goes.call rfl (ref13_find r1 n W hR.nums) ?_
      rintro _ Wa ⟨rfl, hWa⟩
      refine Goes.adv hTT 400 rfl ?_
      obtain ⟨hf1, hf2, hf3⟩ := hR.few hx1 hof1
      rw [hR.e3, hpos]
      have hRa := hR.grow hWa
      have hkba := hWa.heap' hkb
      obtain ⟨l, hl, hlx, hlY⟩ := hRa.get hi
      obtain ⟨pb, poff, hpa, hpc⟩ := hRa.rp i l hl
      have hkb2 : Wa.heap[kb]? = some (.cells ([ilV r1.p.o, ilV r1.p.f, .int .i64 r1.cls, .int .i64 (r1.blocks : Int), ilV r1.nums, .slice (some ⟨pb, poff, none⟩) r1.ps.length r1.pcap, ilV r1.opn] : List Value).toArray 45 (0, 0)) := by rw [← hpa]; exact hkba
      have hil : i < r1.ps.length := (List.getElem?_eq_some_iff.1 hl).1
      refine Goes.loadb hTT rfl hkb2 rfl rfl ?_
      refine Goes.index hTT rfl (j := i) (by omega) (by omega) (by first | rfl | omega | (simp; done) | (simp; omega)) rfl ?_
      refine Goes.load hTT rfl hpc rfl ?_
      refine Goes.call rfl (ref12_Take l who Wa hlY.ok) ?_
      rintro _ Wb ⟨l', rfl, hlx', hlI', hWb, hlN⟩
      refine Goes.adv hTT 400 rfl ?_
      rw [hlx] at hlx' ⊢
      have hRb := hRa.grow hWb
      have hlp' : 0 < l'.x.length := by rw [hlx', pgTake_len, hpl]; have := hx1.blk; omega
      have hlY' : IlY Wb l' := IlY.of hlI' hlp'
      have hkbb := hWb.heap' hkba
      refine Goes.loads hTT rfl hkbb rfl rfl ?_
      refine Goes.call rfl (ref13_with r1 i l' Wb hRb.rp hil (by rw [hR.plen]; omega)) ?_
      rintro _ Wc ⟨pa', pcap', rfl, hp1, hp2, hp3, hp4, hWc⟩
      refine Goes.adv hTT 400 rfl ?_
      have hRc := (hRb.grow hWc).setPage hx1.nodup hi hlx' (hlY'.grow hWc) hp1 hp2 hp3
      have hWac := (hWa.trans hWb).trans hWc
      have hsa := hWa.size
      have hsb := hWb.size
      have hsc := hWc.size
      obtain ⟨r2, hr2⟩ : ∃ r2 : RS, r2 = { r1 with pa := pa', pcap := pcap', ps := r1.ps.set i l' } := ⟨_, rfl⟩
      have hk2 : ∀ Q : Nat → Prop, (∀ z, Q z → z < W.heap.size) → RsOut Q r1 → RsOut Q r2 := fun Q hQ ho => by
        rw [hr2]
        exact ho.setPage (hp4.out (fun z hz => by have := hQ z hz; omega)) (hlN.outS (ho.each l (List.mem_of_getElem? hl)) (fun z hz => by have := hQ z hz; omega))
      rw [← hr2] at hRc ⊢
      have hlk := lt_of_heap hkb
      have hlq := lt_of_heap hqW
      refine Goes.store hTT rfl (hWac.heap' hkb) rfl rfl ?_
      intro Wd hkbd hsd hzd
      refine Goes.adv hTT 400 rfl ?_
      replace hkbd : Wd.heap[kb]? = some (.cells (rsL r2).toArray 45 (0, 0)) := hkbd
      have hRd := hRc.far (hk2 _ (fun z hz => by omega) hok') hsd
      have hqd := hsd.heap (hWac.heap' hqW) hqk
      have hcd : Chg None' w Wd := (hcW.trans hWac).since hsd (fun z hz e => by omega)
      have hYd : IlY Wd l' := (hlY'.grow hWc).far (hlN.outS (hok'.each l (List.mem_of_getElem? hl)) (fun z hz => by omega)) hsd
      refine Goes.call rfl (ref12_Hole l' Wd hYd.ok) ?_
      rintro _ _ ⟨rfl, rfl⟩
      refine Goes.adv hTT 400 rfl ?_
      rw [hlx']
      have hfullI : pgHole (pgTake p who) < 0 ↔ pgUsed (pgTake p who) = x1.blocks := by rw [pgHole_full, pgTake_len, hpl]
      have eE : pgTakeE p who = 0 := (pgTake_ok hw0 (by rw [hpl]; exact hnf)).1
      have eA : pgTakeA p who = pgHole p := by unfold pgTakeA; rw [if_pos eE]
      rw [eA]
      refine Goes.fork hTT rfl rfl rfl (fun hfl => ?_) (fun hfl => ?_)
      · have gfl : pgHole (pgTake p who) < 0 := of_decide_eq_true hfl
        refine Goes.loadb hTT rfl hkbd rfl rfl ?_
        refine Goes.call rfl (ref13_without r2.opn n Wd hRd.opn) ?_
        rintro _ We ⟨ol, rfl, holx, holX, holF, hWe⟩
        refine Goes.adv hTT 400 rfl ?_
        have hse := hWe.size
        refine Goes.store hTT rfl (hWe.heap' hkbd) rfl rfl ?_
        intro Wf hkbf hsf hzf
        refine Goes.adv hTT 400 rfl ?_
        obtain ⟨r3, hr3⟩ : ∃ r3 : RS, r3 = { r2 with opn := ol } := ⟨_, rfl⟩
        replace hkbf : Wf.heap[kb]? = some (.cells (rsL r3).toArray 45 (0, 0)) := by rw [hr3]; exact hkbf
        have hk3 : ∀ Q : Nat → Prop, (∀ z, Q z → z < W.heap.size) → RsOut Q r1 → RsOut Q r3 := fun Q hQ ho => by
          rw [hr3]; exact (hk2 Q hQ ho).setOpn (holF.out (fun z hz => by have := hQ z hz; have := hsd.size; omega))
        have hxe : ({ { x1 with pg := smSet x1.pg n (pgTake p who) } with opn := x1.opn.filter (fun m => m != n) } : Sm) = x1.takeAt n p who := by
          unfold Sm.takeAt; rw [if_pos (hfullI.1 gfl)]
        have hRe : RsOk We r3 (x1.takeAt n p who) pl1 := by
          rw [hr3, ← hxe]
          exact (hRd.grow hWe).setOpn holX (by rw [holx, hRd.e5]; exact filter_cast _ _)
        have hRf := hRe.far (hk3 _ (fun z hz => by omega) hok') hsf
        refine Goes.loads hTT rfl hkbf rfl rfl ?_
        have hqf := hsf.heap (hWe.heap' hqd) hqk
        refine Goes.store hTT rfl hqf rfl rfl ?_
        intro Wg hqg hsg hzg
        refine Goes.adv hTT 400 rfl ?_
        replace hqg : Wg.heap[qb]? = some (.cells (rsL r3).toArray 45 (0, 0)) := hqg
        have hRg := hRf.far (hk3 _ (fun z hz => by omega) hoq') hsg
        exact Goes.ret hTT rfl Tryz.func76 (ResOk.cell rfl rfl rfl hqg rfl (.tmp rfl (.tmp rfl (.tmp rfl .nil)))) ⟨r3, rfl, hRg, fun Q hQ ho => hk3 Q (fun z hz => by have := hQ z hz; have := hcW.size; omega) (hkW Q hQ ho), ((hcd.trans hWe).since hsf (fun z hz e => by omega)).since hsg (fun z hz e => by omega)⟩
      · have gfl : ¬ pgHole (pgTake p who) < 0 := of_decide_eq_false hfl
        have hxe : ({ x1 with pg := smSet x1.pg n (pgTake p who) } : Sm) = x1.takeAt n p who := by
          unfold Sm.takeAt; rw [if_neg (fun e => gfl (hfullI.2 e))]
        rw [hxe] at hRd
        refine Goes.loads hTT rfl hkbd rfl rfl ?_
        refine Goes.store hTT rfl hqd rfl rfl ?_
        intro Wg hqg hsg hzg
        refine Goes.adv hTT 400 rfl ?_
        replace hqg : Wg.heap[qb]? = some (.cells (rsL r2).toArray 45 (0, 0)) := hqg
        have hRg := hRd.far (hk2 _ (fun z hz => by omega) hoq') hsg
        exact Goes.ret hTT rfl Tryz.func76 (ResOk.cell rfl rfl rfl hqg rfl (.tmp rfl (.tmp rfl (.tmp rfl .nil)))) ⟨r2, rfl, hRg, fun Q hQ ho => hk2 Q (fun z hz => by have := hQ z hz; have := hcW.size; omega) (hkW Q hQ ho), hcd.since hsg (fun z hz e => by omega)⟩
    · rw [ho] at ho'; cases ho'
end Go.Proofs.YtkiionjcapnepaaGreatDoor
/-
  Layer 13: what the document says of a shelf: handing on; what is told; a new one.
-/
namespace Go.Proofs.YtkiionjcapnepaaGreatDoor
open Go.RowKit

theorem pos_neg {l : PgL} {n : Int} (h : smGet l n = none) : posI (l.map fun e => ((e.1 : Nat) : Int)) n = -1 := by
  rcases pos_cases (l := l) (n := n) with ⟨_, h1⟩ | ⟨_, _, _, _, h1, _⟩
  · exact h1
  · rw [h] at h1; cases h1
theorem pos_some {l : PgL} {n : Int} {p : List Int} (h : smGet l n = some p) : ∃ (i m : Nat), n = m ∧ posI (l.map fun e => ((e.1 : Nat) : Int)) n = (i : Int) ∧ i < l.length ∧ l[i]? = some (m, p) := by
  rcases pos_cases (l := l) (n := n) with ⟨h1, _⟩ | ⟨i, p', m, h0, h1, h2, h3, h4⟩
  · rw [h] at h1; cases h1
  · rw [h] at h1; cases h1
    exact ⟨i, m, h0, h2, h3, h4⟩
theorem ref13_Owner (r : RS) (x : Sm) (pl : PlM) (n i : Int) (w : World) (h : RsOk w r x pl) (hok : x.Ok) (hof : x.Of pl) : Does Tryz.prog 94 #[.agg (rsL r).toArray, .int .i64 n, .int .i64 i] w (Grow (.int .i64 (shOwner x n i)) w) := by
  refine Does.enter Tryz.func94 rfl Tryz.ntmps94 rfl rfl ?_
  refine Goes.adv hTT 400 rfl ?_
  refine Goes.alloc hTT rfl ?_
  intro rb w1 e1 hrb hw1 hz1
  refine Goes.adv hTT 400 rfl ?_
  replace hrb : w1.heap[rb]? = some (.cells (rsL r).toArray 45 (0, 0)) := hrb
  refine Goes.loads hTT rfl hrb rfl rfl ?_
  refine Goes.call rfl (ref13_find r n w1 (h.nums.grow hw1)) ?_
  rintro _ w2 ⟨rfl, hw2⟩
  refine Goes.adv hTT 400 rfl ?_
  have hw02 := hw1.trans hw2
  rw [h.e3]
  unfold shOwner
  cases hg : smGet x.pg n with
  | none =>
    rw [pos_neg hg]
    refine Goes.yes hTT rfl rfl rfl ?_
    exact Goes.ret1 hTT rfl Tryz.func94 rfl rfl ⟨rfl, hw02⟩
  | some p =>
    obtain ⟨k, m, rfl, hpos, hkl, hk⟩ := pos_some hg
    rw [hpos]
    have h2 := h.grow hw02
    obtain ⟨l, hl, hlx, hlY⟩ := h2.get hk
    obtain ⟨pb, poff, hpa, hpc⟩ := h2.rp k l hl
    have hrb2 := hw2.heap' hrb
    have hrb3 : w2.heap[rb]? = some (.cells ([ilV r.p.o, ilV r.p.f, .int .i64 r.cls, .int .i64 (r.blocks : Int), ilV r.nums, .slice (some ⟨pb, poff, none⟩) r.ps.length r.pcap, ilV r.opn] : List Value).toArray 45 (0, 0)) := by rw [← hpa]; exact hrb2
    have hil : k < r.ps.length := (List.getElem?_eq_some_iff.1 hl).1
    refine Goes.no hTT rfl (decide_eq_false (by omega)) rfl ?_
    refine Goes.loadb hTT rfl hrb3 rfl rfl ?_
    refine Goes.index hTT rfl (j := k) (by omega) (by omega) (by first | rfl | omega | (simp; done) | (simp; omega)) rfl ?_
    refine Goes.load hTT rfl hpc rfl ?_
    refine Goes.call rfl (ref12_Owner l i w2 hlY.ok) ?_
    rintro _ _ ⟨rfl, rfl⟩
    refine Goes.adv hTT 400 rfl ?_
    exact Goes.ret1 hTT rfl Tryz.func94 rfl rfl ⟨int_v (by rw [hlx]), hw02⟩
theorem smUsed_take : ∀ (l : PgL) (k : Nat) (e : Nat × List Int), l[k]? = some e → smUsed (l.take (k + 1)) = smUsed (l.take k) + pgUsed e.2
  | (a, p) :: r, 0, e, h => by
    have : (a, p) = e := by simpa using h
    subst this
    simp [smUsed]
  | (a, p) :: r, k + 1, e, h => by
    have ih := smUsed_take r k e (by simpa using h)
    rw [List.take_succ_cons, List.take_succ_cons]
    simp only [smUsed]
    omega
theorem ref13_Used (r : RS) (x : Sm) (pl : PlM) (w : World) (h : RsOk w r x pl) (hok : x.Ok) (hof : x.Of pl) : Does Tryz.prog 54 #[.agg (rsL r).toArray] w (Grow (.int .i64 (smUsed x.pg : Nat)) w) := by
  have hfew := hok.few
  have hpl := h.plen
  refine Does.enter Tryz.func54 rfl Tryz.ntmps54 rfl rfl ?_
  refine Goes.adv hTT 400 rfl ?_
  refine Goes.alloc hTT rfl ?_
  intro rb w1 e1 hrb hw1 hz1
  refine Goes.adv hTT 400 rfl ?_
  replace hrb : w1.heap[rb]? = some (.cells (rsL r).toArray 45 (0, 0)) := hrb
  have h1 := h.grow hw1
  refine Goes.loop (α := Nat) (fun i => [(1, false, .pointer (some ⟨rb, 0, none⟩)), (3, false, .int .i64 (smUsed (x.pg.take i) : Nat)), (4, false, .int .i64 i)])
    (fun i w' => i ≤ x.pg.length ∧ w' = w1) (fun i => x.pg.length - i) 0 ⟨rfl, rfl, rfl, trivial⟩ ⟨Nat.zero_le _, rfl⟩ ?_
  rintro i w2 ⟨hi, hw2⟩ ih
  subst hw2
  refine Goes.adv hTT 400 rfl ?_
  refine Goes.loadb hTT rfl hrb rfl rfl ?_
  refine Goes.fork hTT rfl rfl rfl (fun hc => ?_) (fun hc => ?_)
  · have hlt : i < x.pg.length := by have := of_decide_eq_true hc; omega
    have hk : x.pg[i]? = some x.pg[i] := List.getElem?_eq_getElem hlt
    obtain ⟨l, hl, hlx, hlY⟩ := h1.get (i := i) (m := x.pg[i].1) (p := x.pg[i].2) hk
    obtain ⟨pb, poff, hpa, hpc⟩ := h1.rp i l hl
    have hrb3 : w2.heap[rb]? = some (.cells ([ilV r.p.o, ilV r.p.f, .int .i64 r.cls, .int .i64 (r.blocks : Int), ilV r.nums, .slice (some ⟨pb, poff, none⟩) r.ps.length r.pcap, ilV r.opn] : List Value).toArray 45 (0, 0)) := by rw [← hpa]; exact hrb
    have hil : i < r.ps.length := (List.getElem?_eq_some_iff.1 hl).1
    refine Goes.loadb hTT rfl hrb3 rfl rfl ?_
    refine Goes.index hTT rfl (j := i) (by omega) (by omega) (by first | rfl | omega | (simp; done) | (simp; omega)) rfl ?_
    refine Goes.load hTT rfl hpc rfl ?_
    refine Goes.call rfl (ref12_Used l w2 hlY.ok) ?_
    rintro _ _ ⟨rfl, rfl⟩
    refine Goes.adv hTT 400 rfl ?_
    rw [hlx]
    have hst := smUsed_take x.pg i _ hk
    have hpu := pgUsed_le x.pg[i].2
    have hpe := (hok.each _ (List.getElem_mem hlt)).2.1
    have hb := hok.blk
    have htk : smUsed (x.pg.take i) ≤ 524288 := by
      have := smUsed_le (l := x.pg.take i) (b := x.blocks) (fun e he => (hok.each e (List.mem_of_mem_take he)).2.1)
      have h4 : (x.pg.take i).length * x.blocks ≤ 1024 * 512 := Nat.mul_le_mul (by rw [List.length_take]; omega) hb.2
      omega
    refine Goes.arith hTT rfl (w64 (by omega)) rfl ?_
    refine Goes.arith hTT rfl (w64 (by omega)) rfl ?_
    exact ih (i + 1) _ _ ⟨hlt, rfl⟩ (by omega) ⟨rfl, by show some (Value.int .i64 (((smUsed (x.pg.take i) : Nat) : Int) + (pgUsed x.pg[i].2 : Nat))) = some (.int .i64 (smUsed (x.pg.take (i + 1)) : Nat)); exact int_s (by omega), rfl, trivial⟩
  · have hge : i = x.pg.length := by have := of_decide_eq_false hc; omega
    subst hge
    exact Goes.ret1 hTT rfl Tryz.func54 rfl rfl ⟨int_v (by rw [List.take_length]), hw1⟩
theorem ref13_Own (r : RS) (x : Sm) (pl : PlM) (n i who : Int) (w : World) (h : RsOk w r x pl) (hok : x.Ok) (hof : x.Of pl) : Does Tryz.prog 82 #[.agg (rsL r).toArray, .int .i64 n, .int .i64 i, .int .i64 who] w
    (fun v w' => ∃ r', v = .tuple #[.agg (rsL r').toArray, .int .i64 (shOwnE x n i who)] ∧ RsOk w' r' (shOwn x n i who) pl ∧ Keep w r r' ∧ Chg None' w w') := by
  obtain ⟨hf1, hf2, hf3⟩ := h.few hok hof
  refine Does.enter Tryz.func82 rfl Tryz.ntmps82 rfl rfl ?_
  refine Goes.adv hTT 400 rfl ?_
  refine Goes.alloc hTT rfl ?_
  intro rb w1 e1 hrb hw1 hz1
  refine Goes.adv hTT 400 rfl ?_
  refine Goes.alloc hTT rfl ?_
  intro qb w2 e2 hqb hw2 hz2
  refine Goes.adv hTT 400 rfl ?_
  replace hrb : w1.heap[rb]? = some (.cells (rsL r).toArray 45 (0, 0)) := hrb
  have hrb2 := hw2.heap' hrb
  have hw02 := hw1.trans hw2
  have hs02 := hw02.size
  refine Goes.loads hTT rfl hrb2 rfl rfl ?_
  refine Goes.call rfl (ref13_find r n w2 (h.nums.grow hw02)) ?_
  rintro _ w3 ⟨rfl, hw3⟩
  refine Goes.adv hTT 400 rfl ?_
  have hw03 := hw02.trans hw3
  have hrb3 := hw3.heap' hrb2
  have hqb3 := hw3.heap' hqb
  have h3 := h.grow hw03
  have hs3 := hw3.size
  rw [h.e3]
  have hlq := lt_of_heap hqb
  cases hg : smGet x.pg n with
  | none =>
    rw [show shOwnE x n i who = 1 from by unfold shOwnE; rw [hg], show shOwn x n i who = x from by unfold shOwn; rw [hg], pos_neg hg]
    refine Goes.yes hTT rfl rfl rfl ?_
    refine Goes.loads hTT rfl hrb3 rfl rfl ?_
    refine Goes.store hTT rfl hqb3 rfl rfl ?_
    intro w4 hqb4 hs4 hz4
    refine Goes.adv hTT 400 rfl ?_
    replace hqb4 : w4.heap[qb]? = some (.cells (rsL r).toArray 45 (0, 0)) := hqb4
    exact Goes.ret hTT rfl Tryz.func82 (ResOk.cell rfl rfl rfl hqb4 rfl (.tmp rfl .nil)) ⟨r, rfl, h3.far (h.out (fun z hz => by have := hw1.size; omega)) hs4, Keep.refl _ _, hw03.since hs4 (fun z hz e => by have := hw1.size; omega)⟩
  | some p =>
    obtain ⟨k, m, rfl, hpos, hkl, hk⟩ := pos_some hg
    rw [hpos, show shOwnE x m i who = pgOwnE p i who from by unfold shOwnE; rw [hg], show shOwn x m i who = x.ownAt m p i who from by unfold shOwn; rw [hg]; rfl]
    obtain ⟨l, hl, hlx, hlY⟩ := h3.get hk
    obtain ⟨pb, poff, hpa, hpc⟩ := h3.rp k l hl
    have hrb4 : w3.heap[rb]? = some (.cells ([ilV r.p.o, ilV r.p.f, .int .i64 r.cls, .int .i64 (r.blocks : Int), ilV r.nums, .slice (some ⟨pb, poff, none⟩) r.ps.length r.pcap, ilV r.opn] : List Value).toArray 45 (0, 0)) := by rw [← hpa]; exact hrb3
    have hil : k < r.ps.length := (List.getElem?_eq_some_iff.1 hl).1
    have hmem : (m, p) ∈ x.pg := List.mem_of_getElem? hk
    have hpl := (hok.each _ hmem).2.1
    refine Goes.no hTT rfl (decide_eq_false (by omega)) rfl ?_
    refine Goes.loadb hTT rfl hrb4 rfl rfl ?_
    refine Goes.index hTT rfl (j := k) (by omega) (by omega) (by first | rfl | omega | (simp; done) | (simp; omega)) rfl ?_
    refine Goes.load hTT rfl hpc rfl ?_
    refine Goes.call rfl (ref12_Own l i who w3 hlY.ok) ?_
    rintro _ w5 ⟨l', rfl, hlx', hlI', hw5, hlN⟩
    refine Goes.adv hTT 400 rfl ?_
    rw [hlx] at hlx' ⊢
    have hlY' : IlY w5 l' := IlY.of hlI' (by rw [hlx', pgOwnS_len]; have := hok.blk; simp only at hpl; omega)
    have h5 := h3.grow hw5
    have hrb5 := hw5.heap' hrb3
    refine Goes.loads hTT rfl hrb5 rfl rfl ?_
    refine Goes.call rfl (ref13_with r k l' w5 h5.rp hil (by rw [h.plen]; omega)) ?_
    rintro _ w6 ⟨pa', pcap', rfl, hp1, hp2, hp3, hp4, hw6⟩
    refine Goes.adv hTT 400 rfl ?_
    have h6 := (h5.grow hw6).setPage hok.nodup hk hlx' (hlY'.grow hw6) hp1 hp2 hp3
    obtain ⟨r2, hr2⟩ : ∃ r2 : RS, r2 = { r with pa := pa', pcap := pcap', ps := r.ps.set k l' } := ⟨_, rfl⟩
    have hs5 := hw5.size
    have hs6 := hw6.size
    have hk2 : ∀ Q : Nat → Prop, (∀ z, Q z → z < w3.heap.size) → RsOut Q r → RsOut Q r2 := fun Q hQ ho => by
      rw [hr2]
      exact ho.setPage (hp4.out (fun z hz => by have := hQ z hz; omega)) (hlN.outS (ho.each l (List.mem_of_getElem? hl)) (fun z hz => by have := hQ z hz; omega))
    rw [← hr2] at h6 ⊢
    have hc06 := (hw03.trans hw5).trans hw6
    refine Goes.alloc hTT rfl ?_
    intro tb w7 e7 htb hw7 hz7
    refine Goes.adv hTT 400 rfl ?_
    refine Goes.store hTT rfl htb rfl rfl ?_
    intro w8 htb8 hs8 hz8
    refine Goes.adv hTT 400 rfl ?_
    replace htb8 : w8.heap[tb]? = some (.cells (rsL r2).toArray 45 (0, 0)) := htb8
    have hc68 : Chg None' w6 w8 := hw7.since hs8 (fun z hz e => by omega)
    have h8 := h6.grow hc68
    refine Goes.loads hTT rfl htb8 rfl rfl ?_
    refine Goes.store hTT rfl (((hw5.trans hw6).trans hc68).heap' hqb3) rfl rfl ?_
    intro w9 hqb9 hs9 hz9
    refine Goes.adv hTT 400 rfl ?_
    replace hqb9 : w9.heap[qb]? = some (.cells (rsL r2).toArray 45 (0, 0)) := hqb9
    exact Goes.ret hTT rfl Tryz.func82 (ResOk.cell rfl rfl rfl hqb9 rfl (.tmp rfl .nil)) ⟨r2, rfl, h8.far (hk2 _ (fun z hz => by omega) (h.out (fun z hz => by have := hw1.size; omega))) hs9, fun Q hQ ho => hk2 Q (fun z hz => by have := hQ z hz; omega) ho, (hc06.trans hc68).since hs9 (fun z hz e => by have := hw1.size; omega)⟩
end Go.Proofs.YtkiionjcapnepaaGreatDoor
/-
  Layer 13: what the document says of a shelf: what may move.
-/
namespace Go.Proofs.YtkiionjcapnepaaGreatDoor
open Go.RowKit

theorem lastI_get : ∀ {l : List Nat} (p : Int), 0 < l.length → lastI p l = ((l.getD (l.length - 1) 0 : Nat) : Int)
  | [a], p, _ => rfl
  | a :: b :: r, p, _ => by
    have ih := lastI_get (l := b :: r) (a : Int) (by simp)
    show lastI a (b :: r) = _
    rw [ih]
    simp
set_option maxRecDepth 100000 in
theorem ref13_Plan (r : RS) (x : Sm) (pl : PlM) (w : World) (h : RsOk w r x pl) (hok : x.Ok) : Does Tryz.prog 93 #[.agg (rsL r).toArray] w (Grow (.tuple #[.agg (shPlanL x).toArray, .bool (shPlanB x)]) w) := by
  have hopL : r.opn.x.length = x.opn.length := by rw [h.e5]; simp
  have hfew := hok.few
  unfold shPlanL shPlanB
  refine Does.enter Tryz.func93 rfl Tryz.ntmps93 rfl rfl ?_
  refine Goes.adv hTT 400 rfl ?_
  refine Goes.alloc hTT rfl ?_
  intro rb w1 e1 hrb hw1 hz1
  refine Goes.adv hTT 400 rfl ?_
  refine Goes.alloc hTT rfl ?_
  intro qb w2 e2 hqb hw2 hz2
  refine Goes.adv hTT 400 rfl ?_
  replace hrb : w1.heap[rb]? = some (.cells (rsL r).toArray 45 (0, 0)) := hrb
  have hrb2 := hw2.heap' hrb
  have hw02 := hw1.trans hw2
  refine Goes.loadb hTT rfl hrb2 rfl rfl ?_
  rw [hopL]
  by_cases ho : 2 ≤ x.opn.length
  · rw [if_pos ho, decide_eq_true ho]
    have hlast : ∃ k ∈ x.opn, lastI (-1) x.opn = (k : Int) := by
      rcases lastI_mem (-1) x.opn with ⟨e, _⟩ | ⟨a, ha, e, _⟩
      · rw [e] at ho; simp at ho
      · exact ⟨a, ha, e⟩
    have hhead : ∃ k ∈ x.opn, headI x.opn = (k : Int) := by
      cases hx : x.opn with
      | nil => rw [hx] at ho; simp at ho
      | cons a r => exact ⟨a, by simp, rfl⟩
    obtain ⟨a, ha, ea⟩ := hlast
    obtain ⟨b, hb, eb⟩ := hhead
    obtain ⟨p, hp⟩ := hok.osub a ha
    obtain ⟨q, hq⟩ := hok.osub b hb
    have gp := smGet_of hok.nodup hp
    have gq := smGet_of hok.nodup hq
    rw [ea, eb, gp, gq]
    simp only [Option.getD_some]
    obtain ⟨i, m, hm, hpos, hil, hi⟩ := pos_some gp
    obtain ⟨j, m', hm', hpos', hjl, hj⟩ := pos_some gq
    have h2 := h.grow hw02
    obtain ⟨l, hl, hlx, hlY⟩ := h2.get hi
    obtain ⟨l', hl', hlx', hlY'⟩ := h2.get hj
    obtain ⟨pb, poff, hpa, hpc⟩ := h2.rp i l hl
    obtain ⟨pb', poff', hpa', hpc'⟩ := h2.rp j l' hl'
    rw [hpa] at hpa'
    cases hpa'
    obtain ⟨ob, ooff, hoa, hoc⟩ := h2.opn.ok.rd (x.opn.length - 1) (by rw [hopL]; omega)
    obtain ⟨ob', ooff', hoa', hoc'⟩ := h2.opn.ok.rd 0 (by rw [hopL]; omega)
    rw [hoa] at hoa'
    cases hoa'
    have hv1 : r.opn.x.getD (x.opn.length - 1) 0 = (a : Int) := by
      rw [h.e5, ← ea, lastI_get (-1) (by omega), List.getD_eq_getElem?_getD, List.getElem?_map, List.getD_eq_getElem?_getD, List.getElem?_eq_getElem (show x.opn.length - 1 < x.opn.length by omega)]; rfl
    have hv0 : r.opn.x.getD 0 0 = (b : Int) := by
      rw [h.e5, ← eb]
      cases hx : x.opn with
      | nil => rw [hx] at ho; simp at ho
      | cons c t => rfl
    rw [hv1] at hoc
    rw [hv0] at hoc'
    have hil' : i < r.ps.length := (List.getElem?_eq_some_iff.1 hl).1
    have hjl' : j < r.ps.length := (List.getElem?_eq_some_iff.1 hl').1
    have hrb3 : w2.heap[rb]? = some (.cells ([ilV r.p.o, ilV r.p.f, .int .i64 r.cls, .int .i64 (r.blocks : Int), ilV r.nums, .slice (some ⟨pb, poff, none⟩) r.ps.length r.pcap, .slice (some ⟨ob, ooff, none⟩) r.opn.x.length r.opn.cap] : List Value).toArray 45 (0, 0)) := by rw [← hpa, ← hoa]; exact hrb2
    have hlen1 : ((x.opn.length : Int) - 1) = ((x.opn.length - 1 : Nat) : Int) := by omega
    refine Goes.no hTT rfl (decide_eq_false (by omega)) rfl ?_
    refine Goes.drawn (q := 10) None' hTT mixed (by kernel_rfl) rfl ?_
    intro hB
    refine Drawn.loadb hTT hB rfl hrb3 (by first | exact fun h => h | (intro h; omega) | assumption) rfl rfl ?_
    refine Drawn.loads hTT hB rfl hrb2 (by first | exact fun h => h | (intro h; omega) | assumption) rfl rfl ?_
    refine Drawn.loadb hTT hB rfl hrb3 (by first | exact fun h => h | (intro h; omega) | assumption) rfl rfl ?_
    refine Drawn.arith hTT hB rfl (w64 (by omega)) rfl ?_
    rw [hlen1]
    refine Drawn.index hTT hB rfl (j := (x.opn.length - 1)) (by omega) (by omega) (by first | rfl | omega | (simp; done) | (simp; omega)) rfl ?_
    refine Drawn.load hTT hB rfl hoc (by first | exact fun h => h | (intro h; omega) | assumption) rfl ?_
    refine Drawn.call hTT hB rfl (fun w' hw' => ref13_find r a w' (h2.nums.grow hw')) rfl ?_
    rw [h.e3, hpos]
    refine Drawn.nil hB ?_
    intro w3 hw3
    refine Goes.adv hTT 400 rfl ?_
    refine Goes.index hTT rfl (j := i) (by omega) (by omega) (by first | rfl | omega | (simp; done) | (simp; omega)) rfl ?_
    refine Goes.load hTT rfl (hw3.cell hpc id) rfl ?_
    have hrb33 := hw3.heap' hrb3
    have hrb32 := hw3.heap' hrb2
    have h3 := h2.grow hw3
    refine Goes.drawn (q := 8) None' hTT mixed (by kernel_rfl) rfl ?_
    intro hB
    refine Drawn.loadb hTT hB rfl hrb33 (by first | exact fun h => h | (intro h; omega) | assumption) rfl rfl ?_
    refine Drawn.loads hTT hB rfl hrb32 (by first | exact fun h => h | (intro h; omega) | assumption) rfl rfl ?_
    refine Drawn.loadb hTT hB rfl hrb33 (by first | exact fun h => h | (intro h; omega) | assumption) rfl rfl ?_
    refine Drawn.index hTT hB rfl (j := 0) (by omega) (by omega) (by first | rfl | omega | (simp; done) | (simp; omega)) rfl ?_
    refine Drawn.load hTT hB rfl (hw3.cell hoc' id) (by first | exact fun h => h | (intro h; omega) | assumption) rfl ?_
    refine Drawn.call hTT hB rfl (fun w' hw' => ref13_find r b w' (h3.nums.grow hw')) rfl ?_
    rw [h.e3, hpos']
    refine Drawn.nil hB ?_
    intro w4 hw4
    refine Goes.adv hTT 400 rfl ?_
    refine Goes.index hTT rfl (j := j) (by omega) (by omega) (by first | rfl | omega | (simp; done) | (simp; omega)) rfl ?_
    refine Goes.load hTT rfl ((hw3.trans hw4).cell hpc' id) rfl ?_
    have hw34 := hw3.trans hw4
    have hlY4 := hlY.grow hw34
    have hlY4' := hlY'.grow hw34
    have hrb43 := hw34.heap' hrb3
    refine Goes.drawn (q := 14) None' hTT mixed (by kernel_rfl) rfl ?_
    intro hB
    refine Drawn.loadb hTT hB rfl hrb43 (by first | exact fun h => h | (intro h; omega) | assumption) rfl rfl ?_
    refine Drawn.arith hTT hB rfl (w64 (by omega)) rfl ?_
    rw [hlen1]
    refine Drawn.index hTT hB rfl (j := (x.opn.length - 1)) (by omega) (by omega) (by first | rfl | omega | (simp; done) | (simp; omega)) rfl ?_
    refine Drawn.load hTT hB rfl (hw34.cell hoc id) (by first | exact fun h => h | (intro h; omega) | assumption) rfl ?_
    refine Drawn.call hTT hB rfl (fun w' hw' => (ref12_Top l w' (hlY4.ok.grow hw')).grow) rfl ?_
    refine Drawn.loadb hTT hB rfl hrb43 (by first | exact fun h => h | (intro h; omega) | assumption) rfl rfl ?_
    refine Drawn.index hTT hB rfl (j := 0) (by omega) (by omega) (by first | rfl | omega | (simp; done) | (simp; omega)) rfl ?_
    refine Drawn.load hTT hB rfl (hw34.cell hoc' id) (by first | exact fun h => h | (intro h; omega) | assumption) rfl ?_
    refine Drawn.call hTT hB rfl (fun w' hw' => (ref12_Hole l' w' (hlY4'.ok.grow hw')).grow) rfl ?_
    refine Drawn.nil hB ?_
    intro w5 hw5
    refine Goes.adv hTT 400 rfl ?_
    refine Goes.build hTT rfl rfl ?_
    rw [hlx, hlx']
    refine Goes.store hTT rfl ((hw34.trans hw5).heap' hqb) rfl rfl ?_
    intro w6 hqb6 hs6 hz6
    refine Goes.adv hTT 400 rfl ?_
    exact Goes.ret hTT rfl Tryz.func93 (ResOk.cell rfl rfl rfl hqb6 rfl (.tmp rfl .nil)) ⟨rfl, (hw02.trans (hw34.trans hw5)).since hs6 (fun z hz e => by have := hw1.size; omega)⟩
  · refine Goes.yes hTT rfl (decide_eq_true (by omega)) rfl ?_
    rw [if_neg ho, decide_eq_false ho]
    refine Goes.build hTT rfl rfl ?_
    refine Goes.store hTT rfl hqb rfl rfl ?_
    intro w3 hqb3 hs3 hz3
    refine Goes.adv hTT 400 rfl ?_
    exact Goes.ret hTT rfl Tryz.func93 (ResOk.cell rfl rfl rfl hqb3 rfl (.tmp rfl .nil)) ⟨rfl, hw02.since hs3 (fun z hz e => by have := hw1.size; omega)⟩
end Go.Proofs.YtkiionjcapnepaaGreatDoor
/-
  Layer 13: what the document says of a shelf: giving back.
-/
namespace Go.Proofs.YtkiionjcapnepaaGreatDoor
open Go.RowKit

theorem RdP.shift {w : World} {a : Option Addr} {ps : List IL} {cap lo k : Nat} (h : RdP w a ps) (hm : lo + k ≤ ps.length) (hc : ps.length ≤ cap) : RdP w (shiftA a cap lo 1) ((ps.drop lo).take k) := fun i l hl => by
  have hi : i < ((ps.drop lo).take k).length := (List.getElem?_eq_some_iff.1 hl).1
  have hi' : i < k := by rw [List.length_take] at hi; omega
  rw [List.getElem?_take, if_pos hi', List.getElem?_drop] at hl
  obtain ⟨b, off, rfl, hcell⟩ := h (lo + i) l hl
  have hcl : ¬ cap = lo := by omega
  refine ⟨b, off + lo, ?_, ?_⟩
  · simp only [shiftA, if_neg hcl, Option.map_some, Nat.mul_one, add_off]
  · rw [Nat.add_assoc]; exact hcell
theorem erase_map {α β : Type} (f : α → β) (l : List α) (k : Nat) : (l.take k ++ l.drop (k + 1)).map f = (l.map f).take k ++ (l.map f).drop (k + 1) := by
  rw [List.map_append, List.map_take, List.map_drop]
theorem Rd.noneA' {w : World} {a : Option Addr} {x : List Int} {k : IntKind} (h : Rd k w a x) {n : Nat} (hn : x.length = n) : a = none → n = 0 := fun e => by rw [← hn]; exact h.noneA e
set_option maxRecDepth 100000 in
theorem ref13_Give (r : RS) (x : Sm) (pl : PlM) (n i : Int) (w : World) (h : RsOk w r x pl) (hok : x.Ok) (hof : x.Of pl) (hg : pl.Good) : Does Tryz.prog 80 #[.agg (rsL r).toArray, .int .i64 n, .int .i64 i] w
    (fun v w' => ∃ r', v = .tuple #[.agg (rsL r').toArray, .int .i64 (shGiveE x n i)] ∧ RsOk w' r' (shGive x n i) (shGiveP x pl n i) ∧ Keep w r r' ∧ Chg None' w w') := by
  obtain ⟨hf1, hf2, hf3⟩ := h.few hok hof
  have hml : maxLen = 9223372036854775807 := rfl
  have hbk := hok.blk
  refine Does.enter Tryz.func80 rfl Tryz.ntmps80 rfl rfl ?_
  refine Goes.adv hTT 400 rfl ?_
  refine Goes.alloc hTT rfl ?_
  intro rb w1 e1 hrb hw1 hz1
  refine Goes.adv hTT 400 rfl ?_
  refine Goes.alloc hTT rfl ?_
  intro qb w2 e2 hqb hw2 hz2
  refine Goes.adv hTT 400 rfl ?_
  replace hrb : w1.heap[rb]? = some (.cells (rsL r).toArray 45 (0, 0)) := hrb
  have hrb2 := hw2.heap' hrb
  have hw02 := hw1.trans hw2
  have hs02 := hw02.size
  have hs01 := hw1.size
  refine Goes.loads hTT rfl hrb2 rfl rfl ?_
  refine Goes.call rfl (ref13_find r n w2 (h.nums.grow hw02)) ?_
  rintro _ w3 ⟨rfl, hw3⟩
  refine Goes.adv hTT 400 rfl ?_
  have hw03 := hw02.trans hw3
  have hrb3 := hw3.heap' hrb2
  have hqb3 := hw3.heap' hqb
  have h3 := h.grow hw03
  have hs3 := hw3.size
  rw [h.e3]
  have hlq := lt_of_heap hqb
  cases hgn : smGet x.pg n with
  | none =>
    rw [show shGiveE x n i = 1 from by unfold shGiveE; rw [hgn], show shGive x n i = x from by unfold shGive; rw [hgn], show shGiveP x pl n i = pl from by unfold shGiveP; rw [hgn], pos_neg hgn]
    refine Goes.yes hTT rfl rfl rfl ?_
    refine Goes.loads hTT rfl hrb3 rfl rfl ?_
    have hqf := hqb3
    refine Goes.store hTT rfl hqf rfl rfl ?_
    intro Wz hqz hsz hzz
    refine Goes.adv hTT 400 rfl ?_
    replace hqz : Wz.heap[qb]? = some (.cells (rsL r).toArray 45 (0, 0)) := hqz
    exact Goes.ret hTT rfl Tryz.func80 (ResOk.cell rfl rfl rfl hqz rfl (.tmp rfl .nil)) ⟨r, rfl, h3.far (h.out (fun z hz => by omega)) hsz, Keep.refl _ _, hw03.since hsz (fun z hz e => by omega)⟩
  | some p =>
    obtain ⟨k, m, rfl, hpos, hkl, hk⟩ := pos_some hgn
    rw [hpos]
    obtain ⟨l, hl, hlx, hlY⟩ := h3.get hk
    obtain ⟨pb, poff, hpa, hpc⟩ := h3.rp k l hl
    have hrb4 : w3.heap[rb]? = some (.cells ([ilV r.p.o, ilV r.p.f, .int .i64 r.cls, .int .i64 (r.blocks : Int), ilV r.nums, .slice (some ⟨pb, poff, none⟩) r.ps.length r.pcap, ilV r.opn] : List Value).toArray 45 (0, 0)) := by rw [← hpa]; exact hrb3
    have hil' : k < r.ps.length := (List.getElem?_eq_some_iff.1 hl).1
    have hmem : (m, p) ∈ x.pg := List.mem_of_getElem? hk
    have hpl := (hok.each _ hmem).2.1
    simp only at hpl
    refine Goes.no hTT rfl (decide_eq_false (by omega)) rfl ?_
    refine Goes.loadb hTT rfl hrb4 rfl rfl ?_
    refine Goes.index hTT rfl (j := k) (by omega) (by omega) (by first | rfl | omega | (simp; done) | (simp; omega)) rfl ?_
    refine Goes.load hTT rfl hpc rfl ?_
    refine Goes.call rfl (ref12_Hole l w3 hlY.ok) ?_
    rintro _ _ ⟨rfl, rfl⟩
    refine Goes.adv hTT 400 rfl ?_
    rw [hlx]
    refine Goes.loadb hTT rfl hrb4 rfl rfl ?_
    refine Goes.index hTT rfl (j := k) (by omega) (by omega) (by first | rfl | omega | (simp; done) | (simp; omega)) rfl ?_
    refine Goes.load hTT rfl hpc rfl ?_
    refine Goes.call rfl (ref12_Give l i w3 hlY.ok) ?_
    rintro _ w5 ⟨l', rfl, hlx', hlI', hw5, hlN⟩
    refine Goes.adv hTT 400 rfl ?_
    rw [hlx] at hlx' ⊢
    have hrb5 := hw5.heap' hrb3
    have hqb5 := hw5.heap' hqb3
    have hw05 := hw03.trans hw5
    have hs5 := hw5.size
    by_cases hE : pgGiveE p i = 0
    · rw [show shGiveE x m i = 0 from by unfold shGiveE; rw [hgn]; exact hE, show shGive x m i = x.giveAt m p i from by unfold shGive; rw [hgn]; simp only; rw [if_pos hE]; rfl, show shGiveP x pl m i = (if pgUsed (pgGive p i) = 0 then pl.give m else pl) from by unfold shGiveP; rw [hgn]; simp only [hE, true_and]; rfl, hE]
      refine Goes.no hTT rfl rfl rfl ?_
      have hlY' : IlY w5 l' := IlY.of hlI' (by rw [hlx', pgGive_len]; omega)
      have h5 := h3.grow hw5
      refine Goes.loads hTT rfl hrb5 rfl rfl ?_
      refine Goes.call rfl (ref13_with r k l' w5 h5.rp hil' (by rw [h.plen]; omega)) ?_
      rintro _ w6 ⟨pa', pcap', rfl, hp1, hp2, hp3, hp4, hw6⟩
      refine Goes.adv hTT 400 rfl ?_
      have h6 := (h5.grow hw6).setPage hok.nodup hk hlx' (hlY'.grow hw6) hp1 hp2 hp3
      have hs6 := hw6.size
      obtain ⟨r2, hr2⟩ : ∃ r2 : RS, r2 = { r with pa := pa', pcap := pcap', ps := r.ps.set k l' } := ⟨_, rfl⟩
      have hk2 : ∀ Q : Nat → Prop, (∀ z, Q z → z < w3.heap.size) → RsOut Q r → RsOut Q r2 := fun Q hQ ho => by
        rw [hr2]
        exact ho.setPage (hp4.out (fun z hz => by have := hQ z hz; omega)) (hlN.outS (ho.each l (List.mem_of_getElem? hl)) (fun z hz => by have := hQ z hz; omega))
      rw [← hr2] at h6 ⊢
      have hok2 : ∀ (z0 : Nat), w6.heap.size ≤ z0 → RsOut (fun z => z = z0) r2 := fun z0 hz0 => h6.out (fun z hz => by omega)
      refine Goes.alloc hTT rfl ?_
      intro kb w7 e7 hkb7 hw7 hz7
      refine Goes.adv hTT 400 rfl ?_
      refine Goes.store hTT rfl hkb7 rfl rfl ?_
      intro w8 hkb8 hs8 hz8
      refine Goes.adv hTT 400 rfl ?_
      replace hkb8 : w8.heap[kb]? = some (.cells (rsL r2).toArray 45 (0, 0)) := hkb8
      have hc68 : Chg None' w6 w8 := hw7.since hs8 (fun z hz e => by omega)
      have hs68 := hc68.size
      have h8 := h6.grow hc68
      have hc08 := (hw05.trans hw6).trans hc68
      have hrb8 := (hw6.trans hc68).heap' hrb5
      have hqb8 := (hw6.trans hc68).heap' hqb5
      have hlY8 := (hlY'.grow hw6).grow hc68
      have hlok : OutA (fun z => z = kb) l'.a := (hlY'.grow hw6).lt.out (fun z hz => by omega)
      have hor2 := hok2 kb (by omega)
      have hfullI : pgHole p < 0 ↔ pgUsed p = x.blocks := by rw [pgHole_full, hpl]
      refine Goes.fork hTT rfl rfl rfl (fun hful => ?_) (fun hful => ?_)
      · have gful : pgUsed p = x.blocks := hfullI.1 (of_decide_eq_true hful)
        refine Goes.buildSlice hTT rfl ?_
        intro b9 w9 e9 hb9 hw9 hz9
        refine Goes.adv hTT 400 rfl ?_
        refine Goes.loadb hTT rfl (hw9.heap' hkb8) rfl rfl ?_
        have ho9 : Own w8.heap.size 3 1 w9 (.slice (some ⟨b9, 0, none⟩) 1 1) 1 [.int .i64 (m : Int)] := Own.one (by omega) hb9
        have hopL : r2.opn.x.length = x.opn.length := by rw [h8.e5]; simp
        have hfo : x.opn.length + 1 ≤ 512 := by
          have hnn : m ∉ x.opn := fun hm => ((hok.each _ hmem).2.2.1 hm) gful
          have : (m :: x.opn).length ≤ pl.own.length := nodup_le _ _ (List.nodup_cons.2 ⟨hnn, hok.onodup⟩) (fun z hz => by
            rcases List.mem_cons.1 hz with rfl | hz
            · exact (hof _ hmem).1
            · obtain ⟨q, hq⟩ := hok.osub z hz; exact (hof _ hq).1)
          simp only [List.length_cons] at this
          omega
        refine Goes.appendA (base := w8.heap.size) (xs := [.int .i64 (m : Int)]) (news := r2.opn.x.map (Value.int .i64)) hTT rfl ho9 hw9.size h8.opn.ok.rd.noneA (by simp) (h8.opn.ok.rd.chg hw9).cellsA plain_i64 (by simp only; omega) ?_
        intro v10 w10 ho10 hs10 hv10
        have hw810 := ho9.since hw9 (Nat.le_refl _) hs10
        obtain ⟨ol, rfl, holx0, holX0, holB0⟩ := Own.il (x := (m : Int) :: r2.opn.x) (v := v10) (m := 1 + r2.opn.x.length) (show Own w8.heap.size 3 1 w10 v10 (1 + r2.opn.x.length) (((m : Int) :: r2.opn.x).map (Value.int .i64)) from ho10) (by simp; omega) (by simp; omega)
        refine Goes.adv hTT 400 rfl ?_
        have hs810 := hw810.size
        refine Goes.store hTT rfl (hw810.heap' hkb8) rfl rfl ?_
        intro W hkbW hsW hzW
        refine Goes.adv hTT 400 rfl ?_
        obtain ⟨r3, hr3⟩ : ∃ r3 : RS, r3 = { r2 with opn := ol } := ⟨_, rfl⟩
        have hkb : W.heap[kb]? = some (.cells (rsL r3).toArray 45 (0, 0)) := by rw [hr3]; exact hkbW
        obtain ⟨o, ho⟩ : ∃ o, o = (if pgUsed p = x.blocks then m :: x.opn else x.opn) := ⟨_, rfl⟩
        have hoe : o = m :: x.opn := by rw [ho, if_pos gful]
        have hlkb := lt_of_heap hkb8
        have holk : OutA (fun z => z = kb) ol.a := by intro b off s e hz; have := holB0 b off s e; omega
        have hok3 : RsOut (fun z => z = kb) r3 := by rw [hr3]; exact hor2.setOpn holk
        have hR3 : RsOk W r3 { x with pg := smSet x.pg m (pgGive p i), opn := o } pl := by
          have hor := hok3
          rw [hr3] at hor ⊢
          exact ((h8.grow hw810).setOpn (o := o) holX0 (by rw [holx0, h8.e5, hoe]; rfl)).far hor hsW
        have hk3 : ∀ Q : Nat → Prop, (∀ z, Q z → z < w3.heap.size) → RsOut Q r → RsOut Q r3 := fun Q hQ hro => by
          rw [hr3]; exact (hk2 Q hQ hro).setOpn (by intro b off s e hz; have := holB0 b off s e; have := hQ b hz; omega)
        have hcW2 : Chg None' w w6 := hw05.trans hw6
        have hcW : Chg None' w W := (hc08.trans hw810).since hsW (fun z hz e => by omega)
        have hrbW := hsW.heap (hw810.heap' hrb8) (show ¬ rb = kb by omega)
        have hqW := hsW.heap (hw810.heap' hqb8) (show ¬ qb = kb by omega)
        have hlYW := (hlY8.grow hw810).far hlok hsW
        refine Goes.call rfl (ref12_Used l' W hlYW.ok) ?_
        rintro _ _ ⟨rfl, rfl⟩
        refine Goes.adv hTT 400 rfl ?_
        rw [hlx']
        by_cases hu : pgUsed (pgGive p i) = 0
        · rw [show (if pgUsed (pgGive p i) = 0 then pl.give m else pl) = pl.give m from if_pos hu]
          refine Goes.no hTT rfl (by rw [hu]; rfl) rfl ?_
          have hge : x.giveAt m p i = { x with pg := smDel x.pg m, opn := o.filter (fun z => z != m) } := by unfold Sm.giveAt; simp only; rw [if_pos hu, ho]
          rw [hge]
          refine Goes.loadb hTT rfl hkb rfl rfl ?_
          refine Goes.call rfl (ref13_without r3.opn m W hR3.opn) ?_
          rintro _ Wa ⟨ol2, rfl, holx, holX, holF, hWa⟩
          refine Goes.adv hTT 400 rfl ?_
          have hsa := hWa.size
          refine Goes.store hTT rfl (hWa.heap' hkb) rfl rfl ?_
          intro Wb hkbb hsb hzb
          refine Goes.adv hTT 400 rfl ?_
          replace hkbb : Wb.heap[kb]? = some (.cells ([ilV r3.p.o, ilV r3.p.f, .int .i64 r3.cls, .int .i64 (r3.blocks : Int), ilV r3.nums, .slice r3.pa r3.ps.length r3.pcap, ilV ol2] : List Value).toArray 45 (0, 0)) := hkbb
          have nn : ∀ {a b : World}, Chg None' a b → Chg (fun z => z = kb) a b := fun h => h.mono fun _ _ h => h.elim
          have hcb : Chg None' w Wb := (hcW.trans hWa).since hsb (fun z hz e => by omega)
          have hsWb := hsb.size
          have hrbB := hsb.heap (hWa.heap' hrbW) (show ¬ rb = kb by omega)
          -- nums
          have hnX := h.nums.grow hcb
          have hnL : r.nums.x.length = x.pg.length := by rw [h.e3]; simp
          have hnC := h.nums.cap
          have hpC := h.pcap
          refine Goes.drawn (q := 11) None' hTT mixed (by kernel_rfl) rfl ?_
          intro hB
          refine Drawn.loadb hTT hB rfl hrbB (by first | exact fun h => h | (intro h; omega) | assumption) rfl rfl ?_
          refine Drawn.slice hTT hB rfl (l := 0) (h := k) (by first | rfl | omega | simp [loV]) (by first | rfl | omega | simp [hiV]) (by omega) (by omega) rfl ?_
          refine Drawn.loadb hTT hB rfl hrbB (by first | exact fun h => h | (intro h; omega) | assumption) rfl rfl ?_
          refine Drawn.arith hTT hB rfl (w64 (by omega)) rfl ?_
          refine Drawn.slice hTT hB rfl (l := (k+1)) (h := r.nums.x.length) (by first | rfl | omega | simp [loV]) (by first | rfl | omega | simp [hiV]) (by omega) (by omega) rfl ?_
          obtain ⟨hs1, hs1l⟩ := hnX.sl (lo := 0) (hi := k) (Nat.zero_le _) (by omega)
          obtain ⟨hs2, hs2l⟩ := hnX.sl (lo := k + 1) (hi := r.nums.x.length) (by omega) (Nat.le_refl _)
          refine Drawn.turn1 hB rfl ?_
          intro Wc hWc
          refine Turn.buildSlice hTT hB rfl (fun _ => rfl) ?_
          intro b1 Wd e1' hb1 hWd hzd
          refine Drawn.turn1 hB rfl ?_
          intro We hWe
          have ho1 : Own Wb.heap.size 3 1 We (.slice (some ⟨b1, 0, none⟩) 0 0) 0 [] := Own.empty (by have := hWc.size; omega) (hWe.heap' hb1)
          have hbe := (hWc.trans hWd).trans hWe
          refine Turn.appendA hTT hB rfl (base := Wb.heap.size) (xs := []) (news := (r.nums.sl 0 k).x.map (Value.int .i64)) ho1 hbe.size ((hs1.grow hbe).ok.rd.noneA' hs1l) (Nat.le_refl _) (by rw [List.length_map, hs1l, Nat.mul_one]) (hs1.grow hbe).ok.rd.cellsA plain_i64 (by simp only; omega) (fun _ => rfl) ?_
          intro v2 Wf ho2 hsf hv2
          obtain ⟨va, vn, vc, rfl⟩ := Own.isSlice ho2
          have hbf := ho1.since hbe (Nat.le_refl _) hsf
          refine Drawn.nil hB ?_
          intro Wg hWg
          refine Goes.adv hTT 400 rfl ?_
          have ho2g := ho2.chg hWg (fun _ _ h => h)
          have hbg := hbf.trans hWg
          refine Goes.appendA (base := Wb.heap.size) (news := (r.nums.sl (k + 1) r.nums.x.length).x.map (Value.int .i64)) hTT rfl ho2g hbg.size ((hs2.grow hbg).ok.rd.noneA' hs2l) (by rw [List.length_map, hs2l, Nat.mul_one]) (hs2.grow hbg).ok.rd.cellsA plain_i64 (by simp only; omega) ?_
          intro v3 Wh ho3 hsh hv3
          have hbh := ho2g.since hbg (Nat.le_refl _) hsh
          obtain ⟨nl, rfl, hnlx, hnlX, hnlB⟩ := Own.il (x := (r.nums.sl 0 k).x ++ (r.nums.sl (k + 1) r.nums.x.length).x) (v := v3) (by rw [List.map_append]; exact ho3) (by rw [List.length_append, hs1l, hs2l]; omega) (by rw [List.length_append, hs1l, hs2l]; omega)
          refine Goes.adv hTT 400 rfl ?_
          have hsBh := hbh.size
          refine Goes.store hTT rfl (hbh.heap' hkbb) rfl rfl ?_
          intro Wi hkbi hsi hzi
          refine Goes.adv hTT 400 rfl ?_
          replace hkbi : Wi.heap[kb]? = some (.cells ([ilV r3.p.o, ilV r3.p.f, .int .i64 r3.cls, .int .i64 (r3.blocks : Int), ilV nl, .slice r3.pa r3.ps.length r3.pcap, ilV ol2] : List Value).toArray 45 (0, 0)) := hkbi
          have hci : Chg None' w Wi := (hcb.trans hbh).since hsi (fun z hz e => by omega)
          have hrbI := hsi.heap (hbh.heap' hrbB) (show ¬ rb = kb by omega)
          -- pages
          have hrpI := h.rp.grow hci
          have hpL := h.plen
          refine Goes.drawn (q := 11) None' hTT mixed (by kernel_rfl) rfl ?_
          intro hB
          refine Drawn.loadb hTT hB rfl hrbI (by first | exact fun h => h | (intro h; omega) | assumption) rfl rfl ?_
          refine Drawn.slice hTT hB rfl (l := 0) (h := k) (by first | rfl | omega | simp [loV]) (by first | rfl | omega | simp [hiV]) (by omega) (by omega) rfl ?_
          refine Drawn.loadb hTT hB rfl hrbI (by first | exact fun h => h | (intro h; omega) | assumption) rfl rfl ?_
          refine Drawn.arith hTT hB rfl (w64 (by omega)) rfl ?_
          refine Drawn.slice hTT hB rfl (l := (k+1)) (h := r.ps.length) (by first | rfl | omega | simp [loV]) (by first | rfl | omega | simp [hiV]) (by omega) (by omega) rfl ?_
          have hq1 := hrpI.shift (cap := r.pcap) (lo := 0) (k := k) (by omega) h.pcap
          have hq2 := hrpI.shift (cap := r.pcap) (lo := k + 1) (k := r.ps.length - (k + 1)) (by omega) h.pcap
          have hq1l : ((r.ps.drop 0).take k).length = k := by rw [List.length_take, List.length_drop]; omega
          have hq2l : ((r.ps.drop (k + 1)).take (r.ps.length - (k + 1))).length = r.ps.length - (k + 1) := by rw [List.length_take, List.length_drop]; omega
          refine Drawn.turn1 hB rfl ?_
          intro Wj hWj
          refine Turn.buildSlice hTT hB rfl (fun _ => rfl) ?_
          intro b4 Wk e4' hb4 hWk hzk
          refine Drawn.turn1 hB rfl ?_
          intro Wl hWl
          have ho4 : Own Wi.heap.size 22 1 Wl (.slice (some ⟨b4, 0, none⟩) 0 0) 0 [] := Own.empty (by have := hWj.size; omega) (hWl.heap' hb4)
          have hil := (hWj.trans hWk).trans hWl
          refine Turn.appendA hTT hB rfl (base := Wi.heap.size) (xs := []) (news := ((r.ps.drop 0).take k).map ilV) ho4 hil.size (fun e => by have := (hq1.grow hil).noneA e; omega) (Nat.le_refl _) (by rw [List.length_map, hq1l]; show k = (k - 0) * 1; omega) (hq1.grow hil).cellsA plain_il (by simp only; omega) (fun _ => rfl) ?_
          intro v5 Wm ho5 hsm hv5
          obtain ⟨vd, ve, vf, rfl⟩ := Own.isSlice ho5
          have him := ho4.since hil (Nat.le_refl _) hsm
          refine Drawn.nil hB ?_
          intro Wn hWn
          refine Goes.adv hTT 400 rfl ?_
          have ho5n := ho5.chg hWn (fun _ _ h => h)
          have hin := him.trans hWn
          refine Goes.appendA (base := Wi.heap.size) (news := ((r.ps.drop (k + 1)).take (r.ps.length - (k + 1))).map ilV) hTT rfl ho5n hin.size (fun e => by have := (hq2.grow hin).noneA e; omega) (by rw [List.length_map, hq2l, Nat.mul_one]) (hq2.grow hin).cellsA plain_il (by simp only; omega) ?_
          intro v6 Wo ho6 hso hv6
          have hio := ho5n.since hin (Nat.le_refl _) hso
          obtain ⟨pa3, pcap3, rfl, hp1, hp2, hp3, hpB⟩ := Own.pl (ps := (r.ps.drop 0).take k ++ (r.ps.drop (k + 1)).take (r.ps.length - (k + 1))) (v := v6) (by rw [List.map_append]; exact ho6) (by rw [List.length_append, hq1l, hq2l]; omega)
          refine Goes.adv hTT 400 rfl ?_
          have hsIo := hio.size
          have hsIi := hsi.size
          obtain ⟨ps3, hps3⟩ : ∃ ps3, ps3 = (r.ps.drop 0).take k ++ (r.ps.drop (k + 1)).take (r.ps.length - (k + 1)) := ⟨_, rfl⟩
          rw [← hps3] at hp1 hp3 ⊢
          refine Goes.store hTT rfl (hio.heap' hkbi) rfl rfl ?_
          intro Wp hkbp hsp hzp
          refine Goes.adv hTT 400 rfl ?_
          replace hkbp : Wp.heap[kb]? = some (.cells ([ilV r3.p.o, ilV r3.p.f, .int .i64 r3.cls, .int .i64 (r3.blocks : Int), ilV nl, .slice pa3 ps3.length pcap3, ilV ol2] : List Value).toArray 45 (0, 0)) := hkbp
          -- the pool
          have c1 : Chg (fun z => z = kb) Wa Wp := ((hsb.trans (nn hbh)).trans hsi).trans ((nn hio).trans hsp)
          have hRa := hR3.grow hWa
          have hPp : RpOk Wp r3.p pl := ⟨hRa.p.o.far hok3.o c1, hRa.p.f.far hok3.f c1, hRa.p.eo, hRa.p.ef⟩
          obtain ⟨hof1, hof2⟩ := hof _ (List.mem_of_getElem? hk)
          simp only at hof1 hof2
          have hcl := hok.cls
          refine Goes.loads hTT rfl hkbp rfl rfl ?_
          refine Goes.call rfl (ref08_Give r3.p m pl Wp hPp hg hof1 (by omega)) ?_
          rintro _ Wq ⟨rp', rfl, hPq, hF1, hF2, hWq⟩
          refine Goes.adv hTT 400 rfl ?_
          have hsq := hWq.size
          refine Goes.alloc hTT rfl ?_
          intro ub Wr er hub hWr hzr
          refine Goes.adv hTT 400 rfl ?_
          refine Goes.store hTT rfl hub rfl rfl ?_
          intro Ws hubs hss hzs
          refine Goes.adv hTT 400 rfl ?_
          replace hubs : Ws.heap[ub]? = some (.cells (rpL rp').toArray 31 (0, 0)) := hubs
          have hcqs : Chg None' Wq Ws := hWr.since hss (fun z hz e => by omega)
          have hcps := hWq.trans hcqs
          refine Goes.loads hTT rfl hubs rfl rfl ?_
          refine Goes.store hTT rfl (hcps.heap' hkbp) rfl rfl ?_
          intro Wt hkbt hst hzt
          refine Goes.adv hTT 400 rfl ?_
          obtain ⟨r7, hr7⟩ : ∃ r7 : RS, r7 = ⟨rp', r3.cls, r3.blocks, nl, pa3, pcap3, ps3, ol2⟩ := ⟨_, rfl⟩
          replace hkbt : Wt.heap[kb]? = some (.cells (rsL r7).toArray 45 (0, 0)) := by rw [hr7]; exact hkbt
          have hsWa : W.heap.size ≤ Wa.heap.size := hsa
          have hsbp : Wb.heap.size ≤ Wp.heap.size := by have := hsp.size; omega
          have hk7 : ∀ Q : Nat → Prop, (∀ z, Q z → z < W.heap.size) → RsOut Q r → RsOut Q r7 := fun Q hQ hro => by
            rw [hr7]
            exact ⟨hF1.out (fun z hz => by have := hQ z hz; omega), hF2.out (fun z hz => by have := hQ z hz; omega), (by intro b off s e hz; have := hnlB b off s e; have := hQ b hz; omega), holF.out (fun z hz => hQ z hz), (by intro b off s e hz; have := hpB b off s e; have := hQ b hz; omega), fun l2 hl2 => hro.each l2 (by
              rw [hps3] at hl2
              rcases List.mem_append.1 hl2 with h1 | h1
              · exact List.mem_of_mem_drop (List.mem_of_mem_take h1)
              · exact List.mem_of_mem_drop (List.mem_of_mem_take h1))⟩
          have hork : RsOut (fun z => z = kb) r := h.out (fun z hz => by have := hcW2.size; omega)
          have hor7 := hk7 (fun z => z = kb) (fun z hz => by omega) hork
          have c3 : Chg (fun z => z = kb) Ws Wt := hst
          have c4 : Chg (fun z => z = kb) Wi Wt := ((nn hio).trans hsp).trans ((nn hcps).trans hst)
          have hct : Chg None' w Wt := (((hci.trans hio).since hsp (fun z hz e => by omega)).trans hcps).since hst (fun z hz e => by omega)
          have hR7 : RsOk Wt r7 { x with pg := smDel x.pg m, opn := o.filter (fun z => z != m) } (pl.give m) := by
            have hor := hor7
            rw [hr7] at hor ⊢
            have hPs := hPq.grow hcqs
            refine ⟨⟨hPs.o.far hor.o c3, hPs.f.far hor.f c3, hPs.eo, hPs.ef⟩, (hnlX.far hor.nums hsi).far hor.nums c4, (holX.far hor.opn c1).far hor.opn ((nn hcps).trans hst), (hp1.far hor.pa hsp).far hor.pa ((nn hcps).trans hst), hp2.grow (by have := hsp.size; have := hst.size; have := hcps.size; omega), hp3, fun l2 hl2 => ?_, hR3.e1, hR3.e2, ?_, ?_, ?_⟩
            · have : l2 ∈ r.ps := by
                have hl3 : l2 ∈ ps3 := hl2
                rw [hps3] at hl3
                rcases List.mem_append.1 hl3 with h1 | h1
                · exact List.mem_of_mem_drop (List.mem_of_mem_take h1)
                · exact List.mem_of_mem_drop (List.mem_of_mem_take h1)
              exact (h.each l2 this).grow hct
            · show nl.x = (smDel x.pg m).map _
              rw [hnlx, smDel_idx hok.nodup hk, erase_map]
              show (r.nums.x.drop 0).take (k - 0) ++ (r.nums.x.drop (k + 1)).take (r.nums.x.length - (k + 1)) = _
              rw [List.drop_zero, Nat.sub_zero, List.take_of_length_le (i := r.nums.x.length - (k + 1)) (by rw [List.length_drop]; omega), h.e3]
            · show ps3.map _ = (smDel x.pg m).map _
              rw [hps3, smDel_idx hok.nodup hk, erase_map, ← h.e4, List.drop_zero, List.take_of_length_le (i := r.ps.length - (k + 1)) (by rw [List.length_drop]; omega), List.map_append, List.map_take, List.map_drop]
            · show ol2.x = (o.filter _).map _
              rw [holx, hR3.e5]; exact filter_cast _ _
          have hqt : Wt.heap[qb]? = _ := (c1.trans ((nn hcps).trans hst)).heap (hWa.heap' hqW) (show ¬ qb = kb by omega)
          refine Goes.loads hTT rfl hkbt rfl rfl ?_
          have hqf := hqt
          refine Goes.store hTT rfl hqf rfl rfl ?_
          intro Wz hqz hsz hzz
          refine Goes.adv hTT 400 rfl ?_
          replace hqz : Wz.heap[qb]? = some (.cells (rsL r7).toArray 45 (0, 0)) := hqz
          have hoq : RsOut (fun z => z = qb) r7 := hk7 _ (fun z hz => by have := lt_of_heap hqW; omega) (h.out (fun z hz => by omega))
          exact Goes.ret hTT rfl Tryz.func80 (ResOk.cell rfl rfl rfl hqz rfl (.tmp rfl .nil)) ⟨r7, rfl, hR7.far hoq hsz, fun Q hQ hro => hk7 Q (fun z hz => by have := hQ z hz; have := hcW.size; omega) hro, hct.since hsz (fun z hz e => by omega)⟩
        · rw [show (if pgUsed (pgGive p i) = 0 then pl.give m else pl) = pl from if_neg hu]
          refine Goes.yes hTT rfl (decide_eq_true (by omega)) rfl ?_
          have hge : x.giveAt m p i = { x with pg := smSet x.pg m (pgGive p i), opn := o } := by unfold Sm.giveAt; simp only; rw [if_neg hu, ho]
          rw [hge]
          refine Goes.loads hTT rfl hkb rfl rfl ?_
          have hqf := hqW
          refine Goes.store hTT rfl hqf rfl rfl ?_
          intro Wz hqz hsz hzz
          refine Goes.adv hTT 400 rfl ?_
          replace hqz : Wz.heap[qb]? = some (.cells (rsL r3).toArray 45 (0, 0)) := hqz
          have hoq : RsOut (fun z => z = qb) r3 := hk3 _ (fun z hz => by omega) (h.out (fun z hz => by omega))
          exact Goes.ret hTT rfl Tryz.func80 (ResOk.cell rfl rfl rfl hqz rfl (.tmp rfl .nil)) ⟨r3, rfl, hR3.far hoq hsz, fun Q hQ hro => hk3 Q (fun z hz => by have := hQ z hz; omega) hro, hcW.since hsz (fun z hz e => by omega)⟩
      · have gful : ¬ pgUsed p = x.blocks := fun e => by have := of_decide_eq_false hful; exact this (hfullI.2 e)
        obtain ⟨r3, hr3⟩ : ∃ r3 : RS, r3 = r2 := ⟨_, rfl⟩
        obtain ⟨W, hW⟩ : ∃ W, W = w8 := ⟨_, rfl⟩
        obtain ⟨o, ho⟩ : ∃ o, o = (if pgUsed p = x.blocks then m :: x.opn else x.opn) := ⟨_, rfl⟩
        have hoe : o = x.opn := by rw [ho, if_neg gful]
        have hkb : W.heap[kb]? = some (.cells (rsL r3).toArray 45 (0, 0)) := by rw [hW, hr3]; exact hkb8
        have hok3 : RsOut (fun z => z = kb) r3 := by rw [hr3]; exact hor2
        have hR3 : RsOk W r3 { x with pg := smSet x.pg m (pgGive p i), opn := o } pl := by rw [hW, hr3, hoe]; exact h8
        have hk3 : ∀ Q : Nat → Prop, (∀ z, Q z → z < w3.heap.size) → RsOut Q r → RsOut Q r3 := fun Q hQ hro => by rw [hr3]; exact hk2 Q hQ hro
        have hcW2 : Chg None' w w6 := hw05.trans hw6
        have hcW : Chg None' w W := by rw [hW]; exact hc08
        have hrbW := hrb8
        have hqW := hqb8
        have hlYW := hlY8
        rw [← hW] at hrbW hqW hlYW
        have hgoal : ∀ {X : World → Prop}, X W → X w8 := fun h => hW ▸ h
        refine hgoal (X := fun w2 => Goes _ _ _ _ _ _ _ w2) ?_
        have hs68W : w6.heap.size ≤ W.heap.size := by rw [hW]; exact hs68
        have hlkb := lt_of_heap hkb
        refine Goes.call rfl (ref12_Used l' W hlYW.ok) ?_
        rintro _ _ ⟨rfl, rfl⟩
        refine Goes.adv hTT 400 rfl ?_
        rw [hlx']
        by_cases hu : pgUsed (pgGive p i) = 0
        · rw [show (if pgUsed (pgGive p i) = 0 then pl.give m else pl) = pl.give m from if_pos hu]
          refine Goes.no hTT rfl (by rw [hu]; rfl) rfl ?_
          have hge : x.giveAt m p i = { x with pg := smDel x.pg m, opn := o.filter (fun z => z != m) } := by unfold Sm.giveAt; simp only; rw [if_pos hu, ho]
          rw [hge]
          refine Goes.loadb hTT rfl hkb rfl rfl ?_
          refine Goes.call rfl (ref13_without r3.opn m W hR3.opn) ?_
          rintro _ Wa ⟨ol2, rfl, holx, holX, holF, hWa⟩
          refine Goes.adv hTT 400 rfl ?_
          have hsa := hWa.size
          refine Goes.store hTT rfl (hWa.heap' hkb) rfl rfl ?_
          intro Wb hkbb hsb hzb
          refine Goes.adv hTT 400 rfl ?_
          replace hkbb : Wb.heap[kb]? = some (.cells ([ilV r3.p.o, ilV r3.p.f, .int .i64 r3.cls, .int .i64 (r3.blocks : Int), ilV r3.nums, .slice r3.pa r3.ps.length r3.pcap, ilV ol2] : List Value).toArray 45 (0, 0)) := hkbb
          have nn : ∀ {a b : World}, Chg None' a b → Chg (fun z => z = kb) a b := fun h => h.mono fun _ _ h => h.elim
          have hcb : Chg None' w Wb := (hcW.trans hWa).since hsb (fun z hz e => by omega)
          have hsWb := hsb.size
          have hrbB := hsb.heap (hWa.heap' hrbW) (show ¬ rb = kb by omega)
          -- nums
          have hnX := h.nums.grow hcb
          have hnL : r.nums.x.length = x.pg.length := by rw [h.e3]; simp
          have hnC := h.nums.cap
          have hpC := h.pcap
          refine Goes.drawn (q := 11) None' hTT mixed (by kernel_rfl) rfl ?_
          intro hB
          refine Drawn.loadb hTT hB rfl hrbB (by first | exact fun h => h | (intro h; omega) | assumption) rfl rfl ?_
          refine Drawn.slice hTT hB rfl (l := 0) (h := k) (by first | rfl | omega | simp [loV]) (by first | rfl | omega | simp [hiV]) (by omega) (by omega) rfl ?_
          refine Drawn.loadb hTT hB rfl hrbB (by first | exact fun h => h | (intro h; omega) | assumption) rfl rfl ?_
          refine Drawn.arith hTT hB rfl (w64 (by omega)) rfl ?_
          refine Drawn.slice hTT hB rfl (l := (k+1)) (h := r.nums.x.length) (by first | rfl | omega | simp [loV]) (by first | rfl | omega | simp [hiV]) (by omega) (by omega) rfl ?_
          obtain ⟨hs1, hs1l⟩ := hnX.sl (lo := 0) (hi := k) (Nat.zero_le _) (by omega)
          obtain ⟨hs2, hs2l⟩ := hnX.sl (lo := k + 1) (hi := r.nums.x.length) (by omega) (Nat.le_refl _)
          refine Drawn.turn1 hB rfl ?_
          intro Wc hWc
          refine Turn.buildSlice hTT hB rfl (fun _ => rfl) ?_
          intro b1 Wd e1' hb1 hWd hzd
          refine Drawn.turn1 hB rfl ?_
          intro We hWe
          have ho1 : Own Wb.heap.size 3 1 We (.slice (some ⟨b1, 0, none⟩) 0 0) 0 [] := Own.empty (by have := hWc.size; omega) (hWe.heap' hb1)
          have hbe := (hWc.trans hWd).trans hWe
          refine Turn.appendA hTT hB rfl (base := Wb.heap.size) (xs := []) (news := (r.nums.sl 0 k).x.map (Value.int .i64)) ho1 hbe.size ((hs1.grow hbe).ok.rd.noneA' hs1l) (Nat.le_refl _) (by rw [List.length_map, hs1l, Nat.mul_one]) (hs1.grow hbe).ok.rd.cellsA plain_i64 (by simp only; omega) (fun _ => rfl) ?_
          intro v2 Wf ho2 hsf hv2
          obtain ⟨va, vn, vc, rfl⟩ := Own.isSlice ho2
          have hbf := ho1.since hbe (Nat.le_refl _) hsf
          refine Drawn.nil hB ?_
          intro Wg hWg
          refine Goes.adv hTT 400 rfl ?_
          have ho2g := ho2.chg hWg (fun _ _ h => h)
          have hbg := hbf.trans hWg
          refine Goes.appendA (base := Wb.heap.size) (news := (r.nums.sl (k + 1) r.nums.x.length).x.map (Value.int .i64)) hTT rfl ho2g hbg.size ((hs2.grow hbg).ok.rd.noneA' hs2l) (by rw [List.length_map, hs2l, Nat.mul_one]) (hs2.grow hbg).ok.rd.cellsA plain_i64 (by simp only; omega) ?_
          intro v3 Wh ho3 hsh hv3
          have hbh := ho2g.since hbg (Nat.le_refl _) hsh
          obtain ⟨nl, rfl, hnlx, hnlX, hnlB⟩ := Own.il (x := (r.nums.sl 0 k).x ++ (r.nums.sl (k + 1) r.nums.x.length).x) (v := v3) (by rw [List.map_append]; exact ho3) (by rw [List.length_append, hs1l, hs2l]; omega) (by rw [List.length_append, hs1l, hs2l]; omega)
          refine Goes.adv hTT 400 rfl ?_
          have hsBh := hbh.size
          refine Goes.store hTT rfl (hbh.heap' hkbb) rfl rfl ?_
          intro Wi hkbi hsi hzi
          refine Goes.adv hTT 400 rfl ?_
          replace hkbi : Wi.heap[kb]? = some (.cells ([ilV r3.p.o, ilV r3.p.f, .int .i64 r3.cls, .int .i64 (r3.blocks : Int), ilV nl, .slice r3.pa r3.ps.length r3.pcap, ilV ol2] : List Value).toArray 45 (0, 0)) := hkbi
          have hci : Chg None' w Wi := (hcb.trans hbh).since hsi (fun z hz e => by omega)
          have hrbI := hsi.heap (hbh.heap' hrbB) (show ¬ rb = kb by omega)
          -- pages
          have hrpI := h.rp.grow hci
          have hpL := h.plen
          refine Goes.drawn (q := 11) None' hTT mixed (by kernel_rfl) rfl ?_
          intro hB
          refine Drawn.loadb hTT hB rfl hrbI (by first | exact fun h => h | (intro h; omega) | assumption) rfl rfl ?_
          refine Drawn.slice hTT hB rfl (l := 0) (h := k) (by first | rfl | omega | simp [loV]) (by first | rfl | omega | simp [hiV]) (by omega) (by omega) rfl ?_
          refine Drawn.loadb hTT hB rfl hrbI (by first | exact fun h => h | (intro h; omega) | assumption) rfl rfl ?_
          refine Drawn.arith hTT hB rfl (w64 (by omega)) rfl ?_
          refine Drawn.slice hTT hB rfl (l := (k+1)) (h := r.ps.length) (by first | rfl | omega | simp [loV]) (by first | rfl | omega | simp [hiV]) (by omega) (by omega) rfl ?_
          have hq1 := hrpI.shift (cap := r.pcap) (lo := 0) (k := k) (by omega) h.pcap
          have hq2 := hrpI.shift (cap := r.pcap) (lo := k + 1) (k := r.ps.length - (k + 1)) (by omega) h.pcap
          have hq1l : ((r.ps.drop 0).take k).length = k := by rw [List.length_take, List.length_drop]; omega
          have hq2l : ((r.ps.drop (k + 1)).take (r.ps.length - (k + 1))).length = r.ps.length - (k + 1) := by rw [List.length_take, List.length_drop]; omega
          refine Drawn.turn1 hB rfl ?_
          intro Wj hWj
          refine Turn.buildSlice hTT hB rfl (fun _ => rfl) ?_
          intro b4 Wk e4' hb4 hWk hzk
          refine Drawn.turn1 hB rfl ?_
          intro Wl hWl
          have ho4 : Own Wi.heap.size 22 1 Wl (.slice (some ⟨b4, 0, none⟩) 0 0) 0 [] := Own.empty (by have := hWj.size; omega) (hWl.heap' hb4)
          have hil := (hWj.trans hWk).trans hWl
          refine Turn.appendA hTT hB rfl (base := Wi.heap.size) (xs := []) (news := ((r.ps.drop 0).take k).map ilV) ho4 hil.size (fun e => by have := (hq1.grow hil).noneA e; omega) (Nat.le_refl _) (by rw [List.length_map, hq1l]; show k = (k - 0) * 1; omega) (hq1.grow hil).cellsA plain_il (by simp only; omega) (fun _ => rfl) ?_
          intro v5 Wm ho5 hsm hv5
          obtain ⟨vd, ve, vf, rfl⟩ := Own.isSlice ho5
          have him := ho4.since hil (Nat.le_refl _) hsm
          refine Drawn.nil hB ?_
          intro Wn hWn
          refine Goes.adv hTT 400 rfl ?_
          have ho5n := ho5.chg hWn (fun _ _ h => h)
          have hin := him.trans hWn
          refine Goes.appendA (base := Wi.heap.size) (news := ((r.ps.drop (k + 1)).take (r.ps.length - (k + 1))).map ilV) hTT rfl ho5n hin.size (fun e => by have := (hq2.grow hin).noneA e; omega) (by rw [List.length_map, hq2l, Nat.mul_one]) (hq2.grow hin).cellsA plain_il (by simp only; omega) ?_
          intro v6 Wo ho6 hso hv6
          have hio := ho5n.since hin (Nat.le_refl _) hso
          obtain ⟨pa3, pcap3, rfl, hp1, hp2, hp3, hpB⟩ := Own.pl (ps := (r.ps.drop 0).take k ++ (r.ps.drop (k + 1)).take (r.ps.length - (k + 1))) (v := v6) (by rw [List.map_append]; exact ho6) (by rw [List.length_append, hq1l, hq2l]; omega)
          refine Goes.adv hTT 400 rfl ?_
          have hsIo := hio.size
          have hsIi := hsi.size
          obtain ⟨ps3, hps3⟩ : ∃ ps3, ps3 = (r.ps.drop 0).take k ++ (r.ps.drop (k + 1)).take (r.ps.length - (k + 1)) := ⟨_, rfl⟩
          rw [← hps3] at hp1 hp3 ⊢
          refine Goes.store hTT rfl (hio.heap' hkbi) rfl rfl ?_
          intro Wp hkbp hsp hzp
          refine Goes.adv hTT 400 rfl ?_
          replace hkbp : Wp.heap[kb]? = some (.cells ([ilV r3.p.o, ilV r3.p.f, .int .i64 r3.cls, .int .i64 (r3.blocks : Int), ilV nl, .slice pa3 ps3.length pcap3, ilV ol2] : List Value).toArray 45 (0, 0)) := hkbp
          -- the pool
          have c1 : Chg (fun z => z = kb) Wa Wp := ((hsb.trans (nn hbh)).trans hsi).trans ((nn hio).trans hsp)
          have hRa := hR3.grow hWa
          have hPp : RpOk Wp r3.p pl := ⟨hRa.p.o.far hok3.o c1, hRa.p.f.far hok3.f c1, hRa.p.eo, hRa.p.ef⟩
          obtain ⟨hof1, hof2⟩ := hof _ (List.mem_of_getElem? hk)
          simp only at hof1 hof2
          have hcl := hok.cls
          refine Goes.loads hTT rfl hkbp rfl rfl ?_
          refine Goes.call rfl (ref08_Give r3.p m pl Wp hPp hg hof1 (by omega)) ?_
          rintro _ Wq ⟨rp', rfl, hPq, hF1, hF2, hWq⟩
          refine Goes.adv hTT 400 rfl ?_
          have hsq := hWq.size
          refine Goes.alloc hTT rfl ?_
          intro ub Wr er hub hWr hzr
          refine Goes.adv hTT 400 rfl ?_
          refine Goes.store hTT rfl hub rfl rfl ?_
          intro Ws hubs hss hzs
          refine Goes.adv hTT 400 rfl ?_
          replace hubs : Ws.heap[ub]? = some (.cells (rpL rp').toArray 31 (0, 0)) := hubs
          have hcqs : Chg None' Wq Ws := hWr.since hss (fun z hz e => by omega)
          have hcps := hWq.trans hcqs
          refine Goes.loads hTT rfl hubs rfl rfl ?_
          refine Goes.store hTT rfl (hcps.heap' hkbp) rfl rfl ?_
          intro Wt hkbt hst hzt
          refine Goes.adv hTT 400 rfl ?_
          obtain ⟨r7, hr7⟩ : ∃ r7 : RS, r7 = ⟨rp', r3.cls, r3.blocks, nl, pa3, pcap3, ps3, ol2⟩ := ⟨_, rfl⟩
          replace hkbt : Wt.heap[kb]? = some (.cells (rsL r7).toArray 45 (0, 0)) := by rw [hr7]; exact hkbt
          have hsWa : W.heap.size ≤ Wa.heap.size := hsa
          have hsbp : Wb.heap.size ≤ Wp.heap.size := by have := hsp.size; omega
          have hk7 : ∀ Q : Nat → Prop, (∀ z, Q z → z < W.heap.size) → RsOut Q r → RsOut Q r7 := fun Q hQ hro => by
            rw [hr7]
            exact ⟨hF1.out (fun z hz => by have := hQ z hz; omega), hF2.out (fun z hz => by have := hQ z hz; omega), (by intro b off s e hz; have := hnlB b off s e; have := hQ b hz; omega), holF.out (fun z hz => hQ z hz), (by intro b off s e hz; have := hpB b off s e; have := hQ b hz; omega), fun l2 hl2 => hro.each l2 (by
              rw [hps3] at hl2
              rcases List.mem_append.1 hl2 with h1 | h1
              · exact List.mem_of_mem_drop (List.mem_of_mem_take h1)
              · exact List.mem_of_mem_drop (List.mem_of_mem_take h1))⟩
          have hork : RsOut (fun z => z = kb) r := h.out (fun z hz => by have := hcW2.size; omega)
          have hor7 := hk7 (fun z => z = kb) (fun z hz => by omega) hork
          have c3 : Chg (fun z => z = kb) Ws Wt := hst
          have c4 : Chg (fun z => z = kb) Wi Wt := ((nn hio).trans hsp).trans ((nn hcps).trans hst)
          have hct : Chg None' w Wt := (((hci.trans hio).since hsp (fun z hz e => by omega)).trans hcps).since hst (fun z hz e => by omega)
          have hR7 : RsOk Wt r7 { x with pg := smDel x.pg m, opn := o.filter (fun z => z != m) } (pl.give m) := by
            have hor := hor7
            rw [hr7] at hor ⊢
            have hPs := hPq.grow hcqs
            refine ⟨⟨hPs.o.far hor.o c3, hPs.f.far hor.f c3, hPs.eo, hPs.ef⟩, (hnlX.far hor.nums hsi).far hor.nums c4, (holX.far hor.opn c1).far hor.opn ((nn hcps).trans hst), (hp1.far hor.pa hsp).far hor.pa ((nn hcps).trans hst), hp2.grow (by have := hsp.size; have := hst.size; have := hcps.size; omega), hp3, fun l2 hl2 => ?_, hR3.e1, hR3.e2, ?_, ?_, ?_⟩
            · have : l2 ∈ r.ps := by
                have hl3 : l2 ∈ ps3 := hl2
                rw [hps3] at hl3
                rcases List.mem_append.1 hl3 with h1 | h1
                · exact List.mem_of_mem_drop (List.mem_of_mem_take h1)
                · exact List.mem_of_mem_drop (List.mem_of_mem_take h1)
              exact (h.each l2 this).grow hct
            · show nl.x = (smDel x.pg m).map _
              rw [hnlx, smDel_idx hok.nodup hk, erase_map]
              show (r.nums.x.drop 0).take (k - 0) ++ (r.nums.x.drop (k + 1)).take (r.nums.x.length - (k + 1)) = _
              rw [List.drop_zero, Nat.sub_zero, List.take_of_length_le (i := r.nums.x.length - (k + 1)) (by rw [List.length_drop]; omega), h.e3]
            · show ps3.map _ = (smDel x.pg m).map _
              rw [hps3, smDel_idx hok.nodup hk, erase_map, ← h.e4, List.drop_zero, List.take_of_length_le (i := r.ps.length - (k + 1)) (by rw [List.length_drop]; omega), List.map_append, List.map_take, List.map_drop]
            · show ol2.x = (o.filter _).map _
              rw [holx, hR3.e5]; exact filter_cast _ _
          have hqt : Wt.heap[qb]? = _ := (c1.trans ((nn hcps).trans hst)).heap (hWa.heap' hqW) (show ¬ qb = kb by omega)
          refine Goes.loads hTT rfl hkbt rfl rfl ?_
          have hqf := hqt
          refine Goes.store hTT rfl hqf rfl rfl ?_
          intro Wz hqz hsz hzz
          refine Goes.adv hTT 400 rfl ?_
          replace hqz : Wz.heap[qb]? = some (.cells (rsL r7).toArray 45 (0, 0)) := hqz
          have hoq : RsOut (fun z => z = qb) r7 := hk7 _ (fun z hz => by have := lt_of_heap hqW; omega) (h.out (fun z hz => by omega))
          exact Goes.ret hTT rfl Tryz.func80 (ResOk.cell rfl rfl rfl hqz rfl (.tmp rfl .nil)) ⟨r7, rfl, hR7.far hoq hsz, fun Q hQ hro => hk7 Q (fun z hz => by have := hQ z hz; have := hcW.size; omega) hro, hct.since hsz (fun z hz e => by omega)⟩
        · rw [show (if pgUsed (pgGive p i) = 0 then pl.give m else pl) = pl from if_neg hu]
          refine Goes.yes hTT rfl (decide_eq_true (by omega)) rfl ?_
          have hge : x.giveAt m p i = { x with pg := smSet x.pg m (pgGive p i), opn := o } := by unfold Sm.giveAt; simp only; rw [if_neg hu, ho]
          rw [hge]
          refine Goes.loads hTT rfl hkb rfl rfl ?_
          have hqf := hqW
          refine Goes.store hTT rfl hqf rfl rfl ?_
          intro Wz hqz hsz hzz
          refine Goes.adv hTT 400 rfl ?_
          replace hqz : Wz.heap[qb]? = some (.cells (rsL r3).toArray 45 (0, 0)) := hqz
          have hoq : RsOut (fun z => z = qb) r3 := hk3 _ (fun z hz => by omega) (h.out (fun z hz => by omega))
          exact Goes.ret hTT rfl Tryz.func80 (ResOk.cell rfl rfl rfl hqz rfl (.tmp rfl .nil)) ⟨r3, rfl, hR3.far hoq hsz, fun Q hQ hro => hk3 Q (fun z hz => by have := hQ z hz; omega) hro, hcW.since hsz (fun z hz e => by omega)⟩
    · rw [show shGiveE x m i = pgGiveE p i from by unfold shGiveE; rw [hgn], show shGive x m i = x from by unfold shGive; rw [hgn]; simp only; rw [if_neg hE], show shGiveP x pl m i = pl from by unfold shGiveP; rw [hgn]; simp only; rw [if_neg (fun h => hE h.1)]]
      refine Goes.yes hTT rfl (show (pgGiveE p i != 0) = true by simpa using hE) rfl ?_
      refine Goes.loads hTT rfl hrb5 rfl rfl ?_
      have hqf := hqb5
      refine Goes.store hTT rfl hqf rfl rfl ?_
      intro Wz hqz hsz hzz
      refine Goes.adv hTT 400 rfl ?_
      replace hqz : Wz.heap[qb]? = some (.cells (rsL r).toArray 45 (0, 0)) := hqz
      exact Goes.ret hTT rfl Tryz.func80 (ResOk.cell rfl rfl rfl hqz rfl (.tmp rfl .nil)) ⟨r, rfl, (h3.grow hw5).far (h.out (fun z hz => by omega)) hsz, Keep.refl _ _, hw05.since hsz (fun z hz e => by omega)⟩
end Go.Proofs.YtkiionjcapnepaaGreatDoor
/-
  Slices of elements of several cells: appended, and written.
-/
namespace Go.Proofs.YtkiionjcapnepaaGreatDoor
open Go.RowKit
section
variable {α : Type} {cells : α → List Value} {sz : Nat}
def fl (cells : α → List Value) (xs : List α) : List Value := xs.flatMap cells
theorem fl_nil : fl cells [] = [] := rfl
theorem fl_append (xs ys : List α) : fl cells (xs ++ ys) = fl cells xs ++ fl cells ys := by unfold fl; rw [List.flatMap_append]
theorem fl_one (x : α) : fl cells [x] = cells x := by unfold fl; simp
theorem fl_length (hl : ∀ x, (cells x).length = sz) : ∀ xs : List α, (fl cells xs).length = xs.length * sz
  | [] => by simp [fl]
  | x :: r => by
    have := fl_length hl r
    unfold fl at *
    rw [List.flatMap_cons, List.length_append, this, hl, List.length_cons, Nat.succ_mul]
    omega
theorem fl_get (hl : ∀ x, (cells x).length = sz) {j : Nat} (hj : j < sz) : ∀ (xs : List α) (i : Nat) (x : α), xs[i]? = some x → (fl cells xs)[i * sz + j]? = (cells x)[j]?
  | [], i, x, h => by simp at h
  | y :: r, 0, x, h => by
    cases h
    unfold fl
    rw [List.flatMap_cons, Nat.zero_mul, Nat.zero_add, List.getElem?_append_left (by rw [hl]; exact hj)]
  | y :: r, i + 1, x, h => by
    have := fl_get hl hj r i x h
    unfold fl at *
    rw [List.flatMap_cons, List.getElem?_append_right (by rw [hl, Nat.succ_mul]; omega), hl, ← this]
    congr 1
    rw [Nat.succ_mul]; omega
theorem Rows.news {w : World} {a : Option Addr} {xs : List α} (h : Rows cells sz w a xs) (hl : ∀ x, (cells x).length = sz) (hz : 0 < sz) : ∀ i u, (fl cells xs)[i]? = some u → ∃ a', a = some a' ∧ w.cell? (a'.add i) = some u := fun i u hu => by
  have hi : i < xs.length * sz := by rw [← fl_length hl]; exact (List.getElem?_eq_some_iff.1 hu).1
  have hq : i / sz < xs.length := (Nat.div_lt_iff_lt_mul hz).2 hi
  have hr : i % sz < sz := Nat.mod_lt _ hz
  have e : i / sz * sz + i % sz = i := by rw [Nat.mul_comm]; exact Nat.div_add_mod i sz
  obtain ⟨b, off, rfl, hc⟩ := h (i / sz) xs[i / sz] (List.getElem?_eq_getElem hq)
  have hg := fl_get hl hr xs (i / sz) xs[i / sz] (List.getElem?_eq_getElem hq)
  rw [e, hu] at hg
  refine ⟨_, rfl, ?_⟩
  rw [add_off]
  have := hc (i % sz) u hg.symm
  rw [Nat.add_assoc, e] at this
  exact this
theorem Rows.noneA {w : World} {a : Option Addr} {xs : List α} (h : Rows cells sz w a xs) : a = none → xs.length = 0 := fun e => by
  cases xs with
  | nil => rfl
  | cons l r =>
    obtain ⟨b, off, e', _⟩ := h 0 l rfl
    rw [e] at e'; cases e'
theorem fl_plain (hp : ∀ x, ∀ u ∈ cells x, u.oneCell' = true) (xs : List α) : ∀ u ∈ fl cells xs, u.oneCell' = true := fun u hu => by
  unfold fl at hu
  obtain ⟨x, _, h⟩ := List.mem_flatMap.1 hu
  exact hp x u h
theorem rows_at {w : World} {g t : Nat} {fz : Nat × Nat} {xs : List α} {rest : List Value} (h : w.heap[g]? = some (.cells (fl cells xs ++ rest).toArray t fz)) (hl : ∀ x, (cells x).length = sz) : Rows cells sz w (some ⟨g, 0, none⟩) xs := fun i x hx => by
  refine ⟨g, 0, rfl, fun j v hv => ?_⟩
  have hj : j < sz := by have := (List.getElem?_eq_some_iff.1 hv).1; rw [hl] at this; exact this
  have hi := (List.getElem?_eq_some_iff.1 hx).1
  rw [cell_of h, Nat.zero_add, List.getElem?_toArray, List.getElem?_append_left, fl_get hl hj xs i x hx]
  · exact hv
  · rw [fl_length hl]
    have : (i + 1) * sz ≤ xs.length * sz := Nat.mul_le_mul_right _ hi
    rw [Nat.succ_mul] at this
    omega
theorem Own.rowsN {base t n : Nat} {w : World} {v : Value} {xs : List α} (h : Own base t sz w v n (fl cells xs)) (hl : ∀ x, (cells x).length = sz) (hn : xs.length = n) :
    ∃ a cap, v = .slice a xs.length cap ∧ Rows cells sz w a xs ∧ ALt w a ∧ xs.length ≤ cap ∧ ∀ b off s, a = some ⟨b, off, s⟩ → base ≤ b := by
  rcases h.2 with ⟨rfl, h2⟩ | ⟨g, cap, cur, rfl, hg, hh, hcap, hm2, _, hx2⟩
  · have : xs = [] := List.length_eq_zero_iff.1 (by omega)
    subst this
    exact ⟨none, 0, rfl, (fun i l hl => by simp at hl), (by intro b off s e; cases e), Nat.le_refl _, (by intro b off s e; cases e)⟩
  · subst hn
    refine ⟨some ⟨g, 0, none⟩, cap, rfl, rows_at (rest := cur.toList.drop (xs.length * sz)) (t := t) (fz := (0, 0)) ?_ hl, (by intro b off s e; cases e; exact lt_of_heap hh), hcap, (by intro b off s e; cases e; exact hg)⟩
    rw [hh, ← hx2, List.take_append_drop]
theorem setV_mid : ∀ (A old vs B : List Value), old.length = vs.length → setV (A ++ (old ++ B)) A.length vs = some (A ++ (vs ++ B))
  | [], [], [], B, _ => by cases B <;> rfl
  | [], o :: old, v :: vs, B, h => by
    have := setV_mid [] old vs B (by simpa using h)
    simp only [List.nil_append, List.length_nil] at this
    show setV (o :: (old ++ B)) 0 (v :: vs) = _
    unfold setV
    rw [this]; rfl
  | x :: A, old, vs, B, h => by
    have := setV_mid A old vs B h
    show setV (x :: (A ++ (old ++ B))) (A.length + 1) vs = _
    unfold setV
    rw [this]; rfl
theorem fl_set (hl : ∀ x, (cells x).length = sz) {xs : List α} {k : Nat} {y : α} {rest : List Value} (hk : k < xs.length) : setV (fl cells xs ++ rest) (0 + k * sz) (cells y) = some (fl cells (xs.set k y) ++ rest) := by
  have e1 : xs = xs.take k ++ (xs[k] :: xs.drop (k + 1)) := by rw [← List.drop_eq_getElem_cons hk, List.take_append_drop]
  have e2 : xs.set k y = xs.take k ++ (y :: xs.drop (k + 1)) := List.set_eq_take_append_cons_drop.trans (if_pos hk)
  have l1 : (fl cells (xs.take k)).length = 0 + k * sz := by rw [fl_length hl, List.length_take, Nat.min_eq_left (by omega), Nat.zero_add]
  have f1 : ∀ z, fl cells (xs.take k ++ (z :: xs.drop (k + 1))) ++ rest = fl cells (xs.take k) ++ (cells z ++ (fl cells (xs.drop (k + 1)) ++ rest)) := fun z => by
    rw [fl_append]
    unfold fl
    rw [List.flatMap_cons]
    simp only [List.append_assoc]
  rw [e2, f1 y, ← l1]
  conv => lhs; rw [e1, f1 xs[k]]
  rw [show (xs.take k ++ xs[k] :: xs.drop (k + 1)).take k = xs.take k from by rw [← e1]]
  exact setV_mid _ _ _ _ (by rw [hl, hl])
end
end Go.Proofs.YtkiionjcapnepaaGreatDoor
/-
  Layer 20: what the document says of a room.
-/
namespace Go.Proofs.YtkiionjcapnepaaGreatDoor
open Go.RowKit

structure RR where
  c : Conf
  cp : ConfAt
  p : RP
  ss : List RS
  sa : Option Addr
  scap : Nat
  lg : List Plc
  la : Option Addr
  lcap : Nat
  steps : Int
def rrL (r : RR) : List Value := confL r.c r.cp ++ [ilV r.p.o, ilV r.p.f, .slice r.sa r.ss.length r.scap, .slice r.la r.lg.length r.lcap, .int .i64 r.steps]
def lgP (e : Nat × List Nat) : PlcM := ⟨-1, (e.1 : Nat), 0, natsI e.2⟩
/-- What is told of a room's plain data. -/
structure MOk (M : RmM) : Prop where
  sh : ∀ (k : Nat) (x : Sm), M.shs[k]? = some x → x.Ok ∧ x.Of M.pl
  good : M.pl.Good
theorem RmSt.mok {F : Nat → Prop} {w : World} {R : Rm} {M : RmM} (h : RmSt F w R M) : MOk M := ⟨fun k x hx => by
  obtain ⟨G, _, hS, _⟩ := h.shelf hx
  exact ⟨hS.ok, hS.of⟩, h.pool.good⟩
structure RrOk (w : World) (r : RR) (M : RmM) : Prop where
  p : RpOk w r.p M.pl
  sr : Rows rsL 7 w r.sa r.ss
  sl : ALt w r.sa
  sc : r.ss.length ≤ r.scap
  n : r.ss.length = M.shs.length
  few : r.ss.length ≤ 16
  each : ∀ (k : Nat) (s : RS) (x : Sm), r.ss[k]? = some s → M.shs[k]? = some x → ∃ pk, RsOk w s x pk ∧ x.Of pk
  lr : Rows plcL 4 w r.la r.lg
  ll : ALt w r.la
  lc : r.lg.length ≤ r.lcap
  lm : r.lg.length ≤ 1024
  lge : r.lg.map plcP = M.lg.map lgP
  lgo : ∀ q ∈ r.lg, PlcOk w q ∧ ALt w q.pa
  st : r.steps = M.tot
structure RrOut (S : Nat → Prop) (r : RR) : Prop where
  o : OutA S r.p.o.a
  f : OutA S r.p.f.a
  sa : OutA S r.sa
  each : ∀ s ∈ r.ss, RsOut S s
  la : OutA S r.la
  lgo : ∀ q ∈ r.lg, OutA S q.pa
theorem Rows.far {α : Type} {cells : α → List Value} {sz : Nat} {w w' : World} {a : Option Addr} {xs : List α} {S : Nat → Prop} (h : Rows cells sz w a xs) (hs : OutA S a) (hc : Chg S w w') : Rows cells sz w' a xs := fun i x hx => by
  obtain ⟨b, off, e, hcell⟩ := h i x hx
  exact ⟨b, off, e, fun j v hv => hc.cell (hcell j v hv) (hs b off _ e)⟩
theorem RrOk.grow {w w' : World} {r : RR} {M : RmM} (h : RrOk w r M) (hc : Chg None' w w') : RrOk w' r M :=
  ⟨h.p.grow hc, h.sr.chg hc, h.sl.grow hc.size, h.sc, h.n, h.few, fun k s x h1 h2 => by obtain ⟨pk, a, b⟩ := h.each k s x h1 h2; exact ⟨pk, a.grow hc, b⟩, h.lr.chg hc, h.ll.grow hc.size, h.lc, h.lm, h.lge, fun q hq => ⟨(h.lgo q hq).1.grow hc, (h.lgo q hq).2.grow hc.size⟩, h.st⟩
theorem RrOk.far {w w' : World} {r : RR} {M : RmM} {S : Nat → Prop} (h : RrOk w r M) (ho : RrOut S r) (hc : Chg S w w') : RrOk w' r M :=
  ⟨⟨h.p.o.far ho.o hc, h.p.f.far ho.f hc, h.p.eo, h.p.ef⟩, h.sr.far ho.sa hc, h.sl.grow hc.size, h.sc, h.n, h.few, fun k s x h1 h2 => by obtain ⟨pk, a, b⟩ := h.each k s x h1 h2; exact ⟨pk, a.far (ho.each s (List.mem_of_getElem? h1)) hc, b⟩, h.lr.far ho.la hc, h.ll.grow hc.size, h.lc, h.lm, h.lge, fun q hq => ⟨⟨(h.lgo q hq).1.rd.far (ho.lgo q hq) hc, (h.lgo q hq).1.len⟩, (h.lgo q hq).2.grow hc.size⟩, h.st⟩
theorem RrOk.out {w : World} {r : RR} {M : RmM} {S : Nat → Prop} (h : RrOk w r M) (hs : ∀ z, S z → w.heap.size ≤ z) : RrOut S r :=
  ⟨h.p.o.lt.out hs, h.p.f.lt.out hs, h.sl.out hs, fun s hm => by
    obtain ⟨k, hk, rfl⟩ := List.getElem_of_mem hm
    obtain ⟨pk, a, _⟩ := h.each k _ _ (List.getElem?_eq_getElem hk) (List.getElem?_eq_getElem (by rw [← h.n]; exact hk))
    exact a.out hs, h.ll.out hs, fun q hq => (h.lgo q hq).2.out hs⟩
theorem RrOut.mono {S S' : Nat → Prop} {r : RR} (h : RrOut S r) (hs : ∀ z, S' z → S z) : RrOut S' r :=
  ⟨h.o.mono hs, h.f.mono hs, h.sa.mono hs, fun s hm => ⟨(h.each s hm).o.mono hs, (h.each s hm).f.mono hs, (h.each s hm).nums.mono hs, (h.each s hm).opn.mono hs, (h.each s hm).pa.mono hs, fun l hl => ((h.each s hm).each l hl).mono hs⟩, h.la.mono hs, fun q hq => (h.lgo q hq).mono hs⟩
def RKeep (w : World) (r r' : RR) : Prop := r'.c = r.c ∧ r'.cp = r.cp ∧ ∀ S : Nat → Prop, (∀ z, S z → z < w.heap.size) → RrOut S r → RrOut S r'
theorem RKeep.refl (w : World) (r : RR) : RKeep w r r := ⟨rfl, rfl, fun _ _ h => h⟩
theorem RKeep.trans {w w1 : World} {r r1 r2 : RR} (h : RKeep w r r1) (h' : RKeep w1 r1 r2) (hs : w.heap.size ≤ w1.heap.size) : RKeep w r r2 := ⟨h'.1.trans h.1, h'.2.1.trans h.2.1, fun S hS ho =>
  h'.2.2 S (fun z hz => by have := hS z hz; omega) (h.2.2 S hS ho)⟩
/-- A shelf on another pool. -/
theorem RsOk.setP {w : World} {s : RS} {x : Sm} {pl pl' : PlM} {p' : RP} (h : RsOk w s x pl) (hp : RpOk w p' pl') : RsOk w { s with p := p' } x pl' := ⟨hp, h.nums, h.opn, h.rp, h.plt, h.pcap, h.each, h.e1, h.e2, h.e3, h.e4, h.e5⟩
abbrev rrBox (w : World) (b : Nat) (r : RR) : Prop := w.heap[b]? = some (.cells (rrL r).toArray 35 (0, 0))
theorem ref20_Is (r : RR) (k : Int) (w : World) : Does Tryz.prog 52 #[.agg (rrL r).toArray, .int .i64 k] w (Grow (.bool (decide (0 ≤ k) && decide (k < r.ss.length))) w) := by
  refine Does.enter Tryz.func52 rfl Tryz.ntmps52 rfl rfl ?_
  refine Goes.adv hTT 400 rfl ?_
  refine Goes.alloc hTT rfl ?_
  intro b w1 e1 hb hw1 hz1
  refine Goes.adv hTT 400 rfl ?_
  replace hb : rrBox w1 b r := hb
  refine Goes.fork hTT rfl rfl rfl (fun h1 => ?_) (fun h1 => ?_)
  · refine Goes.loadb hTT rfl hb rfl rfl ?_
    rw [decide_eq_true (of_decide_eq_true h1), Bool.true_and]
    exact Goes.ret1 hTT rfl Tryz.func52 rfl rfl ⟨rfl, hw1⟩
  · rw [decide_eq_false (of_decide_eq_false h1), Bool.false_and]
    exact Goes.ret1 hTT rfl Tryz.func52 rfl rfl ⟨rfl, hw1⟩
theorem ref20_Held (r : RR) (M : RmM) (w : World) (h : RrOk w r M) (hg : M.pl.Good) : Does Tryz.prog 14 #[.agg (rrL r).toArray] w (Grow (.int .i64 (heldM M.pl : Nat)) w) := by
  have h1 := h.p.eo
  have h2 := h.p.ef
  have h3 := hg.many
  have h4 := hg.len
  have h5 : r.p.o.x.length = M.pl.own.length := by rw [h1]
  have h6 : r.p.f.x.length = M.pl.free.length := by rw [h2, List.length_map]
  have e : ((r.p.o.x.length : Nat) : Int) - (r.p.f.x.length : Nat) = (heldM M.pl : Nat) := by unfold heldM; omega
  refine Does.enter Tryz.func14 rfl Tryz.ntmps14 rfl rfl ?_
  refine Goes.adv hTT 400 rfl ?_
  refine Goes.alloc hTT rfl ?_
  intro b w1 e1 hb hw1 hz1
  refine Goes.adv hTT 400 rfl ?_
  replace hb : rrBox w1 b r := hb
  refine Goes.loadb hTT rfl hb rfl rfl ?_
  refine Goes.loadb hTT rfl hb rfl rfl ?_
  refine Goes.arith hTT rfl (w64 (by omega)) rfl ?_
  rw [e]
  exact Goes.ret1 hTT rfl Tryz.func14 rfl rfl ⟨rfl, hw1⟩
theorem ref20_shelf (r : RR) (M : RmM) (k : Nat) (s : RS) (w : World) (h : RrOk w r M) (hk : r.ss[k]? = some s) : Does Tryz.prog 77 #[.agg (rrL r).toArray, .int .i64 (k : Int)] w (Grow (.agg (rsL { s with p := r.p }).toArray) w) := by
  have hlt : k < r.ss.length := (List.getElem?_eq_some_iff.1 hk).1
  have hfew := h.few
  refine Does.enter Tryz.func77 rfl Tryz.ntmps77 rfl rfl ?_
  refine Goes.adv hTT 400 rfl ?_
  refine Goes.alloc hTT rfl ?_
  intro b w1 e1 hb hw1 hz1
  refine Goes.adv hTT 400 rfl ?_
  refine Goes.alloc hTT rfl ?_
  intro ob w2 e2 hob hw2 hz2
  refine Goes.adv hTT 400 rfl ?_
  replace hb : rrBox w1 b r := hb
  have hw02 := hw1.trans hw2
  obtain ⟨sb, soff, hsa, hcell⟩ := (h.sr.chg hw02) k s hk
  refine Goes.loadb hTT rfl (hw2.heap' hb) rfl rfl ?_
  rw [hsa]
  refine Goes.index hTT rfl (j := (k * 7)) (by omega) (by omega) (by first | rfl | omega | (simp; done) | (simp; omega)) rfl ?_
  refine Goes.loadC hTT (rsL s) rfl (by first | rfl | (simp; done) | (simp [*]; done) | (simp; omega)) (hcell) rfl ?_
  refine Goes.alloc hTT rfl ?_
  intro tb w3 e3 htb hw3 hz3
  refine Goes.adv hTT 400 rfl ?_
  refine Goes.store hTT rfl htb rfl rfl ?_
  intro w4 htb4 hs4 hz4
  refine Goes.adv hTT 400 rfl ?_
  replace htb4 : w4.heap[tb]? = some (.cells (rsL s).toArray 45 (0, 0)) := htb4
  have hs2 := hw02.size
  have hc24 : Chg None' w2 w4 := hw3.since hs4 (fun z hz e => by omega)
  refine Goes.loads hTT rfl (hc24.heap' (hw2.heap' hb)) rfl rfl ?_
  refine Goes.store hTT rfl htb4 rfl rfl ?_
  intro w5 htb5 hs5 hz5
  refine Goes.adv hTT 400 rfl ?_
  replace htb5 : w5.heap[tb]? = some (.cells (rsL { s with p := r.p }).toArray 45 (0, 0)) := htb5
  refine Goes.loads hTT rfl htb5 rfl rfl ?_
  have hob5 := hs5.heap (hc24.heap' hob) (by omega)
  refine Goes.store hTT rfl hob5 rfl rfl ?_
  intro w6 hob6 hs6 hz6
  refine Goes.adv hTT 400 rfl ?_
  replace hob6 : w6.heap[ob]? = some (.cells (rsL { s with p := r.p }).toArray 45 (0, 0)) := hob6
  exact Goes.ret hTT rfl Tryz.func77 (ResOk.cell rfl rfl rfl hob6 rfl .nil) ⟨rfl, ((hw02.trans hc24).since hs5 (fun z hz e => by omega)).since hs6 (fun z hz e => by omega)⟩
end Go.Proofs.YtkiionjcapnepaaGreatDoor
/-
  Layer 20: the document's taking, giving back, handing on.
-/
namespace Go.Proofs.YtkiionjcapnepaaGreatDoor
open Go.RowKit
theorem rsL_len (s : RS) : (rsL s).length = 7 := rfl
theorem rsL_plain (s : RS) : ∀ u ∈ rsL s, u.oneCell' = true := fun u hu => by
  simp only [rsL, List.mem_cons, List.mem_nil_iff, or_false] at hu
  rcases hu with rfl | rfl | rfl | rfl | rfl | rfl | rfl <;> rfl
set_option maxRecDepth 100000 in
theorem ref20_with (r : RR) (k : Nat) (s : RS) (w : World) (hsr : Rows rsL 7 w r.sa r.ss) (hk : k < r.ss.length) (hl : r.ss.length ≤ 16) (h1 : r.p.f.x.length ≤ 1024) (h2 : s.p.f.x.length ≤ 1024) (h3 : 0 ≤ r.steps ∧ r.steps ≤ 4611686018427387904) : Does Tryz.prog 78 #[.agg (rrL r).toArray, .int .i64 (k : Int), .agg (rsL s).toArray] w
    (fun v w' => ∃ sa' scap', v = .agg (rrL { r with sa := sa', scap := scap', ss := r.ss.set k s, p := s.p, steps := r.steps + (3 + (max (r.p.f.x.length : Int) s.p.f.x.length - min (r.p.f.x.length : Int) s.p.f.x.length) * 4) }).toArray ∧ Rows rsL 7 w' sa' (r.ss.set k s) ∧ ALt w' sa' ∧ (r.ss.set k s).length ≤ scap' ∧ Fresh w sa' ∧ Chg None' w w') := by
  have hml : maxLen = 9223372036854775807 := rfl
  obtain ⟨c, cp, p, ss, sa, scap, lg, la, lcap, steps⟩ := r
  simp only at hk hl hsr h1 h3
  refine Does.enter Tryz.func78 rfl Tryz.ntmps78 rfl rfl ?_
  refine Goes.adv hTT 400 rfl ?_
  refine Goes.alloc hTT rfl ?_
  intro rb w1 e1 hrb hw1 hz1
  refine Goes.adv hTT 400 rfl ?_
  refine Goes.alloc hTT rfl ?_
  intro qb w2 e2 hqb hw2 hz2
  refine Goes.adv hTT 400 rfl ?_
  refine Goes.alloc hTT rfl ?_
  intro ob w3 e3 hob hw3 hz3
  refine Goes.adv hTT 400 rfl ?_
  replace hrb : w1.heap[rb]? = some (.cells (confL c cp ++ [ilV p.o, ilV p.f, .slice sa ss.length scap, .slice la lg.length lcap, .int .i64 steps]).toArray 35 (0, 0)) := hrb
  replace hqb : w2.heap[qb]? = some (.cells (rsL s).toArray 45 (0, 0)) := hqb
  refine Goes.buildSlice hTT rfl ?_
  intro b4 w4 e4 hb4 hw4 hz4
  refine Goes.adv hTT 400 rfl ?_
  have hw14 := (hw2.trans hw3).trans hw4
  have hw04 := hw1.trans hw14
  have hrb4 := hw14.heap' hrb
  refine Goes.loadb hTT rfl hrb4 rfl rfl ?_
  have ho : Own w3.heap.size 45 7 w4 (.slice (some ⟨b4, 0, none⟩) 0 0) 0 (fl rsL []) := Own.empty (by omega) hb4
  refine Goes.appendA (base := w3.heap.size) (xs := fl rsL []) (news := fl rsL ss) hTT rfl ho hw4.size hsr.noneA (fl_length rsL_len ss) ((hsr.chg hw04).news rsL_len (by decide)) (fl_plain rsL_plain ss) ⟨by omega, by show (0 + ss.length) * 136 ≤ _; omega⟩ ?_
  intro v5 w5 ho5 hs5 hv5
  replace ho5 : Own w3.heap.size 45 7 w5 v5 ss.length (fl rsL ss) := by
    have h := ho5
    rw [fl_nil, List.nil_append, Nat.zero_add] at h
    exact h
  have hs45 := ho.since hw4 (Nat.le_refl _) hs5
  obtain ⟨g, cap5, cur, rfl, hg1, hg2, hg3, hg4, hg5⟩ := ho5.form (by omega)
  have hcur : cur.toList = fl rsL ss ++ cur.toList.drop (ss.length * 7) := by
    have e := List.take_append_drop (ss.length * 7) cur.toList
    rw [hg5] at e
    exact e.symm
  obtain ⟨rest, hrest⟩ : ∃ rest, rest = cur.toList.drop (ss.length * 7) := ⟨_, rfl⟩
  rw [← hrest] at hcur
  have hg2' : w5.heap[g]? = some (.cells (fl rsL ss ++ rest).toArray 45 (0, 0)) := by rw [← hcur]; exact hg2
  have hs1 := hw1.size
  have hs2 := hw2.size
  have hs35 := hs45.size
  have hrb5 := hs45.heap' (hw3.heap' (hw2.heap' hrb))
  have hqb5 := hs45.heap' (hw3.heap' hqb)
  have hob5 := hs45.heap' hob
  have hlr := lt_of_heap hrb
  have hlq := lt_of_heap hqb
  refine Goes.adv hTT 400 rfl ?_
  refine Goes.loads hTT rfl hqb5 rfl rfl ?_
  refine Goes.index hTT rfl (j := (k * 7)) (by omega) (by omega) (by first | rfl | omega | (simp; done) | (simp; omega)) rfl ?_
  refine Goes.store hTT rfl hg2' (fl_set (cells := rsL) (y := s) rsL_len hk) rfl ?_
  intro w6 hg6 hs6 hz6
  refine Goes.adv hTT 400 rfl ?_
  have hrb6 := hs6.heap hrb5 (by omega)
  have hqb6 := hs6.heap hqb5 (by omega)
  have hob6 := hs6.heap hob5 (by omega)
  refine Goes.loadb hTT rfl hrb6 rfl rfl ?_
  refine Goes.store hTT rfl hrb6 rfl rfl ?_
  intro w7 hrb7 hs7 hz7
  refine Goes.adv hTT 400 rfl ?_
  have hqb7 := hs7.heap hqb6 (by omega)
  refine Goes.loads hTT rfl hqb7 rfl rfl ?_
  refine Goes.store hTT rfl hrb7 rfl rfl ?_
  intro w8 hrb8 hs8 hz8
  refine Goes.adv hTT 400 rfl ?_
  replace hrb8 : w8.heap[rb]? = some (.cells (confL c cp ++ [ilV s.p.o, ilV s.p.f, .slice (some ⟨g, 0, none⟩) ss.length cap5, .slice la lg.length lcap, .int .i64 steps]).toArray 35 (0, 0)) := hrb8
  refine Goes.loadb hTT rfl hrb8 rfl rfl ?_
  refine Goes.loadb hTT rfl hrb8 rfl rfl ?_
  refine Goes.arith hTT rfl (w64 (by omega)) rfl ?_
  have em : (if ((s.p.f.x.length : Nat) : Int) > (p.f.x.length : Nat) then ((s.p.f.x.length : Nat) : Int) else (p.f.x.length : Nat)) = max ((p.f.x.length : Nat) : Int) (s.p.f.x.length : Nat) := by split <;> omega
  have en : (if ((s.p.f.x.length : Nat) : Int) < (p.f.x.length : Nat) then ((s.p.f.x.length : Nat) : Int) else (p.f.x.length : Nat)) = min ((p.f.x.length : Nat) : Int) (s.p.f.x.length : Nat) := by split <;> omega
  rw [em, en]
  refine Goes.arith hTT rfl (w64 (by omega)) rfl ?_
  refine Goes.arith hTT rfl (w64 (by omega)) rfl ?_
  refine Goes.arith hTT rfl (w64 (by omega)) rfl ?_
  rw [show steps + 3 + 4 * (max ((p.f.x.length : Nat) : Int) (s.p.f.x.length : Nat) - min ((p.f.x.length : Nat) : Int) (s.p.f.x.length : Nat)) = steps + (3 + (max ((p.f.x.length : Nat) : Int) (s.p.f.x.length : Nat) - min ((p.f.x.length : Nat) : Int) (s.p.f.x.length : Nat)) * 4) from by omega]
  refine Goes.store hTT rfl hrb8 rfl rfl ?_
  intro w9 hrb9 hs9 hz9
  refine Goes.adv hTT 400 rfl ?_
  refine Goes.loads hTT rfl hrb9 rfl rfl ?_
  have hob9 := hs9.heap (hs8.heap (hs7.heap hob6 (by omega)) (by omega)) (by omega)
  refine Goes.store hTT rfl hob9 rfl rfl ?_
  intro wa hoba hsa' hza
  refine Goes.adv hTT 400 rfl ?_
  have hga := hsa'.heap (hs9.heap (hs8.heap (hs7.heap hg6 (by omega)) (by omega)) (by omega)) (by omega)
  have hsl : (ss.set k s).length = ss.length := List.length_set
  have hc06 : Chg None' w w6 := (((hw1.trans hw2).trans hw3).trans hs45).since hs6 (fun z hz e => by omega)
  have hc0a : Chg None' w wa := (((hc06.since hs7 (fun z hz e => by omega)).since hs8 (fun z hz e => by omega)).since hs9 (fun z hz e => by omega)).since hsa' (fun z hz e => by omega)
  exact Goes.ret hTT rfl Tryz.func78 (ResOk.cell rfl rfl rfl hoba rfl .nil) ⟨some ⟨g, 0, none⟩, cap5, by show _ = Value.agg (confL c cp ++ [ilV s.p.o, ilV s.p.f, .slice _ (ss.set k s).length _, _, _]).toArray; rw [hsl]; rfl, rows_at hga rsL_len, (by intro b off s e; cases e; exact lt_of_heap hga), by rw [hsl]; exact hg3, (by intro b off s e; cases e; omega), hc0a⟩
end Go.Proofs.YtkiionjcapnepaaGreatDoor
/-
  Layer 20: the document's taking, giving back, handing on.
-/
namespace Go.Proofs.YtkiionjcapnepaaGreatDoor
open Go.RowKit
theorem RrOk.sout {w : World} {r : RR} {M : RmM} {S : Nat → Prop} (h : RrOut S r) {k : Nat} {s : RS} (hk : r.ss[k]? = some s) (_ : RrOk w r M) : RsOut S { s with p := r.p } := by
  have := h.each s (List.mem_of_getElem? hk)
  exact ⟨h.o, h.f, this.nums, this.opn, this.pa, this.each⟩
theorem RrOk.put {w w' : World} {r : RR} {M : RmM} (h : RrOk w r M) (hc : Chg None' w w') {k : Nat} {s : RS} {x' : Sm} {pl' : PlM} {t : Int} {sa' : Option Addr} {scap' : Nat} (hk : k < r.ss.length) (hs : RsOk w' s x' pl') (hof : x'.Of pl') (hrow : Rows rsL 7 w' sa' (r.ss.set k s)) (hlt : ALt w' sa') (hcap : (r.ss.set k s).length ≤ scap') :
    RrOk w' { r with sa := sa', scap := scap', ss := r.ss.set k s, p := s.p, steps := t } { M with shs := M.shs.set k x', pl := pl', tot := t } := by
  have h' := h.grow hc
  refine ⟨hs.p, hrow, hlt, hcap, by show (r.ss.set k s).length = (M.shs.set k x').length; rw [List.length_set, List.length_set]; exact h.n, by show (r.ss.set k s).length ≤ 16; rw [List.length_set]; exact h.few, fun j s1 x1 h1 h2 => ?_, h'.lr, h'.ll, h'.lc, h'.lm, h'.lge, h'.lgo, rfl⟩
  replace h1 : (r.ss.set k s)[j]? = some s1 := h1
  replace h2 : (M.shs.set k x')[j]? = some x1 := h2
  by_cases e : k = j
  · subst e
    rw [List.getElem?_set_self hk] at h1
    rw [List.getElem?_set_self (by rw [← h.n]; exact hk)] at h2
    cases h1; cases h2
    exact ⟨pl', hs, hof⟩
  · rw [List.getElem?_set_ne e] at h1 h2
    exact h'.each j s1 x1 h1 h2
theorem RKeep.put {w w1 w' : World} {r : RR} {M : RmM} (h : RrOk w r M) {k : Nat} {s0 s : RS} {t : Int} {sa' : Option Addr} {scap' : Nat} (hk : r.ss[k]? = some s0) (hs : w.heap.size ≤ w1.heap.size) (hkeep : Keep w1 { s0 with p := r.p } s) (hf : Fresh w' sa') (hs' : w.heap.size ≤ w'.heap.size) :
    RKeep w r { r with sa := sa', scap := scap', ss := r.ss.set k s, p := s.p, steps := t } := ⟨rfl, rfl, fun S hS ho => by
  have hso := hkeep S (fun z hz => by have := hS z hz; omega) (RrOk.sout ho hk h)
  refine ⟨hso.o, hso.f, hf.out (fun z hz => by have := hS z hz; omega), fun s1 h1 => ?_, ho.la, ho.lgo⟩
  rcases List.mem_or_eq_of_mem_set h1 with h1 | rfl
  · exact ho.each s1 h1
  · exact hso⟩
theorem chg_steps {p q : PlM} (hp : p.Good) (hq : q.Good) (ho : q.own.length = p.own.length) {t : Int} (ht : 0 ≤ t ∧ t ≤ 4611686018427000000) : charged t (chgM p q) = t + (3 + (max (p.free.length : Int) q.free.length - min (p.free.length : Int) q.free.length) * 4) := by
  have h1 := hp.many
  have h2 := hq.many
  have h3 := hp.len
  have e : max (heldM q : Int) (heldM p) - min (heldM q : Int) (heldM p) = max (p.free.length : Int) q.free.length - min (p.free.length : Int) q.free.length := by unfold heldM; omega
  unfold chgM charged
  rw [e, if_neg (by omega)]
  have : max (p.free.length : Int) q.free.length - min (p.free.length : Int) q.free.length ≤ 1024 := by omega
  omega
theorem Eff.good {p q : PlM} {c : Int} (h : Eff p q c) (hg : p.Good) (hc : 0 ≤ c) : q.Good := by
  rcases h with rfl | ⟨n, r, hf, rfl⟩ | ⟨n, hn, ho, rfl⟩
  · exact hg
  · exact hg.take hc hf
  · exact hg.give hn (by omega)
theorem rm_cases (r : RR) (M : RmM) (k : Int) (hn : r.ss.length = M.shs.length) : (rmGet M k = none ∧ (decide (0 ≤ k) && decide (k < r.ss.length)) = false) ∨ ∃ (j : Nat) (x : Sm) (s : RS), k = j ∧ rmGet M k = some x ∧ M.shs[j]? = some x ∧ r.ss[j]? = some s ∧ (decide (0 ≤ k) && decide (k < r.ss.length)) = true := by
  by_cases h : 0 ≤ k ∧ k < r.ss.length
  · obtain ⟨j, rfl⟩ := Int.eq_ofNat_of_zero_le h.1
    have hj : j < M.shs.length := by omega
    refine .inr ⟨j, M.shs[j], r.ss[j], rfl, rmGet_nat hj, List.getElem?_eq_getElem hj, List.getElem?_eq_getElem (by omega), ?_⟩
    rw [decide_eq_true h.1, decide_eq_true h.2]; rfl
  · refine .inl ⟨rmGet_none (by omega), ?_⟩
    by_cases h0 : 0 ≤ k
    · rw [decide_eq_false (fun e : k < r.ss.length => h ⟨h0, e⟩), Bool.and_false]
    · rw [decide_eq_false h0]; rfl
theorem RKeep.back {w w2 : World} {r r' : RR} (h : RKeep w2 r r') (hs : w.heap.size ≤ w2.heap.size) : RKeep w r r' := ⟨h.1, h.2.1, fun S hS ho => h.2.2 S (fun z hz => by have := hS z hz; omega) ho⟩
theorem take_of (x : Sm) (pl : PlM) (who : Int) (hof : x.Of pl) (hg : pl.Good) : (shTake x pl who).Of (shTakeP x pl who) := by
  rcases shTake_cases x pl who with ⟨_, h1, h2⟩ | ⟨_, _, ⟨n, r, _, h1, h2, _⟩ | ⟨n, r, _, hf, h1, h2, _⟩⟩
  · rw [h1, h2]; exact hof
  · rw [h1, h2]; exact hof.set rfl (fun e he => smSet_old he)
  · rw [h1, h2]; exact (hof.fresh hg hf).set rfl (fun e he => smSet_old he)
theorem give_of (x : Sm) (pl : PlM) (n i : Int) (hok : x.Ok) (hof : x.Of pl) : (shGive x n i).Of (shGiveP x pl n i) := by
  unfold shGive shGiveP
  cases hg : smGet x.pg n with
  | none => exact hof
  | some p =>
    simp only
    by_cases hE : pgGiveE p i = 0
    · rw [if_pos hE]
      have := Sm.Of.giveAt hok hof (n := n.toNat) (p := p) (i := i)
      by_cases hu : pgUsed (pgGive p i) = 0
      · rw [if_pos hu] at this; rw [if_pos ⟨hE, hu⟩]; exact this
      · rw [if_neg hu] at this; rw [if_neg (fun h => hu h.2)]; exact this
    · rw [if_neg hE, if_neg (fun h => hE h.1)]; exact hof
theorem own_of (x : Sm) (pl : PlM) (n i who : Int) (hof : x.Of pl) : (shOwn x n i who).Of pl := by
  unfold shOwn
  split
  · exact hof.set rfl (fun e he => smSet_old he)
  · exact hof
theorem ref20_withM (r : RR) (M : RmM) (j : Nat) (x x' : Sm) (s s5 : RS) (pl' : PlM) (w0 w1 w : World) (h : RrOk w0 r M) (hc : Chg None' w0 w) (hm : MOk M) (ht : 0 ≤ M.tot ∧ M.tot ≤ 4611686018427000000) (hs : r.ss[j]? = some s) (hx : M.shs[j]? = some x) (hS : RsOk w s5 x' pl') (hof' : x'.Of pl') (hE : Eff M.pl pl' x.cls)
    (hk : Keep w1 { s with p := r.p } s5) (hw1 : w0.heap.size ≤ w1.heap.size) : Does Tryz.prog 78 #[.agg (rrL r).toArray, .int .i64 (j : Int), .agg (rsL s5).toArray] w (fun v w' => ∃ r', v = .agg (rrL r').toArray ∧ RrOk w' r' (rmPut M j x' pl') ∧ RKeep w0 r r' ∧ Chg None' w w') := by
  obtain ⟨hok, hof⟩ := hm.sh j x hx
  have hjl : j < r.ss.length := (List.getElem?_eq_some_iff.1 hs).1
  have hfl : r.p.f.x.length = M.pl.free.length := by rw [h.p.ef, List.length_map]
  have hfl' : s5.p.f.x.length = pl'.free.length := by rw [hS.p.ef, List.length_map]
  have hg' := hE.good hm.good hok.cls
  have b1 := hm.good.many
  have b2 := hm.good.len
  have b3 := hg'.many
  have b4 := hg'.len
  refine (ref20_with r j s5 w (h.sr.chg hc) hjl h.few (by omega) (by omega) (by rw [h.st]; omega)).mono fun v w' ⟨sa', scap', e, hrow, hlt, hcap, hfr, hw8⟩ => ?_
  have ht' : charged M.tot (chgM M.pl pl') = r.steps + (3 + (max (r.p.f.x.length : Int) s5.p.f.x.length - min (r.p.f.x.length : Int) s5.p.f.x.length) * 4) := by
    rw [chg_steps hm.good hg' (hE.own hm.good).1 ht, hfl, hfl', h.st]
  rw [← ht'] at e
  exact ⟨_, e, h.put (t := charged M.tot (chgM M.pl pl')) (hc.trans hw8) hjl (hS.grow hw8) hof' hrow hlt hcap, RKeep.put (M := M) h hs hw1 hk hfr hc.size, hw8⟩
set_option maxRecDepth 100000 in
theorem ref20_Take (r : RR) (M : RmM) (k who : Int) (w : World) (h : RrOk w r M) (hm : MOk M) (ht : 0 ≤ M.tot ∧ M.tot ≤ 4611686018427000000) : Does Tryz.prog 35 #[.agg (rrL r).toArray, .int .i64 k, .int .i64 who] w
    (fun v w' => ∃ r', v = .tuple #[.agg (rrL r').toArray, .int .i64 (rmTakeN M k who), .int .i64 (rmTakeA M k who), .int .i64 (rmTakeE M k who)] ∧ RrOk w' r' (rmTake M k who) ∧ RKeep w r r' ∧ Chg None' w w') := by
  refine Does.enter Tryz.func35 rfl Tryz.ntmps35 rfl rfl ?_
  refine Goes.adv hTT 400 rfl ?_
  refine Goes.alloc hTT rfl ?_
  intro rb w1 e1 hrb hw1 hz1
  refine Goes.adv hTT 400 rfl ?_
  refine Goes.alloc hTT rfl ?_
  intro ob w2 e2 hob hw2 hz2
  refine Goes.adv hTT 400 rfl ?_
  replace hrb : rrBox w1 rb r := hrb
  have hw02 := hw1.trans hw2
  have hrb2 := hw2.heap' hrb
  have hs1 := hw1.size
  refine Goes.loads hTT rfl hrb2 rfl rfl ?_
  refine Goes.call rfl (ref20_Is r k w2) ?_
  rintro _ w3 ⟨rfl, hw3⟩
  refine Goes.adv hTT 400 rfl ?_
  have hob3 := hw3.heap' hob
  have hrb3 := hw3.heap' hrb2
  have hw03 := hw02.trans hw3
  have hs3 := hw3.size
  unfold rmTakeN rmTakeA rmTakeE rmTake
  rcases rm_cases r M k h.n with ⟨hg, hb⟩ | ⟨j, x, s, rfl, hg, hx, hs, hb⟩
  · rw [hg, hb]
    simp only
    refine Goes.yes hTT rfl rfl rfl ?_
    refine Goes.loads hTT rfl hrb3 rfl rfl ?_
    refine Goes.store hTT rfl hob3 rfl rfl ?_
    intro w4 hob4 hs4 hz4
    refine Goes.adv hTT 400 rfl ?_
    replace hob4 : rrBox w4 ob r := hob4
    have hc : Chg None' w w4 := hw03.since hs4 (fun z hz e => by omega)
    exact Goes.ret hTT rfl Tryz.func35 (ResOk.cell rfl rfl rfl hob4 rfl (.tmp rfl (.tmp rfl (.tmp rfl .nil)))) ⟨r, rfl, h.grow hc, RKeep.refl w r, hc⟩
  · rw [hg, hb]
    simp only [Int.toNat_natCast]
    refine Goes.no hTT rfl rfl rfl ?_
    obtain ⟨pk, hpk, _⟩ := h.each j s x hs hx
    have hS := (hpk.setP h.p).grow hw03
    obtain ⟨hok, hof⟩ := hm.sh j x hx
    refine Goes.loads hTT rfl hrb3 rfl rfl ?_
    refine Goes.call rfl (ref20_shelf r M j s w3 (h.grow hw03) hs) ?_
    rintro _ w4 ⟨rfl, hw4⟩
    refine Goes.adv hTT 400 rfl ?_
    have hw04 := hw03.trans hw4
    refine Goes.call rfl (ref13_Take { s with p := r.p } x M.pl who w4 (hS.grow hw4) hok hof hm.good) ?_
    rintro _ w5 ⟨s5, rfl, hs5, hk5, hw5⟩
    refine Goes.adv hTT 400 rfl ?_
    have hw05 := hw04.trans hw5
    have hs05 := hw05.size
    refine Goes.alloc hTT rfl ?_
    intro qb w6 e6 hqb hw6 hz6
    refine Goes.adv hTT 400 rfl ?_
    refine Goes.store hTT rfl hqb rfl rfl ?_
    intro w7 hqb7 hs7 hz7
    refine Goes.adv hTT 400 rfl ?_
    replace hqb7 : w7.heap[qb]? = some (.cells (rsL s5).toArray 45 (0, 0)) := hqb7
    have hs35 := (hw4.trans hw5).size
    have hc57 : Chg None' w5 w7 := hw6.since hs7 (fun z hz e => by omega)
    have hc37 := (hw4.trans hw5).trans hc57
    have hrb7 := hc37.heap' hrb3
    have hob7 := hc37.heap' hob3
    have hw07 := hw03.trans hc37
    have hlo := lt_of_heap hob
    by_cases hE : shTakeE x M.pl who = 0
    · rw [if_pos hE, hE]
      refine Goes.no hTT rfl rfl rfl ?_
      refine Goes.loads hTT rfl hrb7 rfl rfl ?_
      refine Goes.loads hTT rfl hqb7 rfl rfl ?_
      obtain ⟨e2, _⟩ := take_eff x M.pl who hm.good hok.cls
      refine Goes.call rfl (ref20_withM r M j x _ s s5 _ w2 w4 w7 (h.grow hw02) (hw3.trans hc37) hm ht hs hx (hs5.grow hc57) (take_of x M.pl who hof hm.good) e2 hk5 (hw3.trans hw4).size) ?_
      rintro _ w8 ⟨r', rfl, hR, hK, hw8⟩
      refine Goes.adv hTT 400 rfl ?_
      have hob8 := hw8.heap' hob7
      refine Goes.store hTT rfl hob8 rfl rfl ?_
      intro w9 hob9 hs9 hz9
      refine Goes.adv hTT 400 rfl ?_
      replace hob9 : rrBox w9 ob r' := hob9
      have hs8 := hw8.size
      have hc7 := hw07.size
      have hc09 : Chg None' w w9 := (hw07.trans hw8).since hs9 (fun z hz e => by omega)
      have hout : RrOut (fun z => z = ob) r' := hK.2.2 _ (fun z hz => by omega) (h.out (fun z hz => by omega))
      exact Goes.ret hTT rfl Tryz.func35 (ResOk.cell rfl rfl rfl hob9 rfl (.tmp rfl (.tmp rfl (.tmp rfl .nil)))) ⟨r', rfl, hR.far hout hs9, hK.back hw02.size, hc09⟩
    · rw [if_neg hE]
      have eN : shTakeN x M.pl who = 0 ∧ shTakeA x M.pl who = 0 := by unfold shTakeN shTakeA; rw [if_neg hE, if_neg hE]; exact ⟨rfl, rfl⟩
      rw [eN.1, eN.2]
      refine Goes.yes hTT rfl (by simpa using hE) rfl ?_
      refine Goes.loads hTT rfl hrb7 rfl rfl ?_
      refine Goes.store hTT rfl hob7 rfl rfl ?_
      intro w8 hob8 hs8 hz8
      refine Goes.adv hTT 400 rfl ?_
      replace hob8 : rrBox w8 ob r := hob8
      have hc : Chg None' w w8 := hw07.since hs8 (fun z hz e => by omega)
      exact Goes.ret hTT rfl Tryz.func35 (ResOk.cell rfl rfl rfl hob8 rfl (.tmp rfl (.tmp rfl (.tmp rfl .nil)))) ⟨r, rfl, h.grow hc, RKeep.refl w r, hc⟩
set_option maxRecDepth 100000 in
theorem ref20_Give (r : RR) (M : RmM) (k n i : Int) (w : World) (h : RrOk w r M) (hm : MOk M) (ht : 0 ≤ M.tot ∧ M.tot ≤ 4611686018427000000) : Does Tryz.prog 37 #[.agg (rrL r).toArray, .int .i64 k, .int .i64 n, .int .i64 i] w
    (fun v w' => ∃ r', v = .tuple #[.agg (rrL r').toArray, .int .i64 (rmGiveE M k n i)] ∧ RrOk w' r' (rmGive M k n i) ∧ RKeep w r r' ∧ Chg None' w w') := by
  refine Does.enter Tryz.func37 rfl Tryz.ntmps37 rfl rfl ?_
  refine Goes.adv hTT 400 rfl ?_
  refine Goes.alloc hTT rfl ?_
  intro rb w1 e1 hrb hw1 hz1
  refine Goes.adv hTT 400 rfl ?_
  refine Goes.alloc hTT rfl ?_
  intro ob w2 e2 hob hw2 hz2
  refine Goes.adv hTT 400 rfl ?_
  replace hrb : rrBox w1 rb r := hrb
  have hw02 := hw1.trans hw2
  have hrb2 := hw2.heap' hrb
  have hs1 := hw1.size
  refine Goes.loads hTT rfl hrb2 rfl rfl ?_
  refine Goes.call rfl (ref20_Is r k w2) ?_
  rintro _ w3 ⟨rfl, hw3⟩
  refine Goes.adv hTT 400 rfl ?_
  have hob3 := hw3.heap' hob
  have hrb3 := hw3.heap' hrb2
  have hw03 := hw02.trans hw3
  have hs3 := hw3.size
  unfold rmGiveE rmGive
  rcases rm_cases r M k h.n with ⟨hg, hb⟩ | ⟨j, x, s, rfl, hg, hx, hs, hb⟩
  · rw [hg, hb]
    simp only
    refine Goes.yes hTT rfl rfl rfl ?_
    refine Goes.loads hTT rfl hrb3 rfl rfl ?_
    refine Goes.store hTT rfl hob3 rfl rfl ?_
    intro w4 hob4 hs4 hz4
    refine Goes.adv hTT 400 rfl ?_
    replace hob4 : rrBox w4 ob r := hob4
    have hc : Chg None' w w4 := hw03.since hs4 (fun z hz e => by omega)
    exact Goes.ret hTT rfl Tryz.func37 (ResOk.cell rfl rfl rfl hob4 rfl (.tmp rfl .nil)) ⟨r, rfl, h.grow hc, RKeep.refl w r, hc⟩
  · rw [hg, hb]
    simp only [Int.toNat_natCast]
    refine Goes.no hTT rfl rfl rfl ?_
    obtain ⟨pk, hpk, _⟩ := h.each j s x hs hx
    have hS := (hpk.setP h.p).grow hw03
    obtain ⟨hok, hof⟩ := hm.sh j x hx
    refine Goes.loads hTT rfl hrb3 rfl rfl ?_
    refine Goes.call rfl (ref20_shelf r M j s w3 (h.grow hw03) hs) ?_
    rintro _ w4 ⟨rfl, hw4⟩
    refine Goes.adv hTT 400 rfl ?_
    have hw04 := hw03.trans hw4
    refine Goes.call rfl (ref13_Give { s with p := r.p } x M.pl n i w4 (hS.grow hw4) hok hof hm.good) ?_
    rintro _ w5 ⟨s5, rfl, hs5, hk5, hw5⟩
    refine Goes.adv hTT 400 rfl ?_
    have hw05 := hw04.trans hw5
    have hs05 := hw05.size
    refine Goes.alloc hTT rfl ?_
    intro qb w6 e6 hqb hw6 hz6
    refine Goes.adv hTT 400 rfl ?_
    refine Goes.store hTT rfl hqb rfl rfl ?_
    intro w7 hqb7 hs7 hz7
    refine Goes.adv hTT 400 rfl ?_
    replace hqb7 : w7.heap[qb]? = some (.cells (rsL s5).toArray 45 (0, 0)) := hqb7
    have hs35 := (hw4.trans hw5).size
    have hc57 : Chg None' w5 w7 := hw6.since hs7 (fun z hz e => by omega)
    have hc37 := (hw4.trans hw5).trans hc57
    have hrb7 := hc37.heap' hrb3
    have hob7 := hc37.heap' hob3
    have hw07 := hw03.trans hc37
    have hlo := lt_of_heap hob
    by_cases hE : shGiveE x n i = 0
    · rw [if_pos hE, hE]
      refine Goes.no hTT rfl rfl rfl ?_
      refine Goes.loads hTT rfl hrb7 rfl rfl ?_
      refine Goes.loads hTT rfl hqb7 rfl rfl ?_
      obtain ⟨e2, _⟩ := give_eff x M.pl n i hok hof
      refine Goes.call rfl (ref20_withM r M j x _ s s5 _ w2 w4 w7 (h.grow hw02) (hw3.trans hc37) hm ht hs hx (hs5.grow hc57) (give_of x M.pl n i hok hof) e2 hk5 (hw3.trans hw4).size) ?_
      rintro _ w8 ⟨r', rfl, hR, hK, hw8⟩
      refine Goes.adv hTT 400 rfl ?_
      have hob8 := hw8.heap' hob7
      refine Goes.store hTT rfl hob8 rfl rfl ?_
      intro w9 hob9 hs9 hz9
      refine Goes.adv hTT 400 rfl ?_
      replace hob9 : rrBox w9 ob r' := hob9
      have hs8 := hw8.size
      have hc7 := hw07.size
      have hc09 : Chg None' w w9 := (hw07.trans hw8).since hs9 (fun z hz e => by omega)
      have hout : RrOut (fun z => z = ob) r' := hK.2.2 _ (fun z hz => by omega) (h.out (fun z hz => by omega))
      exact Goes.ret hTT rfl Tryz.func37 (ResOk.cell rfl rfl rfl hob9 rfl (.tmp rfl .nil)) ⟨r', rfl, hR.far hout hs9, hK.back hw02.size, hc09⟩
    · rw [if_neg hE]
      refine Goes.yes hTT rfl (by simpa using hE) rfl ?_
      refine Goes.loads hTT rfl hrb7 rfl rfl ?_
      refine Goes.store hTT rfl hob7 rfl rfl ?_
      intro w8 hob8 hs8 hz8
      refine Goes.adv hTT 400 rfl ?_
      replace hob8 : rrBox w8 ob r := hob8
      have hc : Chg None' w w8 := hw07.since hs8 (fun z hz e => by omega)
      exact Goes.ret hTT rfl Tryz.func37 (ResOk.cell rfl rfl rfl hob8 rfl (.tmp rfl .nil)) ⟨r, rfl, h.grow hc, RKeep.refl w r, hc⟩
theorem shOwn_no {x : Sm} {n i who : Int} (hok : x.Ok) (h : shOwnE x n i who ≠ 0) : shOwn x n i who = x := by
  unfold shOwnE at h
  unfold shOwn
  cases hg : smGet x.pg n with
  | none => rfl
  | some p =>
    rw [hg] at h
    obtain ⟨m, rfl, hm⟩ := smGet_some hg
    have e : pgOwnS p i who = p := by unfold pgOwnS; exact if_neg h
    show x.ownAt (m : Int).toNat p i who = x
    unfold Sm.ownAt
    rw [e, Int.toNat_natCast, smSet_self hok.nodup hm]
set_option maxRecDepth 100000 in
theorem ref20_Own (r : RR) (M : RmM) (k n i who : Int) (w : World) (h : RrOk w r M) (hm : MOk M) (ht : 0 ≤ M.tot ∧ M.tot ≤ 4611686018427000000) : Does Tryz.prog 39 #[.agg (rrL r).toArray, .int .i64 k, .int .i64 n, .int .i64 i, .int .i64 who] w
    (fun v w' => ∃ r', v = .tuple #[.agg (rrL r').toArray, .int .i64 (rmOwnE M k n i who)] ∧ RrOk w' r' (rmOwn M k n i who) ∧ RKeep w r r' ∧ Chg None' w w') := by
  refine Does.enter Tryz.func39 rfl Tryz.ntmps39 rfl rfl ?_
  refine Goes.adv hTT 400 rfl ?_
  refine Goes.alloc hTT rfl ?_
  intro rb w1 e1 hrb hw1 hz1
  refine Goes.adv hTT 400 rfl ?_
  refine Goes.alloc hTT rfl ?_
  intro ob w2 e2 hob hw2 hz2
  refine Goes.adv hTT 400 rfl ?_
  replace hrb : rrBox w1 rb r := hrb
  have hw02 := hw1.trans hw2
  have hrb2 := hw2.heap' hrb
  have hs1 := hw1.size
  refine Goes.loads hTT rfl hrb2 rfl rfl ?_
  refine Goes.call rfl (ref20_Is r k w2) ?_
  rintro _ w3 ⟨rfl, hw3⟩
  refine Goes.adv hTT 400 rfl ?_
  have hob3 := hw3.heap' hob
  have hrb3 := hw3.heap' hrb2
  have hw03 := hw02.trans hw3
  have hs3 := hw3.size
  unfold rmOwnE rmOwn
  rcases rm_cases r M k h.n with ⟨hg, hb⟩ | ⟨j, x, s, rfl, hg, hx, hs, hb⟩
  · rw [hg, hb]
    simp only
    refine Goes.yes hTT rfl rfl rfl ?_
    refine Goes.loads hTT rfl hrb3 rfl rfl ?_
    refine Goes.store hTT rfl hob3 rfl rfl ?_
    intro w4 hob4 hs4 hz4
    refine Goes.adv hTT 400 rfl ?_
    replace hob4 : rrBox w4 ob r := hob4
    have hc : Chg None' w w4 := hw03.since hs4 (fun z hz e => by omega)
    exact Goes.ret hTT rfl Tryz.func39 (ResOk.cell rfl rfl rfl hob4 rfl (.tmp rfl .nil)) ⟨r, rfl, h.grow hc, RKeep.refl w r, hc⟩
  · rw [hg, hb]
    simp only [Int.toNat_natCast]
    refine Goes.no hTT rfl rfl rfl ?_
    obtain ⟨pk, hpk, _⟩ := h.each j s x hs hx
    have hS := (hpk.setP h.p).grow hw03
    obtain ⟨hok, hof⟩ := hm.sh j x hx
    refine Goes.loads hTT rfl hrb3 rfl rfl ?_
    refine Goes.call rfl (ref20_shelf r M j s w3 (h.grow hw03) hs) ?_
    rintro _ w4 ⟨rfl, hw4⟩
    refine Goes.adv hTT 400 rfl ?_
    have hw04 := hw03.trans hw4
    refine Goes.call rfl (ref13_Own { s with p := r.p } x M.pl n i who w4 (hS.grow hw4) hok hof) ?_
    rintro _ w5 ⟨s5, rfl, hs5, hk5, hw5⟩
    refine Goes.adv hTT 400 rfl ?_
    have hw05 := hw04.trans hw5
    have hs05 := hw05.size
    refine Goes.alloc hTT rfl ?_
    intro qb w6 e6 hqb hw6 hz6
    refine Goes.adv hTT 400 rfl ?_
    refine Goes.store hTT rfl hqb rfl rfl ?_
    intro w7 hqb7 hs7 hz7
    refine Goes.adv hTT 400 rfl ?_
    replace hqb7 : w7.heap[qb]? = some (.cells (rsL s5).toArray 45 (0, 0)) := hqb7
    have hs35 := (hw4.trans hw5).size
    have hc57 : Chg None' w5 w7 := hw6.since hs7 (fun z hz e => by omega)
    have hc37 := (hw4.trans hw5).trans hc57
    have hrb7 := hc37.heap' hrb3
    have hob7 := hc37.heap' hob3
    have hw07 := hw03.trans hc37
    have hlo := lt_of_heap hob
    by_cases hE : shOwnE x n i who = 0
    · rw [hE]
      refine Goes.no hTT rfl rfl rfl ?_
      refine Goes.loads hTT rfl hrb7 rfl rfl ?_
      refine Goes.loads hTT rfl hqb7 rfl rfl ?_
      obtain ⟨e2, _⟩ := own_eff x M.pl n i who
      refine Goes.call rfl (ref20_withM r M j x _ s s5 _ w2 w4 w7 (h.grow hw02) (hw3.trans hc37) hm ht hs hx (hs5.grow hc57) (own_of x M.pl n i who hof) e2 hk5 (hw3.trans hw4).size) ?_
      rintro _ w8 ⟨r', rfl, hR, hK, hw8⟩
      refine Goes.adv hTT 400 rfl ?_
      have hob8 := hw8.heap' hob7
      have hrb8 := hw8.heap' hrb7
      refine Goes.alloc hTT rfl ?_
      intro tb w9 e9 htb hw9 hz9
      refine Goes.adv hTT 400 rfl ?_
      refine Goes.store hTT rfl htb rfl rfl ?_
      intro wa htba hsa hza
      refine Goes.adv hTT 400 rfl ?_
      replace htba : rrBox wa tb r' := htba
      have hs8 := hw8.size
      have hc7 := hw07.size
      have hc8a : Chg None' w8 wa := hw9.since hsa (fun z hz e => by omega)
      refine Goes.loadb hTT rfl (hc8a.heap' hrb8) rfl rfl ?_
      refine Goes.store hTT rfl htba rfl rfl ?_
      intro wb htbb hsb hzb
      refine Goes.adv hTT 400 rfl ?_
      replace htbb : rrBox wb tb { r' with steps := r.steps } := htbb
      refine Goes.loads hTT rfl htbb rfl rfl ?_
      have hc8b : Chg None' w8 wb := hc8a.since hsb (fun z hz e => by omega)
      refine Goes.store hTT rfl (hc8b.heap' hob8) rfl rfl ?_
      intro wc hobc hsc hzc
      refine Goes.adv hTT 400 rfl ?_
      replace hobc : rrBox wc ob { r' with steps := r.steps } := hobc
      have hc0c : Chg None' w wc := ((hw07.trans hw8).trans hc8b).since hsc (fun z hz e => by omega)
      have hout : RrOut (fun z => z = ob) r' := hK.2.2 _ (fun z hz => by omega) (h.out (fun z hz => by omega))
      have hR1 : RrOk w8 { r' with steps := r.steps } (rmSet M j (shOwn x n i who) M.pl) := { hR with st := h.st }
      have hout1 : RrOut (fun z => z = ob) { r' with steps := r.steps } := ⟨hout.o, hout.f, hout.sa, hout.each, hout.la, hout.lgo⟩
      have hK1 : RKeep w2 r { r' with steps := r.steps } := ⟨hK.1, hK.2.1, fun S hS ho => by have := hK.2.2 S hS ho; exact ⟨this.o, this.f, this.sa, this.each, this.la, this.lgo⟩⟩
      exact Goes.ret hTT rfl Tryz.func39 (ResOk.cell rfl rfl rfl hobc rfl (.tmp rfl .nil)) ⟨{ r' with steps := r.steps }, rfl, (hR1.grow hc8b).far hout1 hsc, hK1.back hw02.size, hc0c⟩
    · rw [shOwn_no hok hE, rmSet_self hx]
      refine Goes.yes hTT rfl (by simpa using hE) rfl ?_
      refine Goes.loads hTT rfl hrb7 rfl rfl ?_
      refine Goes.store hTT rfl hob7 rfl rfl ?_
      intro w8 hob8 hs8 hz8
      refine Goes.adv hTT 400 rfl ?_
      replace hob8 : rrBox w8 ob r := hob8
      have hc : Chg None' w w8 := hw07.since hs8 (fun z hz e => by omega)
      exact Goes.ret hTT rfl Tryz.func39 (ResOk.cell rfl rfl rfl hob8 rfl (.tmp rfl .nil)) ⟨r, rfl, h.grow hc, RKeep.refl w r, hc⟩
end Go.Proofs.YtkiionjcapnepaaGreatDoor
/-
  Layer 20: what the document tells of a room.
-/
namespace Go.Proofs.YtkiionjcapnepaaGreatDoor
open Go.RowKit
theorem ref02_Pick (a : Option Addr) (cap : Nat) (zs : List Int) (n : Int) (w : World) (hr : Rd .i64 w a zs) (hl : zs.length ≤ 9223372036854775806) : Does Tryz.prog 95 #[.slice a zs.length cap, .int .i64 n] w (Same (.int .i64 (pickM zs n)) w) := by
  refine Does.enter Tryz.func95 rfl Tryz.ntmps95 rfl rfl ?_
  refine Goes.adv hTT 400 rfl ?_
  refine Goes.loop (α := Nat) (fun k => [(0, false, .slice a zs.length cap), (1, false, .int .i64 n), (5, false, .int .i64 k)])
    (fun k w' => w' = w ∧ k ≤ zs.length ∧ ∀ j (h : j < zs.length), j < k → n < 1 ∨ decide (n ≤ zs[j]) = false) (fun k => zs.length - k) 0 ⟨rfl, rfl, rfl, trivial⟩ ⟨rfl, Nat.zero_le _, fun _ _ h => by omega⟩ ?_
  rintro k w1 ⟨hw, hk, hpre⟩ ih
  subst hw
  refine Goes.adv hTT 400 rfl ?_
  refine Goes.fork hTT rfl rfl rfl (fun h => ?_) (fun h => ?_)
  · have hlt : k < zs.length := by simpa using h
    refine Goes.fork hTT rfl rfl rfl (fun h1 => ?_) (fun h1 => ?_)
    · have h1' : 1 ≤ n := by have := of_decide_eq_true h1; omega
      obtain ⟨b, off, rfl, hc⟩ := hr k hlt
      rw [getD_at hlt] at hc
      refine Goes.index hTT rfl (j := k) (by omega) (by omega) (by first | rfl | omega | (simp; done) | (simp; omega)) rfl ?_
      refine Goes.load hTT rfl hc rfl ?_
      refine Goes.fork hTT rfl rfl rfl (fun h2 => ?_) (fun h2 => ?_)
      · have h2' : n ≤ zs[k] := by have := of_decide_eq_true h2; omega
        have e : pickM zs n = k := by
          unfold pickM
          rw [if_neg (by omega)]
          exact idx_at hlt (fun j hj hjk => (hpre j hj hjk).elim (fun h => by omega) id) (decide_eq_true h2')
        exact Goes.ret1 hTT rfl Tryz.func95 rfl rfl ⟨int_v e.symm, rfl⟩
      · have h2' : ¬ n ≤ zs[k] := by have := of_decide_eq_false h2; omega
        refine Goes.arith hTT rfl (w64 (by omega)) rfl ?_
        exact ih (k + 1) _ _ ⟨rfl, hlt, fun j hj hjk => by
          by_cases e : j = k
          · subst e; exact .inr (decide_eq_false h2')
          · exact hpre j hj (by omega)⟩ (by omega) ⟨rfl, rfl, rfl, trivial⟩
    · have h1' : n < 1 := by have := of_decide_eq_false h1; omega
      refine Goes.arith hTT rfl (w64 (by omega)) rfl ?_
      exact ih (k + 1) _ _ ⟨rfl, hlt, fun j hj hjk => .inl h1'⟩ (by omega) ⟨rfl, rfl, rfl, trivial⟩
  · have hge : k = zs.length := by simp at h; omega
    have e : pickM zs n = -1 := by
      unfold pickM
      by_cases h1 : n < 1
      · rw [if_pos h1]
      · rw [if_neg h1]
        exact idx_none (fun j hj => (hpre j hj (by omega)).elim (fun h => absurd h h1) id)
    exact Goes.ret1 hTT rfl Tryz.func95 rfl rfl ⟨int_v e.symm, rfl⟩
theorem ref16_Data (n q : Int) (w : World) (hn : n ≤ 9223372036854775807) : Does Tryz.prog 46 #[.int .i64 n, .int .i64 q] w (Same (.int .i64 (manyM n q)) w) := by
  refine Does.enter Tryz.func46 rfl Tryz.ntmps46 rfl rfl ?_
  refine Goes.adv hTT 400 rfl ?_
  refine Goes.call rfl (ref01_Many n q w hn) ?_
  rintro _ _ ⟨rfl, rfl⟩
  refine Goes.adv hTT 400 rfl ?_
  exact Goes.ret1 hTT rfl Tryz.func46 rfl rfl ⟨rfl, rfl⟩
theorem ref16_All (n q : Int) (w : World) (hn : n ≤ 9223372036854775807) : Does Tryz.prog 15 #[.int .i64 n, .int .i64 q] w (Same (.int .i64 (allM n q)) w) := by
  have hb := manyM_le (q := q) hn
  refine Does.enter Tryz.func15 rfl Tryz.ntmps15 rfl rfl ?_
  refine Goes.adv hTT 400 rfl ?_
  refine Goes.call rfl (ref16_Data n q w hn) ?_
  rintro _ _ ⟨rfl, rfl⟩
  refine Goes.adv hTT 400 rfl ?_
  refine Goes.fork hTT rfl rfl rfl (fun h1 => ?_) (fun h1 => ?_)
  · have e : allM n q = 0 := by unfold allM; rw [if_pos (.inl (of_decide_eq_true h1))]
    exact Goes.ret1 hTT rfl Tryz.func15 rfl rfl ⟨int_v e.symm, rfl⟩
  · have h1' := of_decide_eq_false h1
    refine Goes.call rfl (ref16_Data n q w hn) ?_
    rintro _ _ ⟨rfl, rfl⟩
    refine Goes.adv hTT 400 rfl ?_
    refine Goes.fork hTT rfl rfl rfl (fun h2 => ?_) (fun h2 => ?_)
    · have e : allM n q = 0 := by unfold allM; rw [if_pos (.inr (of_decide_eq_true h2))]
      exact Goes.ret1 hTT rfl Tryz.func15 rfl rfl ⟨int_v e.symm, rfl⟩
    · have h2' := of_decide_eq_false h2
      have e : allM n q = manyM n q + 1 := by unfold allM; rw [if_neg (by omega)]
      refine Goes.call rfl (ref16_Data n q w hn) ?_
      rintro _ _ ⟨rfl, rfl⟩
      refine Goes.adv hTT 400 rfl ?_
      refine Goes.arith hTT rfl (w64 (by omega)) rfl ?_
      exact Goes.ret1 hTT rfl Tryz.func15 rfl rfl ⟨int_v e.symm, rfl⟩
theorem ref17_Is (c : Conf) (p : ConfAt) (n : Int) (w : World) : Does Tryz.prog 59 #[.agg (confL c p).toArray, .int .i64 n] w (Grow (.bool (decide (1 ≤ n) && decide (n ≤ c.most))) w) := by
  refine Does.enter Tryz.func59 rfl Tryz.ntmps59 rfl rfl ?_
  refine Goes.adv hTT 400 rfl ?_
  refine Goes.alloc hTT rfl ?_
  intro b w1 e1 hb hw1 hz1
  refine Goes.adv hTT 400 rfl ?_
  replace hb : w1.heap[b]? = some (.cells (confL c p).toArray 24 (0, 0)) := hb
  refine Goes.fork hTT rfl rfl rfl (fun h1 => ?_) (fun h1 => ?_)
  · refine Goes.loadb hTT rfl hb rfl rfl ?_
    rw [decide_eq_true (show 1 ≤ n from of_decide_eq_true h1), Bool.true_and]
    exact Goes.ret1 hTT rfl Tryz.func59 rfl rfl ⟨rfl, hw1⟩
  · rw [decide_eq_false (show ¬ 1 ≤ n from of_decide_eq_false h1), Bool.false_and]
    exact Goes.ret1 hTT rfl Tryz.func59 rfl rfl ⟨rfl, hw1⟩
theorem ref20_Class (r : RR) (n : Int) (w : World) (hr : Rd .i64 w r.cp.ca r.c.classes) (hl : r.c.classes.length ≤ 9223372036854775806) : Does Tryz.prog 60 #[.agg (rrL r).toArray, .int .i64 n] w (Grow (.int .i64 (pickM r.c.classes n)) w) := by
  refine Does.enter Tryz.func60 rfl Tryz.ntmps60 rfl rfl ?_
  refine Goes.adv hTT 400 rfl ?_
  refine Goes.alloc hTT rfl ?_
  intro b w1 e1 hb hw1 hz1
  refine Goes.adv hTT 400 rfl ?_
  replace hb : rrBox w1 b r := hb
  refine Goes.loadb hTT rfl hb rfl rfl ?_
  refine Goes.call rfl (ref02_Pick r.cp.ca r.cp.cc r.c.classes n w1 (hr.chg hw1) hl) ?_
  rintro _ _ ⟨rfl, rfl⟩
  refine Goes.adv hTT 400 rfl ?_
  exact Goes.ret1 hTT rfl Tryz.func60 rfl rfl ⟨rfl, hw1⟩
theorem ref20_Open (r : RR) (M : RmM) (k : Int) (w : World) (h : RrOk w r M) : Does Tryz.prog 18 #[.agg (rrL r).toArray, .int .i64 k] w (Grow (.int .i64 (rmOpen M k : Nat)) w) := by
  have hfew := h.few
  refine Does.enter Tryz.func18 rfl Tryz.ntmps18 rfl rfl ?_
  refine Goes.adv hTT 400 rfl ?_
  refine Goes.alloc hTT rfl ?_
  intro rb w1 e1 hrb hw1 hz1
  refine Goes.adv hTT 400 rfl ?_
  replace hrb : rrBox w1 rb r := hrb
  refine Goes.loads hTT rfl hrb rfl rfl ?_
  refine Goes.call rfl (ref20_Is r k w1) ?_
  rintro _ w2 ⟨rfl, hw2⟩
  refine Goes.adv hTT 400 rfl ?_
  have hrb2 := hw2.heap' hrb
  have hw02 := hw1.trans hw2
  unfold rmOpen
  rcases rm_cases r M k h.n with ⟨hg, hb⟩ | ⟨j, x, s, rfl, hg, hx, hs, hb⟩
  · rw [hg, hb]
    refine Goes.yes hTT rfl rfl rfl ?_
    exact Goes.ret1 hTT rfl Tryz.func18 rfl rfl ⟨rfl, hw02⟩
  · rw [hg, hb]
    refine Goes.no hTT rfl rfl rfl ?_
    have hlt : j < r.ss.length := (List.getElem?_eq_some_iff.1 hs).1
    obtain ⟨pk, hpk, _⟩ := h.each j s x hs hx
    have e5 : s.opn.x.length = x.opn.length := by rw [hpk.e5, List.length_map]
    obtain ⟨sb, soff, hsa, hcell⟩ := (h.sr.chg hw02) j s hs
    refine Goes.loadb hTT rfl hrb2 rfl rfl ?_
    rw [hsa]
    refine Goes.index hTT rfl (j := (j * 7)) (by omega) (by omega) (by first | rfl | omega | (simp; done) | (simp; omega)) rfl ?_
    refine Goes.load hTT rfl (hcell 6 _ rfl) rfl ?_
    exact Goes.ret1 hTT rfl Tryz.func18 rfl rfl ⟨int_v (by rw [e5]), hw02⟩
theorem ref20_Used (r : RR) (M : RmM) (k : Int) (w : World) (h : RrOk w r M) (hm : MOk M) : Does Tryz.prog 20 #[.agg (rrL r).toArray, .int .i64 k] w (Grow (.int .i64 (rmUsed M k : Nat)) w) := by
  have hfew := h.few
  refine Does.enter Tryz.func20 rfl Tryz.ntmps20 rfl rfl ?_
  refine Goes.adv hTT 400 rfl ?_
  refine Goes.alloc hTT rfl ?_
  intro rb w1 e1 hrb hw1 hz1
  refine Goes.adv hTT 400 rfl ?_
  replace hrb : rrBox w1 rb r := hrb
  refine Goes.loads hTT rfl hrb rfl rfl ?_
  refine Goes.call rfl (ref20_Is r k w1) ?_
  rintro _ w2 ⟨rfl, hw2⟩
  refine Goes.adv hTT 400 rfl ?_
  have hrb2 := hw2.heap' hrb
  have hw02 := hw1.trans hw2
  unfold rmUsed
  rcases rm_cases r M k h.n with ⟨hg, hb⟩ | ⟨j, x, s, rfl, hg, hx, hs, hb⟩
  · rw [hg, hb]
    refine Goes.yes hTT rfl rfl rfl ?_
    exact Goes.ret1 hTT rfl Tryz.func20 rfl rfl ⟨rfl, hw02⟩
  · rw [hg, hb]
    refine Goes.no hTT rfl rfl rfl ?_
    have hlt : j < r.ss.length := (List.getElem?_eq_some_iff.1 hs).1
    obtain ⟨pk, hpk, hpo⟩ := h.each j s x hs hx
    obtain ⟨hok, _⟩ := hm.sh j x hx
    obtain ⟨sb, soff, hsa, hcell⟩ := (h.sr.chg hw02) j s hs
    refine Goes.loadb hTT rfl hrb2 rfl rfl ?_
    rw [hsa]
    refine Goes.index hTT rfl (j := (j * 7)) (by omega) (by omega) (by first | rfl | omega | (simp; done) | (simp; omega)) rfl ?_
    refine Goes.loadC hTT (rsL s) rfl (by first | rfl | (simp; done) | (simp [*]; done) | (simp; omega)) (hcell) rfl ?_
    refine Goes.call rfl (ref13_Used s x pk w2 (hpk.grow hw02) hok hpo) ?_
    rintro _ w3 ⟨rfl, hw3⟩
    refine Goes.adv hTT 400 rfl ?_
    exact Goes.ret1 hTT rfl Tryz.func20 rfl rfl ⟨rfl, hw02.trans hw3⟩
theorem ref20_Owner (r : RR) (M : RmM) (k n i : Int) (w : World) (h : RrOk w r M) (hm : MOk M) : Does Tryz.prog 57 #[.agg (rrL r).toArray, .int .i64 k, .int .i64 n, .int .i64 i] w (Grow (.int .i64 (rmOwner M k n i)) w) := by
  have hfew := h.few
  refine Does.enter Tryz.func57 rfl Tryz.ntmps57 rfl rfl ?_
  refine Goes.adv hTT 400 rfl ?_
  refine Goes.alloc hTT rfl ?_
  intro rb w1 e1 hrb hw1 hz1
  refine Goes.adv hTT 400 rfl ?_
  replace hrb : rrBox w1 rb r := hrb
  refine Goes.loads hTT rfl hrb rfl rfl ?_
  refine Goes.call rfl (ref20_Is r k w1) ?_
  rintro _ w2 ⟨rfl, hw2⟩
  refine Goes.adv hTT 400 rfl ?_
  have hrb2 := hw2.heap' hrb
  have hw02 := hw1.trans hw2
  unfold rmOwner
  rcases rm_cases r M k h.n with ⟨hg, hb⟩ | ⟨j, x, s, rfl, hg, hx, hs, hb⟩
  · rw [hg, hb]
    refine Goes.yes hTT rfl rfl rfl ?_
    exact Goes.ret1 hTT rfl Tryz.func57 rfl rfl ⟨rfl, hw02⟩
  · rw [hg, hb]
    refine Goes.no hTT rfl rfl rfl ?_
    have hlt : j < r.ss.length := (List.getElem?_eq_some_iff.1 hs).1
    obtain ⟨pk, hpk, hpo⟩ := h.each j s x hs hx
    obtain ⟨hok, _⟩ := hm.sh j x hx
    obtain ⟨sb, soff, hsa, hcell⟩ := (h.sr.chg hw02) j s hs
    refine Goes.loadb hTT rfl hrb2 rfl rfl ?_
    rw [hsa]
    refine Goes.index hTT rfl (j := (j * 7)) (by omega) (by omega) (by first | rfl | omega | (simp; done) | (simp; omega)) rfl ?_
    refine Goes.loadC hTT (rsL s) rfl (by first | rfl | (simp; done) | (simp [*]; done) | (simp; omega)) (hcell) rfl ?_
    refine Goes.call rfl (ref13_Owner s x pk n i w2 (hpk.grow hw02) hok hpo) ?_
    rintro _ w3 ⟨rfl, hw3⟩
    refine Goes.adv hTT 400 rfl ?_
    exact Goes.ret1 hTT rfl Tryz.func57 rfl rfl ⟨rfl, hw02.trans hw3⟩
theorem ref20_Plan (r : RR) (M : RmM) (k : Int) (w : World) (h : RrOk w r M) (hm : MOk M) : Does Tryz.prog 56 #[.agg (rrL r).toArray, .int .i64 k] w (Grow (.tuple #[.agg (rmPlanL M k).toArray, .bool (rmPlanB M k)]) w) := by
  have hfew := h.few
  refine Does.enter Tryz.func56 rfl Tryz.ntmps56 rfl rfl ?_
  refine Goes.adv hTT 400 rfl ?_
  refine Goes.alloc hTT rfl ?_
  intro rb w1 e1 hrb hw1 hz1
  refine Goes.adv hTT 400 rfl ?_
  refine Goes.alloc hTT rfl ?_
  intro ob w2 e2 hob hw2 hz2
  refine Goes.adv hTT 400 rfl ?_
  replace hrb : rrBox w1 rb r := hrb
  have hw02 := hw1.trans hw2
  have hs1 := hw1.size
  have hrb2 := hw2.heap' hrb
  refine Goes.loads hTT rfl hrb2 rfl rfl ?_
  refine Goes.call rfl (ref20_Is r k w2) ?_
  rintro _ w3 ⟨rfl, hw3⟩
  refine Goes.adv hTT 400 rfl ?_
  have hrb3 := hw3.heap' hrb2
  have hob3 := hw3.heap' hob
  have hw03 := hw02.trans hw3
  unfold rmPlanL rmPlanB
  rcases rm_cases r M k h.n with ⟨hg, hb⟩ | ⟨j, x, s, rfl, hg, hx, hs, hb⟩
  · rw [hg, hb]
    refine Goes.yes hTT rfl rfl rfl ?_
    refine Goes.build hTT rfl rfl ?_
    refine Goes.store hTT rfl hob3 rfl rfl ?_
    intro w4 hob4 hs4 hz4
    refine Goes.adv hTT 400 rfl ?_
    exact Goes.ret hTT rfl Tryz.func56 (ResOk.cell rfl rfl rfl hob4 rfl (.tmp rfl .nil)) ⟨rfl, hw03.since hs4 (fun z hz e => by omega)⟩
  · rw [hg, hb]
    refine Goes.no hTT rfl rfl rfl ?_
    have hlt : j < r.ss.length := (List.getElem?_eq_some_iff.1 hs).1
    obtain ⟨pk, hpk, hpo⟩ := h.each j s x hs hx
    obtain ⟨hok, _⟩ := hm.sh j x hx
    obtain ⟨sb, soff, hsa, hcell⟩ := (h.sr.chg hw03) j s hs
    refine Goes.loadb hTT rfl hrb3 rfl rfl ?_
    rw [hsa]
    refine Goes.index hTT rfl (j := (j * 7)) (by omega) (by omega) (by first | rfl | omega | (simp; done) | (simp; omega)) rfl ?_
    refine Goes.loadC hTT (rsL s) rfl (by first | rfl | (simp; done) | (simp [*]; done) | (simp; omega)) (hcell) rfl ?_
    obtain ⟨pa, pb, pc, pd, ep⟩ : ∃ a b c d, shPlanL x = planL a b c d := by
      unfold shPlanL
      split
      · exact ⟨_, _, _, _, rfl⟩
      · exact ⟨_, _, _, _, rfl⟩
    have hd := ref13_Plan s x pk w3 (hpk.grow hw03) hok
    rw [ep] at hd
    show Goes _ _ (RetA (fun v w' => v = .tuple #[.agg (shPlanL x).toArray, .bool (shPlanB x)] ∧ _)) _ _ _ _ _
    rw [ep]
    refine Goes.call rfl (hd) ?_
    rintro _ w4 ⟨rfl, hw4⟩
    refine Goes.adv hTT 400 rfl ?_
    refine Goes.store hTT rfl (hw4.heap' hob3) rfl rfl ?_
    intro w5 hob5 hs5 hz5
    refine Goes.adv hTT 400 rfl ?_
    exact Goes.ret hTT rfl Tryz.func56 (ResOk.cell rfl rfl rfl hob5 rfl (.tmp rfl .nil)) ⟨rfl, (hw03.trans hw4).since hs5 (fun z hz e => by omega)⟩
end Go.Proofs.YtkiionjcapnepaaGreatDoor
