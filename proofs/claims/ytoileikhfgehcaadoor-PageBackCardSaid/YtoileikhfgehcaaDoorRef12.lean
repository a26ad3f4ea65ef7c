/-
  Layer 12: what the document's functions answer.
-/
import Derived.Test.YtoileikhfgehcaaDoorPage2
import Derived.Test.YtoileikhfgehcaaDoorRowsD
import Derived.Test.YtoileikhfgehcaaDoorRule6
namespace Go.Proofs.YtoileikhfgehcaaDoor
open Go.RowKit

/-- A list of whole numbers: where it lies. -/
structure IL where
  a : Option Addr
  cap : Nat
  x : List Int
abbrev ilV (l : IL) : Value := .slice l.a l.x.length l.cap
structure IlOk (w : World) (l : IL) : Prop where
  rd : Rd .i64 w l.a l.x
  len : l.x.length ≤ 512
/-- Outside some blocks. -/
def OutA (S : Nat → Prop) (a : Option Addr) : Prop := ∀ b off s, a = some ⟨b, off, s⟩ → ¬ S b
/-- Where it was, or in a block that is new. -/
def Newer (w : World) (a a' : Option Addr) : Prop := a' = a ∨ ∃ g off, a' = some ⟨g, off, none⟩ ∧ w.heap.size ≤ g
theorem OutA.newer {S : Nat → Prop} {w : World} {a a' : Option Addr} (h : OutA S a) (hn : Newer w a a') (hS : ∀ b, S b → b < w.heap.size) : OutA S a' := fun b off s e hb => by
  rcases hn with hn | ⟨g, off', hn, hg⟩
  · rw [hn] at e; exact h b off s e hb
  · rw [hn] at e; cases e; have := hS _ hb; omega
theorem OutA.fresh {S : Nat → Prop} {w : World} {g off : Nat} (hg : w.heap.size ≤ g) (hS : ∀ b, S b → b < w.heap.size) : OutA S (some ⟨g, off, none⟩) := fun b off' s e hb => by cases e; have := hS _ hb; omega
theorem IlOk.grow {w w' : World} {l : IL} (h : IlOk w l) (hc : Chg None' w w') : IlOk w' l := ⟨h.rd.chg hc, h.len⟩
theorem IlOk.far {w w' : World} {l : IL} {S : Nat → Prop} (h : IlOk w l) (hs : OutA S l.a) (hc : Chg S w w') : IlOk w' l :=
  ⟨(RdS.chg ⟨h.rd, fun b off s e _ => hs b off s e⟩ hc).1, h.len⟩
theorem plain_i64 {x : List Int} : ∀ u ∈ x.map (Value.int .i64), u.oneCell' = true := by
  intro u hu
  obtain ⟨z, _, rfl⟩ := List.mem_map.1 hu
  rfl
theorem getD_m1 {x : List Int} {i : Nat} (h : i < x.length) : x.getD i (-1) = x.getD i 0 := by
  rw [List.getD_eq_getElem?_getD, List.getD_eq_getElem?_getD, List.getElem?_eq_getElem h]; rfl
theorem IlOk.at {w : World} {l : IL} (h : IlOk w l) {i : Nat} (hi : i < l.x.length) : ∃ b off, l.a = some ⟨b, off, none⟩ ∧ w.cell? ⟨b, off + i, none⟩ = some (.int .i64 (l.x.getD i (-1))) := by
  obtain ⟨b, off, e, hc⟩ := h.rd i hi
  exact ⟨b, off, e, by rw [getD_m1 hi]; exact hc⟩
theorem Rd.atm {w : World} {a : Option Addr} {x : List Int} (h : Rd .i64 w a x) {i : Nat} (hi : i < x.length) : ∃ b off, a = some ⟨b, off, none⟩ ∧ w.cell? ⟨b, off + i, none⟩ = some (.int .i64 (x.getD i (-1))) := by
  obtain ⟨b, off, e, hc⟩ := h i hi
  exact ⟨b, off, e, by rw [getD_m1 hi]; exact hc⟩
theorem ref12_New (m : Nat) (w : World) (h : 1 ≤ m ∧ m ≤ 512) : Does Tryd.prog 26 #[.int .i64 m] w (fun v w' => ∃ l : IL, v = .tuple #[ilV l, .int .i64 0] ∧ l.x = List.replicate m (-1) ∧ IlOk w' l ∧ Chg None' w w' ∧ Newer w none l.a) := by
  have hml : maxLen = 9223372036854775807 := rfl
  refine Does.enter Tryd.func26 rfl Tryd.ntmps26 rfl rfl ?_
  refine Goes.adv hTT 400 rfl ?_
  refine Goes.no hTT rfl (decide_eq_false (by omega)) rfl ?_
  refine Goes.no hTT rfl (decide_eq_false (by omega)) rfl ?_
  refine Goes.loop (α := Nat × Value) (fun p => [(0, false, .int .i64 m), (4, false, p.2), (5, false, .int .i64 p.1)])
    (fun p w' => p.1 ≤ m ∧ Own w.heap.size 3 1 w' p.2 p.1 ((List.replicate p.1 (-1)).map (Value.int .i64)) ∧ Chg None' w w') (fun p => m - p.1) (0, .slice none 0 0) ⟨rfl, rfl, rfl, trivial⟩ ⟨Nat.zero_le _, World.ownsRow_nil _ _ _ _, Chg.refl _ _⟩ ?_
  rintro ⟨i, v⟩ w1 ⟨hi, ho, hw1⟩ ih
  simp only at hi ho
  refine Goes.adv hTT 400 rfl ?_
  refine Goes.fork hTT rfl rfl rfl (fun hc => ?_) (fun hc => ?_)
  · have hlt : i < m := by have := of_decide_eq_true hc; omega
    refine Goes.buildSlice hTT rfl ?_
    intro b2 w2 e2 hb2 hw2 hz2
    refine Goes.adv hTT 400 rfl ?_
    have ho2 := ho.chg hw2 (fun _ _ h => h)
    refine Goes.append (base := w.heap.size) (xs := (List.replicate i (-1)).map (Value.int .i64)) (news := [.int .i64 (-1)]) hTT rfl ho2 (by have := hw1.size; have := hw2.size; omega) (by simp) (cells1 hb2) (by simp [Value.oneCell']) (by simp only; omega) ?_
    intro v3 w3 ho3 hs3 hv3
    refine Goes.adv hTT 400 rfl ?_
    refine Goes.arith hTT rfl (w64 (by omega)) rfl ?_
    exact ih (i + 1, v3) _ _ ⟨hlt, by
      have e : (List.replicate (i + 1) (-1 : Int)).map (Value.int .i64) = (List.replicate i (-1)).map (Value.int .i64) ++ [.int .i64 (-1)] := by rw [List.replicate_succ', List.map_append]; rfl
      rw [e]; exact ho3, (ho2.since (hw1.trans hw2) (Nat.le_refl _) hs3)⟩ (by simp only; omega) ⟨rfl, rfl, rfl, trivial⟩
  · have hge : i = m := by have := of_decide_eq_false hc; omega
    subst hge
    obtain ⟨g, cap4, cur, rfl, hg1, hg2, hg3, hg4, hg5⟩ := ho.form (by omega)
    have hlen : (List.replicate i (-1 : Int)).length = i := List.length_replicate
    exact Goes.ret2 hTT rfl Tryd.func26 rfl rfl rfl ⟨⟨some ⟨g, 0, none⟩, cap4, List.replicate i (-1)⟩, by show _ = Value.tuple #[.slice _ (List.replicate i (-1 : Int)).length _, _]; rw [hlen], rfl, ⟨Rd.of_take hg2 (by simp only [hlen]; simpa using hg5), by simp only; omega⟩, hw1, .inr ⟨g, 0, rfl, hg1⟩⟩
theorem ref12_New_no (m : Int) (w : World) (h : ¬ (1 ≤ m ∧ m ≤ 512)) : Does Tryd.prog 26 #[.int .i64 m] w (Same (.tuple #[.slice none 0 0, .int .i64 1]) w) := by
  refine Does.enter Tryd.func26 rfl Tryd.ntmps26 rfl rfl ?_
  refine Goes.adv hTT 400 rfl ?_
  refine Goes.fork hTT rfl rfl rfl (fun h1 => ?_) (fun h1 => ?_)
  · exact Goes.ret2 hTT rfl Tryd.func26 rfl rfl rfl ⟨rfl, rfl⟩
  have g1 := of_decide_eq_false h1
  refine Goes.yes hTT rfl (decide_eq_true (by omega)) rfl ?_
  exact Goes.ret2 hTT rfl Tryd.func26 rfl rfl rfl ⟨rfl, rfl⟩
theorem ref12_Owner (l : IL) (i : Int) (w : World) (h : IlOk w l) : Does Tryd.prog 47 #[ilV l, .int .i64 i] w (Same (.int .i64 (pgOwn l.x i)) w) := by
  obtain ⟨a, cap, x⟩ := l
  have hl := h.len
  have hr := h.rd
  simp only at hl hr
  show Does Tryd.prog 47 #[.slice a x.length cap, .int .i64 i] w (Same (.int .i64 (pgOwn x i)) w)
  refine Does.enter Tryd.func47 rfl Tryd.ntmps47 rfl rfl ?_
  refine Goes.adv hTT 400 rfl ?_
  refine Goes.fork hTT rfl rfl rfl (fun h1 => ?_) (fun h1 => ?_)
  · have g1 := of_decide_eq_true h1
    exact Goes.ret1 hTT rfl Tryd.func47 rfl rfl ⟨int_v (pgOwn_out (by omega)).symm, rfl⟩
  have g1 := of_decide_eq_false h1
  refine Goes.fork hTT rfl rfl rfl (fun h2 => ?_) (fun h2 => ?_)
  · have g2 := of_decide_eq_true h2
    exact Goes.ret1 hTT rfl Tryd.func47 rfl rfl ⟨int_v (pgOwn_out (by omega)).symm, rfl⟩
  have g2 := of_decide_eq_false h2
  obtain ⟨i, rfl⟩ := Int.eq_ofNat_of_zero_le (show 0 ≤ i by omega)
  obtain ⟨b, off, rfl, hc⟩ := hr.atm (i := i) (by omega)
  refine Goes.index hTT rfl (j := i) (by omega) (by omega) (by first | rfl | omega | (simp; done) | (simp; omega)) rfl ?_
  refine Goes.load hTT rfl hc rfl ?_
  exact Goes.ret1 hTT rfl Tryd.func47 rfl rfl ⟨int_v (by unfold pgOwn; rw [if_pos (by omega)]; rfl), rfl⟩
theorem pgB_take (x : List Int) (k : Nat) : (pgB x).take k = pgB (x.take k) := by unfold pgB; rw [List.map_take]
theorem pgB_at {x : List Int} {j : Nat} (h : j < (pgB x).length) : (pgB x)[j] = !(x.getD j (-1) == -1) := by rw [← pgB_getD, getD_is h]
theorem ref12_Used (l : IL) (w : World) (h : IlOk w l) : Does Tryd.prog 48 #[ilV l] w (Same (.int .i64 (pgUsed l.x)) w) := by
  obtain ⟨a, cap, x⟩ := l
  have hl := h.len
  have hr := h.rd
  simp only at hl hr
  show Does Tryd.prog 48 #[.slice a x.length cap] w (Same (.int .i64 (pgUsed x)) w)
  refine Does.enter Tryd.func48 rfl Tryd.ntmps48 rfl rfl ?_
  refine Goes.adv hTT 400 rfl ?_
  refine Goes.loop (α := Nat) (fun k => [(0, false, .slice a x.length cap), (3, false, .int .i64 (cnt ((pgB x).take k))), (4, false, .int .i64 k)])
    (fun k w' => w' = w ∧ k ≤ x.length) (fun k => x.length - k) 0 ⟨rfl, rfl, rfl, trivial⟩ ⟨rfl, Nat.zero_le _⟩ ?_
  rintro k w1 ⟨hw, hk⟩ ih
  subst hw
  have hcl := cnt_le ((pgB x).take k)
  rw [List.length_take, pgB_length] at hcl
  refine Goes.adv hTT 400 rfl ?_
  refine Goes.fork hTT rfl rfl rfl (fun h0 => ?_) (fun h0 => ?_)
  · have hlt : k < x.length := by have := of_decide_eq_true h0; omega
    obtain ⟨b, off, rfl, hc⟩ := hr.atm hlt
    have hs := cnt_take_succ' (pgB x) k (by rw [pgB_length]; exact hlt)
    rw [pgB_at] at hs
    refine Goes.index hTT rfl (j := k) (by omega) (by omega) (by first | rfl | omega | (simp; done) | (simp; omega)) rfl ?_
    refine Goes.load hTT rfl hc rfl ?_
    cases hb : (x.getD k (-1) == -1) with
    | true =>
      rw [hb, if_neg (by decide)] at hs
      refine Goes.no hTT rfl (show (x.getD k (-1) != -1) = false by simpa [bne] using hb) rfl ?_
      refine Goes.arith hTT rfl (w64 (by omega)) rfl ?_
      exact ih (k + 1) _ _ ⟨rfl, hlt⟩ (by omega) ⟨rfl, by rw [hs]; rfl, rfl, trivial⟩
    | false =>
      rw [hb, if_pos (by decide)] at hs
      refine Goes.yes hTT rfl (show (x.getD k (-1) != -1) = true by simpa [bne] using hb) rfl ?_
      refine Goes.arith hTT rfl (w64 (by omega)) rfl ?_
      refine Goes.arith hTT rfl (w64 (by omega)) rfl ?_
      exact ih (k + 1) _ _ ⟨rfl, hlt⟩ (by omega) ⟨rfl, by rw [hs]; rfl, rfl, trivial⟩
  · have hge : k = x.length := by have := of_decide_eq_false h0; omega
    subst hge
    exact Goes.ret1 hTT rfl Tryd.func48 rfl rfl ⟨int_v (by unfold pgUsed; rw [List.take_of_length_le (by rw [pgB_length]; omega)]), rfl⟩
theorem ref12_Hole (l : IL) (w : World) (h : IlOk w l) : Does Tryd.prog 49 #[ilV l] w (Same (.int .i64 (pgHole l.x)) w) := by
  obtain ⟨a, cap, x⟩ := l
  have hl := h.len
  have hr := h.rd
  simp only at hl hr
  show Does Tryd.prog 49 #[.slice a x.length cap] w (Same (.int .i64 (pgHole x)) w)
  refine Does.enter Tryd.func49 rfl Tryd.ntmps49 rfl rfl ?_
  refine Goes.adv hTT 400 rfl ?_
  refine Goes.loop (α := Nat) (fun k => [(0, false, .slice a x.length cap), (3, false, .int .i64 k)])
    (fun k w' => w' = w ∧ k ≤ x.length ∧ ∀ j, j < k → (x.getD j (-1) == -1) = false) (fun k => x.length - k) 0 ⟨rfl, rfl, trivial⟩ ⟨rfl, Nat.zero_le _, fun _ h => by omega⟩ ?_
  rintro k w1 ⟨hw, hk, hpre⟩ ih
  subst hw
  refine Goes.adv hTT 400 rfl ?_
  refine Goes.fork hTT rfl rfl rfl (fun h0 => ?_) (fun h0 => ?_)
  · have hlt : k < x.length := by have := of_decide_eq_true h0; omega
    obtain ⟨b, off, rfl, hc⟩ := hr.atm hlt
    refine Goes.index hTT rfl (j := k) (by omega) (by omega) (by first | rfl | omega | (simp; done) | (simp; omega)) rfl ?_
    refine Goes.load hTT rfl hc rfl ?_
    cases hb : (x.getD k (-1) == -1) with
    | true =>
      refine Goes.yes hTT rfl rfl rfl ?_
      exact Goes.ret1 hTT rfl Tryd.func49 rfl rfl ⟨int_v (idx_at (p := fun b => !b) (by rw [pgB_length]; exact hlt) (fun j hj hjk => by rw [pgB_at, hpre j hjk]; rfl) (by rw [pgB_at, hb]; rfl)).symm, rfl⟩
    | false =>
      refine Goes.no hTT rfl rfl rfl ?_
      refine Goes.arith hTT rfl (w64 (by omega)) rfl ?_
      exact ih (k + 1) _ _ ⟨rfl, hlt, fun j hjk => by
        by_cases e : j = k
        · subst e; exact hb
        · exact hpre j (by omega)⟩ (by omega) ⟨rfl, rfl, trivial⟩
  · have hge : k = x.length := by have := of_decide_eq_false h0; omega
    exact Goes.ret1 hTT rfl Tryd.func49 rfl rfl ⟨int_v (idx_none (p := fun b => !b) (fun j hj => by rw [pgB_at, hpre j (by rw [pgB_length] at hj; omega)]; rfl)).symm, rfl⟩
theorem ref12_Top (l : IL) (w : World) (h : IlOk w l) : Does Tryd.prog 50 #[ilV l] w (Same (.int .i64 (pgTop l.x)) w) := by
  obtain ⟨a, cap, x⟩ := l
  have hl := h.len
  have hr := h.rd
  simp only at hl hr
  show Does Tryd.prog 50 #[.slice a x.length cap] w (Same (.int .i64 (pgTop x)) w)
  refine Does.enter Tryd.func50 rfl Tryd.ntmps50 rfl rfl ?_
  refine Goes.adv hTT 400 rfl ?_
  refine Goes.arith hTT rfl (w64 (by omega)) rfl ?_
  refine Goes.loop (α := Nat) (fun k => [(0, false, .slice a x.length cap), (3, false, .int .i64 ((k : Int) - 1))])
    (fun k w' => w' = w ∧ k ≤ x.length ∧ ∀ j, k ≤ j → (x.getD j (-1) == -1) = true) (fun k => k) x.length ⟨rfl, rfl, trivial⟩ ⟨rfl, Nat.le_refl _, fun j h => by rw [List.getD_eq_getElem?_getD, List.getElem?_eq_none h]; rfl⟩ ?_
  rintro k w1 ⟨hw, hk, hpre⟩ ih
  subst hw
  refine Goes.adv hTT 400 rfl ?_
  refine Goes.fork hTT rfl rfl rfl (fun h0 => ?_) (fun h0 => ?_)
  · have hlt : 0 < k := by have := of_decide_eq_true h0; omega
    obtain ⟨k, rfl⟩ : ∃ m, k = m + 1 := ⟨k - 1, by omega⟩
    obtain ⟨b, off, rfl, hc⟩ := hr.atm (i := k) (by omega)
    rw [show (((k + 1 : Nat) : Int) - 1) = (k : Int) from by omega]
    refine Goes.index hTT rfl (j := k) (by omega) (by omega) (by first | rfl | omega | (simp; done) | (simp; omega)) rfl ?_
    refine Goes.load hTT rfl hc rfl ?_
    cases hb : (x.getD k (-1) == -1) with
    | false =>
      refine Goes.yes hTT rfl (show (x.getD k (-1) != -1) = true by simpa [bne] using hb) rfl ?_
      exact Goes.ret1 hTT rfl Tryd.func50 rfl rfl ⟨int_v (ridx_at (p := id) (by rw [pgB_length]; omega) (fun j hj hjk => by rw [pgB_at, hpre j (by omega)]; rfl) (by rw [pgB_at, hb]; rfl)).symm, rfl⟩
    | true =>
      refine Goes.no hTT rfl (show (x.getD k (-1) != -1) = false by simpa [bne] using hb) rfl ?_
      refine Goes.arith hTT rfl (w64 (by omega)) rfl ?_
      exact ih k _ _ ⟨rfl, by omega, fun j hjk => by
        by_cases e : j = k
        · subst e; exact hb
        · exact hpre j (by omega)⟩ (by omega) ⟨rfl, rfl, trivial⟩
  · have hge : k = 0 := by have := of_decide_eq_false h0; omega
    exact Goes.ret1 hTT rfl Tryd.func50 rfl rfl ⟨int_v (ridx_none (p := id) (fun j hj => by rw [pgB_at, hpre j (by omega)]; rfl)).symm, rfl⟩
theorem ref12_With (l : IL) (i : Nat) (v : Int) (w : World) (h : IlOk w l) (hi : i < l.x.length) : Does Tryd.prog 51 #[ilV l, .int .i64 i, .int .i64 v] w
    (fun u w' => ∃ l' : IL, u = ilV l' ∧ l'.x = l.x.set i v ∧ IlOk w' l' ∧ Chg None' w w' ∧ Newer w l.a l'.a) := by
  obtain ⟨a, cap, x⟩ := l
  have hl := h.len
  have hr := h.rd
  simp only at hl hr hi
  show Does Tryd.prog 51 #[.slice a x.length cap, .int .i64 i, .int .i64 v] w _
  have hml : maxLen = 9223372036854775807 := rfl
  obtain ⟨b, off, rfl, hc⟩ := hr i hi
  refine Does.enter Tryd.func51 rfl Tryd.ntmps51 rfl rfl ?_
  refine Goes.adv hTT 400 rfl ?_
  refine Goes.buildSlice hTT rfl ?_
  intro b3 w3 e3 hb3 hw3 hz3
  refine Goes.adv hTT 400 rfl ?_
  have ho : Own w.heap.size 3 1 w3 (.slice (some ⟨b3, 0, none⟩) 0 0) 0 [] := Own.empty (by omega) hb3
  refine Goes.append (base := w.heap.size) (xs := []) (news := x.map (Value.int .i64)) hTT rfl ho hw3.size (by simp) (hr.chg hw3).cells plain_i64 (by simp only; omega) ?_
  intro v4 w4 ho4 hs4 hv4
  refine Goes.adv hTT 400 rfl ?_
  have hw4 := ho.since hw3 (Nat.le_refl _) hs4
  obtain ⟨g, cap4, cur, rfl, hg1, hg2, hg3, hg4, hg5⟩ := ho4.form (by omega)
  have hcur : cur.toList = x.map (Value.int .i64) ++ cur.toList.drop x.length := by
    have e := List.take_append_drop x.length cur.toList
    rw [show cur.toList.take x.length = x.map (Value.int .i64) from by simpa using hg5] at e
    exact e.symm
  obtain ⟨rest, hrest⟩ : ∃ rest, rest = cur.toList.drop x.length := ⟨_, rfl⟩
  rw [← hrest] at hcur
  have hg2' : w4.heap[g]? = some (.cells (x.map (Value.int .i64) ++ rest).toArray 3 (0, 0)) := by rw [← hcur]; exact hg2
  have hl4 : 0 + x.length = x.length := by omega
  rw [hl4] at hg3 ⊢
  refine Goes.index hTT rfl (j := i) (by omega) (by omega) (by first | rfl | omega | (simp; done) | (simp; omega)) rfl ?_
  refine Goes.store hTT rfl hg2' (show setV (x.map (Value.int .i64) ++ rest) (0 + i) [.int .i64 v] = some ((x.set i v).map (Value.int .i64) ++ rest) from by rw [Nat.zero_add, setV_oneL _ _ _ (by simp; omega), List.set_append_left _ _ (by simpa using hi), List.map_set]) rfl ?_
  intro w5 hg5' hs5 hz5
  refine Goes.adv hTT 400 rfl ?_
  have hw5 : Chg None' w w5 := hw4.since hs5 (fun z hz hze => by omega)
  have hsl : (x.set i v).length = x.length := by simp
  exact Goes.ret1 hTT rfl Tryd.func51 rfl rfl ⟨⟨some ⟨g, 0, none⟩, cap4, x.set i v⟩, by show _ = Value.slice _ (x.set i v).length _; rw [hsl], rfl, ⟨Rd.of_take hg5' (by simp), by simp only; omega⟩, hw5, .inr ⟨g, 0, rfl, hg1⟩⟩
theorem ref12_Take (l : IL) (who : Int) (w : World) (h : IlOk w l) : Does Tryd.prog 44 #[ilV l, .int .i64 who] w
    (fun v w' => ∃ l' : IL, v = .tuple #[ilV l', .int .i64 (pgTakeA l.x who), .int .i64 (pgTakeE l.x who)] ∧ l'.x = pgTake l.x who ∧ IlOk w' l' ∧ Chg None' w w' ∧ Newer w l.a l'.a) := by
  refine Does.enter Tryd.func44 rfl Tryd.ntmps44 rfl rfl ?_
  refine Goes.adv hTT 400 rfl ?_
  refine Goes.fork hTT rfl rfl rfl (fun h0 => ?_) (fun h0 => ?_)
  · have g0 := of_decide_eq_true h0
    have he : pgTakeE l.x who = 1 := by unfold pgTakeE; rw [if_pos g0]
    have ha : pgTakeA l.x who = 0 := by unfold pgTakeA; rw [he]; rfl
    have ht : pgTake l.x who = l.x := by unfold pgTake; rw [he]; rfl
    rw [he, ha, ht]
    exact Goes.ret hTT rfl Tryd.func44 (.tmp rfl (.tmp rfl (.tmp rfl .nil))) ⟨l, rfl, rfl, h, Chg.refl _ _, .inl rfl⟩
  have g0 := of_decide_eq_false h0
  refine Goes.call rfl (ref12_Hole l w h) ?_
  rintro _ _ ⟨rfl, rfl⟩
  refine Goes.adv hTT 400 rfl ?_
  refine Goes.fork hTT rfl rfl rfl (fun h1 => ?_) (fun h1 => ?_)
  · have g1 := of_decide_eq_true h1
    have he : pgTakeE l.x who = 5 := by unfold pgTakeE; rw [if_neg g0, if_pos g1]
    have ha : pgTakeA l.x who = 0 := by unfold pgTakeA; rw [he]; rfl
    have ht : pgTake l.x who = l.x := by unfold pgTake; rw [he]; rfl
    rw [he, ha, ht]
    exact Goes.ret hTT rfl Tryd.func44 (.tmp rfl (.tmp rfl (.tmp rfl .nil))) ⟨l, rfl, rfl, h, Chg.refl _ _, .inl rfl⟩
  have g1 := of_decide_eq_false h1
  have he : pgTakeE l.x who = 0 := by unfold pgTakeE; rw [if_neg g0, if_neg g1]
  have ha : pgTakeA l.x who = pgHole l.x := by unfold pgTakeA; rw [he]; rfl
  have ht : pgTake l.x who = l.x.set (pgHole l.x).toNat who := by unfold pgTake; rw [he]; rfl
  obtain ⟨hin, hat⟩ := pg_hole_in g1
  rw [he, ha, ht]
  obtain ⟨k, hk⟩ := Int.eq_ofNat_of_zero_le (show 0 ≤ pgHole l.x by omega)
  rw [hk]
  rw [hk] at hin
  refine Goes.call rfl (ref12_With l k who w h hin) ?_
  rintro _ w1 ⟨l', rfl, hx, hl, hw, hne⟩
  refine Goes.adv hTT 400 rfl ?_
  exact Goes.ret hTT rfl Tryd.func44 (.tmp rfl (.tmp rfl (.tmp rfl .nil))) ⟨l', rfl, hx, hl, hw, hne⟩
theorem ref12_Give (l : IL) (i : Int) (w : World) (h : IlOk w l) : Does Tryd.prog 45 #[ilV l, .int .i64 i] w
    (fun v w' => ∃ l' : IL, v = .tuple #[ilV l', .int .i64 (pgGiveE l.x i)] ∧ l'.x = pgGive l.x i ∧ IlOk w' l' ∧ Chg None' w w' ∧ Newer w l.a l'.a) := by
  have hk : ∀ e : Int, pgGiveE l.x i = e → e ≠ 0 → pgGive l.x i = l.x := fun e h1 h2 => by unfold pgGive; rw [h1, if_neg h2]
  obtain ⟨a, cap, x⟩ := l
  have hr := h.rd
  have hl := h.len
  simp only at hr hk hl
  show Does Tryd.prog 45 #[.slice a x.length cap, .int .i64 i] w (fun v w' => ∃ l' : IL, v = .tuple #[ilV l', .int .i64 (pgGiveE x i)] ∧ l'.x = pgGive x i ∧ IlOk w' l' ∧ Chg None' w w' ∧ Newer w a l'.a)
  refine Does.enter Tryd.func45 rfl Tryd.ntmps45 rfl rfl ?_
  refine Goes.adv hTT 400 rfl ?_
  refine Goes.fork hTT rfl rfl rfl (fun h0 => ?_) (fun h0 => ?_)
  · have g0 := of_decide_eq_true h0
    have he : pgGiveE x i = 1 := by unfold pgGiveE; rw [if_pos (by omega)]
    rw [he, hk 1 he (by decide)]
    exact Goes.ret2 hTT rfl Tryd.func45 rfl rfl rfl ⟨⟨a, cap, x⟩, rfl, rfl, h, Chg.refl _ _, .inl rfl⟩
  have g0 := of_decide_eq_false h0
  refine Goes.fork hTT rfl rfl rfl (fun h1 => ?_) (fun h1 => ?_)
  · have g1 := of_decide_eq_true h1
    have he : pgGiveE x i = 1 := by unfold pgGiveE; rw [if_pos (by omega)]
    rw [he, hk 1 he (by decide)]
    exact Goes.ret2 hTT rfl Tryd.func45 rfl rfl rfl ⟨⟨a, cap, x⟩, rfl, rfl, h, Chg.refl _ _, .inl rfl⟩
  have g1 := of_decide_eq_false h1
  obtain ⟨i, rfl⟩ := Int.eq_ofNat_of_zero_le (show 0 ≤ i by omega)
  have hko : pgOwn x (i : Int) = x.getD i (-1) := by unfold pgOwn; rw [if_pos (by omega)]; rfl
  obtain ⟨b, off, rfl, hc⟩ := hr.atm (i := i) (by omega)
  refine Goes.index hTT rfl (j := i) (by omega) (by omega) (by first | rfl | omega | (simp; done) | (simp; omega)) rfl ?_
  refine Goes.load hTT rfl hc rfl ?_
  by_cases h2 : x.getD i (-1) = -1
  · have he : pgGiveE x i = 9 := by unfold pgGiveE; rw [if_neg (by omega), if_pos (by rw [hko]; exact h2)]
    rw [he]
    refine Goes.yes hTT rfl (show (x.getD i (-1) == -1) = true by rw [h2]; rfl) rfl ?_
    exact Goes.ret2 hTT rfl Tryd.func45 rfl rfl rfl ⟨⟨_, cap, x⟩, rfl, (hk 9 he (by decide)).symm, h, Chg.refl _ _, .inl rfl⟩
  · have he : pgGiveE x i = 0 := by unfold pgGiveE; rw [if_neg (by omega), if_neg (by rw [hko]; exact h2)]
    have ht : pgGive x i = x.set i (-1) := by unfold pgGive; rw [he]; rfl
    rw [he]
    refine Goes.no hTT rfl (show (x.getD i (-1) == -1) = false by simpa using h2) rfl ?_
    refine Goes.call rfl (ref12_With ⟨_, cap, x⟩ i (-1) w h (show i < x.length by omega)) ?_
    rintro _ w1 ⟨l', rfl, hx, hl, hw, hne⟩
    refine Goes.adv hTT 400 rfl ?_
    exact Goes.ret2 hTT rfl Tryd.func45 rfl rfl rfl ⟨l', rfl, by rw [hx]; exact ht.symm, hl, hw, hne⟩
theorem ref12_Own (l : IL) (i who : Int) (w : World) (h : IlOk w l) : Does Tryd.prog 46 #[ilV l, .int .i64 i, .int .i64 who] w
    (fun v w' => ∃ l' : IL, v = .tuple #[ilV l', .int .i64 (pgOwnE l.x i who)] ∧ l'.x = pgOwnS l.x i who ∧ IlOk w' l' ∧ Chg None' w w' ∧ Newer w l.a l'.a) := by
  have hk : ∀ e : Int, pgOwnE l.x i who = e → e ≠ 0 → pgOwnS l.x i who = l.x := fun e h1 h2 => by unfold pgOwnS; rw [h1, if_neg h2]
  obtain ⟨a, cap, x⟩ := l
  have hr := h.rd
  have hl := h.len
  simp only at hr hk hl
  show Does Tryd.prog 46 #[.slice a x.length cap, .int .i64 i, .int .i64 who] w (fun v w' => ∃ l' : IL, v = .tuple #[ilV l', .int .i64 (pgOwnE x i who)] ∧ l'.x = pgOwnS x i who ∧ IlOk w' l' ∧ Chg None' w w' ∧ Newer w a l'.a)
  refine Does.enter Tryd.func46 rfl Tryd.ntmps46 rfl rfl ?_
  refine Goes.adv hTT 400 rfl ?_
  refine Goes.fork hTT rfl rfl rfl (fun h0 => ?_) (fun h0 => ?_)
  · have g0 := of_decide_eq_true h0
    have he : pgOwnE x i who = 1 := by unfold pgOwnE; rw [if_pos (by omega)]
    rw [he, hk 1 he (by decide)]
    exact Goes.ret2 hTT rfl Tryd.func46 rfl rfl rfl ⟨⟨a, cap, x⟩, rfl, rfl, h, Chg.refl _ _, .inl rfl⟩
  have g0 := of_decide_eq_false h0
  refine Goes.fork hTT rfl rfl rfl (fun h1 => ?_) (fun h1 => ?_)
  · have g1 := of_decide_eq_true h1
    have he : pgOwnE x i who = 1 := by unfold pgOwnE; rw [if_pos (by omega)]
    rw [he, hk 1 he (by decide)]
    exact Goes.ret2 hTT rfl Tryd.func46 rfl rfl rfl ⟨⟨a, cap, x⟩, rfl, rfl, h, Chg.refl _ _, .inl rfl⟩
  have g1 := of_decide_eq_false h1
  refine Goes.fork hTT rfl rfl rfl (fun hw0 => ?_) (fun hw0 => ?_)
  · have gw := of_decide_eq_true hw0
    have he : pgOwnE x i who = 1 := by unfold pgOwnE; rw [if_pos (by omega)]
    rw [he, hk 1 he (by decide)]
    exact Goes.ret2 hTT rfl Tryd.func46 rfl rfl rfl ⟨⟨a, cap, x⟩, rfl, rfl, h, Chg.refl _ _, .inl rfl⟩
  have gw := of_decide_eq_false hw0
  obtain ⟨i, rfl⟩ := Int.eq_ofNat_of_zero_le (show 0 ≤ i by omega)
  have hko : pgOwn x (i : Int) = x.getD i (-1) := by unfold pgOwn; rw [if_pos (by omega)]; rfl
  obtain ⟨b, off, rfl, hc⟩ := hr.atm (i := i) (by omega)
  refine Goes.index hTT rfl (j := i) (by omega) (by omega) (by first | rfl | omega | (simp; done) | (simp; omega)) rfl ?_
  refine Goes.load hTT rfl hc rfl ?_
  by_cases h2 : x.getD i (-1) = -1
  · have he : pgOwnE x i who = 9 := by unfold pgOwnE; rw [if_neg (by omega), if_pos (by rw [hko]; exact h2)]
    rw [he]
    refine Goes.yes hTT rfl (show (x.getD i (-1) == -1) = true by rw [h2]; rfl) rfl ?_
    exact Goes.ret2 hTT rfl Tryd.func46 rfl rfl rfl ⟨⟨_, cap, x⟩, rfl, (hk 9 he (by decide)).symm, h, Chg.refl _ _, .inl rfl⟩
  · have he : pgOwnE x i who = 0 := by unfold pgOwnE; rw [if_neg (by omega), if_neg (by rw [hko]; exact h2)]
    have ht : pgOwnS x i who = x.set i who := by unfold pgOwnS; rw [he]; rfl
    rw [he]
    refine Goes.no hTT rfl (show (x.getD i (-1) == -1) = false by simpa using h2) rfl ?_
    refine Goes.call rfl (ref12_With ⟨_, cap, x⟩ i who w h (show i < x.length by omega)) ?_
    rintro _ w1 ⟨l', rfl, hx, hl, hw, hne⟩
    refine Goes.adv hTT 400 rfl ?_
    exact Goes.ret2 hTT rfl Tryd.func46 rfl rfl rfl ⟨l', rfl, by rw [hx]; exact ht.symm, hl, hw, hne⟩
end Go.Proofs.YtoileikhfgehcaaDoor
