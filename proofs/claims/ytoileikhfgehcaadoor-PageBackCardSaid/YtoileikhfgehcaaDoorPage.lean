/-
  Layer 12: a page: places with owners.
-/
import Derived.Test.YtoileikhfgehcaaDoorBits3
namespace Go.Proofs.YtoileikhfgehcaaDoor
open Go.RowKit

/-- Owners: -1 where nobody is. -/
def pgB (x : List Int) : List Bool := x.map fun o => !(o == -1)
def pgOwn (x : List Int) (i : Int) : Int := if 0 ≤ i then x.getD i.toNat (-1) else -1
def pgHole (x : List Int) : Int := lowM (pgB x)
def pgTop (x : List Int) : Int := highM (pgB x)
def pgUsed (x : List Int) : Nat := cnt (pgB x)
def pgTakeE (x : List Int) (who : Int) : Int := if who < 0 then 1 else if pgHole x < 0 then 5 else 0
def pgTakeA (x : List Int) (who : Int) : Int := if pgTakeE x who = 0 then pgHole x else 0
def pgTake (x : List Int) (who : Int) : List Int := if pgTakeE x who = 0 then x.set (pgHole x).toNat who else x
def pgGiveE (x : List Int) (i : Int) : Int := if i < 0 ∨ (x.length : Int) ≤ i then 1 else if pgOwn x i = -1 then 9 else 0
def pgGive (x : List Int) (i : Int) : List Int := if pgGiveE x i = 0 then x.set i.toNat (-1) else x
def pgOwnE (x : List Int) (i who : Int) : Int := if i < 0 ∨ (x.length : Int) ≤ i ∨ who < 0 then 1 else if pgOwn x i = -1 then 9 else 0
def pgOwnS (x : List Int) (i who : Int) : List Int := if pgOwnE x i who = 0 then x.set i.toNat who else x
theorem pgB_length (x : List Int) : (pgB x).length = x.length := by simp [pgB]
theorem pgB_getD (x : List Int) (k : Nat) : (pgB x).getD k false = !(x.getD k (-1) == -1) := by
  unfold pgB
  rw [List.getD_eq_getElem?_getD, List.getElem?_map, List.getD_eq_getElem?_getD]
  cases h : x[k]? <;> simp
theorem pg_has (x : List Int) (i : Int) : hasM (pgB x) i = !(pgOwn x i == -1) := by
  unfold hasM pgOwn
  rw [pgB_getD]
  by_cases h : 0 ≤ i
  · rw [if_pos h, decide_eq_true h]; rfl
  · rw [if_neg h, decide_eq_false h]; rfl
theorem pg_in (x : List Int) (i : Int) : inM (pgB x) i = true ↔ 0 ≤ i ∧ i < x.length := by
  unfold inM; rw [pgB_length]; simp
theorem pgB_set (x : List Int) (i : Nat) (v : Int) : pgB (x.set i v) = (pgB x).set i (!(v == -1)) := by
  unfold pgB; rw [List.map_set]
theorem pgOwn_out {x : List Int} {i : Int} (h : i < 0 ∨ (x.length : Int) ≤ i) : pgOwn x i = -1 := by
  unfold pgOwn
  by_cases h0 : 0 ≤ i
  · rw [if_pos h0, List.getD_eq_getElem?_getD, List.getElem?_eq_none (by omega)]; rfl
  · rw [if_neg h0]
theorem cnt_take_succ' : ∀ (x : List Bool) (k : Nat) (h : k < x.length), cnt (x.take (k + 1)) = cnt (x.take k) + (if x[k] then 1 else 0)
  | [], k, h => by simp at h
  | a :: r, 0, h => by simp [cnt]
  | a :: r, k + 1, h => by
    have := cnt_take_succ' r k (by simpa using h)
    simp only [List.take_succ_cons, cnt, List.getElem_cons_succ]
    rw [this]; omega
theorem low_is {x : List Bool} (hfull : cnt x ≠ x.length) : ∃ t, t < x.length ∧ x.getD t false = false ∧ ∀ j, j < t → x.getD j false = true := by
  obtain ⟨j0, hj0, hjf⟩ := cnt_not_full hfull
  have key : ∀ m t, t ≤ m → t < x.length → x.getD t false = false → ∃ t, t < x.length ∧ x.getD t false = false ∧ ∀ j, j < t → x.getD j false = true := by
    intro m
    induction m with
    | zero => intro t ht htl htf; exact ⟨t, htl, htf, fun j hj => by omega⟩
    | succ m ihm =>
      intro t ht htl htf
      by_cases hall : ∀ j, j < t → x.getD j false = true
      · exact ⟨t, htl, htf, hall⟩
      · have : ∃ j, j < t ∧ x.getD j false = false := by
          apply Classical.byContradiction
          intro hno
          apply hall
          intro j hj
          cases hh : x.getD j false with
          | true => rfl
          | false => exact (hno ⟨j, hj, hh⟩).elim
        obtain ⟨j, hj, hjf⟩ := this
        exact ihm j (by omega) (by omega) hjf
  exact key j0 j0 (Nat.le_refl _) hj0 (by rw [← getD_is hj0]; exact hjf)
/-- the lowest place that is free -/
theorem low_lt {x : List Bool} (h : 0 ≤ lowM x) : (lowM x).toNat < x.length ∧ x.getD (lowM x).toNat false = false := by
  unfold lowM at h ⊢
  by_cases hf : cnt x = x.length
  · rw [idx_none (p := fun b => !b) (fun j hj => by rw [cnt_full hf j hj]; rfl)] at h
    exact absurd h (by decide)
  · obtain ⟨t, ht1, ht2, ht3⟩ := low_is hf
    rw [idx_at (p := fun b => !b) ht1 (fun j hj hjt => by rw [getD_is hj, ht3 j hjt]; rfl) (by rw [getD_is ht1, ht2]; rfl)]
    exact ⟨ht1, ht2⟩
theorem low_full {x : List Bool} : lowM x < 0 ↔ cnt x = x.length := by
  unfold lowM
  by_cases hf : cnt x = x.length
  · rw [idx_none (p := fun b => !b) (fun j hj => by rw [cnt_full hf j hj]; rfl)]
    exact ⟨fun _ => hf, fun _ => by decide⟩
  · obtain ⟨t, ht1, ht2, ht3⟩ := low_is hf
    rw [idx_at (p := fun b => !b) ht1 (fun j hj hjt => by rw [getD_is hj, ht3 j hjt]; rfl) (by rw [getD_is ht1, ht2]; rfl)]
    exact ⟨fun h => by omega, fun h => absurd h hf⟩
/-- Where a page lies: itself, its bits, its owners. -/
structure Pg where
  p : Nat
  bb : Nat
  mb : Nat
abbrev pgV (g : Pg) : Value := .pointer (some ⟨g.p, 0, none⟩)
def pgFoot (g : Pg) : Nat → Prop := fun z => z = g.bb ∨ z = g.mb
def pgL (g : Pg) (x : List Int) : List Value := [.pointer (some ⟨g.bb, 0, none⟩), .int .i64 (x.length : Int), .map (some g.mb)]
structure PageOk (w : World) (g : Pg) (x : List Int) : Prop where
  pc : w.heap[g.p]? = some (.cells (pgL g x).toArray 71 (0, 0))
  bits : BitsOk w g.bb (pgB x)
  own : ∃ m, MapAt w g.mb m ∧ (akeys m).Nodup ∧ ∀ i, i < x.length → x.getD i (-1) ≠ -1 → alook m i = some (.int .i64 (x.getD i (-1)))
  npb : g.p ≠ g.bb
  npm : g.p ≠ g.mb
  nbm : g.bb ≠ g.mb
theorem PageOk.chg {S : Nat → Prop} {w w' : World} {g : Pg} {x : List Int} (h : PageOk w g x) (hc : Chg S w w') (h1 : ¬ S g.p) (h2 : ¬ S g.bb) (h3 : ¬ S g.mb) (hg : ¬ S 0) : PageOk w' g x := by
  obtain ⟨m, hm, hn, ha⟩ := h.own
  exact ⟨hc.heap h.pc h1, h.bits.chg hc h2 hg, ⟨m, hm.chg hc h3, hn, ha⟩, h.npb, h.npm, h.nbm⟩
theorem PageOk.grow {w w' : World} {g : Pg} {x : List Int} (h : PageOk w g x) (hc : Chg None' w w') : PageOk w' g x := h.chg hc id id id id
theorem PageOk.lt {w : World} {g : Pg} {x : List Int} (h : PageOk w g x) : g.p < w.heap.size ∧ g.bb < w.heap.size ∧ g.mb < w.heap.size := by
  obtain ⟨m, hm, hn, ha⟩ := h.own
  exact ⟨lt_of_heap h.pc, h.bits.lt, hm.lt⟩
theorem PageOk.footlt {w : World} {g : Pg} {x : List Int} (h : PageOk w g x) : ∀ b, pgFoot g b → b < w.heap.size := fun b hb => by
  obtain ⟨_, h2, h3⟩ := h.lt
  rcases hb with rfl | rfl
  · exact h2
  · exact h3
theorem PageOk.notab {w : World} {g : Pg} {x : List Int} (h : PageOk w g x) : 0 ≠ g.mb := fun e => by
  obtain ⟨m, ⟨es, c, hm, _⟩, hn, ha⟩ := h.own
  have := h.bits.tab 0 (by decide)
  rw [e] at this
  simp only [World.cell?, hm] at this
  cases this
theorem page_New (m : Nat) (w : World) (hT0 : TabAt w) (h : 1 ≤ m ∧ m ≤ 512) : Does Tryd.prog 25 #[.int .i64 m] w
    (fun v w' => ∃ g, v = .tuple #[pgV g, .int .i64 0] ∧ (w.heap.size ≤ g.p ∧ w.heap.size ≤ g.bb ∧ w.heap.size ≤ g.mb) ∧ PageOk w' g (List.replicate m (-1)) ∧ Chg None' w w') := by
  refine Does.enter Tryd.func25 rfl Tryd.ntmps25 rfl rfl ?_
  refine Goes.adv hTT 400 rfl ?_
  refine Goes.call rfl (bits_New m w hT0 h) ?_
  rintro _ w1 ⟨bb, rfl, hbb, hB1, hw1⟩
  refine Goes.adv hTT 400 rfl ?_
  refine Goes.no hTT rfl rfl rfl ?_
  refine Goes.mkmap rfl ?_
  intro mb w2 hmb hm2 hw2 hz2
  refine Goes.adv hTT 400 rfl ?_
  refine Goes.build hTT rfl rfl ?_
  refine Goes.alloc hTT rfl ?_
  intro p w3 e3 hp hw3 hz3
  refine Goes.adv hTT 400 rfl ?_
  have hB3 := (hB1.grow hw2).grow hw3
  have hl1 := hB1.lt
  have hs1 := hw1.size
  have hlen : (List.replicate m (-1 : Int)).length = m := List.length_replicate
  have hpB : pgB (List.replicate m (-1)) = List.replicate m false := by simp [pgB]
  exact Goes.ret2 hTT rfl Tryd.func25 rfl rfl rfl ⟨⟨p, bb, mb⟩, rfl, ⟨by simp only; omega, hbb, by simp only; omega⟩, ⟨by unfold pgL; rw [hlen]; exact hp, by rw [hpB]; exact hB3, ⟨[], hm2.chg hw3 id, List.nodup_nil, fun i hi hne => absurd (by rw [hlen] at hi; rw [List.getD_eq_getElem?_getD, List.getElem?_replicate, if_pos hi]; rfl) hne⟩, by simp only; omega, by simp only; omega, by simp only; omega⟩, (hw1.trans hw2).trans hw3⟩
theorem page_New_no (m : Int) (w : World) (h : ¬ (1 ≤ m ∧ m ≤ 512)) : Does Tryd.prog 25 #[.int .i64 m] w (Same (.tuple #[.pointer none, .int .i64 1]) w) := by
  refine Does.enter Tryd.func25 rfl Tryd.ntmps25 rfl rfl ?_
  refine Goes.adv hTT 400 rfl ?_
  refine Goes.call rfl (bits_New_no m w h) ?_
  rintro _ _ ⟨rfl, rfl⟩
  refine Goes.adv hTT 400 rfl ?_
  refine Goes.yes hTT rfl rfl rfl ?_
  exact Goes.ret2 hTT rfl Tryd.func25 rfl rfl rfl ⟨rfl, rfl⟩
theorem page_Used (g : Pg) (x : List Int) (w : World) (h : PageOk w g x) : Does Tryd.prog 27 #[pgV g] w (Same (.int .i64 (pgUsed x)) w) := by
  refine Does.enter Tryd.func27 rfl Tryd.ntmps27 rfl rfl ?_
  refine Goes.adv hTT 400 rfl ?_
  refine Goes.loadb hTT rfl h.pc rfl rfl ?_
  refine Goes.call rfl (bits_Count g.bb _ w h.bits) ?_
  rintro _ _ ⟨rfl, rfl⟩
  refine Goes.adv hTT 400 rfl ?_
  exact Goes.ret1 hTT rfl Tryd.func27 rfl rfl ⟨rfl, rfl⟩
theorem page_Used_nil (w : World) : Does Tryd.prog 27 #[.pointer none] w (Same (.int .i64 0) w) := by
  refine Does.enter Tryd.func27 rfl Tryd.ntmps27 rfl rfl ?_
  refine Goes.adv hTT 400 rfl ?_
  exact Goes.ret1 hTT rfl Tryd.func27 rfl rfl ⟨rfl, rfl⟩
theorem page_Hole (g : Pg) (x : List Int) (w : World) (h : PageOk w g x) : Does Tryd.prog 29 #[pgV g] w (Grow (.int .i64 (pgHole x)) w) := by
  refine Does.enter Tryd.func29 rfl Tryd.ntmps29 rfl rfl ?_
  refine Goes.adv hTT 400 rfl ?_
  refine Goes.loadb hTT rfl h.pc rfl rfl ?_
  refine Goes.call rfl (bits_Low g.bb _ w h.bits) ?_
  rintro _ w1 ⟨rfl, hw1⟩
  refine Goes.adv hTT 400 rfl ?_
  exact Goes.ret1 hTT rfl Tryd.func29 rfl rfl ⟨rfl, hw1⟩
theorem page_Hole_nil (w : World) : Does Tryd.prog 29 #[.pointer none] w (Same (.int .i64 (-1)) w) := by
  refine Does.enter Tryd.func29 rfl Tryd.ntmps29 rfl rfl ?_
  refine Goes.adv hTT 400 rfl ?_
  exact Goes.ret1 hTT rfl Tryd.func29 rfl rfl ⟨rfl, rfl⟩
theorem page_Top (g : Pg) (x : List Int) (w : World) (h : PageOk w g x) : Does Tryd.prog 30 #[pgV g] w (Same (.int .i64 (pgTop x)) w) := by
  refine Does.enter Tryd.func30 rfl Tryd.ntmps30 rfl rfl ?_
  refine Goes.adv hTT 400 rfl ?_
  refine Goes.loadb hTT rfl h.pc rfl rfl ?_
  refine Goes.call rfl (bits_High g.bb _ w h.bits) ?_
  rintro _ _ ⟨rfl, rfl⟩
  refine Goes.adv hTT 400 rfl ?_
  exact Goes.ret1 hTT rfl Tryd.func30 rfl rfl ⟨rfl, rfl⟩
theorem page_Top_nil (w : World) : Does Tryd.prog 30 #[.pointer none] w (Same (.int .i64 (-1)) w) := by
  refine Does.enter Tryd.func30 rfl Tryd.ntmps30 rfl rfl ?_
  refine Goes.adv hTT 400 rfl ?_
  exact Goes.ret1 hTT rfl Tryd.func30 rfl rfl ⟨rfl, rfl⟩
theorem page_Full (g : Pg) (x : List Int) (w : World) (h : PageOk w g x) : Does Tryd.prog 28 #[pgV g] w (Grow (.bool ((pgUsed x : Int) == x.length)) w) := by
  refine Does.enter Tryd.func28 rfl Tryd.ntmps28 rfl rfl ?_
  refine Goes.adv hTT 400 rfl ?_
  refine Goes.drawn (q := 15) None' hTT mixed (by kernel_rfl) rfl ?_
  intro hB
  refine Drawn.yes hTT hB rfl rfl rfl ?_
  refine Drawn.loadb hTT hB rfl h.pc (by first | exact fun h => h | (intro h; omega) | assumption) rfl rfl ?_
  refine Drawn.call hTT hB rfl (fun w' hw' => (bits_Count g.bb _ w' (h.bits.grow hw')).grow) rfl ?_
  refine Drawn.loadb hTT hB rfl h.pc (by first | exact fun h => h | (intro h; omega) | assumption) rfl rfl ?_
  refine Drawn.nil hB ?_
  intro w1 hw1
  refine Goes.adv hTT 400 rfl ?_
  exact Goes.ret1 hTT rfl Tryd.func28 rfl rfl ⟨rfl, hw1⟩
theorem page_Full_nil (w : World) : Does Tryd.prog 28 #[.pointer none] w (Grow (.bool false) w) := by
  refine Does.enter Tryd.func28 rfl Tryd.ntmps28 rfl rfl ?_
  refine Goes.adv hTT 400 rfl ?_
  refine Goes.drawn (q := 15) None' hTT mixed (by kernel_rfl) rfl ?_
  intro hB
  refine Drawn.nil hB ?_
  intro w1 hw1
  refine Goes.adv hTT 400 rfl ?_
  exact Goes.ret1 hTT rfl Tryd.func28 rfl rfl ⟨rfl, hw1⟩
theorem page_Owner (g : Pg) (x : List Int) (i : Int) (w : World) (h : PageOk w g x) : Does Tryd.prog 32 #[pgV g, .int .i64 i] w (Same (.int .i64 (pgOwn x i)) w) := by
  refine Does.enter Tryd.func32 rfl Tryd.ntmps32 rfl rfl ?_
  refine Goes.adv hTT 400 rfl ?_
  refine Goes.no hTT rfl rfl rfl ?_
  refine Goes.loadb hTT rfl h.pc rfl rfl ?_
  refine Goes.call rfl (bits_Has g.bb _ i w h.bits) ?_
  rintro _ _ ⟨rfl, rfl⟩
  refine Goes.adv hTT 400 rfl ?_
  rw [pg_has]
  cases ho : (pgOwn x i == -1) with
  | true =>
    refine Goes.yes hTT rfl rfl rfl ?_
    exact Goes.ret1 hTT rfl Tryd.func32 rfl rfl ⟨int_v (show -1 = pgOwn x i from (by simpa using ho : pgOwn x i = -1).symm), rfl⟩
  | false =>
    refine Goes.no hTT rfl rfl rfl ?_
    obtain ⟨m, hm, hn, ha⟩ := h.own
    have hne : pgOwn x i ≠ -1 := by simpa using ho
    have hin : 0 ≤ i ∧ i < x.length := Classical.byContradiction fun hc => hne (pgOwn_out (by omega))
    obtain ⟨k, rfl⟩ := Int.eq_ofNat_of_zero_le hin.1
    have hko : pgOwn x k = x.getD k (-1) := by unfold pgOwn; rw [if_pos hin.1]; rfl
    have hak := ha k (by omega) (by rw [← hko]; exact hne)
    refine Goes.loadb hTT rfl h.pc rfl rfl ?_
    refine Goes.lookup hTT rfl (hm) ((show lookV m (.int .i64 0) k false = .int .i64 (pgOwn x k) by unfold lookV; rw [hak, hko]; rfl)) rfl ?_
    exact Goes.ret1 hTT rfl Tryd.func32 rfl rfl ⟨rfl, rfl⟩
theorem page_Owner_nil (i : Int) (w : World) : Does Tryd.prog 32 #[.pointer none, .int .i64 i] w (Same (.int .i64 (-1)) w) := by
  refine Does.enter Tryd.func32 rfl Tryd.ntmps32 rfl rfl ?_
  refine Goes.adv hTT 400 rfl ?_
  exact Goes.ret1 hTT rfl Tryd.func32 rfl rfl ⟨rfl, rfl⟩
end Go.Proofs.YtoileikhfgehcaaDoor
