/-
  Layer 6: Copy, Fill, Store.
-/
import Derived.Test.YtffimkpllchfcaaArena2
import Derived.Lib.SliceRun
namespace Go.Proofs.Ytffimkpllchfcaa
open Go.RowKit

theorem arena_span' (A : Ar) (V : ArV) (i n : Nat) (w : World) (h : ArOk w A V) (ht : i + n ≤ V.bs.length) : Does Try.prog 66 #[.pointer (some ⟨A.ab, 0, none⟩), .int .i64 i, .int .i64 n] w
    (fun v w' => ∃ x, v = .tuple #[.slice x n (V.bs.length - i), .int .i64 0] ∧ (0 < n → x = some ⟨A.db, i, none⟩) ∧ x.isSome = true ∧ w = w') :=
  (arena_span A V i n w h ht).mono fun _ _ ⟨h1, h2⟩ => ⟨_, h1, fun hn => span_addr ht hn, by unfold shiftA; split <;> rfl, h2⟩
theorem wrB_getD {bs l : List Int} {i j : Nat} (h : i + l.length ≤ bs.length) : (wrB bs i l).getD j 0 = if j < i then bs.getD j 0 else if j < i + l.length then l.getD (j - i) 0 else bs.getD j 0 := by
  unfold wrB
  simp only [List.getD_eq_getElem?_getD]
  by_cases h1 : j < i
  · rw [if_pos h1, List.append_assoc, List.getElem?_append_left (by simp; omega), List.getElem?_take, if_pos h1]
  · rw [if_neg h1]
    by_cases h2 : j < i + l.length
    · rw [if_pos h2, List.getElem?_append_left (by simp; omega), List.getElem?_append_right (by simp; omega)]
      simp [show min i bs.length = i from by omega]
    · rw [if_neg h2, List.getElem?_append_right (by simp; omega)]
      simp only [List.length_append, List.length_take, List.getElem?_drop, show min i bs.length = i from by omega]
      rw [show i + l.length + (j - (i + l.length)) = j from by omega]
theorem ext_getD {a b : List Int} (hl : a.length = b.length) (h : ∀ j, j < a.length → a.getD j 0 = b.getD j 0) : a = b := by
  apply List.ext_getElem hl
  intro j h1 h2
  have := h j h1
  simpa [List.getD, h1, h2] using this
theorem set_getD {l : List Int} {i j : Nat} {x : Int} (hi : i < l.length) : (l.set i x).getD j 0 = if j = i then x else l.getD j 0 := by
  simp only [List.getD_eq_getElem?_getD, List.getElem?_set]
  by_cases h : i = j
  · subst h; simp [hi]
  · rw [if_neg h, if_neg (Ne.symm h)]
theorem setV_one : ∀ (l : List Value) (i : Nat) (v : Value), i < l.length → setV l i [v] = some (l.set i v)
  | x :: r, 0, v, _ => by simp [setV]
  | x :: r, i + 1, v, h => by simp [setV, setV_one r i v (by simpa using h)]
theorem setV1 {l : List Int} {i : Nat} {x : Int} (hi : i < l.length) : setV (l.map (Value.int .u8)) i [.int .u8 x] = some ((l.set i x).map (Value.int .u8)) := by
  rw [setV_one _ _ _ (by simpa using hi), List.map_set]
/-- A word's bytes, the least one first. -/
def leB (x : Int) : List Int := (List.range 8).map fun k => x / 256 ^ k % 256
theorem leB_length (x : Int) : (leB x).length = 8 := by simp [leB]
theorem leB_getD {x : Int} {k : Nat} (h : k < 8) : (leB x).getD k 0 = x / 256 ^ k % 256 := by simp [leB, List.getD, h]
theorem leB_in (x : Int) : InB (leB x) := fun y hy => by
  unfold leB at hy
  obtain ⟨k, _, rfl⟩ := List.mem_map.1 hy
  omega
theorem wrap_u8 {z : Int} : IntKind.u8.wrap z = z % 256 := by
  simp only [IntKind.wrap, IntKind.signed, IntKind.bits]
  simp
theorem shr_u64 {x : Int} {k : Nat} (hk : k < 8) : shV false .u64 x (8 * (k : Int)) = x / 256 ^ k := by
  unfold shV
  rw [if_neg (by simp), show (8 * (k : Int)).toNat = 8 * k from by omega, show min (8 * k) (IntKind.bits .u64) = 8 * k from Nat.min_eq_left (by simp only [IntKind.bits]; omega)]
  rw [Int.pow_mul, Int.fdiv_eq_ediv_of_nonneg _ (Int.le_of_lt (Int.pow_pos (by decide)))]
  rfl
/-- The first k bytes laid. -/
def partW (bs : List Int) (i : Nat) (l : List Int) (k : Nat) : List Int := wrB bs i (l.take k)
theorem partW_step {bs l : List Int} {i k : Nat} (h : i + l.length ≤ bs.length) (hk : k < l.length) : (partW bs i l k).set (i + k) (l.getD k 0) = partW bs i l (k + 1) := by
  unfold partW
  have h1 : (l.take k).length = k := by simp; omega
  have h2 : (l.take (k + 1)).length = k + 1 := by simp; omega
  have hl1 : (wrB bs i (l.take k)).length = bs.length := wrB_length (by omega)
  have hl2 : (wrB bs i (l.take (k + 1))).length = bs.length := wrB_length (by omega)
  refine ext_getD (by simp [hl1, hl2]) fun j hj => ?_
  have htk : ∀ m, m < k → (l.take k).getD m 0 = l.getD m 0 := fun m hm => by simp [List.getD, hm]
  have htk1 : ∀ m, m < k + 1 → (l.take (k + 1)).getD m 0 = l.getD m 0 := fun m hm => by simp [List.getD, hm]
  rw [set_getD (by omega), wrB_getD (by omega), wrB_getD (by omega), h1, h2]
  by_cases e : j = i + k
  · subst e
    rw [if_pos rfl, if_neg (by omega), if_pos (by omega), show i + k - i = k from by omega, htk1 k (by omega)]
  · rw [if_neg e]
    by_cases h3 : j < i
    · rw [if_pos h3, if_pos h3]
    · rw [if_neg h3, if_neg h3]
      by_cases h4 : j < i + k
      · rw [if_pos h4, if_pos (by omega), htk _ (by omega), htk1 _ (by omega)]
      · rw [if_neg h4, if_neg (by omega)]
theorem partW_zero {bs l : List Int} {i : Nat} : partW bs i l 0 = bs := by unfold partW; simp [wrB_nil]
theorem partW_all {bs l : List Int} {i : Nat} : partW bs i l l.length = wrB bs i l := by unfold partW; rw [List.take_length]
theorem partW_length {bs l : List Int} {i k : Nat} (h : i + l.length ≤ bs.length) : (partW bs i l k).length = bs.length := wrB_length (by simp; omega)
theorem partW_in {bs l : List Int} {i k : Nat} (h : InB bs) (h' : InB l) : InB (partW bs i l k) := fun x hx => (wrB_mem hx).elim (h x) (fun hx => h' x (List.mem_of_mem_take hx))
theorem or_zero {c : Int} (h : 0 ≤ c ∧ c < 256) : bitV .or .u8 0 c = c := by
  obtain ⟨c, rfl⟩ := Int.eq_ofNat_of_zero_le h.1
  have hbv : (BitVec.ofInt 8 (0 : Int) ||| BitVec.ofInt 8 (c : Int)).toNat = c := by
    rw [BitVec.toNat_or, BitVec.toNat_ofInt, BitVec.toNat_ofInt]
    rw [show ((c : Int) % ((2 ^ 8 : Nat) : Int)).toNat = c from by omega]
    simp
  change IntKind.u8.wrap ((BitVec.ofInt 8 (0 : Int) ||| BitVec.ofInt 8 (c : Int)).toNat : Int) = _
  rw [hbv, wrap_u8]
  omega
theorem dat_cell {w : World} {A : Ar} {V : ArV} {j : Nat} (h : ArOk w A V) (hj : j < V.bs.length) : w.cell? ⟨A.db, j, none⟩ = some (.int .u8 (V.bs.getD j 0)) := by
  rw [cell_of h.dat]; simp [hj]
theorem arena_Fill (A : Ar) (V : ArV) (i n : Nat) (c : Int) (w : World) (h : ArOk w A V) (ht : i + n ≤ V.bs.length) (hc : 0 ≤ c ∧ c < 256) :
    Does Try.prog 48 #[.pointer (some ⟨A.ab, 0, none⟩), .int .i64 i, .int .i64 n, .int .u8 c] w (fun v w' => v = .int .i64 0 ∧ ArOk w' A { V.charge A n with bs := wrB V.bs i (List.replicate n c) } ∧ Chg (foot A) w w') := by
  have hlen := h.len
  refine Does.enter Try.func48 rfl Try.ntmps48 rfl rfl ?_
  refine Goes.adv hTT 400 rfl ?_
  refine Goes.call rfl (arena_charged' A V i n w h ht) ?_
  rintro _ w1 ⟨x, rfl, hx, _, h1, hs⟩
  refine Goes.adv hTT 400 rfl ?_
  have hsf : Chg (foot A) w w1 := hs.mono fun b _ hb => .inr hb
  have e1 := V.charge_bs A n
  by_cases hn : n = 0
  · refine Goes.clear0 hTT rfl hn rfl ?_
    refine Goes.unroll hTT rfl ?_
    refine Goes.no hTT rfl (decide_eq_false (by omega)) rfl ?_
    subst hn
    exact Goes.ret1 hTT rfl Try.func48 rfl rfl ⟨rfl, by rw [List.replicate_zero, wrB_nil, ← V.charge_bs A 0]; exact h1, hsf⟩
  · have hxe := hx (by omega)
    subst hxe
    have hd1 := h1.dat
    rw [e1] at hd1
    have hr0 : (List.replicate n (0 : Int)).length = n := List.length_replicate
    have hrc : (List.replicate n c).length = n := List.length_replicate
    refine Goes.clear hTT rfl hd1 rfl rfl (by omega) (by simp; omega) ?_
    intro w2 hd2 hs2 hz2
    refine Goes.adv hTT 400 rfl ?_
    have hmap : (V.bs.map (Value.int .u8)).take i ++ List.replicate n (Value.int .u8 0) ++ (V.bs.map (Value.int .u8)).drop (i + n) = (wrB V.bs i (List.replicate n 0)).map (Value.int .u8) := by
      unfold wrB; simp [List.map_take, List.map_drop]
    rw [hmap] at hd2
    have hi0 : InB (List.replicate n (0 : Int)) := fun x hx => by rw [List.eq_of_mem_replicate hx]; omega
    have hic : InB (List.replicate n c) := fun x hx => by rw [List.eq_of_mem_replicate hx]; exact hc
    have h2 := h1.laid hd2 hs2 (by rw [wrB_length (by omega), e1]) (fun x hx => (wrB_mem hx).elim (h.rng x) (hi0 x))
    have hs12 : Chg (foot A) w w2 := hsf.trans (hs2.mono fun b _ hb => .inl hb)
    obtain ⟨b0, hb0⟩ : ∃ b0, b0 = wrB V.bs i (List.replicate n 0) := ⟨_, rfl⟩
    rw [← hb0] at h2
    have hb0l : b0.length = V.bs.length := by rw [hb0, wrB_length (by omega)]
    have hb0i : InB b0 := fun x hx => by rw [hb0] at hx; exact (wrB_mem hx).elim (h.rng x) (hi0 x)
    refine Goes.loop (α := Nat) (fun k => [(3, false, .int .u8 c), (9, false, .slice (some ⟨A.db, i, none⟩) n (V.bs.length - i)), (10, false, .int .i64 0), (21, false, .int .i64 n), (22, false, .int .i64 k)])
      (fun k w' => ArOk w' A { V.charge A n with bs := partW b0 i (List.replicate n c) k } ∧ Chg (foot A) w w' ∧ k ≤ n) (fun k => n - k) 0 ⟨rfl, rfl, rfl, rfl, rfl, trivial⟩ ⟨by rw [partW_zero]; exact h2, hs12, by omega⟩ ?_
    rintro k w3 ⟨h3, hs3, hk⟩ ih
    refine Goes.adv hTT 400 rfl ?_
    refine Goes.fork hTT rfl rfl rfl (fun h0 => ?_) (fun h0 => ?_)
    · have hlt : k < n := by have := of_decide_eq_true h0; omega
      have hpl : (partW b0 i (List.replicate n c) k).length = V.bs.length := by rw [partW_length (by omega), hb0l]
      have hv0 : (partW b0 i (List.replicate n c) k).getD (i + k) 0 = 0 := by
        unfold partW
        rw [wrB_getD (by simp; omega), if_neg (by omega), if_neg (by simp; omega), hb0, wrB_getD (by omega), if_neg (by omega), if_pos (by omega)]
        simp [List.getD, hlt]
      have hcell : w3.cell? ⟨A.db, i + k, none⟩ = some (.int .u8 0) := by rw [← hv0]; exact dat_cell (j := i + k) h3 (by simp only [hpl]; omega)
      refine Goes.index hTT rfl (j := k) (by omega) (by omega) (by first | rfl | omega | (simp; done) | (simp; omega)) rfl ?_
      refine Goes.load hTT rfl hcell rfl ?_
      refine Goes.bits hTT rfl (or_zero hc) rfl ?_
      refine Goes.index hTT rfl (j := k) (by omega) (by omega) (by first | rfl | omega | (simp; done) | (simp; omega)) rfl ?_
      refine Goes.store hTT rfl h3.dat (setV1 (by simp only [hpl]; omega)) rfl ?_
      intro w4 hd4 hs4 hz4
      refine Goes.adv hTT 400 rfl ?_
      have hd4' : w4.heap[A.db]? = some (.cells ((partW b0 i (List.replicate n c) (k + 1)).map (Value.int .u8)).toArray 5 (0, 0)) := by
        rw [← partW_step (l := List.replicate n c) (i := i) (bs := b0) (k := k) (by omega) (by omega), show (List.replicate n c).getD k 0 = c from by simp [List.getD, hlt]]; exact hd4
      have h4 := h3.laid hd4' hs4 (by simp only; rw [partW_length (by omega), partW_length (by omega)]) (partW_in hb0i hic)
      refine Goes.arith hTT rfl (w64 (by omega)) rfl ?_
      exact ih (k + 1) _ _ ⟨h4, hs3.trans (hs4.mono fun b _ hb => .inl hb), by omega⟩ (by omega) ⟨rfl, rfl, rfl, rfl, rfl, trivial⟩
    · have hge : k = n := by have := of_decide_eq_false h0; omega
      subst hge
      have hfin : partW b0 i (List.replicate k c) k = wrB V.bs i (List.replicate k c) := by
        refine ext_getD (by rw [partW_length (by omega), wrB_length (by omega), hb0l]) fun j hj => ?_
        have hj' := hj
        unfold partW
        rw [show (List.replicate k c).take k = List.replicate k c from by simp, wrB_getD (by omega), wrB_getD (by omega), hb0, wrB_getD (by omega)]
        by_cases h5 : j < i
        · simp only [if_pos h5]
        · simp only [if_neg h5, hrc, hr0]
          by_cases h6 : j < i + k
          · simp only [if_pos h6]
          · simp only [if_neg h6]
      rw [hfin] at h3
      exact Goes.ret1 hTT rfl Try.func48 rfl rfl ⟨rfl, h3, hs3⟩
theorem arena_Fill_no (A : Ar) (V : ArV) (i n c : Int) (w : World) (h : ArOk w A V) (ht : thereB V.bs.length i n = false) : Does Try.prog 48 #[.pointer (some ⟨A.ab, 0, none⟩), .int .i64 i, .int .i64 n, .int .u8 c] w (Same (.int .i64 8) w) := by
  refine Does.enter Try.func48 rfl Try.ntmps48 rfl rfl ?_
  refine Goes.adv hTT 400 rfl ?_
  refine Goes.call rfl (arena_charged_no A V i n w h ht) ?_
  rintro _ _ ⟨rfl, rfl⟩
  refine Goes.adv hTT 400 rfl ?_
  refine Goes.clear0 hTT rfl rfl rfl ?_
  refine Goes.unroll hTT rfl ?_
  refine Goes.no hTT rfl rfl rfl ?_
  exact Goes.ret1 hTT rfl Try.func48 rfl rfl ⟨rfl, rfl⟩
theorem arena_Fill_nil (i n c : Int) (w : World) : Does Try.prog 48 #[.pointer none, .int .i64 i, .int .i64 n, .int .u8 c] w (Same (.int .i64 1) w) := by
  refine Does.enter Try.func48 rfl Try.ntmps48 rfl rfl ?_
  refine Goes.adv hTT 400 rfl ?_
  refine Goes.call rfl (arena_charged_nil i n w) ?_
  rintro _ _ ⟨rfl, rfl⟩
  refine Goes.adv hTT 400 rfl ?_
  refine Goes.clear0 hTT rfl rfl rfl ?_
  refine Goes.unroll hTT rfl ?_
  refine Goes.no hTT rfl rfl rfl ?_
  exact Goes.ret1 hTT rfl Try.func48 rfl rfl ⟨rfl, rfl⟩
end Go.Proofs.Ytffimkpllchfcaa
