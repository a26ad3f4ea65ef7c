/-
  Layer 6: what the document's operations answer, on.
-/
import Derived.Test.YtommemplakcaaaaRef6b
namespace Go.Proofs.Ytommemplakcaaaa
open Go.RowKit

theorem ref06_Fill (r : RA) (i n : Nat) (c : Int) (w : World) (h : RaOk w r) (hst : StOk r.steps) (h0 : 0 < r.bs.length) (hi : i + n ≤ r.bs.length) (hc : 0 ≤ c ∧ c < 256) :
    Does Try.prog 52 #[.agg (raL r).toArray, .int .i64 i, .int .i64 n, .int .u8 c] w (RaTo w (wrB r.bs i (List.replicate n c)) (r.steps + n) 0) := by
  have hlen := h.len
  have hrc : (List.replicate n c).length = n := List.length_replicate
  have hzl : (zeros n).length = n := List.length_replicate
  refine Does.enter Try.func52 rfl Try.ntmps52 rfl rfl ?_
  refine Goes.adv hTT 400 rfl ?_
  refine Goes.alloc hTT rfl ?_
  intro rb w1 e1 hrb hw1 hz1
  refine Goes.adv hTT 400 rfl ?_
  refine Goes.alloc hTT rfl ?_
  intro qb w2 e2 hqb hw2 hz2
  refine Goes.adv hTT 400 rfl ?_
  refine Goes.loads hTT rfl (hw2.heap' hrb) rfl rfl ?_
  refine Goes.call rfl (ref06_there r i n w2 hlen) ?_
  rintro _ w3 ⟨rfl, hw3⟩
  refine Goes.adv hTT 400 rfl ?_
  refine Goes.no hTT rfl (by rw [thereB_iff.2 (by omega)]; rfl) rfl ?_
  refine Goes.make hTT (m := n) (k := n) rfl rfl rfl (Nat.le_refl _) (by simp only; omega) (by omega) ?_
  intro lb w4 e4 hlb hw4 hz4
  refine Goes.adv hTT 400 rfl ?_
  have hzz : (zeroRow (cellsL (Value.int .u8 0)) n) = (zeros n).map (Value.int .u8) := zeroRow_zeros _
  rw [hzz] at hlb
  have hc4 : Chg None' w w4 := ((hw1.trans hw2).trans hw3).trans hw4
  refine Goes.loop (α := Nat) (fun k => [(1, false, .int .i64 i), (2, false, .int .i64 n), (3, false, .int .u8 c), (4, false, .pointer (some ⟨rb, 0, none⟩)), (8, false, .pointer (some ⟨qb, 0, none⟩)), (10, false, .slice (some ⟨lb, 0, none⟩) n n), (11, false, .int .i64 k)])
    (fun k w' => w'.heap[lb]? = some (.cells ((partW (zeros n) 0 (List.replicate n c) k).map (Value.int .u8)).toArray 5 (0, 0)) ∧ Chg None' w3 w' ∧ k ≤ n) (fun k => n - k) 0 ⟨rfl, rfl, rfl, rfl, rfl, rfl, rfl, trivial⟩ ⟨by rw [partW_zero]; exact hlb, hw4, by omega⟩ ?_
  rintro k w5 ⟨h5, hw5, hk⟩ ih
  refine Goes.adv hTT 400 rfl ?_
  refine Goes.fork hTT rfl rfl rfl (fun hh => ?_) (fun hh => ?_)
  · have hlt : k < n := by have := of_decide_eq_true hh; omega
    refine Goes.index hTT rfl (j := k) (by omega) (by omega) (by first | rfl | omega | (simp; done) | (simp; omega)) rfl ?_
    have hpl : (partW (zeros n) 0 (List.replicate n c) k).length = n := by rw [partW_length (by omega), hzl]
    refine Goes.store hTT rfl h5 (setV1 (by rw [hpl]; omega)) rfl ?_
    intro w6 h6 hs6 hz6
    refine Goes.adv hTT 400 rfl ?_
    have hst' := partW_step (l := List.replicate n c) (i := 0) (bs := zeros n) (k := k) (by omega) (by omega)
    rw [show (List.replicate n c).getD k 0 = c from by simp [List.getD, hlt], ] at hst'
    rw [hst'] at h6
    refine Goes.arith hTT rfl (w64 (by omega)) rfl ?_
    exact ih (k + 1) _ _ ⟨h6, hw5.since hs6 (fun x hx hxe => by omega), by omega⟩ (by omega) ⟨rfl, rfl, rfl, rfl, rfl, rfl, rfl, trivial⟩
  · have hge : k = n := by have := of_decide_eq_false hh; omega
    subst hge
    have hfull : partW (zeros k) 0 (List.replicate k c) k = List.replicate k c := by
      unfold partW
      rw [show (List.replicate k c).take k = List.replicate k c from by simp]
      exact wrB_full (by rw [hzl, hrc])
    rw [hfull] at h5
    have hc5 : Chg None' w w5 := ((hw1.trans hw2).trans hw3).trans hw5
    have hrb5 := hw5.heap' (hw3.heap' (hw2.heap' hrb))
    have hqb5 := hw5.heap' (hw3.heap' hqb)
    have hcall := ref06_Write r i (some ⟨lb, 0, none⟩) k (List.replicate k c) w5 (h.grow hc5) hst h0 (RdU.of h5 rfl) (fun x hx => by rw [List.eq_of_mem_replicate hx]; exact hc) (by omega)
    rw [hrc] at hcall
    refine Goes.loads hTT rfl hrb5 rfl rfl ?_
    refine Goes.call rfl (hcall) ?_
    rintro _ w6 ⟨r6, rfl, hb6, hs6, hR6, hw6, hn6⟩
    refine Goes.adv hTT 400 rfl ?_
    have hqb6 := hw6.heap' hqb5
    refine Goes.store hTT rfl hqb6 rfl rfl ?_
    intro w7 hqb7 hs7 hz7
    refine Goes.adv hTT 400 rfl ?_
    have hc7 : Chg None' w w7 := (hc5.trans hw6).since hs7 (fun x hx hxe => by omega)
    have hR7 : RaOk w7 r6 := ⟨hR6.rd.keepU hqb6 (by simp [cellsL]) hs7, hR6.len, hR6.lc, hR6.rng⟩
    exact Goes.ret hTT rfl Try.func52 (ResOk.cell rfl rfl rfl hqb7 rfl (.tmp rfl .nil)) ⟨r6, rfl, hb6, hs6, hR7, hc7, hn6.back hc5.size⟩
theorem ref06_Fill_no (r : RA) (i n c : Int) (w : World) (hlen : r.bs.length ≤ 4194304) (hi : thereB r.bs.length i n = false) :
    Does Try.prog 52 #[.agg (raL r).toArray, .int .i64 i, .int .i64 n, .int .u8 c] w (Grow (.tuple #[.agg (raL r).toArray, .int .i64 8]) w) := by
  refine Does.enter Try.func52 rfl Try.ntmps52 rfl rfl ?_
  refine Goes.adv hTT 400 rfl ?_
  refine Goes.alloc hTT rfl ?_
  intro rb w1 e1 hrb hw1 hz1
  refine Goes.adv hTT 400 rfl ?_
  refine Goes.alloc hTT rfl ?_
  intro qb w2 e2 hqb hw2 hz2
  refine Goes.adv hTT 400 rfl ?_
  refine Goes.loads hTT rfl (hw2.heap' hrb) rfl rfl ?_
  refine Goes.call rfl (ref06_there r i n w2 hlen) ?_
  rintro _ w3 ⟨rfl, hw3⟩
  refine Goes.adv hTT 400 rfl ?_
  refine Goes.yes hTT rfl (by rw [hi]; rfl) rfl ?_
  refine Goes.loads hTT rfl (hw3.heap' (hw2.heap' hrb)) rfl rfl ?_
  refine Goes.store hTT rfl (hw3.heap' hqb) rfl rfl ?_
  intro w4 hqb4 hs4 hz4
  refine Goes.adv hTT 400 rfl ?_
  have hc4 : Chg None' w w4 := ((hw1.trans hw2).trans hw3).since hs4 (fun x hx hxe => by omega)
  exact Goes.ret hTT rfl Try.func52 (ResOk.cell rfl rfl rfl hqb4 rfl (.tmp rfl .nil)) ⟨rfl, hc4⟩
def wordedV (N : Nat) (i : Int) : Int := if thereB N i 8 = false then 8 else if i % 8 = 0 then 0 else 1
theorem ref06_worded (r : RA) (i : Int) (w : World) (hlen : r.bs.length ≤ 4194304) : Does Try.prog 60 #[.agg (raL r).toArray, .int .i64 i] w (Grow (.int .i64 (wordedV r.bs.length i)) w) := by
  refine Does.enter Try.func60 rfl Try.ntmps60 rfl rfl ?_
  refine Goes.adv hTT 400 rfl ?_
  refine Goes.alloc hTT rfl ?_
  intro rb w1 e1 hrb hw1 hz1
  refine Goes.adv hTT 400 rfl ?_
  refine Goes.loads hTT rfl hrb rfl rfl ?_
  refine Goes.call rfl (ref06_there r i 8 w1 hlen) ?_
  rintro _ w2 ⟨rfl, hw2⟩
  refine Goes.adv hTT 400 rfl ?_
  cases ht : thereB r.bs.length i 8 with
  | false =>
    refine Goes.yes hTT rfl rfl rfl ?_
    exact Goes.ret1 hTT rfl Try.func60 rfl rfl ⟨int_v (by unfold wordedV; rw [if_pos ht]), hw1.trans hw2⟩
  | true =>
    have g := thereB_iff.1 ht
    refine Goes.no hTT rfl rfl rfl ?_
    refine Goes.div hTT rfl (by omega) (rem_ (by omega)) rfl ?_
    refine Goes.fork hTT rfl rfl rfl (fun h8 => ?_) (fun h8 => ?_)
    · exact Goes.ret1 hTT rfl Try.func60 rfl rfl ⟨int_v (by unfold wordedV; rw [ht]; simp at h8; simp [h8]), hw1.trans hw2⟩
    · exact Goes.ret1 hTT rfl Try.func60 rfl rfl ⟨int_v (by unfold wordedV; rw [ht]; simp at h8; simp [h8]), hw1.trans hw2⟩
/-- The number of the upper k of 8 bytes. -/
def hiK (l : List Int) : Nat → Int
  | 0 => 0
  | k + 1 => hiK l k * 256 + l.getD (7 - k) 0
theorem hiK_lt {l : List Int} (h : InB l) : ∀ k, 0 ≤ hiK l k ∧ hiK l k < 256 ^ k
  | 0 => by simp [hiK]
  | k + 1 => by
    have ih := hiK_lt h k
    have hx : 0 ≤ l.getD (7 - k) 0 ∧ l.getD (7 - k) 0 ≤ 255 := by
      by_cases hk : 7 - k < l.length
      · rw [getD_at' hk]; have := h _ (List.getElem_mem hk); omega
      · simp [List.getD, List.getElem?_eq_none (Nat.le_of_not_lt hk)]
    rw [hiK, Int.pow_succ]
    omega
theorem hiK_leK (l : List Int) : hiK l 8 = leK l 8 := by simp only [hiK, leK]; simp; omega
theorem ref06_Load (r : RA) (i : Nat) (w : World) (h : RaOk w r) (hst : StOk r.steps) (hi : i + 8 ≤ r.bs.length) (h8 : i % 8 = 0) :
    Does Try.prog 54 #[.agg (raL r).toArray, .int .i64 i] w (Grow (.tuple #[.agg (raL { r with steps := r.steps + 1 }).toArray, .int .u64 (leK (sub r.bs i 8) 8), .int .i64 0]) w) := by
  have hlen := h.len
  have hlc := h.lc
  unfold StOk at hst
  have hw0 : wordedV r.bs.length i = 0 := by unfold wordedV; rw [thereB_iff.2 (by omega), if_neg (by simp), if_pos (by omega)]
  have hin : InB (sub r.bs i 8) := fun x hx => h.rng x (List.mem_of_mem_drop (List.mem_of_mem_take hx))
  obtain ⟨ra, rc, bs, st⟩ := r
  simp only at hi hlen hlc hst hw0 hin
  obtain ⟨b1, off1, ea, hcell⟩ := h.rd.at (show 0 < bs.length by omega)
  simp only at ea hcell
  subst ea
  refine Does.enter Try.func54 rfl Try.ntmps54 rfl rfl ?_
  refine Goes.adv hTT 400 rfl ?_
  refine Goes.alloc hTT rfl ?_
  intro rb w1 e1 hrb hw1 hz1
  refine Goes.adv hTT 400 rfl ?_
  refine Goes.alloc hTT rfl ?_
  intro qb w2 e2 hqb hw2 hz2
  refine Goes.adv hTT 400 rfl ?_
  refine Goes.loads hTT rfl (hw2.heap' hrb) rfl rfl ?_
  refine Goes.call rfl (ref06_worded ⟨some ⟨b1, off1, none⟩, rc, bs, st⟩ i w2 hlen) ?_
  rintro _ w3 ⟨rfl, hw3⟩
  refine Goes.adv hTT 400 rfl ?_
  rw [hw0]
  refine Goes.no hTT rfl rfl rfl ?_
  have hrb3 := hw3.heap' (hw2.heap' hrb)
  have hc3 := (hw1.trans hw2).trans hw3
  refine Goes.loop (α := Nat) (fun k => [(1, false, .int .i64 i), (2, false, .pointer (some ⟨rb, 0, none⟩)), (4, false, .pointer (some ⟨qb, 0, none⟩)), (8, false, .int .u64 (hiK (sub bs i 8) k)), (9, false, .int .i64 (7 - (k : Int)))])
    (fun k w' => w' = w3 ∧ k ≤ 8) (fun k => 8 - k) 0 ⟨rfl, rfl, rfl, rfl, rfl, trivial⟩ ⟨rfl, by omega⟩ ?_
  rintro k w4 ⟨hw, hk⟩ ih
  subst hw
  refine Goes.adv hTT 400 rfl ?_
  refine Goes.fork hTT rfl rfl rfl (fun hh => ?_) (fun hh => ?_)
  · have hlt : k < 8 := by have := of_decide_eq_true hh; omega
    have hb := hiK_lt hin k
    have hb' := hiK_lt hin (k + 1)
    have hp : (256 : Int) ^ (k + 1) ≤ 18446744073709551616 := by
      rw [show (256 : Int) ^ (k + 1) = ((256 ^ (k + 1) : Nat) : Int) from by simp]
      have := Nat.pow_le_pow_right (n := 256) (by decide) (show k + 1 ≤ 8 by omega)
      omega
    have hv : (sub bs i 8).getD (7 - k) 0 = bs.getD (i + (7 - k)) 0 := sub_getD (by omega)
    have hx : 0 ≤ bs.getD (i + (7 - k)) 0 ∧ bs.getD (i + (7 - k)) 0 < 256 := by rw [getD_at' (by omega)]; exact h.rng _ (List.getElem_mem _)
    have hexp : hiK (sub bs i 8) (k + 1) = hiK (sub bs i 8) k * 256 + bs.getD (i + (7 - k)) 0 := by rw [hiK, hv]
    refine Goes.arith hTT rfl (wrap_u64 (by omega)) rfl ?_
    refine Goes.loadb hTT rfl hrb3 rfl rfl ?_
    refine Goes.arith hTT rfl (w64 (by omega)) rfl ?_
    refine Goes.index hTT rfl (j := i + (7 - k)) (by omega) (by simp only; omega) (by first | rfl | omega | (simp; omega)) rfl ?_
    have hc4 := hc3.cell (hcell (i + (7 - k)) (show i + (7 - k) < bs.length by omega)) id
    refine Goes.load hTT rfl hc4 rfl ?_
    refine Goes.arith hTT rfl (wrap_u64 (by omega)) rfl ?_
    refine Goes.arith hTT rfl (wrap_u64 (by omega)) rfl ?_
    rw [← hexp]
    refine Goes.arith hTT rfl (w64 (by omega)) rfl ?_
    rw [show (7 : Int) - (k : Int) - 1 = 7 - ((k + 1 : Nat) : Int) from by omega]
    refine ih (k + 1) _ _ ⟨rfl, by omega⟩ (by omega) ?_
    exact ⟨rfl, rfl, rfl, rfl, rfl, trivial⟩
  · have hge : k = 8 := by have := of_decide_eq_false hh; omega
    subst hge
    refine Goes.loadb hTT rfl hrb3 rfl rfl ?_
    refine Goes.arith hTT rfl (w64 (by simp only; omega)) rfl ?_
    refine Goes.store hTT rfl hrb3 rfl rfl ?_
    intro w5 hrb5 hs5 hz5
    refine Goes.adv hTT 400 rfl ?_
    refine Goes.loads hTT rfl hrb5 rfl rfl ?_
    have hqb5 := hs5.heap (hw3.heap' hqb) (by omega)
    refine Goes.store hTT rfl hqb5 rfl rfl ?_
    intro w6 hqb6 hs6 hz6
    refine Goes.adv hTT 400 rfl ?_
    have hc6 : Chg None' w w6 := (hc3.since hs5 (fun x hx hxe => by omega)).since hs6 (fun x hx hxe => by omega)
    exact Goes.ret hTT rfl Try.func54 (ResOk.cell rfl rfl rfl hqb6 rfl (.tmp rfl (.tmp rfl .nil))) ⟨by rw [← hiK_leK]; rfl, hc6⟩
theorem ref06_Load_no (r : RA) (i : Int) (w : World) (hlen : r.bs.length ≤ 4194304) (hi : wordedV r.bs.length i ≠ 0) :
    Does Try.prog 54 #[.agg (raL r).toArray, .int .i64 i] w (Grow (.tuple #[.agg (raL r).toArray, .int .u64 0, .int .i64 (wordedV r.bs.length i)]) w) := by
  refine Does.enter Try.func54 rfl Try.ntmps54 rfl rfl ?_
  refine Goes.adv hTT 400 rfl ?_
  refine Goes.alloc hTT rfl ?_
  intro rb w1 e1 hrb hw1 hz1
  refine Goes.adv hTT 400 rfl ?_
  refine Goes.alloc hTT rfl ?_
  intro qb w2 e2 hqb hw2 hz2
  refine Goes.adv hTT 400 rfl ?_
  refine Goes.loads hTT rfl (hw2.heap' hrb) rfl rfl ?_
  refine Goes.call rfl (ref06_worded r i w2 hlen) ?_
  rintro _ w3 ⟨rfl, hw3⟩
  refine Goes.adv hTT 400 rfl ?_
  refine Goes.yes hTT rfl (by simpa using hi) rfl ?_
  refine Goes.loads hTT rfl (hw3.heap' (hw2.heap' hrb)) rfl rfl ?_
  refine Goes.store hTT rfl (hw3.heap' hqb) rfl rfl ?_
  intro w4 hqb4 hs4 hz4
  refine Goes.adv hTT 400 rfl ?_
  have hc4 : Chg None' w w4 := ((hw1.trans hw2).trans hw3).since hs4 (fun x hx hxe => by omega)
  exact Goes.ret hTT rfl Try.func54 (ResOk.cell rfl rfl rfl hqb4 rfl (.tmp rfl (.tmp rfl .nil))) ⟨rfl, hc4⟩
theorem quo_u64 {x y : Int} (hx : 0 ≤ x ∧ x < 18446744073709551616) (hy : 0 < y) : divV true .u64 x y = x / y := by
  unfold divV
  rw [if_pos rfl, Int.tdiv_eq_ediv_of_nonneg hx.1]
  have h1 : 0 ≤ x / y := Int.ediv_nonneg hx.1 (by omega)
  have h2 : x / y ≤ x := Int.ediv_le_self _ hx.1
  exact wrap_u64 (by omega)
theorem ref06_Store (r : RA) (i : Nat) (x : Int) (w : World) (h : RaOk w r) (hst : StOk r.steps) (hx : 0 ≤ x ∧ x < 18446744073709551616) (hi : i + 8 ≤ r.bs.length) (h8 : i % 8 = 0) :
    Does Try.prog 55 #[.agg (raL r).toArray, .int .i64 i, .int .u64 x] w (RaTo w (wrB r.bs i (leB x)) (r.steps + 1) 0) := by
  have hlen := h.len
  unfold StOk at hst
  have hw0 : wordedV r.bs.length i = 0 := by unfold wordedV; rw [thereB_iff.2 (by omega), if_neg (by simp), if_pos (by omega)]
  have hlB := leB_length x
  have hz8 : (zeros 8).length = 8 := rfl
  refine Does.enter Try.func55 rfl Try.ntmps55 rfl rfl ?_
  refine Goes.adv hTT 400 rfl ?_
  refine Goes.alloc hTT rfl ?_
  intro rb w1 e1 hrb hw1 hz1
  refine Goes.adv hTT 400 rfl ?_
  refine Goes.alloc hTT rfl ?_
  intro qb w2 e2 hqb hw2 hz2
  refine Goes.adv hTT 400 rfl ?_
  refine Goes.loads hTT rfl (hw2.heap' hrb) rfl rfl ?_
  refine Goes.call rfl (ref06_worded r i w2 hlen) ?_
  rintro _ w3 ⟨rfl, hw3⟩
  refine Goes.adv hTT 400 rfl ?_
  rw [hw0]
  refine Goes.no hTT rfl rfl rfl ?_
  refine Goes.make hTT (m := 8) (k := 8) rfl rfl rfl (Nat.le_refl _) (by decide) (by decide) ?_
  intro lb w4 e4 hlb hw4 hz4
  refine Goes.adv hTT 400 rfl ?_
  have hzz : (zeroRow (cellsL (Value.int .u8 0)) 8) = (zeros 8).map (Value.int .u8) := zeroRow_zeros _
  rw [hzz] at hlb
  refine Goes.loop (α := Nat) (fun k => [(1, false, .int .i64 i), (2, false, .int .u64 (x / 256 ^ k)), (3, false, .pointer (some ⟨rb, 0, none⟩)), (6, false, .pointer (some ⟨qb, 0, none⟩)), (9, false, .slice (some ⟨lb, 0, none⟩) 8 8), (10, false, .int .i64 k)])
    (fun k w' => w'.heap[lb]? = some (.cells ((partW (zeros 8) 0 (leB x) k).map (Value.int .u8)).toArray 5 (0, 0)) ∧ Chg None' w3 w' ∧ k ≤ 8) (fun k => 8 - k) 0 ⟨rfl, (by rw [show x / 256 ^ 0 = x from by simp]; rfl), rfl, rfl, rfl, rfl, trivial⟩ ⟨by rw [partW_zero]; exact hlb, hw4, by omega⟩ ?_
  rintro k w5 ⟨h5, hw5, hk⟩ ih
  refine Goes.adv hTT 400 rfl ?_
  refine Goes.fork hTT rfl rfl rfl (fun hh => ?_) (fun hh => ?_)
  · have hlt : k < 8 := by have := of_decide_eq_true hh; omega
    have hp : (0 : Int) < 256 ^ k := Int.pow_pos (by decide)
    have hq0 : 0 ≤ x / 256 ^ k := Int.ediv_nonneg hx.1 (by omega)
    have hq1 : x / 256 ^ k ≤ x := Int.ediv_le_self _ hx.1
    refine Goes.div hTT rfl (by omega) (rem_ (by omega)) rfl ?_
    refine Goes.arith hTT rfl wrap_u8 rfl ?_
    rw [show x / 256 ^ k % 256 % 256 = (leB x).getD k 0 from by rw [leB_getD hlt]; omega]
    refine Goes.index hTT rfl (j := k) (by omega) (by omega) (by first | rfl | omega | (simp; done) | (simp; omega)) rfl ?_
    have hpl : (partW (zeros 8) 0 (leB x) k).length = 8 := by rw [partW_length (by omega), hz8]
    refine Goes.store hTT rfl h5 (setV1 (by rw [hpl]; omega)) rfl ?_
    intro w6 h6 hs6 hz6
    refine Goes.adv hTT 400 rfl ?_
    rw [partW_step (by omega) (by omega)] at h6
    refine Goes.div hTT rfl (by omega) (quo_u64 (by omega) (by omega)) rfl ?_
    rw [show x / 256 ^ k / 256 = x / 256 ^ (k + 1) from by rw [Int.pow_succ, Int.ediv_ediv_of_nonneg (Int.le_of_lt hp)]]
    refine Goes.arith hTT rfl (w64 (by omega)) rfl ?_
    exact ih (k + 1) _ _ ⟨h6, hw5.since hs6 (fun x hx hxe => by omega), by omega⟩ (by omega) ⟨rfl, rfl, rfl, rfl, rfl, rfl, trivial⟩
  · have hge : k = 8 := by have := of_decide_eq_false hh; omega
    subst hge
    have hfull : partW (zeros 8) 0 (leB x) 8 = leB x := by
      unfold partW
      rw [show (leB x).take 8 = leB x from by rw [← hlB]; exact List.take_length]
      exact wrB_full (by rw [hz8, hlB])
    rw [hfull] at h5
    have hc5 : Chg None' w w5 := ((hw1.trans hw2).trans hw3).trans hw5
    have hrb5 := hw5.heap' (hw3.heap' (hw2.heap' hrb))
    have hqb5 := hw5.heap' (hw3.heap' hqb)
    refine Goes.loadb hTT rfl hrb5 rfl rfl ?_
    refine Goes.arith hTT rfl (w64 (by omega)) rfl ?_
    refine Goes.store hTT rfl hrb5 rfl rfl ?_
    intro w6 hrb6 hs6 hz6
    refine Goes.adv hTT 400 rfl ?_
    have hc6 : Chg None' w w6 := hc5.since hs6 (fun x hx hxe => by omega)
    have h6 := h.grow hc6
    have hw3s := hw3.size
    have hcall := ref06_lay { r with steps := r.steps + 1 } i (some ⟨lb, 0, none⟩) 8 (leB x) w6 ⟨h6.rd, h6.len, h6.lc, h6.rng⟩ (show 0 < r.bs.length by omega) (RdU.of (hs6.heap h5 (by omega)) rfl) (leB_in x) (show i + (leB x).length ≤ r.bs.length by omega)
    rw [hlB] at hcall
    refine Goes.loads hTT rfl hrb6 rfl rfl ?_
    refine Goes.call rfl (hcall) ?_
    rintro _ w7 ⟨r7, rfl, hb7, hs7, hR7, hw7, hn7⟩
    refine Goes.adv hTT 400 rfl ?_
    have hqb7 := hw7.heap' (hs6.heap hqb5 (by omega))
    refine Goes.store hTT rfl hqb7 rfl rfl ?_
    intro w8 hqb8 hs8 hz8
    refine Goes.adv hTT 400 rfl ?_
    have hc8 : Chg None' w w8 := (hc6.trans hw7).since hs8 (fun x hx hxe => by omega)
    have hR8 : RaOk w8 r7 := ⟨hR7.rd.keepU hqb7 (by simp [cellsL]) hs8, hR7.len, hR7.lc, hR7.rng⟩
    exact Goes.ret hTT rfl Try.func55 (ResOk.cell rfl rfl rfl hqb8 rfl (.tmp rfl .nil)) ⟨r7, rfl, hb7, hs7, hR8, hc8, hn7.back hc6.size⟩
theorem ref06_Store_no (r : RA) (i x : Int) (w : World) (hlen : r.bs.length ≤ 4194304) (hi : wordedV r.bs.length i ≠ 0) :
    Does Try.prog 55 #[.agg (raL r).toArray, .int .i64 i, .int .u64 x] w (Grow (.tuple #[.agg (raL r).toArray, .int .i64 (wordedV r.bs.length i)]) w) := by
  refine Does.enter Try.func55 rfl Try.ntmps55 rfl rfl ?_
  refine Goes.adv hTT 400 rfl ?_
  refine Goes.alloc hTT rfl ?_
  intro rb w1 e1 hrb hw1 hz1
  refine Goes.adv hTT 400 rfl ?_
  refine Goes.alloc hTT rfl ?_
  intro qb w2 e2 hqb hw2 hz2
  refine Goes.adv hTT 400 rfl ?_
  refine Goes.loads hTT rfl (hw2.heap' hrb) rfl rfl ?_
  refine Goes.call rfl (ref06_worded r i w2 hlen) ?_
  rintro _ w3 ⟨rfl, hw3⟩
  refine Goes.adv hTT 400 rfl ?_
  refine Goes.yes hTT rfl (by simpa using hi) rfl ?_
  refine Goes.loads hTT rfl (hw3.heap' (hw2.heap' hrb)) rfl rfl ?_
  refine Goes.store hTT rfl (hw3.heap' hqb) rfl rfl ?_
  intro w4 hqb4 hs4 hz4
  refine Goes.adv hTT 400 rfl ?_
  have hc4 : Chg None' w w4 := ((hw1.trans hw2).trans hw3).since hs4 (fun x hx hxe => by omega)
  exact Goes.ret hTT rfl Try.func55 (ResOk.cell rfl rfl rfl hqb4 rfl (.tmp rfl .nil)) ⟨rfl, hc4⟩
end Go.Proofs.Ytommemplakcaaaa
