/-
  Layer 6: what an arena's operations do.
-/
import Derived.Test.YtffimkpllchfcaaArena
namespace Go.Proofs.Ytffimkpllchfcaa
open Go.RowKit

theorem Rd.metered {w w' : World} {A : Ar} {V : ArV} {a : Option Addr} {l : List Int} (hr : Rd .u8 w a l) (h : ArOk w A V) (hc : Chg (mFoot A) w w') : Rd .u8 w' a l := fun i hi => by
  obtain ⟨b, off, e, hcell⟩ := hr i hi
  refine ⟨b, off, e, ?_⟩
  have hne : ¬ mFoot A b := fun hb => by
    have h0 := (h.met b hb).1
    rw [cell_of h0] at hcell
    match hj : off + i, hcell with
    | 0, hcell => simp at hcell
    | 1, hcell => simp at hcell
    | k + 2, hcell => simp at hcell
  have hlt : b < w.heap.size := World.block_lt_of_cell? w _ hcell
  rw [← hcell]
  simp only [World.cell?, hc.block b hlt hne]
def wrB (bs : List Int) (i : Nat) (l : List Int) : List Int := bs.take i ++ l ++ bs.drop (i + l.length)
theorem wrB_length {bs : List Int} {i : Nat} {l : List Int} (h : i + l.length ≤ bs.length) : (wrB bs i l).length = bs.length := by unfold wrB; simp; omega
theorem wrB_mem {bs : List Int} {i : Nat} {l : List Int} {x : Int} (h : x ∈ wrB bs i l) : x ∈ bs ∨ x ∈ l := by
  unfold wrB at h
  simp only [List.mem_append] at h
  rcases h with (h | h) | h
  · exact .inl (List.mem_of_mem_take h)
  · exact .inr h
  · exact .inl (List.mem_of_mem_drop h)
theorem wrB_nil {bs : List Int} {i : Nat} : wrB bs i [] = bs := by unfold wrB; simp
def InB (l : List Int) : Prop := ∀ x ∈ l, 0 ≤ x ∧ x < 256
theorem ArOk.laid {w w' : World} {A : Ar} {V : ArV} {bs : List Int} (h : ArOk w A V) (hd : w'.heap[A.db]? = some (.cells (bs.map (Value.int .u8)).toArray 5 (0, 0))) (hc : Chg (fun b => b = A.db) w w') (hl : bs.length = V.bs.length) (hr : InB bs) : ArOk w' A { V with bs := bs } :=
  ⟨by rw [hl]; exact hc.heap h.obj (fun e => blk_ne h.obj h.dat (by decide) e), hd, hc.heap h.cap (fun e => blk_ne h.cap h.dat (by decide) e), fun b hb => ⟨hc.heap (h.met b hb).1 (fun e => blk_ne (h.met b hb).1 h.dat (by decide) e), (h.met b hb).2⟩, by rw [hl]; exact h.len, hr⟩
theorem span_addr {A : Ar} {N i n : Nat} (h : i + n ≤ N) (hn : 0 < n) : shiftA (some ⟨A.db, 0, none⟩) N i 1 = some ⟨A.db, i, none⟩ := by
  unfold shiftA
  rw [if_neg (by omega), Option.map_some, add_off]
  simp
/-- The bytes, as a slice whose address is known if there are any. -/
theorem arena_charged' (A : Ar) (V : ArV) (i n : Nat) (w : World) (h : ArOk w A V) (ht : i + n ≤ V.bs.length) : Does Try.prog 45 #[.pointer (some ⟨A.ab, 0, none⟩), .int .i64 i, .int .i64 n] w
    (fun v w' => ∃ x, v = .tuple #[.slice x n (V.bs.length - i), .int .i64 0] ∧ (0 < n → x = some ⟨A.db, i, none⟩) ∧ x.isSome = true ∧ ArOk w' A (V.charge A n) ∧ Chg (mFoot A) w w') :=
  (arena_charged A V i n w h ht).mono fun _ _ ⟨h1, h2, h3⟩ => ⟨_, h1, fun hn => span_addr ht hn, by unfold shiftA; split <;> rfl, h2, h3⟩
theorem arena_Write (A : Ar) (V : ArV) (i : Nat) (a : Option Addr) (cap : Nat) (l : List Int) (w : World) (h : ArOk w A V) (hr : Rd .u8 w a l) (hb : InB l) (ht : i + l.length ≤ V.bs.length) :
    Does Try.prog 39 #[.pointer (some ⟨A.ab, 0, none⟩), .int .i64 i, .slice a l.length cap] w (fun v w' => v = .int .i64 0 ∧ ArOk w' A { V.charge A l.length with bs := wrB V.bs i l } ∧ Chg (foot A) w w') := by
  refine Does.enter Try.func39 rfl Try.ntmps39 rfl rfl ?_
  refine Goes.adv hTT 400 rfl ?_
  refine Goes.call rfl (arena_charged' A V i l.length w h ht) ?_
  rintro _ w1 ⟨x, rfl, hx, _, h1, hs⟩
  refine Goes.adv hTT 400 rfl ?_
  have hsf : Chg (foot A) w w1 := hs.mono fun b _ hb => .inr hb
  have e1 := V.charge_bs A l.length
  by_cases hl : l.length = 0
  · refine Goes.copy0 hTT rfl (by simp [hl]) rfl ?_
    have hnil : l = [] := List.eq_nil_of_length_eq_zero hl
    subst hnil
    exact Goes.ret1 hTT rfl Try.func39 rfl rfl ⟨rfl, by rw [wrB_nil, ← V.charge_bs A 0]; exact h1, hsf⟩
  · have hxe := hx (by omega)
    subst hxe
    have hr1 := hr.metered h hs
    have ha : ∃ aa, a = some aa := by obtain ⟨b, off, e, _⟩ := hr 0 (by omega); exact ⟨_, e⟩
    obtain ⟨aa, rfl⟩ := ha
    have hd1 := h1.dat
    rw [e1] at hd1
    refine Goes.copy hTT rfl hd1 (cs := l.map (Value.int .u8)) (by simp) hr1.cells (by simp; omega) plain_ints ?_
    intro w2 hd2 hs2 hz2
    refine Goes.adv hTT 400 rfl ?_
    have hmap : (V.bs.map (Value.int .u8)).take i ++ l.map (Value.int .u8) ++ (V.bs.map (Value.int .u8)).drop (i + (l.map (Value.int .u8)).length) = (wrB V.bs i l).map (Value.int .u8) := by
      unfold wrB; simp [List.map_take, List.map_drop]
    rw [hmap] at hd2
    have h2 := h1.laid hd2 hs2 (by rw [wrB_length ht, e1]) (fun x hx => (wrB_mem hx).elim (h.rng x) (hb x))
    exact Goes.ret1 hTT rfl Try.func39 rfl rfl ⟨rfl, h2, hsf.trans (hs2.mono fun b _ hb => .inl hb)⟩
theorem arena_Write_no (A : Ar) (V : ArV) (i : Int) (a : Option Addr) (cap n : Nat) (w : World) (h : ArOk w A V) (ht : thereB V.bs.length i n = false) :
    Does Try.prog 39 #[.pointer (some ⟨A.ab, 0, none⟩), .int .i64 i, .slice a n cap] w (Same (.int .i64 8) w) := by
  refine Does.enter Try.func39 rfl Try.ntmps39 rfl rfl ?_
  refine Goes.adv hTT 400 rfl ?_
  refine Goes.call rfl (arena_charged_no A V i n w h ht) ?_
  rintro _ _ ⟨rfl, rfl⟩
  refine Goes.adv hTT 400 rfl ?_
  refine Goes.copy0 hTT rfl (by simp) rfl ?_
  exact Goes.ret1 hTT rfl Try.func39 rfl rfl ⟨rfl, rfl⟩
theorem arena_Write_nil (i : Int) (a : Option Addr) (cap n : Nat) (w : World) : Does Try.prog 39 #[.pointer none, .int .i64 i, .slice a n cap] w (Same (.int .i64 1) w) := by
  refine Does.enter Try.func39 rfl Try.ntmps39 rfl rfl ?_
  refine Goes.adv hTT 400 rfl ?_
  refine Goes.call rfl (arena_charged_nil i n w) ?_
  rintro _ _ ⟨rfl, rfl⟩
  refine Goes.adv hTT 400 rfl ?_
  refine Goes.copy0 hTT rfl (by simp) rfl ?_
  exact Goes.ret1 hTT rfl Try.func39 rfl rfl ⟨rfl, rfl⟩
/-- A slice of bytes of one's own. -/
def OwnB (base : Nat) (w : World) (v : Value) (l : List Int) : Prop := ∃ g cap cur, v = .slice (some ⟨g, 0, none⟩) l.length cap ∧ base ≤ g ∧ w.heap[g]? = some (.cells cur 5 (0, 0)) ∧ l.length ≤ cap ∧ cur.toList.take l.length = l.map (Value.int .u8)
theorem slices_Clone (aa : Addr) (cap : Nat) (l : List Int) (w : World) (hr : Rd .u8 w (some aa) l) (hl : l.length ≤ 4194304) : Does Try.prog 46 #[.slice (some aa) l.length cap] w (fun v w' => OwnB w.heap.size w' v l ∧ Chg None' w w') := by
  have hml : maxLen = 9223372036854775807 := rfl
  refine Does.enter Try.func46 rfl Try.ntmps46 rfl rfl ?_
  refine Goes.adv hTT 400 rfl ?_
  refine Goes.no hTT rfl rfl rfl ?_
  refine Goes.buildSlice hTT rfl ?_
  intro b w1 e1 hb hw1 hz1
  refine Goes.adv hTT 400 rfl ?_
  have ho : Own w.heap.size 5 1 w1 (.slice (some ⟨b, 0, none⟩) 0 0) 0 [] := Own.empty (by omega) hb
  refine Goes.append (base := w.heap.size) (xs := []) (news := l.map (Value.int .u8)) hTT rfl ho hw1.size (by simp) (hr.chg hw1).cells plain_ints (by simp only; omega) ?_
  intro v2 w2 ho2 hs2 hv2
  refine Goes.adv hTT 400 rfl ?_
  have hc2 := ho.since hw1 (Nat.le_refl _) hs2
  rcases ho2.2 with ⟨h1, _⟩ | ⟨g, cap', cur, rfl, h2, h3, h4, _, _, h6⟩
  · exact absurd (hv2.1.1 h1).1 (by simp)
  · exact Goes.ret1 hTT rfl Try.func46 rfl rfl ⟨⟨g, cap', cur, by simp, h2, h3, by omega, by simpa using h6⟩, hc2⟩
theorem slices_Clone_nil (w : World) : Does Try.prog 46 #[.slice none 0 0] w (Same (.slice none 0 0) w) := by
  refine Does.enter Try.func46 rfl Try.ntmps46 rfl rfl ?_
  refine Goes.adv hTT 400 rfl ?_
  refine Goes.yes hTT rfl rfl rfl ?_
  exact Goes.ret1 hTT rfl Try.func46 rfl rfl ⟨rfl, rfl⟩
/-- Some bytes of a list. -/
def sub (bs : List Int) (i n : Nat) : List Int := (bs.drop i).take n
theorem sub_length {bs : List Int} {i n : Nat} (h : i + n ≤ bs.length) : (sub bs i n).length = n := by unfold sub; simp; omega
theorem ArOk.sub {w : World} {A : Ar} {V : ArV} {x : Option Addr} {i n : Nat} (h : ArOk w A V) (hx : 0 < n → x = some ⟨A.db, i, none⟩) (ht : i + n ≤ V.bs.length) : Rd .u8 w x (sub V.bs i n) := fun j hj => by
  rw [sub_length ht] at hj
  refine ⟨A.db, i, hx (by omega), ?_⟩
  rw [cell_of h.dat]
  have : (Go.Proofs.Ytffimkpllchfcaa.sub V.bs i n).getD j 0 = V.bs[i + j]'(by omega) := by unfold Go.Proofs.Ytffimkpllchfcaa.sub; simp [List.getD, hj, show i + j < V.bs.length from by omega]
  rw [this]
  simp [show i + j < V.bs.length from by omega]
theorem arena_Read (A : Ar) (V : ArV) (i n : Nat) (w : World) (h : ArOk w A V) (ht : i + n ≤ V.bs.length) :
    Does Try.prog 26 #[.pointer (some ⟨A.ab, 0, none⟩), .int .i64 i, .int .i64 n] w (fun v w' => ∃ v', v = .tuple #[v', .int .i64 0] ∧ OwnB w.heap.size w' v' (sub V.bs i n) ∧ ArOk w' A (V.charge A n) ∧ Chg (mFoot A) w w') := by
  have hl := h.len
  refine Does.enter Try.func26 rfl Try.ntmps26 rfl rfl ?_
  refine Goes.adv hTT 400 rfl ?_
  refine Goes.call rfl (arena_charged' A V i n w h ht) ?_
  rintro _ w1 ⟨x, rfl, hx, hs, h1, hs1⟩
  refine Goes.adv hTT 400 rfl ?_
  obtain ⟨aa, rfl⟩ := Option.isSome_iff_exists.1 hs
  have e1 := V.charge_bs A n
  have hr := h1.sub (i := i) (n := n) hx (by rw [e1]; exact ht)
  rw [e1] at hr
  have hcl := slices_Clone aa (V.bs.length - i) (sub V.bs i n) w1 hr (by rw [sub_length ht]; omega)
  rw [sub_length ht] at hcl
  refine Goes.call rfl (hcl) ?_
  rintro v2 w2 ⟨ho, hw2⟩
  refine Goes.adv hTT 400 rfl ?_
  obtain ⟨g, cap, cur, hv, hg, hrest⟩ := ho
  exact Goes.ret2 hTT rfl Try.func26 rfl rfl rfl ⟨v2, rfl, ⟨g, cap, cur, hv, by have := hs1.size; omega, hrest⟩, h1.grow hw2, hs1.trans (hw2.mono fun _ _ h => h.elim)⟩
theorem arena_Read_no (A : Ar) (V : ArV) (i n : Int) (w : World) (h : ArOk w A V) (ht : thereB V.bs.length i n = false) :
    Does Try.prog 26 #[.pointer (some ⟨A.ab, 0, none⟩), .int .i64 i, .int .i64 n] w (Same (.tuple #[.slice none 0 0, .int .i64 8]) w) := by
  refine Does.enter Try.func26 rfl Try.ntmps26 rfl rfl ?_
  refine Goes.adv hTT 400 rfl ?_
  refine Goes.call rfl (arena_charged_no A V i n w h ht) ?_
  rintro _ _ ⟨rfl, rfl⟩
  refine Goes.adv hTT 400 rfl ?_
  refine Goes.call rfl (slices_Clone_nil w) ?_
  rintro _ _ ⟨rfl, rfl⟩
  refine Goes.adv hTT 400 rfl ?_
  exact Goes.ret2 hTT rfl Try.func26 rfl rfl rfl ⟨rfl, rfl⟩
theorem arena_Read_nil (i n : Int) (w : World) : Does Try.prog 26 #[.pointer none, .int .i64 i, .int .i64 n] w (Same (.tuple #[.slice none 0 0, .int .i64 1]) w) := by
  refine Does.enter Try.func26 rfl Try.ntmps26 rfl rfl ?_
  refine Goes.adv hTT 400 rfl ?_
  refine Goes.call rfl (arena_charged_nil i n w) ?_
  rintro _ _ ⟨rfl, rfl⟩
  refine Goes.adv hTT 400 rfl ?_
  refine Goes.call rfl (slices_Clone_nil w) ?_
  rintro _ _ ⟨rfl, rfl⟩
  refine Goes.adv hTT 400 rfl ?_
  exact Goes.ret2 hTT rfl Try.func26 rfl rfl rfl ⟨rfl, rfl⟩
end Go.Proofs.Ytffimkpllchfcaa
