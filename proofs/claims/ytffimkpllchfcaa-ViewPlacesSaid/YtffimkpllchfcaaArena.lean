/-
  Layer 6: the arena: how it lies, what its inner functions answer.
-/
import Derived.Test.YtffimkpllchfcaaMeter
import Derived.Test.YtffimkpllchfcaaRule7
namespace Go.Proofs.Ytffimkpllchfcaa
open Go.RowKit

/-- Where an arena lies: itself, its bytes, the variable that holds its meter, its meter. -/
structure Ar where
  ab : Nat
  db : Nat
  mc : Nat
  mb : Option Nat
structure ArV where
  bs : List Int
  total : Int
  lap : Int
abbrev usedV (A : Ar) : Value := .func (.func 31) #[] #[.pointer (some ⟨A.mc, 0, none⟩)]
structure ArOk (w : World) (A : Ar) (V : ArV) : Prop where
  obj : w.heap[A.ab]? = some (.cells #[.slice (some ⟨A.db, 0, none⟩) V.bs.length V.bs.length, usedV A] 72 (0, 0))
  dat : w.heap[A.db]? = some (.cells (V.bs.map (Value.int .u8)).toArray 5 (0, 0))
  cap : w.heap[A.mc]? = some (.cells #[ptr A.mb] 58 (0, 0))
  met : ∀ b, A.mb = some b → MeterAt w b V.total V.lap
  len : V.bs.length ≤ 4194304
  rng : ∀ x ∈ V.bs, 0 ≤ x ∧ x < 256
theorem blk_ne {w : World} {a b t t' : Nat} {c c' : Array Value} {f f' : Nat × Nat} (h : w.heap[a]? = some (.cells c t f)) (h' : w.heap[b]? = some (.cells c' t' f')) (ht : t ≠ t') : a ≠ b := by
  intro e; subst e; rw [h] at h'; cases h'; exact ht rfl
/-- The meter's block. -/
def mFoot (A : Ar) : Nat → Prop := fun b => A.mb = some b
/-- What an arena's operations write. -/
def foot (A : Ar) : Nat → Prop := fun b => b = A.db ∨ A.mb = some b
def ArV.charge (V : ArV) (A : Ar) (n : Int) : ArV := match A.mb with
  | none => V
  | some _ => { V with total := charged V.total n }
theorem ArV.charge_bs (V : ArV) (A : Ar) (n : Int) : (V.charge A n).bs = V.bs := by unfold ArV.charge; split <;> rfl
theorem ArV.charge_lap (V : ArV) (A : Ar) (n : Int) : (V.charge A n).lap = V.lap := by unfold ArV.charge; split <;> rfl
theorem ArOk.chg {w w' : World} {A : Ar} {V : ArV} {S : Nat → Prop} (h : ArOk w A V) (hc : Chg S w w') (hs : ∀ b, b = A.ab ∨ b = A.db ∨ b = A.mc ∨ A.mb = some b → ¬ S b) : ArOk w' A V :=
  ⟨hc.heap h.obj (hs _ (.inl rfl)), hc.heap h.dat (hs _ (.inr (.inl rfl))), hc.heap h.cap (hs _ (.inr (.inr (.inl rfl)))), fun b hb => ⟨hc.heap (h.met b hb).1 (hs _ (.inr (.inr (.inr hb)))), (h.met b hb).2⟩, h.len, h.rng⟩
theorem ArOk.grow {w w' : World} {A : Ar} {V : ArV} (h : ArOk w A V) (hc : Chg None' w w') : ArOk w' A V := h.chg hc fun _ _ h => h
theorem ArOk.metered {w w' : World} {A : Ar} {V : ArV} {b : Nat} {t : Int} (h : ArOk w A V) (hb : A.mb = some b) (hm : MeterAt w' b t V.lap) (hc : Chg (fun x => x = b) w w') : ArOk w' A { V with total := t } := by
  have h0 := (h.met b hb).1
  refine ⟨hc.heap h.obj (fun e => blk_ne h.obj h0 (by decide) e), hc.heap h.dat (fun e => blk_ne h.dat h0 (by decide) e), hc.heap h.cap (fun e => blk_ne h.cap h0 (by decide) e), fun b' hb' => ?_, h.len, h.rng⟩
  rw [hb] at hb'; cases hb'; exact hm
/-- Are the bytes there? -/
def thereB (N : Nat) (at' n : Int) : Bool := decide (0 ≤ at') && decide (0 ≤ n) && decide (n ≤ N) && decide (at' ≤ N - n)
theorem thereB_iff {N : Nat} {at' n : Int} : thereB N at' n = true ↔ 0 ≤ at' ∧ 0 ≤ n ∧ n ≤ N ∧ at' ≤ N - n := by unfold thereB; simp [and_assoc]
theorem thereB_no {N : Nat} {at' n : Int} (h : (0 ≤ at' ∧ 0 ≤ n ∧ n ≤ N ∧ at' ≤ N - n) → False) : thereB N at' n = false := by cases hh : thereB N at' n; rfl; exact (h (thereB_iff.1 hh)).elim
/-- The bytes, as a slice. -/
abbrev spanV (A : Ar) (N at' n : Nat) : Value := .slice (shiftA (some ⟨A.db, 0, none⟩) N at' 1) n (N - at')

theorem arena_span (A : Ar) (V : ArV) (i n : Nat) (w : World) (h : ArOk w A V) (ht : i + n ≤ V.bs.length) : Does Try.prog 66 #[.pointer (some ⟨A.ab, 0, none⟩), .int .i64 i, .int .i64 n] w (Same (.tuple #[spanV A V.bs.length i n, .int .i64 0]) w) := by
  have hl := h.len
  refine Does.enter Try.func66 rfl Try.ntmps66 rfl rfl ?_
  refine Goes.adv hTT 400 rfl ?_
  refine Goes.no hTT rfl (decide_eq_false (by omega)) rfl ?_
  refine Goes.no hTT rfl (decide_eq_false (by omega)) rfl ?_
  refine Goes.loadb hTT rfl h.obj rfl rfl ?_
  refine Goes.no hTT rfl (decide_eq_false (by omega)) rfl ?_
  refine Goes.loadb hTT rfl h.obj rfl rfl ?_
  refine Goes.arith hTT rfl (w64 (by omega)) rfl ?_
  refine Goes.no hTT rfl (decide_eq_false (by omega)) rfl ?_
  refine Goes.loadb hTT rfl h.obj rfl rfl ?_
  refine Goes.arith hTT rfl (w64 (by omega)) rfl ?_
  refine Goes.slice hTT rfl (l := i) (h := (i+n)) (by first | rfl | omega | simp [loV]) (by first | rfl | omega | simp [hiV]) (by omega) (by omega) rfl ?_
  exact Goes.ret2 hTT rfl Try.func66 rfl rfl rfl ⟨by rw [show i + n - i = n from by omega], rfl⟩
theorem arena_span_no (A : Ar) (V : ArV) (i n : Int) (w : World) (h : ArOk w A V) (ht : thereB V.bs.length i n = false) : Does Try.prog 66 #[.pointer (some ⟨A.ab, 0, none⟩), .int .i64 i, .int .i64 n] w (Same (.tuple #[.slice none 0 0, .int .i64 8]) w) := by
  have hl := h.len
  have hno : ¬ (0 ≤ i ∧ 0 ≤ n ∧ n ≤ V.bs.length ∧ i ≤ V.bs.length - n) := fun hh => by rw [thereB_iff.2 hh] at ht; cases ht
  refine Does.enter Try.func66 rfl Try.ntmps66 rfl rfl ?_
  refine Goes.adv hTT 400 rfl ?_
  refine Goes.fork hTT rfl rfl rfl (fun h1 => ?_) (fun h1 => ?_)
  · exact Goes.ret2 hTT rfl Try.func66 rfl rfl rfl ⟨rfl, rfl⟩
  have g1 := of_decide_eq_false h1
  refine Goes.fork hTT rfl rfl rfl (fun h2 => ?_) (fun h2 => ?_)
  · exact Goes.ret2 hTT rfl Try.func66 rfl rfl rfl ⟨rfl, rfl⟩
  have g2 := of_decide_eq_false h2
  refine Goes.loadb hTT rfl h.obj rfl rfl ?_
  refine Goes.fork hTT rfl rfl rfl (fun h3 => ?_) (fun h3 => ?_)
  · exact Goes.ret2 hTT rfl Try.func66 rfl rfl rfl ⟨rfl, rfl⟩
  have g3 := of_decide_eq_false h3
  refine Goes.loadb hTT rfl h.obj rfl rfl ?_
  refine Goes.arith hTT rfl (w64 (by omega)) rfl ?_
  refine Goes.yes hTT rfl (decide_eq_true (by omega)) rfl ?_
  exact Goes.ret2 hTT rfl Try.func66 rfl rfl rfl ⟨rfl, rfl⟩
theorem arena_span_nil (i n : Int) (w : World) : Does Try.prog 66 #[.pointer none, .int .i64 i, .int .i64 n] w (Same (.tuple #[.slice none 0 0, .int .i64 1]) w) := by
  refine Does.enter Try.func66 rfl Try.ntmps66 rfl rfl ?_
  refine Goes.adv hTT 400 rfl ?_
  exact Goes.ret2 hTT rfl Try.func66 rfl rfl rfl ⟨rfl, rfl⟩
theorem arena_used (A : Ar) (V : ArV) (n : Int) (w : World) (h : ArOk w A V) : Does Try.prog 31 #[.int .i64 n, .pointer (some ⟨A.mc, 0, none⟩)] w (fun _ w' => ArOk w' A (V.charge A n) ∧ Chg (mFoot A) w w') := by
  have hc := h.cap
  cases hb : A.mb with
  | none =>
    rw [hb] at hc
    refine Does.enter Try.func31 rfl Try.ntmps31 rfl rfl ?_
    refine Goes.adv hTT 400 rfl ?_
    refine Goes.loadb hTT rfl hc rfl rfl ?_
    refine Goes.call rfl (meter_Charge0 n w) ?_
    rintro _ w1 rfl
    refine Goes.adv hTT 400 rfl ?_
    have e : V.charge A n = V := by unfold ArV.charge; rw [hb]
    exact Goes.ret0 hTT rfl Try.func31 rfl ⟨by rw [e]; exact h, Chg.refl _ _⟩
  | some b =>
    rw [hb] at hc
    refine Does.enter Try.func31 rfl Try.ntmps31 rfl rfl ?_
    refine Goes.adv hTT 400 rfl ?_
    refine Goes.loadb hTT rfl hc rfl rfl ?_
    refine Goes.call rfl (meter_Charge b V.total V.lap n w (h.met b hb)) ?_
    rintro _ w1 ⟨hm, hs⟩
    refine Goes.adv hTT 400 rfl ?_
    have e : V.charge A n = { V with total := charged V.total n } := by unfold ArV.charge; rw [hb]
    exact Goes.ret0 hTT rfl Try.func31 rfl ⟨by rw [e]; exact h.metered hb hm hs, hs.mono (fun x _ hx => by unfold mFoot; rw [hx]; exact hb)⟩
theorem arena_charged (A : Ar) (V : ArV) (i n : Nat) (w : World) (h : ArOk w A V) (ht : i + n ≤ V.bs.length) : Does Try.prog 45 #[.pointer (some ⟨A.ab, 0, none⟩), .int .i64 i, .int .i64 n] w (fun v w' => v = .tuple #[spanV A V.bs.length i n, .int .i64 0] ∧ ArOk w' A (V.charge A n) ∧ Chg (mFoot A) w w') := by
  refine Does.enter Try.func45 rfl Try.ntmps45 rfl rfl ?_
  refine Goes.adv hTT 400 rfl ?_
  refine Goes.call rfl (arena_span A V i n w h ht) ?_
  rintro _ _ ⟨rfl, rfl⟩
  refine Goes.adv hTT 400 rfl ?_
  refine Goes.yes hTT rfl rfl rfl ?_
  refine Goes.loadb hTT rfl h.obj rfl rfl ?_
  refine Goes.call rfl (arena_used A V n w h) ?_
  rintro _ w1 ⟨h1, hs⟩
  refine Goes.adv hTT 400 rfl ?_
  exact Goes.ret2 hTT rfl Try.func45 rfl rfl rfl ⟨rfl, h1, hs⟩
theorem arena_charged_no (A : Ar) (V : ArV) (i n : Int) (w : World) (h : ArOk w A V) (ht : thereB V.bs.length i n = false) : Does Try.prog 45 #[.pointer (some ⟨A.ab, 0, none⟩), .int .i64 i, .int .i64 n] w (Same (.tuple #[.slice none 0 0, .int .i64 8]) w) := by
  refine Does.enter Try.func45 rfl Try.ntmps45 rfl rfl ?_
  refine Goes.adv hTT 400 rfl ?_
  refine Goes.call rfl (arena_span_no A V i n w h ht) ?_
  rintro _ _ ⟨rfl, rfl⟩
  refine Goes.adv hTT 400 rfl ?_
  refine Goes.no hTT rfl rfl rfl ?_
  exact Goes.ret2 hTT rfl Try.func45 rfl rfl rfl ⟨rfl, rfl⟩
theorem arena_charged_nil (i n : Int) (w : World) : Does Try.prog 45 #[.pointer none, .int .i64 i, .int .i64 n] w (Same (.tuple #[.slice none 0 0, .int .i64 1]) w) := by
  refine Does.enter Try.func45 rfl Try.ntmps45 rfl rfl ?_
  refine Goes.adv hTT 400 rfl ?_
  refine Goes.call rfl (arena_span_nil i n w) ?_
  rintro _ _ ⟨rfl, rfl⟩
  refine Goes.adv hTT 400 rfl ?_
  refine Goes.no hTT rfl rfl rfl ?_
  exact Goes.ret2 hTT rfl Try.func45 rfl rfl rfl ⟨rfl, rfl⟩
theorem arena_Len (A : Ar) (V : ArV) (w : World) (h : ArOk w A V) : Does Try.prog 27 #[.pointer (some ⟨A.ab, 0, none⟩)] w (Same (.int .i64 V.bs.length) w) := by
  refine Does.enter Try.func27 rfl Try.ntmps27 rfl rfl ?_
  refine Goes.adv hTT 400 rfl ?_
  refine Goes.loadb hTT rfl h.obj rfl rfl ?_
  exact Goes.ret1 hTT rfl Try.func27 rfl rfl ⟨rfl, rfl⟩
theorem arena_Len_nil (w : World) : Does Try.prog 27 #[.pointer none] w (Same (.int .i64 0) w) := by
  refine Does.enter Try.func27 rfl Try.ntmps27 rfl rfl ?_
  refine Goes.adv hTT 400 rfl ?_
  exact Goes.ret1 hTT rfl Try.func27 rfl rfl ⟨rfl, rfl⟩
/-- May an arena be of so many pages of so many bytes? -/
def arMay (p s : Int) : Bool := decide (1 ≤ p) && decide (p ≤ 1024) && decide (64 ≤ s) && decide (s ≤ 4096) && (s % 8 == 0)
theorem arMay_iff {p s : Int} : arMay p s = true ↔ 1 ≤ p ∧ p ≤ 1024 ∧ 64 ≤ s ∧ s ≤ 4096 ∧ s % 8 = 0 := by unfold arMay; simp [and_assoc]
def zeros (n : Nat) : List Int := List.replicate n 0
theorem zeroRow_zeros : ∀ n, zeroRow [Value.int .u8 0] n = (zeros n).map (Value.int .u8)
  | 0 => rfl
  | n + 1 => by rw [zeroRow, zeroRow_zeros n]; simp [zeros, List.replicate_succ]
theorem arena_New (mb : Option Nat) (total lap : Int) (p s : Int) (w : World) (hm : ∀ b, mb = some b → MeterAt w b total lap) (ht : arMay p s = true) : Does Try.prog 10 #[.int .i64 p, .int .i64 s, ptr mb] w
    (fun v w' => ∃ A : Ar, v = .tuple #[.pointer (some ⟨A.ab, 0, none⟩), .int .i64 0] ∧ A.mb = mb ∧ w.heap.size ≤ A.ab ∧ w.heap.size ≤ A.db ∧ w.heap.size ≤ A.mc ∧ ArOk w' A ⟨zeros (p * s).toNat, total, lap⟩ ∧ Chg None' w w') := by
  have g := arMay_iff.1 ht
  have h0 : 0 ≤ p * s := Int.mul_nonneg (by omega) (by omega)
  have h1 : p * s ≤ 1024 * 4096 := Int.mul_le_mul (by omega) (by omega) (by omega) (by omega)
  refine Does.enter Try.func10 rfl Try.ntmps10 rfl rfl ?_
  refine Goes.adv hTT 400 rfl ?_
  refine Goes.alloc hTT rfl ?_
  intro mc w1 e1 hmc hw1 hz1
  refine Goes.adv hTT 400 rfl ?_
  refine Goes.no hTT rfl (decide_eq_false (by omega)) rfl ?_
  refine Goes.no hTT rfl (decide_eq_false (by omega)) rfl ?_
  refine Goes.no hTT rfl (decide_eq_false (by omega)) rfl ?_
  refine Goes.no hTT rfl (decide_eq_false (by omega)) rfl ?_
  refine Goes.div hTT rfl (by omega) (rem_ (by omega)) rfl ?_
  refine Goes.no hTT rfl (by simp; omega) rfl ?_
  refine Goes.arith hTT rfl (w64 (by omega)) rfl ?_
  refine Goes.make hTT (m := (p * s).toNat) (k := (p * s).toNat) rfl (by omega) (by omega) (Nat.le_refl _) (by simp only; omega) (by omega) ?_
  intro db w2 e2 hdb hw2 hz2
  refine Goes.adv hTT 400 rfl ?_
  refine Goes.build hTT rfl rfl ?_
  refine Goes.alloc hTT rfl ?_
  intro ab w3 e3 hab hw3 hz3
  refine Goes.adv hTT 400 rfl ?_
  have hz : (zeroRow (cellsL (Value.int .u8 0)) (p * s).toNat) = (zeros (p * s).toNat).map (Value.int .u8) := zeroRow_zeros _
  rw [hz] at hdb
  have hlen : (zeros (p * s).toNat).length = (p * s).toNat := List.length_replicate
  rw [← hlen] at hab
  have hok : ArOk w3 ⟨ab, db, mc, mb⟩ ⟨zeros (p * s).toNat, total, lap⟩ :=
    ⟨hab, hw3.heap' hdb, hw3.heap' (hw2.heap' hmc), fun b hb => ⟨hw3.heap' (hw2.heap' (hw1.heap' (hm b hb).1)), (hm b hb).2⟩, by rw [hlen]; omega, fun x hx => by rw [List.eq_of_mem_replicate hx]; omega⟩
  rw [hlen] at hab
  exact Goes.ret2 hTT rfl Try.func10 rfl rfl rfl ⟨⟨ab, db, mc, mb⟩, rfl, rfl, by simp only; omega, by simp only; omega, by simp only; omega, hok, (hw1.trans hw2).trans hw3⟩
theorem arena_New_no (mb : Option Nat) (p s : Int) (w : World) (ht : arMay p s = false) : Does Try.prog 10 #[.int .i64 p, .int .i64 s, ptr mb] w (Grow (.tuple #[.pointer none, .int .i64 1]) w) := by
  have hno : ¬ (1 ≤ p ∧ p ≤ 1024 ∧ 64 ≤ s ∧ s ≤ 4096 ∧ s % 8 = 0) := fun hh => by rw [arMay_iff.2 hh] at ht; cases ht
  refine Does.enter Try.func10 rfl Try.ntmps10 rfl rfl ?_
  refine Goes.adv hTT 400 rfl ?_
  refine Goes.alloc hTT rfl ?_
  intro mc w1 e1 hmc hw1 hz1
  refine Goes.adv hTT 400 rfl ?_
  refine Goes.fork hTT rfl rfl rfl (fun h1 => ?_) (fun h1 => ?_)
  · exact Goes.ret2 hTT rfl Try.func10 rfl rfl rfl ⟨rfl, hw1⟩
  have g1 := of_decide_eq_false h1
  refine Goes.fork hTT rfl rfl rfl (fun h2 => ?_) (fun h2 => ?_)
  · exact Goes.ret2 hTT rfl Try.func10 rfl rfl rfl ⟨rfl, hw1⟩
  have g2 := of_decide_eq_false h2
  refine Goes.fork hTT rfl rfl rfl (fun h3 => ?_) (fun h3 => ?_)
  · exact Goes.ret2 hTT rfl Try.func10 rfl rfl rfl ⟨rfl, hw1⟩
  have g3 := of_decide_eq_false h3
  refine Goes.fork hTT rfl rfl rfl (fun h4 => ?_) (fun h4 => ?_)
  · exact Goes.ret2 hTT rfl Try.func10 rfl rfl rfl ⟨rfl, hw1⟩
  have g4 := of_decide_eq_false h4
  refine Goes.div hTT rfl (by omega) (rem_ (by omega)) rfl ?_
  refine Goes.yes hTT rfl (by simp; omega) rfl ?_
  exact Goes.ret2 hTT rfl Try.func10 rfl rfl rfl ⟨rfl, hw1⟩
end Go.Proofs.Ytffimkpllchfcaa
