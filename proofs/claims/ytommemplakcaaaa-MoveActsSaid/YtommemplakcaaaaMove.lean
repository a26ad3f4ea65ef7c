/-
  Layer 15: bytes that go elsewhere, bit by bit.
-/
import Derived.Test.YtommemplakcaaaaLaws6b
namespace Go.Proofs.Ytommemplakcaaaa
open Go.RowKit

/-- A move: where it lies, whence, whither, how many bytes, how many of them are gone. -/
structure Mv where
  mv : Nat
  f : Nat
  t : Nat
  size : Nat
def mvCells (A : Ar) (M : Mv) (gone : Nat) : List Value := [.func (.func 18) #[.pointer (some ⟨A.ab, 0, none⟩)] #[], .int .i64 M.f, .int .i64 M.t, .int .i64 M.size, .int .i64 gone]
structure MvOk (w : World) (A : Ar) (V : ArV) (M : Mv) (gone : Nat) : Prop where
  ar : ArOk w A V
  obj : w.heap[M.mv]? = some (.cells (mvCells A M gone).toArray 86 (0, 0))
  pos : 1 ≤ M.size
  gone : gone ≤ M.size
  f : M.f + M.size ≤ V.bs.length
  t : M.t + M.size ≤ V.bs.length
theorem MvOk.nfoot {w : World} {A : Ar} {V : ArV} {M : Mv} {g : Nat} (h : MvOk w A V M g) : ¬ foot A M.mv := by
  rintro (e | e)
  · exact blk_ne h.obj h.ar.dat (by decide) e
  · exact blk_ne h.obj (h.ar.met _ e).1 (by decide) rfl
theorem MvOk.grow {w w' : World} {A : Ar} {V : ArV} {M : Mv} {g : Nat} (h : MvOk w A V M g) (hc : Chg None' w w') : MvOk w' A V M g := ⟨h.ar.grow hc, hc.heap' h.obj, h.pos, h.gone, h.f, h.t⟩
/-- Blocks that a move lies in. -/
def mBlk (A : Ar) (M : Mv) : Nat → Prop := fun b => b = A.ab ∨ b = A.db ∨ b = A.mc ∨ A.mb = some b ∨ b = M.mv
theorem MvOk.lt {w : World} {A : Ar} {V : ArV} {M : Mv} {g : Nat} (h : MvOk w A V M g) : ∀ x, mBlk A M x → x < w.heap.size := fun x hx => by
  rcases hx with rfl | rfl | rfl | hx | rfl
  · exact lt_of_heap h.ar.obj
  · exact lt_of_heap h.ar.dat
  · exact lt_of_heap h.ar.cap
  · exact lt_of_heap (h.ar.met _ hx).1
  · exact lt_of_heap h.obj
theorem MvOk.far {w w' : World} {A : Ar} {V : ArV} {M : Mv} {g : Nat} {S : Nat → Prop} (h : MvOk w A V M g) (hc : Chg S w w') (hs : ∀ x, mBlk A M x → ¬ S x) : MvOk w' A V M g :=
  ⟨h.ar.chg hc (fun b hb => hs b (by rcases hb with h | h | h | h; exact .inl h; exact .inr (.inl h); exact .inr (.inr (.inl h)); exact .inr (.inr (.inr (.inl h))))), hc.heap h.obj (hs _ (.inr (.inr (.inr (.inr rfl))))), h.pos, h.gone, h.f, h.t⟩
theorem MvOk.laid {w w' : World} {A : Ar} {V V' : ArV} {M : Mv} {g : Nat} (h : MvOk w A V M g) (hA : ArOk w' A V') (hc : Chg (foot A) w w') (hl : V'.bs.length = V.bs.length) : MvOk w' A V' M g :=
  ⟨hA, hc.heap h.obj h.nfoot, h.pos, h.gone, by rw [hl]; exact h.f, by rw [hl]; exact h.t⟩
/-- The bytes behind some that were copied. -/
def cpB (bs : List Int) (t f n : Nat) : List Int := wrB bs t (sub bs f n)
theorem cpB_length {bs : List Int} {t f n : Nat} (h : f + n ≤ bs.length) (h' : t + n ≤ bs.length) : (cpB bs t f n).length = bs.length := wrB_length (by rw [sub_length h]; exact h')
def mFt (A : Ar) (M : Mv) : Nat → Prop := fun b => foot A b ∨ b = M.mv

theorem move_Left (A : Ar) (V : ArV) (M : Mv) (g : Nat) (w : World) (h : MvOk w A V M g) : Does Try.prog 25 #[.pointer (some ⟨M.mv, 0, none⟩)] w (Grow (.int .i64 (M.size - g : Nat)) w) := by
  have hl := h.ar.len
  have hg := h.gone
  have ht := h.t
  refine Does.enter Try.func25 rfl Try.ntmps25 rfl rfl ?_
  refine Goes.adv hTT 400 rfl ?_
  refine Goes.quiet mixed (by kernel_rfl) ?_
  refine Quiet.adv hTT rfl ?_
  refine Quiet.loadb hTT rfl h.obj rfl rfl ?_
  refine Quiet.loadb hTT rfl h.obj rfl rfl ?_
  refine Quiet.arith hTT rfl (w64 (by omega)) rfl ?_
  refine Quiet.nil ?_
  intro w1 hw1
  refine Goes.adv hTT 400 rfl ?_
  exact Goes.ret1 hTT rfl Try.func25 rfl rfl ⟨int_v (by omega), hw1⟩
theorem move_Left_nil (w : World) : Does Try.prog 25 #[.pointer none] w (Same (.int .i64 0) w) := by
  refine Does.enter Try.func25 rfl Try.ntmps25 rfl rfl ?_
  refine Goes.adv hTT 400 rfl ?_
  exact Goes.ret1 hTT rfl Try.func25 rfl rfl ⟨rfl, rfl⟩
theorem move_some (A : Ar) (V : ArV) (M : Mv) (g i n : Nat) (w : World) (h : MvOk w A V M g) (hi : i + n ≤ M.size) (hn : 0 < n) : Does Try.prog 45 #[.pointer (some ⟨M.mv, 0, none⟩), .int .i64 i, .int .i64 n] w
    (fun _ w' => MvOk w' A { V.charge A n with bs := cpB V.bs (M.t + i) (M.f + i) n } M g ∧ Chg (foot A) w w') := by
  have hl := h.ar.len
  have ht := h.t
  have hf := h.f
  have hnf := h.nfoot
  have e1 : ((M.t : Int) + i) = ((M.t + i : Nat) : Int) := by omega
  have e2 : ((M.f : Int) + i) = ((M.f + i : Nat) : Int) := by omega
  refine Does.enter Try.func45 rfl Try.ntmps45 rfl rfl ?_
  refine Goes.adv hTT 400 rfl ?_
  refine Goes.yes hTT rfl (decide_eq_true (by omega)) rfl ?_
  refine Goes.drawn (q := 18) (foot A) hTT mixed (by kernel_rfl) rfl ?_
  intro hB
  refine Drawn.loadb hTT hB rfl h.obj (by first | exact fun h => h | (intro h; omega) | assumption) rfl rfl ?_
  refine Drawn.loadb hTT hB rfl h.obj (by first | exact fun h => h | (intro h; omega) | assumption) rfl rfl ?_
  refine Drawn.arith hTT hB rfl (w64 (by omega)) rfl ?_
  refine Drawn.loadb hTT hB rfl h.obj (by first | exact fun h => h | (intro h; omega) | assumption) rfl rfl ?_
  refine Drawn.arith hTT hB rfl (w64 (by omega)) rfl ?_
  rw [e1, e2]
  refine Drawn.turn1 hB rfl ?_
  intro w1 hw1
  have h1 := h.grow hw1
  refine Turn.call rfl (arena_Copy A V (M.t + i) (M.f + i) n w1 h1.ar (by omega) (by omega)).fn (Post := fun v w2 => v = .int .i64 0 ∧ ArOk w2 A { V.charge A n with bs := cpB V.bs (M.t + i) (M.f + i) n } ∧ Chg (foot A) w1 w2)
    (fun h0 => (arena_Copy A V (M.t + i) (M.f + i) n w1 h1.ar (by omega) (by omega)).mono fun v w2 hp => ⟨h0.trans hp.2.2, hp⟩) ?_
  rintro _ w2 _ ⟨rfl, hA2, hs2⟩
  refine Drawn.nil hB ?_
  intro w3 hw3
  refine Goes.adv hTT 400 rfl ?_
  have hlen : (cpB V.bs (M.t + i) (M.f + i) n).length = V.bs.length := cpB_length (by omega) (by omega)
  exact Goes.ret0 hTT rfl Try.func45 rfl ⟨⟨hA2.grow hw3, hw3.heap' (hs2.heap h1.obj hnf), h.pos, h.gone, by simp only [hlen]; exact hf, by simp only [hlen]; exact ht⟩, (hw1.mono fun _ _ h => h.elim).trans (hs2.trans (hw3.mono fun _ _ h => h.elim))⟩
theorem move_some0 (M : Mv) (i n : Int) (w : World) (hn : n ≤ 0) : Does Try.prog 45 #[.pointer (some ⟨M.mv, 0, none⟩), .int .i64 i, .int .i64 n] w (fun _ w' => w = w') := by
  refine Does.enter Try.func45 rfl Try.ntmps45 rfl rfl ?_
  refine Goes.adv hTT 400 rfl ?_
  refine Goes.no hTT rfl (decide_eq_false (by omega)) rfl ?_
  exact Goes.ret0 hTT rfl Try.func45 rfl rfl
/-- How many a step lets go. -/
def stepK (n : Int) (left : Nat) : Nat := (min n left).toNat
def stepV (A : Ar) (V : ArV) (M : Mv) (g k : Nat) : ArV := if k = 0 then V else { V.charge A k with bs := cpB V.bs (M.t + g) (M.f + g) k }
theorem move_Step (A : Ar) (V : ArV) (M : Mv) (g : Nat) (n : Int) (w : World) (h : MvOk w A V M g) : Does Try.prog 24 #[.pointer (some ⟨M.mv, 0, none⟩), .int .i64 n] w
    (fun v w' => v = .int .i64 (stepK n (M.size - g)) ∧ MvOk w' A (stepV A V M g (stepK n (M.size - g))) M (g + stepK n (M.size - g)) ∧ Chg (mFt A M) w w') := by
  have hl := h.ar.len
  have hg := h.gone
  have ht := h.t
  obtain ⟨k, hk⟩ : ∃ k, k = stepK n (M.size - g) := ⟨_, rfl⟩
  rw [← hk]
  unfold stepK at hk
  have hkl : k ≤ M.size - g := by omega
  have hkv : (if (0 : Int) > (if ((M.size - g : Nat) : Int) < n then ((M.size - g : Nat) : Int) else n) then 0 else (if ((M.size - g : Nat) : Int) < n then ((M.size - g : Nat) : Int) else n)) = (k : Int) := by
    subst hk
    split <;> split <;> omega
  refine Does.enter Try.func24 rfl Try.ntmps24 rfl rfl ?_
  refine Goes.adv hTT 400 rfl ?_
  refine Goes.call rfl (move_Left A V M g w h) ?_
  rintro _ w1 ⟨rfl, hw1⟩
  refine Goes.adv hTT 400 rfl ?_
  rw [hkv]
  have h1 := h.grow hw1
  by_cases hk0 : k = 0
  · refine Goes.no hTT rfl (decide_eq_false (by omega)) rfl ?_
    subst hk0
    exact Goes.ret1 hTT rfl Try.func24 rfl rfl ⟨rfl, by unfold stepV; rw [if_pos rfl]; exact h1, hw1.mono fun _ _ h => h.elim⟩
  · refine Goes.yes hTT rfl (decide_eq_true (by omega)) rfl ?_
    refine Goes.loadb hTT rfl h1.obj rfl rfl ?_
    refine Goes.call rfl (move_some A V M g g k w1 h1 (by omega) (by omega)) ?_
    rintro _ w2 ⟨h2, hs2⟩
    refine Goes.adv hTT 400 rfl ?_
    refine Goes.loadb hTT rfl h2.obj rfl rfl ?_
    refine Goes.arith hTT rfl (w64 (by omega)) rfl ?_
    rw [show ((g : Int) + k) = ((g + k : Nat) : Int) from by omega]
    refine Goes.store hTT rfl h2.obj rfl rfl ?_
    intro w3 hb3 hs3 hz3
    refine Goes.adv hTT 400 rfl ?_
    have hA3 := h2.ar.chg hs3 (fun b hb e => by
      subst e
      rcases hb with e | e | e | e
      · exact blk_ne h2.obj h2.ar.obj (by decide) e
      · exact blk_ne h2.obj h2.ar.dat (by decide) e
      · exact blk_ne h2.obj h2.ar.cap (by decide) e
      · exact blk_ne h2.obj (h2.ar.met _ e).1 (by decide) rfl)
    have hc : Chg (mFt A M) w w3 := (hw1.mono fun _ _ h => h.elim).trans ((hs2.mono fun b _ hb => .inl hb).trans (hs3.mono fun b _ hb => .inr hb))
    have hv : stepV A V M g k = { V.charge A k with bs := cpB V.bs (M.t + g) (M.f + g) k } := by unfold stepV; rw [if_neg hk0]
    exact Goes.ret1 hTT rfl Try.func24 rfl rfl ⟨rfl, by rw [hv]; exact ⟨hA3, hb3, h.pos, by omega, h2.f, h2.t⟩, hc⟩
theorem move_Step_nil (n : Int) (w : World) : Does Try.prog 24 #[.pointer none, .int .i64 n] w (Same (.int .i64 0) w) := by
  have hkv : (if (0 : Int) > (if (0 : Int) < n then 0 else n) then 0 else (if (0 : Int) < n then 0 else n)) = 0 := by split <;> split <;> omega
  refine Does.enter Try.func24 rfl Try.ntmps24 rfl rfl ?_
  refine Goes.adv hTT 400 rfl ?_
  refine Goes.call rfl (move_Left_nil w) ?_
  rintro _ _ ⟨rfl, rfl⟩
  refine Goes.adv hTT 400 rfl ?_
  rw [hkv]
  refine Goes.no hTT rfl (decide_eq_false (by omega)) rfl ?_
  exact Goes.ret1 hTT rfl Try.func24 rfl rfl ⟨rfl, rfl⟩
/-- What was told to have been written: how many bytes go along. -/
def wroteK (i n g : Nat) : Nat := min (i + n) g - i
def wroteV (A : Ar) (V : ArV) (M : Mv) (g i n : Nat) : ArV := if wroteK i n g = 0 then V else { V.charge A (wroteK i n g) with bs := cpB V.bs (M.t + i) (M.f + i) (wroteK i n g) }
theorem move_Wrote (A : Ar) (V : ArV) (M : Mv) (g i n : Nat) (w : World) (h : MvOk w A V M g) (hi : i + n ≤ M.size) : Does Try.prog 26 #[.pointer (some ⟨M.mv, 0, none⟩), .int .i64 i, .int .i64 n] w
    (fun v w' => v = .int .i64 0 ∧ MvOk w' A (wroteV A V M g i n) M g ∧ Chg (foot A) w w') := by
  have hl := h.ar.len
  have hg := h.gone
  have ht := h.t
  refine Does.enter Try.func26 rfl Try.ntmps26 rfl rfl ?_
  refine Goes.adv hTT 400 rfl ?_
  refine Goes.no hTT rfl (decide_eq_false (by omega)) rfl ?_
  refine Goes.no hTT rfl (decide_eq_false (by omega)) rfl ?_
  refine Goes.loadb hTT rfl h.obj rfl rfl ?_
  refine Goes.no hTT rfl (decide_eq_false (by omega)) rfl ?_
  refine Goes.loadb hTT rfl h.obj rfl rfl ?_
  refine Goes.arith hTT rfl (w64 (by omega)) rfl ?_
  refine Goes.no hTT rfl (decide_eq_false (by omega)) rfl ?_
  refine Goes.arith hTT rfl (w64 (by omega)) rfl ?_
  refine Goes.loadb hTT rfl h.obj rfl rfl ?_
  refine Goes.arith hTT rfl (w64 (by split <;> omega)) rfl ?_
  by_cases hk : wroteK i n g = 0
  · refine Goes.call rfl (move_some0 M i _ w (by unfold wroteK at hk; split <;> omega)) ?_
    rintro _ w1 rfl
    refine Goes.adv hTT 400 rfl ?_
    have hv : wroteV A V M g i n = V := by unfold wroteV; rw [if_pos hk]
    exact Goes.ret1 hTT rfl Try.func26 rfl rfl ⟨rfl, by rw [hv]; exact h, Chg.refl _ _⟩
  · have e : (if (g : Int) < (i : Int) + n then (g : Int) else (i : Int) + n) - i = ((wroteK i n g : Nat) : Int) := by unfold wroteK at hk ⊢; split <;> omega
    rw [e]
    refine Goes.call rfl (move_some A V M g i (wroteK i n g) w h (by unfold wroteK; omega) (by omega)) ?_
    rintro _ w1 ⟨h1, hs1⟩
    refine Goes.adv hTT 400 rfl ?_
    have hv : wroteV A V M g i n = { V.charge A (wroteK i n g) with bs := cpB V.bs (M.t + i) (M.f + i) (wroteK i n g) } := by unfold wroteV; rw [if_neg hk]
    exact Goes.ret1 hTT rfl Try.func26 rfl rfl ⟨rfl, by rw [hv]; exact h1, hs1⟩
theorem move_Wrote_no (A : Ar) (V : ArV) (M : Mv) (g : Nat) (i n : Int) (w : World) (h : MvOk w A V M g) (hi : ¬ (0 ≤ i ∧ 0 ≤ n ∧ n ≤ M.size ∧ i ≤ M.size - n)) : Does Try.prog 26 #[.pointer (some ⟨M.mv, 0, none⟩), .int .i64 i, .int .i64 n] w (Same (.int .i64 8) w) := by
  have hl := h.ar.len
  have ht := h.t
  refine Does.enter Try.func26 rfl Try.ntmps26 rfl rfl ?_
  refine Goes.adv hTT 400 rfl ?_
  refine Goes.fork hTT rfl rfl rfl (fun h1 => ?_) (fun h1 => ?_)
  · exact Goes.ret1 hTT rfl Try.func26 rfl rfl ⟨rfl, rfl⟩
  have g1 := of_decide_eq_false h1
  refine Goes.fork hTT rfl rfl rfl (fun h2 => ?_) (fun h2 => ?_)
  · exact Goes.ret1 hTT rfl Try.func26 rfl rfl ⟨rfl, rfl⟩
  have g2 := of_decide_eq_false h2
  refine Goes.loadb hTT rfl h.obj rfl rfl ?_
  refine Goes.fork hTT rfl rfl rfl (fun h3 => ?_) (fun h3 => ?_)
  · exact Goes.ret1 hTT rfl Try.func26 rfl rfl ⟨rfl, rfl⟩
  have g3 := of_decide_eq_false h3
  refine Goes.loadb hTT rfl h.obj rfl rfl ?_
  refine Goes.arith hTT rfl (w64 (by omega)) rfl ?_
  refine Goes.yes hTT rfl (decide_eq_true (by omega)) rfl ?_
  exact Goes.ret1 hTT rfl Try.func26 rfl rfl ⟨rfl, rfl⟩
theorem move_Wrote_nil (i n : Int) (w : World) : Does Try.prog 26 #[.pointer none, .int .i64 i, .int .i64 n] w (Same (.int .i64 1) w) := by
  refine Does.enter Try.func26 rfl Try.ntmps26 rfl rfl ?_
  refine Goes.adv hTT 400 rfl ?_
  exact Goes.ret1 hTT rfl Try.func26 rfl rfl ⟨rfl, rfl⟩
/-- May a move be? -/
def mvMay (N : Nat) (f t size : Int) : Bool := decide (1 ≤ size) && (decide (0 ≤ f) && decide (size ≤ N) && decide (f ≤ N - size)) && (decide (0 ≤ t) && decide (size ≤ N) && decide (t ≤ N - size)) && (decide (f + size ≤ t) || decide (t + size ≤ f))
theorem mvMay_iff {N : Nat} {f t size : Int} : mvMay N f t size = true ↔ 1 ≤ size ∧ (0 ≤ f ∧ size ≤ N ∧ f ≤ N - size) ∧ (0 ≤ t ∧ t ≤ N - size) ∧ (f + size ≤ t ∨ t + size ≤ f) := by
  unfold mvMay
  simp only [Bool.and_eq_true, Bool.or_eq_true, decide_eq_true_eq]
  constructor
  · rintro ⟨⟨⟨h1, ⟨h2, h3⟩, h4⟩, ⟨h5, _⟩, h6⟩, h7⟩; exact ⟨h1, ⟨h2, h3, h4⟩, ⟨h5, h6⟩, h7⟩
  · rintro ⟨h1, ⟨h2, h3, h4⟩, ⟨h5, h6⟩, h7⟩; exact ⟨⟨⟨h1, ⟨h2, h3⟩, h4⟩, ⟨h5, h3⟩, h6⟩, h7⟩
def inB (N : Nat) (size at' : Int) : Bool := decide (0 ≤ at') && decide (size ≤ N) && decide (at' ≤ N - size)
theorem move_in (A : Ar) (V : ArV) (x size : Int) (sb pb : Nat) (w : World) (hA : ArOk w A V) (hs : w.heap[sb]? = some (.cells #[.int .i64 size] 3 (0, 0))) (hp : w.heap[pb]? = some (.cells #[.pointer (some ⟨A.ab, 0, none⟩)] 28 (0, 0))) (hsz : 1 ≤ size) :
    Does Try.prog 44 #[.int .i64 x, .pointer (some ⟨sb, 0, none⟩), .pointer (some ⟨pb, 0, none⟩)] w (Grow (.bool (inB V.bs.length size x)) w) := by
  have hl := hA.len
  refine Does.enter Try.func44 rfl Try.ntmps44 rfl rfl ?_
  refine Goes.adv hTT 400 rfl ?_
  refine Goes.quiet mixed (by kernel_rfl) ?_
  refine Quiet.adv hTT rfl ?_
  refine Quiet.fork hTT rfl rfl rfl (fun h1 => ?_) (fun h1 => ?_)
  · refine Quiet.loadb hTT rfl hs rfl rfl ?_
    refine Quiet.loadb hTT rfl hp rfl rfl ?_
    refine Quiet.call hTT rfl (fun w' hw' => (arena_Len A V w' (hA.grow hw')).grow) rfl ?_
    refine Quiet.fork hTT rfl rfl rfl (fun h2 => ?_) (fun h2 => ?_)
    · have g2 := of_decide_eq_true h2
      refine Quiet.loadb hTT rfl hp rfl rfl ?_
      refine Quiet.call hTT rfl (fun w' hw' => (arena_Len A V w' (hA.grow hw')).grow) rfl ?_
      refine Quiet.loadb hTT rfl hs rfl rfl ?_
      refine Quiet.arith hTT rfl (w64 (by omega)) rfl ?_
      refine Quiet.nil ?_
      intro w1 hw1
      refine Goes.adv hTT 400 rfl ?_
      exact Goes.ret1 hTT rfl Try.func44 rfl rfl ⟨bool_v (by unfold inB; rw [show decide (0 ≤ x) = true from h1, show decide (size ≤ (V.bs.length : Int)) = true from h2]; rfl), hw1⟩
    · refine Quiet.nil ?_
      intro w1 hw1
      refine Goes.adv hTT 400 rfl ?_
      exact Goes.ret1 hTT rfl Try.func44 rfl rfl ⟨bool_v (by unfold inB; rw [show decide (0 ≤ x) = true from h1, show decide (size ≤ (V.bs.length : Int)) = false from h2]; rfl), hw1⟩
  · refine Quiet.nil ?_
    intro w1 hw1
    refine Goes.adv hTT 400 rfl ?_
    exact Goes.ret1 hTT rfl Try.func44 rfl rfl ⟨bool_v (by unfold inB; rw [show decide (0 ≤ x) = false from h1]; rfl), hw1⟩
end Go.Proofs.Ytommemplakcaaaa
