/-
  Texts put together: Open, OpenRows, Laws13b, Laws13c, Laws13d, Tied.
-/
import Derived.Test.YtdmedllaackbaaaDoorPt2
import Derived.Test.YtdmedllaackbaaaDoorRows
import Derived.Test.YtdmedllaackbaaaDoorBase
import Derived.OpenShut
import Derived.ShutString
import Derived.ChangeOld
import Derived.Deep.Slices
import Derived.Test.YtdmedllaackbaaaDoorTie
import Derived.Test.YtdmedllaackbaaaDoorCards
import Derived.ProofKit
import Derived.LaidMore
import Derived.Lay
import Derived.SevenTiedAt
import Derived.Stop.Joined
set_option linter.unusedVariables false
/-
  What every claim of this seat needs: no switch of its own, and what the text lays.
-/
namespace Go.Proofs.YtdmedllaackbaaaDoor
open Go.RowKit

theorem own : ownKnob Tryd.prog.godebug = none := by kernel_rfl
theorem laidOut : laidOutB Tryd.prog = true := by kernel_rfl
end Go.Proofs.YtdmedllaackbaaaDoor
/-
  Arguments that came in: bounds of numbers, slices of elements.
-/
namespace Go.Proofs.YtdmedllaackbaaaDoor
open Go.ChangeShapes Go.WideShapes Go.ChangeAt Go.RowKit

theorem inU8_of_wf {n : Int} (h : (Lit.int .u8 n).wf = true) : 0 ≤ n ∧ n < 256 := by
  have h' : 0 ≤ n ∧ n ≤ 255 := by simp only [Lit.wf, Bool.and_eq_true, decide_eq_true_eq] at h; exact h
  omega
theorem inU16_of_wf {n : Int} (h : (Lit.int .u16 n).wf = true) : 0 ≤ n ∧ n < 65536 := by
  have h' : 0 ≤ n ∧ n ≤ 65535 := by simp only [Lit.wf, Bool.and_eq_true, decide_eq_true_eq] at h; exact h
  omega
theorem inU32_of_wf {n : Int} (h : (Lit.int .u32 n).wf = true) : 0 ≤ n ∧ n < 4294967296 := by
  have h' : 0 ≤ n ∧ n ≤ 4294967295 := by simp only [Lit.wf, Bool.and_eq_true, decide_eq_true_eq] at h; exact h
  omega
theorem inI64_of_wf {n : Int} (h : (Lit.int .i64 n).wf = true) : -9223372036854775808 ≤ n ∧ n ≤ 9223372036854775807 := by
  simp only [Lit.wf, Bool.and_eq_true, decide_eq_true_eq] at h
  exact h
section
variable {H : Type} {enc : TypeId × Value → H} {w : World} {base b0 : Nat} {r : Go.Reach} {spare : Nat → Bool} {held : Bool} {P : Program}
theorem spot_none {w : World} {b off : Nat} {q : Option _} {v : Value} (h : w.cell? ⟨b, off, q⟩ = some v) : q = none := by
  cases q with
  | none => rfl
  | some q =>
    exfalso
    simp only [World.cell?] at h
    split at h <;> simp at h
/-- A slice of elements that came in. -/
theorem open_rows {α : Type} {cells : α → List Value} {Ok : α → Prop} {t e sz fuel : Nat} {cs : List Value} {x : DataW H × List MemPlace} (ht : P.underlying t = some (.slice e)) (hsz : P.cellsOf e = sz) (h0 : 0 < sz)
    (hopen : ∀ n cs y, DataW.trod enc P w base spare held n e cs = some y → ∃ v, cs = cells v ∧ Ok v) (h : DataW.trod enc P w base spare held fuel t cs = some x) :
    ∃ a cap xs, cs = [.slice a xs.length cap] ∧ Rows cells sz w a xs ∧ (∀ x ∈ xs, Ok x) ∧ xs.length ≤ cap ∧ cap ≤ maxLen := by
  rcases Go.Deep.open_slice ht h with ⟨hcs, _⟩ | ⟨a, len, cap, m, n, D, Pl, hcs, _, hl, hm, hmm, _, hi⟩
  · exact ⟨none, 0, [], hcs, (fun i x hx => by simp at hx), (fun x hx => by cases hx), Nat.le_refl _, by decide⟩
  · have hle : len ≤ m := by rw [hmm]; split <;> omega
    have hv : ∀ i : Fin len, ∃ v, Ok v ∧ w.cells? base (a.add (i * sz)) sz = some (cells v) := fun i => by
      obtain ⟨cs', h1, h2⟩ := hi i (by omega)
      obtain ⟨v, rfl, hok⟩ := hopen n cs' _ h2
      rw [hsz] at h1
      exact ⟨v, hok, h1⟩
    let f : Fin len → α := fun i => Classical.choose (hv i)
    have hf : ∀ i, Ok (f i) ∧ w.cells? base (a.add (i * sz)) sz = some (cells (f i)) := fun i => Classical.choose_spec (hv i)
    have hlen : (List.ofFn f).length = len := List.length_ofFn
    refine ⟨some a, cap, List.ofFn f, by rw [hlen]; exact hcs, fun i x hx => ?_, fun x hx => ?_, by rw [hlen]; exact hl, hm⟩
    · rw [List.getElem?_ofFn] at hx
      split at hx
      · rename_i hil
        cases hx
        obtain ⟨_, hcl, hat⟩ := World.cells?_some (hf ⟨i, hil⟩).2
        have h00 := hi 0 (by omega)
        obtain ⟨cs0, h1, _⟩ := h00
        obtain ⟨_, hcl0, hat0⟩ := World.cells?_some h1
        have hc0 := hat0 0 (by omega)
        obtain ⟨b, off, q⟩ := a
        have hq : q = none := by
          rw [List.getElem?_eq_getElem (by omega)] at hc0
          simp only [Nat.zero_mul, Addr.add, if_true] at hc0
          exact spot_none hc0
        subst hq
        refine ⟨b, off, rfl, fun j v hv => ?_⟩
        have hj : j < sz := by
          have := (List.getElem?_eq_some_iff.1 hv).1
          omega
        have := hat j hj
        rw [hv, add_off, add_off] at this
        exact this
      · cases hx
    · rw [List.mem_ofFn] at hx
      obtain ⟨i, rfl⟩ := hx
      exact (hf i).1
end
end Go.Proofs.YtdmedllaackbaaaDoor
/-
  Layer 13: an act on a shelf; how many pages there are.
-/
namespace Go.Proofs.YtdmedllaackbaaaDoor
open Go.RowKit

structure Act13 where
  kind : Int
  page : Int
  at' : Int
  who : Int
def act13L (u : Act13) : List Value := [.int .u8 u.kind, .int .i64 u.page, .int .i64 u.at', .int .i64 u.who]
def do13X (x : Sm) (pl : PlM) (u : Act13) : Sm := if u.kind % 3 = 0 then shTake x pl u.who else if u.kind % 3 = 1 then shGive x u.page u.at' else shOwn x u.page u.at' u.who
def do13P (x : Sm) (pl : PlM) (u : Act13) : PlM := if u.kind % 3 = 0 then shTakeP x pl u.who else if u.kind % 3 = 1 then shGiveP x pl u.page u.at' else pl
def do13N (x : Sm) (pl : PlM) (u : Act13) : Int := if u.kind % 3 = 0 then shTakeN x pl u.who else 0
def do13A (x : Sm) (pl : PlM) (u : Act13) : Int := if u.kind % 3 = 0 then shTakeA x pl u.who else 0
def do13E (x : Sm) (pl : PlM) (u : Act13) : Int := if u.kind % 3 = 0 then shTakeE x pl u.who else if u.kind % 3 = 1 then shGiveE x u.page u.at' else shOwnE x u.page u.at' u.who
theorem ShSt.mono {F F' : Nat → Prop} {w : World} {S : Sh} {x : Sm} {pl : PlM} (h : ShSt F w S x pl) (hF : ∀ z, F z → F' z) : ShSt F' w S x pl := by
  obtain ⟨G, a, b⟩ := h
  exact ⟨G, a, fun z hz => hF z (b z hz)⟩
theorem law13_do {F : Nat → Prop} {S : Sh} {x : Sm} {pl : PlM} (u : Act13) (w : World) (h : ShSt F w S x pl) (hk : 0 ≤ u.kind ∧ u.kind < 256) : Does Tryd.prog 16 #[sfV S, .agg (act13L u).toArray] w
    (fun v w' => v = .tuple #[.int .i64 (do13N x pl u), .int .i64 (do13A x pl u), .int .i64 (do13E x pl u)] ∧ ShSt (growF F w w') w' S (do13X x pl u) (do13P x pl u) ∧ Chg F w w') := by
  unfold do13N do13A do13E do13X do13P
  refine Does.enter Tryd.func16 rfl Tryd.ntmps16 rfl rfl ?_
  refine Goes.adv hTT 400 rfl ?_
  refine Goes.alloc hTT rfl ?_
  intro ub w1 e1 hub hw1 hz1
  refine Goes.adv hTT 400 rfl ?_
  replace hub : w1.heap[ub]? = some (.cells (act13L u).toArray 41 (0, 0)) := hub
  have h1 := h.grow hw1
  have hc1 : Chg F w w1 := hw1.mono fun _ _ h => h.elim
  have hs1 := hw1.size
  refine Goes.loadb hTT rfl hub rfl rfl ?_
  refine Goes.div hTT rfl (by omega) (rem_ (by omega)) rfl ?_
  refine Goes.fork hTT rfl rfl rfl (fun h0 => ?_) (fun h0 => ?_)
  · have g0 : u.kind % 3 = 0 := by simpa using h0
    simp only [if_pos g0]
    refine Goes.loadb hTT rfl hub rfl rfl ?_
    refine Goes.call rfl (st_Take u.who h1) ?_
    rintro _ w2 ⟨rfl, h2, hc2⟩
    refine Goes.adv hTT 400 rfl ?_
    exact Goes.ret hTT rfl Tryd.func16 (ResOk.tmp rfl (.tmp rfl (.tmp rfl .nil))) ⟨rfl, h2.mono (fun z hz => hz.imp id (fun h => ⟨by omega, h.2⟩)), hc1.trans hc2⟩
  have g0 : ¬ u.kind % 3 = 0 := by simpa using h0
  simp only [if_neg g0]
  refine Goes.fork hTT rfl rfl rfl (fun h2 => ?_) (fun h2 => ?_)
  · have g1 : u.kind % 3 = 1 := by simpa using h2
    simp only [if_pos g1]
    refine Goes.loadb hTT rfl hub rfl rfl ?_
    refine Goes.loadb hTT rfl hub rfl rfl ?_
    refine Goes.call rfl (st_Give u.page u.at' h1) ?_
    rintro _ w2 ⟨rfl, h2, hc2⟩
    refine Goes.adv hTT 400 rfl ?_
    exact Goes.ret hTT rfl Tryd.func16 (ResOk.tmp rfl (.tmp rfl (.tmp rfl .nil))) ⟨rfl, h2.mono (fun z hz => .inl hz), hc1.trans hc2⟩
  · have g1 : ¬ u.kind % 3 = 1 := by simpa using h2
    simp only [if_neg g1]
    refine Goes.loadb hTT rfl hub rfl rfl ?_
    refine Goes.loadb hTT rfl hub rfl rfl ?_
    refine Goes.loadb hTT rfl hub rfl rfl ?_
    refine Goes.call rfl (st_Own u.page u.at' u.who h1) ?_
    rintro _ w2 ⟨rfl, h2, hc2⟩
    refine Goes.adv hTT 400 rfl ?_
    exact Goes.ret hTT rfl Tryd.func16 (ResOk.tmp rfl (.tmp rfl (.tmp rfl .nil))) ⟨rfl, h2.mono (fun z hz => .inl hz), hc1.trans hc2⟩
/-! ### How many -/
theorem ShSt.ok {F : Nat → Prop} {w : World} {S : Sh} {x : Sm} {pl : PlM} (h : ShSt F w S x pl) : x.Ok ∧ x.Pos ∧ x.Of pl ∧ pl.Good := by
  obtain ⟨G, a, _⟩ := h
  exact ⟨a.ok, a.pos, a.of, a.pool.good⟩
theorem smSet_length (l : PgL) (n : Nat) (p : List Int) : (smSet l n p).length = l.length := by unfold smSet; simp
/-- What is taken: what a shelf becomes. -/
theorem shTake_cases (x : Sm) (pl : PlM) (who : Int) : (shTakeE x pl who ≠ 0 ∧ shTake x pl who = x ∧ shTakeP x pl who = pl) ∨
    (shTakeE x pl who = 0 ∧ 0 ≤ who ∧ ((∃ n r, x.opn = n :: r ∧ shTake x pl who = x.takeAt n (shP x pl) who ∧ shTakeP x pl who = pl ∧ shP x pl = (smGet x.pg n).getD [] ∧ shTakeN x pl who = n ∧ shTakeA x pl who = pgHole (shP x pl)) ∨
      (∃ n r, x.opn = [] ∧ pl.free = n :: r ∧ shTake x pl who = (x.fresh n).takeAt n (shP x pl) who ∧ shTakeP x pl who = pl.take x.cls ∧ shP x pl = (smGet (x.fresh n).pg n).getD [] ∧ shTakeN x pl who = n ∧ shTakeA x pl who = pgHole (shP x pl)))) := by
  by_cases hE : shTakeE x pl who = 0
  · refine .inr ⟨hE, ?_, ?_⟩
    · unfold shTakeE at hE
      split at hE
      · cases hE
      · omega
    · have e1 : shTake x pl who = (shPre x pl).takeAt (shPage x pl) (shP x pl) who := by unfold shTake; rw [if_pos hE]
      have e2 : shTakeP x pl who = shPl x pl := by unfold shTakeP; rw [if_pos hE]
      have e3 : shTakeN x pl who = shPage x pl := by unfold shTakeN; rw [if_pos hE]
      have e4 : shTakeA x pl who = pgHole (shP x pl) := by unfold shTakeA; rw [if_pos hE]
      have e5 : shP x pl = (smGet (shPre x pl).pg (shPage x pl)).getD [] := rfl
      cases ho : x.opn with
      | cons n r =>
        have a1 : shPre x pl = x := by unfold shPre; rw [ho]
        have a2 : shPage x pl = n := by unfold shPage; rw [ho]
        have a3 : shPl x pl = pl := by unfold shPl; rw [ho]
        refine .inl ⟨n, r, rfl, ?_, ?_, ?_, ?_, e4⟩
        · rw [e1, a1, a2]
        · rw [e2, a3]
        · rw [e5, a1, a2]
        · rw [e3, a2]
      | nil =>
        cases hf : pl.free with
        | nil =>
          unfold shTakeE at hE
          split at hE
          · cases hE
          · rw [if_pos (by rw [ho, hf]; exact ⟨rfl, rfl⟩)] at hE; cases hE
        | cons n r =>
          have a1 : shPre x pl = x.fresh n := by unfold shPre; rw [ho, hf]; rfl
          have a2 : shPage x pl = n := by unfold shPage; rw [ho, hf]; rfl
          have a3 : shPl x pl = pl.take x.cls := by unfold shPl; rw [ho]
          refine .inr ⟨n, r, rfl, rfl, ?_, ?_, ?_, ?_, e4⟩
          · rw [e1, a1, a2]
          · rw [e2, a3]
          · rw [e5, a1, a2]
          · rw [e3, a2]
  · exact .inl ⟨hE, by unfold shTake; rw [if_neg hE], by unfold shTakeP; rw [if_neg hE]⟩
/-- All pages that are held are this shelf's. -/
def Cnt (x : Sm) (pl : PlM) : Prop := pgUsed pl.own = x.pg.length
theorem takeAt_blocks (x : Sm) (n : Nat) (p : List Int) (who : Int) : (x.takeAt n p who).blocks = x.blocks := rfl
theorem do13_blocks (x : Sm) (pl : PlM) (u : Act13) : (do13X x pl u).blocks = x.blocks := by
  unfold do13X
  split
  · rcases shTake_cases x pl u.who with ⟨_, h, _⟩ | ⟨_, _, ⟨n, r, _, h, _⟩ | ⟨n, r, _, _, h, _⟩⟩ <;> rw [h] <;> rfl
  · split
    · unfold shGive
      split
      · split
        · unfold Sm.giveAt; simp only; split <;> rfl
        · rfl
      · rfl
    · unfold shOwn
      split <;> rfl
theorem Cnt.do13 {x : Sm} {pl : PlM} {u : Act13} (h : Cnt x pl) (hok : x.Ok) (hof : x.Of pl) (hg : pl.Good) : Cnt (do13X x pl u) (do13P x pl u) := by
  unfold Cnt do13X do13P at *
  split
  · rcases shTake_cases x pl u.who with ⟨_, h1, h2⟩ | ⟨_, _, ⟨n, r, _, h1, h2, _⟩ | ⟨n, r, _, hf, h1, h2, _⟩⟩
    · rw [h1, h2]; exact h
    · rw [h1, h2]; show _ = (smSet _ _ _).length; rw [smSet_length]; exact h
    · rw [h1, h2]
      show _ = (smSet (x.pg ++ _) _ _).length
      rw [smSet_length, List.length_append]
      obtain ⟨hn, ho⟩ := hg.free n (by rw [hf]; simp)
      have := pgUsed_set (v := x.cls) hn
      have hcl := hok.cls
      rw [if_pos ho, if_neg (by omega)] at this
      have e : (pl.take x.cls).own = pl.own.set n x.cls := by unfold PlM.take; rw [hf]
      rw [e]
      simp only [List.length_cons, List.length_nil]
      omega
  · split
    · unfold shGive shGiveP
      split
      · rename_i p hp
        obtain ⟨k, hk, hm⟩ := smGet_some hp
        rw [hk]
        by_cases hE : pgGiveE p u.at' = 0
        · simp only [hE, if_true, true_and, Int.toNat_natCast]
          unfold Sm.giveAt
          simp only
          by_cases hz : pgUsed (pgGive p u.at') = 0
          · rw [if_pos hz, if_pos hz]
            obtain ⟨hn, ho⟩ := hof _ hm
            simp only at hn ho
            have hcl := hok.cls
            have := pgUsed_set (v := -1) hn
            rw [if_neg (by omega), if_pos rfl] at this
            have hd := (smUsed_del hok.nodup hm).2
            show pgUsed (pl.own.set k (-1)) = (smDel x.pg k).length
            omega
          · rw [if_neg hz, if_neg hz]
            show _ = (smSet _ _ _).length
            rw [smSet_length]; exact h
        · simp only [hE, if_false, false_and]; exact h
      · exact h
    · unfold shOwn
      split
      · show _ = (smSet _ _ _).length
        rw [smSet_length]; exact h
      · exact h
theorem nodup_sub : ∀ (l l' : List Nat), l.Nodup → (∀ a ∈ l, a ∈ l') → l.length ≤ l'.length
  | [], _, _, _ => Nat.zero_le _
  | a :: r, l', hn, h => by
    obtain ⟨h1, h2⟩ := List.nodup_cons.1 hn
    have ha := h a (by simp)
    have ih := nodup_sub r (l'.erase a) h2 (fun b hb => by
      have : b ≠ a := fun e => h1 (e ▸ hb)
      exact (List.mem_erase_of_ne this).2 (h b (by simp [hb])))
    rw [List.length_erase_of_mem ha] at ih
    have := List.length_pos_of_mem ha
    simp only [List.length_cons]
    omega
def cntOpen (b : Nat) : PgL → Nat
  | [] => 0
  | (_, p) :: r => (if pgUsed p ≠ b then 1 else 0) + cntOpen b r
theorem cntOpen_filter (b : Nat) : ∀ (l : PgL), cntOpen b l = (l.filter fun e => decide (pgUsed e.2 ≠ b)).length
  | [] => rfl
  | (a, p) :: r => by
    rw [List.filter_cons]
    unfold cntOpen
    rw [cntOpen_filter b r]
    by_cases h : pgUsed p ≠ b
    · rw [if_pos h, if_pos (by simpa using h), List.length_cons]; omega
    · rw [if_neg h, if_neg (by simpa using h)]; omega
theorem open_count {x : Sm} (h : x.Ok) : x.opn.length = cntOpen x.blocks x.pg := by
  have hn : ((x.pg.filter fun e => decide (pgUsed e.2 ≠ x.blocks)).map (·.1)).Nodup := h.nodup.sublist (List.filter_sublist.map _)
  have e1 : ((x.pg.filter fun e => decide (pgUsed e.2 ≠ x.blocks)).map (·.1)).length = (x.pg.filter fun e => decide (pgUsed e.2 ≠ x.blocks)).length := by simp
  rw [cntOpen_filter, ← e1]
  refine Nat.le_antisymm (nodup_sub _ _ h.onodup fun n hm => ?_) (nodup_sub _ _ hn fun n hm => ?_)
  · obtain ⟨p, hp⟩ := h.osub n hm
    exact List.mem_map.2 ⟨(n, p), List.mem_filter.2 ⟨hp, by simpa using (h.each _ hp).2.2.1 hm⟩, rfl⟩
  · obtain ⟨e, he, rfl⟩ := List.mem_map.1 hm
    obtain ⟨h1, h2⟩ := List.mem_filter.1 he
    exact (h.each e h1).2.2.2 (by simpa using h2)
theorem pages_bounds {b : Nat} (hb : 1 ≤ b) : ∀ {l : PgL}, (∀ e ∈ l, e.2.length = b ∧ 0 < pgUsed e.2) → smUsed l + cntOpen b l ≤ l.length * b ∧ l.length * b + cntOpen b l ≤ smUsed l + cntOpen b l * b ∧ l.length ≤ smUsed l
  | [], _ => by simp [smUsed, cntOpen]
  | (a, p) :: r, h => by
    obtain ⟨i1, i2, i3⟩ := pages_bounds hb (l := r) (fun e he => h e (by simp [he]))
    obtain ⟨h1, h2⟩ := h (a, p) (by simp)
    have h3 := pgUsed_le p
    simp only at h1 h2 h3
    simp only [smUsed, cntOpen, List.length_cons, Nat.succ_mul]
    by_cases hf : pgUsed p = b
    · rw [if_neg (by simpa using hf)]
      simp only [Nat.zero_add]
      omega
    · rw [if_pos hf, Nat.add_mul, Nat.one_mul]
      omega
theorem need_bounds {N O U b : Nat} (hb : 1 ≤ b) (h1 : U + O ≤ N * b) (h2 : N * b + O ≤ U + O * b) : (U + b - 1) / b ≤ N ∧ N ≤ (U + b - 1) / b + (O - 1) ∧ (O = 0 ↔ N * b = U) := by
  obtain ⟨q, hq⟩ : ∃ q, q = (U + b - 1) / b := ⟨_, rfl⟩
  have a1 : q * b ≤ U + b - 1 := by rw [hq]; exact Nat.div_mul_le_self _ _
  have a2 : U + b - 1 < q * b + b := by
    have := Nat.lt_div_mul_add (a := U + b - 1) (show 0 < b by omega)
    rw [← hq] at this; exact this
  rw [← hq]
  refine ⟨?_, ?_, ?_⟩
  · refine Nat.le_of_not_lt fun h => ?_
    have : (N + 1) * b ≤ q * b := Nat.mul_le_mul_right _ h
    rw [Nat.add_mul, Nat.one_mul] at this
    omega
  · refine Nat.le_of_not_lt fun h => ?_
    by_cases hO : O = 0
    · subst hO
      have : (q + 1) * b ≤ N * b := Nat.mul_le_mul_right _ (by omega)
      rw [Nat.add_mul, Nat.one_mul] at this
      omega
    · have : (q + O) * b ≤ N * b := Nat.mul_le_mul_right _ (by omega)
      rw [Nat.add_mul] at this
      omega
  · constructor
    · intro h; subst h; omega
    · intro h; omega
end Go.Proofs.YtdmedllaackbaaaDoor
/-
  Layer 13: acts that came in; there are no more pages than the blocks need, but one for each open page.
-/
namespace Go.Proofs.YtdmedllaackbaaaDoor
open Go.ChangeShapes Go.WideShapes Go.ChangeAt Go.RowKit
section
variable {H : Type} {enc : TypeId × Value → H} {w : World} {base b0 : Nat} {r : Go.Reach} {spare : Nat → Bool} {held : Bool}
set_option maxRecDepth 100000 in
theorem open_act13 {fuel : Nat} {cs : List Value} {x : DataW H × List MemPlace} (h : DataW.trod enc Tryd.prog w base spare held fuel 41 cs = some x) : ∃ u, cs = act13L u ∧ 0 ≤ u.kind ∧ u.kind < 256 := by
  obtain ⟨xs, n, _, _, hl, hlen, hfs⟩ := DataW.trod_struct (P := Tryd.prog) Tryd.underlying41 h
  clear h
  have h0 := hfs 0 _ rfl
  have h1 := hfs 1 _ rfl
  have h2 := hfs 2 _ rfl
  have h3 := hfs 3 _ rfl
  have hl' : cs.length = 4 := hl
  match xs, hlen, cs, hl' with
  | [x0, x1, x2, x3], _, [c0, c1, c2, c3], _ =>
    obtain ⟨n0, e0, _, g0⟩ := DataW.trod_int (P := Tryd.prog) Tryd.underlying5 h0
    obtain ⟨n1, e1, _, _⟩ := DataW.trod_int (P := Tryd.prog) Tryd.underlying3 h1
    obtain ⟨n2, e2, _, _⟩ := DataW.trod_int (P := Tryd.prog) Tryd.underlying3 h2
    obtain ⟨n3, e3, _, _⟩ := DataW.trod_int (P := Tryd.prog) Tryd.underlying3 h3
    have e0' : [c0] = [.int .u8 n0] := e0
    have e1' : [c1] = [.int .i64 n1] := e1
    have e2' : [c2] = [.int .i64 n2] := e2
    have e3' : [c3] = [.int .i64 n3] := e3
    cases e0'; cases e1'; cases e2'; cases e3'
    exact ⟨⟨n0, n1, n2, n3⟩, rfl, inU8_of_wf g0⟩
set_option maxRecDepth 100000 in
theorem open_acts13 {v : Value} {d : DataW H} {ps : List MemPlace} (hval : Value.okWide Tryd.prog w r b0 38 v) (h : DataW.Trod enc Tryd.prog w base spare held 38 v d ps) :
    ∃ a cap xs, v = .slice a xs.length cap ∧ Rows act13L 4 w a xs ∧ (∀ x ∈ xs, 0 ≤ x.kind ∧ x.kind < 256) ∧ xs.length ≤ 9223372036854775807 := by
  obtain ⟨a, len, cap, rfl⟩ := okWide_slice Tryd.underlying38 hval
  obtain ⟨fuel, hf⟩ := h
  obtain ⟨a', cap', xs, hcs, hr, hx, hl, hm⟩ := open_rows (P := Tryd.prog) (cells := act13L) (Ok := fun x => 0 ≤ x.kind ∧ x.kind < 256) (sz := 4) Tryd.underlying38 (by kernel_rfl) (by decide) (fun n cs y hy => open_act13 hy) hf
  have e : [Value.slice a len cap] = [.slice a' xs.length cap'] := hcs
  cases e
  have hml : maxLen ≤ 9223372036854775807 := by decide
  exact ⟨a, cap, xs, rfl, hr, hx, by omega⟩
end
theorem Cnt.new {c : Int} {b N : Nat} : Cnt (newSm c b) (plNew N) := pgUsed_new N
set_option maxRecDepth 100000 in
theorem law_ShelfPages (n : Int) (a : Option Addr) (cap : Nat) (xs : List Act13) (w : World) (ht : TabAt w) (hn : 0 ≤ n ∧ n < 256) (hr : Rows act13L 4 w a xs) (hl : xs.length ≤ 9223372036854775807) (hx : ∀ x ∈ xs, 0 ≤ x.kind ∧ x.kind < 256) :
    Does Tryd.prog 4 #[.int .u8 n, .slice a xs.length cap] w (Grow (.bool true) w) := by
  refine Does.enter Tryd.func4 rfl Tryd.ntmps4 rfl rfl ?_
  refine Goes.adv hTT 400 rfl ?_
  refine Goes.call rfl (law13_awake w ht) ?_
  rintro _ w1 ⟨rfl, hw1⟩
  refine Goes.adv hTT 400 rfl ?_
  refine Goes.fork hTT rfl rfl rfl (fun h1 => ?_) (fun h1 => ?_)
  · exact Goes.ret1 hTT rfl Tryd.func4 rfl rfl ⟨rfl, hw1⟩
  refine Goes.arith hTT rfl (w64 (by omega)) rfl ?_
  refine Goes.div hTT rfl (by omega) (rem_ (by omega)) rfl ?_
  refine Goes.arith hTT rfl (w64 (by omega)) rfl ?_
  obtain ⟨b, hb⟩ := Int.eq_ofNat_of_zero_le (show 0 ≤ 1 + n % 4 by omega)
  rw [hb]
  have hb1 : 1 ≤ b ∧ b ≤ 4 := by omega
  refine Goes.call rfl (pool_New 9 w1 (by decide)) ?_
  rintro _ w2 ⟨P, rfl, hPn, hP, hw2⟩
  refine Goes.adv hTT 400 rfl ?_
  have hw02 := hw1.trans hw2
  have hs1 := hw1.size
  have ht2 : TabAt w2 := fun j hj => hw02.cell (ht j hj) id
  refine Goes.call rfl (st_New (w0 := w) (k := b) (cls := 3) ht2 (by decide) (by omega) hP ⟨by omega, by omega⟩ hw02.size) ?_
  rintro _ w3 ⟨S, F3, hSP, rfl, h3, hF3, hw3⟩
  refine Goes.adv hTT 400 rfl ?_
  refine Goes.loop (α := Nat) (fun i => [(1, false, .slice a xs.length cap), (5, false, .bool true), (6, false, .int .i64 b), (7, false, plV P), (9, false, sfV S), (11, false, .int .i64 i)])
    (fun i w' => i ≤ xs.length ∧ ∃ F x pl, ShSt F w' S x pl ∧ (∀ z, F z → w.heap.size ≤ z) ∧ Cnt x pl ∧ x.blocks = b ∧ Chg None' w w') (fun i => xs.length - i) 0 ⟨rfl, rfl, rfl, rfl, rfl, rfl, trivial⟩ ⟨Nat.zero_le _, F3, _, _, h3, fun z hz => (hF3 z hz).1, Cnt.new, rfl, hw02.trans hw3⟩ ?_
  rintro i w4 ⟨hi, F, x, pl, h4, hF, hcn, hbk, hw04⟩ ih
  refine Goes.adv hTT 400 rfl ?_
  refine Goes.fork hTT rfl rfl rfl (fun hc => ?_) (fun hc => ?_)
  · have hlt : i < xs.length := by have := of_decide_eq_true hc; omega
    obtain ⟨ub, uoff, rfl, hcell⟩ := hr.at hlt
    have hxok := hx _ (List.getElem_mem hlt)
    refine Goes.index hTT rfl (j := (i * 4)) (by omega) (by omega) (by first | rfl | omega | (simp; done) | (simp; omega)) rfl ?_
    refine Goes.loadC hTT (act13L xs[i]) rfl (by first | rfl | (simp; done) | (simp [*]; done) | (simp; omega)) ((fun j v hv => below_cell hw04.below (hcell j v hv))) rfl ?_
    refine Goes.call rfl (law13_do xs[i] w4 h4 hxok) ?_
    rintro _ w5 ⟨rfl, h5, hc5⟩
    refine Goes.adv hTT 400 rfl ?_
    obtain ⟨hok, hpos, hof, hg⟩ := h4.ok
    have hcn5 := hcn.do13 (u := xs[i]) hok hof hg
    have hbk5 := do13_blocks x pl xs[i]
    obtain ⟨x', hx'⟩ : ∃ x', x' = do13X x pl xs[i] := ⟨_, rfl⟩
    obtain ⟨pl', hpl'⟩ : ∃ pl', pl' = do13P x pl xs[i] := ⟨_, rfl⟩
    rw [← hx', ← hpl'] at h5 hcn5
    rw [← hx', hbk] at hbk5
    have hw05 : Chg None' w w5 := hw04.since hc5 (fun z hz h => by have := hF z h; omega)
    obtain ⟨hok5, hpos5, hof5, hg5⟩ := h5.ok
    have hfew := hok5.few
    have hP5 := h5.pool
    rw [hSP] at hP5
    have hoc := open_count hok5
    rw [hbk5] at hoc
    obtain ⟨g1, g2, g3⟩ := pages_bounds hb1.1 (l := x'.pg) (fun e he => ⟨by rw [← hbk5]; exact (hok5.each e he).2.1, hpos5 e he⟩)
    rw [← hoc] at g1 g2
    obtain ⟨q1, q2, q3⟩ := need_bounds hb1.1 g1 g2
    unfold Cnt at hcn5
    obtain ⟨U, hU⟩ : ∃ U, U = smUsed x'.pg := ⟨_, rfl⟩
    obtain ⟨O, hO⟩ : ∃ O, O = x'.opn.length := ⟨_, rfl⟩
    obtain ⟨N, hN⟩ : ∃ N, N = x'.pg.length := ⟨_, rfl⟩
    rw [← hU] at g1 g2 g3 q1 q2 q3 hfew
    rw [← hO] at g1 g2 q2 q3 hfew
    rw [← hN] at g1 g2 g3 q1 q2 q3 hfew hcn5
    have hNb : N * b ≤ 1024 * 4 := Nat.mul_le_mul hfew.1 hb1.2
    have dU := st_Used h5
    have dO := st_Open h5
    have dN := st_Pages h5
    rw [← hU] at dU
    rw [← hO] at dO
    rw [← hN] at dN
    have dH := pool_Held P pl' w5 hP5
    rw [hcn5] at dH
    have hne : ((U : Int) + b - 1) / b = (((U + b - 1) / b : Nat) : Int) := by
      rw [show (U : Int) + b - 1 = ((U + b - 1 : Nat) : Int) by omega, Int.natCast_ediv]
    obtain ⟨q, hq⟩ : ∃ q, q = (U + b - 1) / b := ⟨_, rfl⟩
    rw [← hq] at q1 q2 hne
    have hno : (((O : Int) == 0) != ((N : Int) * b == U)) = false := by
      rw [show (N : Int) * b = ((N * b : Nat) : Int) by simp]
      by_cases h0 : O = 0
      · have := q3.1 h0; rw [h0, this]; simp
      · have h1 : N * b ≠ U := fun e => h0 (q3.2 e)
        rw [show ((O : Int) == 0) = false by simp; omega, show (((N * b : Nat) : Int) == U) = false by simp only [beq_eq_false_iff_ne, ne_eq]; omega]
        rfl
    refine Goes.call rfl (dU) ?_
    rintro _ _ ⟨rfl, rfl⟩
    refine Goes.adv hTT 400 rfl ?_
    refine Goes.arith hTT rfl (w64 (by omega)) rfl ?_
    refine Goes.arith hTT rfl (w64 (by omega)) rfl ?_
    refine Goes.div hTT rfl (by omega) (quo64 (by omega) (by omega)) rfl ?_
    rw [hne]
    refine Goes.call rfl (dN) ?_
    rintro _ _ ⟨rfl, rfl⟩
    refine Goes.adv hTT 400 rfl ?_
    refine Goes.call rfl (dO) ?_
    rintro _ _ ⟨rfl, rfl⟩
    refine Goes.adv hTT 400 rfl ?_
    refine Goes.arith hTT rfl (w64 (by omega)) rfl ?_
    refine Goes.arith hTT rfl (w64 (by split <;> omega)) rfl ?_
    refine Goes.no hTT rfl (decide_eq_false (by split <;> omega)) rfl ?_
    refine Goes.call rfl (dN) ?_
    rintro _ _ ⟨rfl, rfl⟩
    refine Goes.adv hTT 400 rfl ?_
    refine Goes.no hTT rfl (decide_eq_false (by omega)) rfl ?_
    refine Goes.call rfl (dO) ?_
    rintro _ _ ⟨rfl, rfl⟩
    refine Goes.adv hTT 400 rfl ?_
    refine Goes.call rfl (dN) ?_
    rintro _ _ ⟨rfl, rfl⟩
    refine Goes.adv hTT 400 rfl ?_
    refine Goes.arith hTT rfl (w64 (by rw [show (N : Int) * b = ((N * b : Nat) : Int) by simp]; omega)) rfl ?_
    refine Goes.call rfl (dU) ?_
    rintro _ _ ⟨rfl, rfl⟩
    refine Goes.adv hTT 400 rfl ?_
    refine Goes.no hTT rfl hno rfl ?_
    refine Goes.call rfl (dH) ?_
    rintro _ _ ⟨rfl, rfl⟩
    refine Goes.adv hTT 400 rfl ?_
    refine Goes.call rfl (dN) ?_
    rintro _ _ ⟨rfl, rfl⟩
    refine Goes.adv hTT 400 rfl ?_
    refine Goes.no hTT rfl (bne_self_eq_false _) rfl ?_
    refine Goes.call rfl (dU) ?_
    rintro _ _ ⟨rfl, rfl⟩
    refine Goes.adv hTT 400 rfl ?_
    refine Goes.call rfl (dN) ?_
    rintro _ _ ⟨rfl, rfl⟩
    refine Goes.adv hTT 400 rfl ?_
    refine Goes.no hTT rfl (decide_eq_false (by omega)) rfl ?_
    refine Goes.arith hTT rfl (w64 (by omega)) rfl ?_
    exact ih (i + 1) _ _ ⟨by omega, _, x', pl', h5, growF_new hF hw04.size, by unfold Cnt; rw [hcn5, hN], hbk5, hw05⟩ (by omega) ⟨rfl, rfl, rfl, rfl, rfl, rfl, trivial⟩
  · exact Goes.ret1 hTT rfl Tryd.func4 rfl rfl ⟨rfl, hw04⟩
end Go.Proofs.YtdmedllaackbaaaDoor
/-
  Layer 13: what may move.
-/
namespace Go.Proofs.YtdmedllaackbaaaDoor
open Go.RowKit

theorem growF_in {F : Nat → Prop} {w w' : World} {b : Nat} (h : ∀ z, F z → b ≤ z ∧ z < w.heap.size) (h1 : b ≤ w.heap.size) (h2 : w.heap.size ≤ w'.heap.size) : ∀ z, growF F w w' z → b ≤ z ∧ z < w'.heap.size := fun z hz => by
  rcases hz with hz | hz
  · have := h z hz; omega
  · omega
theorem getD_is0 {x : List Bool} {j : Nat} (h : j < x.length) : x.getD j false = x[j] := by rw [List.getD_eq_getElem?_getD, List.getElem?_eq_getElem h]; rfl
theorem high_is {x : List Bool} (h : cnt x ≠ 0) : ∃ t, t < x.length ∧ x.getD t false = true ∧ highM x = (t : Int) := by
  have key : ∀ m, m ≤ x.length → (∀ j, m ≤ j → x.getD j false = false) → (∀ j, x.getD j false = false) ∨ ∃ t, t < x.length ∧ x.getD t false = true ∧ ∀ j, t < j → x.getD j false = false := by
    intro m
    induction m with
    | zero => intro _ h; exact .inl fun j => h j (Nat.zero_le _)
    | succ m ihm =>
      intro hm h
      cases hb : x.getD m false with
      | true => exact .inr ⟨m, by omega, hb, fun j hj => h j hj⟩
      | false => exact ihm (by omega) fun j hj => (Nat.eq_or_lt_of_le hj).elim (fun e => e ▸ hb) (fun e => h j e)
  rcases key x.length (Nat.le_refl _) (fun j hj => by rw [List.getD_eq_getElem?_getD, List.getElem?_eq_none hj]; rfl) with h1 | ⟨t, ht1, ht2, ht3⟩
  · exfalso
    apply h
    have hall : x = List.replicate x.length false := by
      apply List.ext_getElem (by simp)
      intro j h2 h3
      rw [← getD_is0 h2, h1 j]; simp
    rw [hall, cnt_replicate]
  · exact ⟨t, ht1, ht2, ridx_at (p := id) ht1 (fun j hj hjt => by rw [← getD_is0 hj]; exact ht3 j hjt) (by rw [← getD_is0 ht1]; exact ht2)⟩
theorem pgTop_is {p : List Int} (h : 0 < pgUsed p) : ∃ t, t < p.length ∧ pgTop p = (t : Int) ∧ p.getD t (-1) ≠ -1 := by
  obtain ⟨t, h1, h2, h3⟩ := high_is (x := pgB p) (by unfold pgUsed at h; omega)
  rw [pgB_length] at h1
  rw [pgB_getD] at h2
  exact ⟨t, h1, h3, by simpa using h2⟩
/-- No owner is below -1. -/
def NN (x : Sm) : Prop := ∀ e ∈ x.pg, ∀ o ∈ e.2, -1 ≤ o
theorem mem_setI {l : List Int} {i : Nat} {v o : Int} (h : o ∈ l.set i v) : o ∈ l ∨ o = v := by
  rcases List.mem_or_eq_of_mem_set h with h | h
  · exact .inl h
  · exact .inr h
theorem NN.set {x : Sm} {n : Nat} {p q : List Int} (h : NN x) (hq : (n, q) ∈ x.pg) (hp : ∀ o ∈ p, o ∈ q ∨ -1 ≤ o) : ∀ e ∈ smSet x.pg n p, ∀ o ∈ e.2, -1 ≤ o := fun e he o ho => by
  rcases mem_smSet he with ⟨rfl, _⟩ | ⟨_, he⟩
  · rcases hp o ho with h1 | h1
    · exact h _ hq o h1
    · exact h1
  · exact h e he o ho
theorem NN.takeAt {x : Sm} (h : NN x) {n : Nat} {p : List Int} {who : Int} (hw : 0 ≤ who) (hq : (n, p) ∈ x.pg) : NN (x.takeAt n p who) :=
  NN.set h hq fun o ho => by
    unfold pgTake at ho
    split at ho
    · rcases mem_setI ho with h | h
      · exact .inl h
      · exact .inr (by omega)
    · exact .inl ho
theorem NN.giveAt {x : Sm} (h : NN x) {n : Nat} {p : List Int} {i : Int} (hq : (n, p) ∈ x.pg) : NN (x.giveAt n p i) := by
  unfold Sm.giveAt
  simp only
  split
  · exact fun e he => h e (mem_smDel.1 he).2
  · exact NN.set h hq fun o ho => by
      unfold pgGive at ho
      split at ho
      · rcases mem_setI ho with h | h
        · exact .inl h
        · exact .inr (by omega)
      · exact .inl ho
theorem NN.ownAt {x : Sm} (h : NN x) {n : Nat} {p : List Int} {i who : Int} (hq : (n, p) ∈ x.pg) : NN (x.ownAt n p i who) :=
  NN.set h hq fun o ho => by
    unfold pgOwnS at ho
    split at ho
    · rename_i hE
      rcases mem_setI ho with h | h
      · exact .inl h
      · refine .inr ?_
        unfold pgOwnE at hE
        split at hE
        · cases hE
        · omega
    · exact .inl ho
theorem NN.fresh {x : Sm} (h : NN x) (n : Nat) : NN (x.fresh n) := fun e he o ho => by
  rcases List.mem_append.1 he with he | he
  · exact h e he o ho
  · have : e = (n, List.replicate x.blocks (-1)) := by simpa using he
    subst this
    rw [List.eq_of_mem_replicate ho]; omega
theorem NN.do13 {x : Sm} {pl : PlM} {u : Act13} (h : NN x) (hok : x.Ok) (hof : x.Of pl) (hg : pl.Good) : NN (do13X x pl u) := by
  unfold do13X
  split
  · rcases shTake_cases x pl u.who with ⟨_, h1, h2⟩ | ⟨_, hw, ⟨n, r, ho, h1, _, h3, _⟩ | ⟨n, r, ho, hf, h1, _, h3, _⟩⟩
    · rw [h1]; exact h
    · rw [h1]
      obtain ⟨p, hp⟩ := hok.osub n (by rw [ho]; simp)
      rw [smGet_of hok.nodup hp] at h3
      exact h.takeAt hw (by rw [h3]; exact hp)
    · rw [h1]
      have hnew := free_new hok hof hg (n := n) (by rw [hf]; simp)
      have hn4 : n < 1024 := by have := (hg.free n (by rw [hf]; simp)).1; have := hg.len; omega
      have hx1 := hok.fresh hn4 hnew
      have hp : (n, List.replicate x.blocks (-1)) ∈ (x.fresh n).pg := List.mem_append_right _ (by simp)
      rw [smGet_of hx1.nodup hp] at h3
      exact (h.fresh n).takeAt hw (by rw [h3]; exact hp)
  · split
    · unfold shGive
      split
      · rename_i p hp
        obtain ⟨k, hk, hm⟩ := smGet_some hp
        rw [hk]
        split
        · exact h.giveAt hm
        · exact h
      · exact h
    · unfold shOwn
      split
      · rename_i p hp
        obtain ⟨k, hk, hm⟩ := smGet_some hp
        rw [hk]
        exact h.ownAt hm
      · exact h
theorem smGet_set_ne {l : PgL} {n m : Nat} {p : List Int} (h : m ≠ n) : smGet (smSet l n p) m = smGet l m := by
  induction l with
  | nil => rfl
  | cons e r ih =>
    obtain ⟨a, q⟩ := e
    unfold smSet at *
    rw [List.map_cons]
    by_cases ha : a = n
    · rw [if_pos ha]
      unfold smGet
      rw [if_neg (by omega), if_neg (by omega)]
      exact ih
    · rw [if_neg ha]
      unfold smGet
      rw [ih]
/-- What moves: what is told of it, and what the move does. -/
theorem move_facts {x : Sm} {pl : PlM} (hok : x.Ok) (hpos : x.Pos) (hnn : NN x) (h2 : 2 ≤ x.opn.length) :
    ∃ (fr to : Nat) (fa ta ow : Int), shPlanL x = planL fr fa to ta ∧ fr ≠ to ∧ shOwner x fr fa = ow ∧ 0 ≤ ow ∧ shOwner x to ta = -1 ∧ shTakeE x pl ow = 0 ∧ shTakeN x pl ow = to ∧ shTakeA x pl ow = ta ∧
      shGiveE (shTake x pl ow) fr fa = 0 ∧ (shGive (shTake x pl ow) fr fa).opn.length ≤ x.opn.length ∧ smUsed (shGive (shTake x pl ow) fr fa).pg = smUsed x.pg := by
  obtain ⟨to, r, ho⟩ : ∃ to r, x.opn = to :: r := by
    cases h : x.opn with
    | nil => rw [h] at h2; simp at h2
    | cons a r => exact ⟨a, r, rfl⟩
  have hlast : ∃ fr ∈ r, lastI (-1) x.opn = (fr : Int) := by
    rw [ho]
    show ∃ fr ∈ r, lastI to r = _
    rcases lastI_mem to r with ⟨e, _⟩ | ⟨a, ha, e, _⟩
    · rw [ho, e] at h2; simp at h2
    · exact ⟨a, ha, e⟩
  obtain ⟨fr, hfr, el⟩ := hlast
  have hnd := hok.onodup
  rw [ho] at hnd
  have hne : fr ≠ to := fun e => (List.nodup_cons.1 hnd).1 (e ▸ hfr)
  obtain ⟨p, hp⟩ := hok.osub to (by rw [ho]; simp)
  obtain ⟨q, hq⟩ := hok.osub fr (by rw [ho]; simp [hfr])
  obtain ⟨p1, p2, p3⟩ := hok.each _ hp
  obtain ⟨q1, q2, q3⟩ := hok.each _ hq
  simp only at p1 p2 p3 q1 q2 q3
  have hpn := p3.1 (by rw [ho]; simp)
  have hqn := q3.1 (by rw [ho]; simp [hfr])
  have gp := smGet_of hok.nodup hp
  have gq := smGet_of hok.nodup hq
  obtain ⟨t, ht1, ht2, ht3⟩ := pgTop_is (hpos _ hq)
  simp only at ht1 ht2 ht3
  have hown : 0 ≤ q.getD t (-1) := by
    have hm : q.getD t (-1) ∈ q := by rw [List.getD_eq_getElem?_getD, List.getElem?_eq_getElem ht1]; exact List.getElem_mem ht1
    have := hnn _ hq _ hm
    omega
  have hqo : pgOwn q (pgTop q) = q.getD t (-1) := by unfold pgOwn; rw [ht2, if_pos (by omega)]; rfl
  have hph : ¬ pgHole p < 0 := fun e => by have := pgHole_full.1 e; rw [p2] at this; exact hpn this
  obtain ⟨hh1, hh2⟩ := pg_hole_in hph
  have hpo : pgOwn p (pgHole p) = -1 := by unfold pgOwn; rw [if_pos (by omega)]; exact hh2
  have eE : shTakeE x pl (q.getD t (-1)) = 0 := by unfold shTakeE; rw [if_neg (by omega), if_neg (by rw [ho]; simp)]
  rcases shTake_cases x pl (q.getD t (-1)) with ⟨h, _⟩ | ⟨_, _, ⟨n, r', ho', k1, _, k3, k4, k5⟩ | ⟨n, r', ho', _⟩⟩
  · exact absurd eE h
  · rw [ho] at ho'
    cases ho'
    rw [gp] at k3
    simp only [Option.getD_some] at k3
    obtain ⟨e1, e2⟩ := pgTake_ok (p := p) (who := q.getD t (-1)) hown (by rw [p2]; exact hpn)
    have hgx : smGet (shTake x pl (q.getD t (-1))).pg fr = some q := by
      rw [k1, k3]
      show smGet (smSet x.pg to (pgTake p (q.getD t (-1)))) fr = some q
      rw [smGet_set_ne hne]; exact gq
    have hge : pgGiveE q (pgTop q) = 0 := by
      unfold pgGiveE
      rw [if_neg (by omega), if_neg (by rw [hqo]; omega)]
    have hu := smUsed_set (p := pgTake p (q.getD t (-1))) hok.nodup hp
    have hgu := pgGive_used hge
    have hx1 : (x.takeAt to p (q.getD t (-1))).Ok := hok.takeAt hown hp (by rw [ho]; simp)
    have hq1 : (fr, q) ∈ (x.takeAt to p (q.getD t (-1))).pg := List.mem_map.2 ⟨(fr, q), hq, if_neg hne⟩
    have hb1 : (x.takeAt to p (q.getD t (-1))).blocks = x.blocks := rfl
    have hol : (x.takeAt to p (q.getD t (-1))).opn.length ≤ x.opn.length := by
      show (if _ then _ else _ : List Nat).length ≤ _
      split
      · exact List.length_filter_le _ _
      · exact Nat.le_refl _
    refine ⟨fr, to, pgTop q, pgHole p, q.getD t (-1), ?_, hne, ?_, hown, ?_, eE, k4, by rw [k5, k3], ?_, ?_, ?_⟩
    · unfold shPlanL
      rw [if_pos h2, el, gq, show headI x.opn = to from by rw [ho]; rfl, gp]; rfl
    · unfold shOwner; rw [gq]; exact hqo
    · unfold shOwner; rw [gp]; exact hpo
    · unfold shGiveE; rw [hgx]; exact hge
    · have e3 : shGive (shTake x pl (q.getD t (-1))) fr (pgTop q) = (x.takeAt to p (q.getD t (-1))).giveAt fr q (pgTop q) := by
        unfold shGive; rw [hgx]; simp only; rw [if_pos hge, k1, k3]; rfl
      rw [e3]
      unfold Sm.giveAt
      simp only
      rw [hb1, if_neg hqn]
      split
      · exact Nat.le_trans (List.length_filter_le _ _) hol
      · exact hol
    · have e3 : shGive (shTake x pl (q.getD t (-1))) fr (pgTop q) = (x.takeAt to p (q.getD t (-1))).giveAt fr q (pgTop q) := by
        unfold shGive; rw [hgx]; simp only; rw [if_pos hge, k1, k3]; rfl
      rw [e3]
      have hu1 : smUsed (x.takeAt to p (q.getD t (-1))).pg = smUsed x.pg + 1 := by show smUsed (smSet _ _ _) = _; omega
      unfold Sm.giveAt
      simp only
      split
      · rename_i hz
        have := (smUsed_del hx1.nodup hq1).1
        show smUsed (smDel (x.takeAt to p (q.getD t (-1))).pg fr) = _
        omega
      · have := smUsed_set (p := pgGive q (pgTop q)) hx1.nodup hq1
        show smUsed (smSet (x.takeAt to p (q.getD t (-1))).pg fr _) = _
        omega
  · rw [ho] at ho'; cases ho'
set_option maxRecDepth 100000 in
theorem law_ShelfMoves (n : Int) (a : Option Addr) (cap : Nat) (xs : List Act13) (w : World) (ht : TabAt w) (hn : 0 ≤ n ∧ n < 256) (hr : Rows act13L 4 w a xs) (hl : xs.length ≤ 9223372036854775807) (hx : ∀ x ∈ xs, 0 ≤ x.kind ∧ x.kind < 256) :
    Does Tryd.prog 5 #[.int .u8 n, .slice a xs.length cap] w (Grow (.bool true) w) := by
  refine Does.enter Tryd.func5 rfl Tryd.ntmps5 rfl rfl ?_
  refine Goes.adv hTT 400 rfl ?_
  refine Goes.call rfl (law13_awake w ht) ?_
  rintro _ w1 ⟨rfl, hw1⟩
  refine Goes.adv hTT 400 rfl ?_
  refine Goes.fork hTT rfl rfl rfl (fun h1 => ?_) (fun h1 => ?_)
  · exact Goes.ret1 hTT rfl Tryd.func5 rfl rfl ⟨rfl, hw1⟩
  refine Goes.arith hTT rfl (w64 (by omega)) rfl ?_
  refine Goes.div hTT rfl (by omega) (rem_ (by omega)) rfl ?_
  refine Goes.arith hTT rfl (w64 (by omega)) rfl ?_
  obtain ⟨b, hb⟩ := Int.eq_ofNat_of_zero_le (show 0 ≤ 1 + n % 4 by omega)
  rw [hb]
  have hb1 : 1 ≤ b ∧ b ≤ 4 := by omega
  refine Goes.call rfl (pool_New 9 w1 (by decide)) ?_
  rintro _ w2 ⟨P, rfl, hPn, hP, hw2⟩
  refine Goes.adv hTT 400 rfl ?_
  have hw02 := hw1.trans hw2
  have hs1 := hw1.size
  have ht2 : TabAt w2 := fun j hj => hw02.cell (ht j hj) id
  refine Goes.call rfl (st_New (w0 := w) (k := b) (cls := 3) ht2 (by decide) (by omega) hP ⟨by omega, by omega⟩ hw02.size) ?_
  rintro _ w3 ⟨S, F3, hSP, rfl, h3, hF3, hw3⟩
  refine Goes.adv hTT 400 rfl ?_
  refine Goes.loop (α := Nat) (fun i => [(1, false, .slice a xs.length cap), (5, false, .bool true), (9, false, sfV S), (11, false, .int .i64 i)])
    (fun i w' => i ≤ xs.length ∧ ∃ F x pl, ShSt F w' S x pl ∧ (∀ z, F z → w.heap.size ≤ z ∧ z < w'.heap.size) ∧ NN x ∧ Chg None' w w') (fun i => xs.length - i) 0 ⟨rfl, rfl, rfl, rfl, trivial⟩ ⟨Nat.zero_le _, F3, _, _, h3, hF3, (fun e he => by cases he), hw02.trans hw3⟩ ?_
  rintro i w4 ⟨hi, F, x, pl, h4, hF, hnn, hw04⟩ ih
  obtain ⟨hok, hpos, hof, hg⟩ := h4.ok
  refine Goes.adv hTT 400 rfl ?_
  refine Goes.fork hTT rfl rfl rfl (fun hc => ?_) (fun hc => ?_)
  · have hlt : i < xs.length := by have := of_decide_eq_true hc; omega
    obtain ⟨ub, uoff, rfl, hcell⟩ := hr.at hlt
    have hxok := hx _ (List.getElem_mem hlt)
    refine Goes.index hTT rfl (j := (i * 4)) (by omega) (by omega) (by first | rfl | omega | (simp; done) | (simp; omega)) rfl ?_
    refine Goes.loadC hTT (act13L xs[i]) rfl (by first | rfl | (simp; done) | (simp [*]; done) | (simp; omega)) ((fun j v hv => below_cell hw04.below (hcell j v hv))) rfl ?_
    refine Goes.call rfl (law13_do xs[i] w4 h4 hxok) ?_
    rintro _ w5 ⟨rfl, h5, hc5⟩
    refine Goes.adv hTT 400 rfl ?_
    refine Goes.arith hTT rfl (w64 (by omega)) rfl ?_
    exact ih (i + 1) _ _ ⟨by omega, _, _, _, h5, growF_in hF hw04.size hc5.size, hnn.do13 hok hof hg, hw04.since hc5 (fun z hz h => by have := hF z h; omega)⟩ (by omega) ⟨rfl, rfl, rfl, rfl, trivial⟩
  · by_cases h2 : 2 ≤ x.opn.length
    · obtain ⟨fr, to, fa, ta, ow, m1, m2, m3, m4, m5, m6, m7, m8, m9, m10, m11⟩ := move_facts (pl := pl) hok hpos hnn h2
      have d5 := st_Plan h4
      rw [m1, show shPlanB x = true from decide_eq_true h2] at d5
      refine Goes.call rfl (d5) ?_
      rintro _ w5 ⟨rfl, hw5⟩
      refine Goes.adv hTT 400 rfl ?_
      refine Goes.alloc hTT rfl ?_
      intro tb w6 e6 htb hw6 hz6
      refine Goes.adv hTT 400 rfl ?_
      refine Goes.store hTT rfl htb rfl rfl ?_
      intro w7 htb7 hs7 hz7
      refine Goes.adv hTT 400 rfl ?_
      replace htb7 : w7.heap[tb]? = some (.cells (planL fr fa to ta).toArray 44 (0, 0)) := htb7
      have hs04 := hw04.size
      have hs5 := hw5.size
      have hc47 : Chg None' w4 w7 := (hw5.trans hw6).since hs7 (fun z hz e => by omega)
      have hw07 := hw04.trans hc47
      have h7 := h4.grow hc47
      refine Goes.no hTT rfl rfl rfl ?_
      refine Goes.loadb hTT rfl htb7 rfl rfl ?_
      refine Goes.loadb hTT rfl htb7 rfl rfl ?_
      have dO := st_Owner fr fa h7
      rw [m3] at dO
      refine Goes.call rfl (dO) ?_
      rintro _ _ ⟨rfl, rfl⟩
      refine Goes.adv hTT 400 rfl ?_
      refine Goes.loadb hTT rfl htb7 rfl rfl ?_
      refine Goes.loadb hTT rfl htb7 rfl rfl ?_
      have dF := st_Owner to ta h7
      rw [m5] at dF
      refine Goes.call rfl (dF) ?_
      rintro _ _ ⟨rfl, rfl⟩
      refine Goes.adv hTT 400 rfl ?_
      refine Goes.call rfl (st_Open h7) ?_
      rintro _ _ ⟨rfl, rfl⟩
      refine Goes.adv hTT 400 rfl ?_
      refine Goes.call rfl (st_Used h7) ?_
      rintro _ _ ⟨rfl, rfl⟩
      refine Goes.adv hTT 400 rfl ?_
      rw [show (if (0 : Int) > ow then 0 else ow) = ow from if_neg (by omega)]
      have dT := st_Take ow h7
      rw [m6, m7, m8] at dT
      refine Goes.call rfl (dT) ?_
      rintro _ w8 ⟨rfl, h8, hc8⟩
      refine Goes.adv hTT 400 rfl ?_
      have hs47 := hc47.size
      have htbF : ¬ F tb := fun h => by have := hF tb h; omega
      have htb8 := hc8.heap htb7 htbF
      have htbF8 : ¬ growF F w7 w8 tb := fun h => by
        rcases h with h | h
        · exact htbF h
        · have := lt_of_heap htb7; omega
      have hF8 := growF_in (fun z hz => by have := hF z hz; exact (⟨this.1, by omega⟩ : w.heap.size ≤ z ∧ z < w7.heap.size)) hw07.size hc8.size
      have hw08 : Chg None' w w8 := hw07.since hc8 (fun z hz h => by have := hF z h; omega)
      refine Goes.loadb hTT rfl htb8 rfl rfl ?_
      refine Goes.loadb hTT rfl htb8 rfl rfl ?_
      have dG := st_Give fr fa h8
      rw [m9] at dG
      refine Goes.call rfl (dG) ?_
      rintro _ w9 ⟨rfl, h9, hc9⟩
      refine Goes.adv hTT 400 rfl ?_
      have htb9 := hc9.heap htb8 htbF8
      have hw09 : Chg None' w w9 := hw08.since hc9 (fun z hz h => by have := hF8 z h; omega)
      refine Goes.yes hTT rfl rfl rfl ?_
      refine Goes.loadb hTT rfl htb9 rfl rfl ?_
      refine Goes.loadb hTT rfl htb9 rfl rfl ?_
      refine Goes.yes hTT rfl (by simp; omega) rfl ?_
      refine Goes.yes hTT rfl (decide_eq_true (by omega)) rfl ?_
      refine Goes.yes hTT rfl rfl rfl ?_
      refine Goes.yes hTT rfl rfl rfl ?_
      refine Goes.loadb hTT rfl htb9 rfl rfl ?_
      refine Goes.yes hTT rfl (beq_self_eq_true _) rfl ?_
      refine Goes.loadb hTT rfl htb9 rfl rfl ?_
      refine Goes.yes hTT rfl (beq_self_eq_true _) rfl ?_
      refine Goes.yes hTT rfl rfl rfl ?_
      refine Goes.call rfl (st_Open h9) ?_
      rintro _ _ ⟨rfl, rfl⟩
      refine Goes.adv hTT 400 rfl ?_
      refine Goes.yes hTT rfl (decide_eq_true (by omega)) rfl ?_
      refine Goes.call rfl (st_Used h9) ?_
      rintro _ _ ⟨rfl, rfl⟩
      refine Goes.adv hTT 400 rfl ?_
      exact Goes.ret1 hTT rfl Tryd.func5 rfl rfl ⟨bool_v (by rw [m11]; exact beq_self_eq_true _), hw09⟩
    · have d5 := st_Plan h4
      rw [show shPlanL x = planL 0 0 0 0 from if_neg h2, show shPlanB x = false from decide_eq_false h2] at d5
      refine Goes.call rfl (d5) ?_
      rintro _ w5 ⟨rfl, hw5⟩
      refine Goes.adv hTT 400 rfl ?_
      refine Goes.alloc hTT rfl ?_
      intro tb w6 e6 htb hw6 hz6
      refine Goes.adv hTT 400 rfl ?_
      refine Goes.store hTT rfl htb rfl rfl ?_
      intro w7 htb7 hs7 hz7
      refine Goes.adv hTT 400 rfl ?_
      have hs04 := hw04.size
      have hs5 := hw5.size
      have hc47 : Chg None' w4 w7 := (hw5.trans hw6).since hs7 (fun z hz e => by omega)
      have hw07 := hw04.trans hc47
      have h7 := h4.grow hc47
      refine Goes.yes hTT rfl rfl rfl ?_
      refine Goes.yes hTT rfl rfl rfl ?_
      refine Goes.call rfl (st_Open h7) ?_
      rintro _ _ ⟨rfl, rfl⟩
      refine Goes.adv hTT 400 rfl ?_
      refine Goes.yes hTT rfl (decide_eq_true (by omega)) rfl ?_
      refine Goes.loads hTT rfl htb7 rfl rfl ?_
      refine Goes.build hTT rfl rfl ?_
      refine Goes.aggeq hTT rfl (by kernel_rfl) (eq_plan 0 0 0 0 0 0 0 0 _) rfl ?_
      exact Goes.ret1 hTT rfl Tryd.func5 rfl rfl ⟨rfl, hw07⟩
end Go.Proofs.YtdmedllaackbaaaDoor
/-
  What the row's condition says of Go's own table: its cells.
-/
namespace Go.Proofs.YtdmedllaackbaaaDoor
open Go.ChangeShapes Go.WideShapes Go.ChangeAt Go.RowKit

def laidL : List (String × DataW Unit) := [("math/bits.deBruijn64tab", Rows.laid_math_bits_deBruijn64tab)]
theorem laid_deB : (Rows.laid_math_bits_deBruijn64tab : DataW Unit) = .agg (deB.map fun n : Nat => .lit (.int .u8 (n : Int))) := by rfl
theorem tab_of_laid {W : World} (h : laidMetH Tryd.prog laidL W) : TabAt W := fun r hr => by
  rw [MakeChecks.laidMetH_plain _ _ _ (by kernel_rfl)] at h
  obtain ⟨ps, ⟨g, t, cs, fuel, p, q, hg, ht, hv, hd, _, _⟩, _, _⟩ := h
  obtain rfl := Option.some.inj ((show Tryd.prog.globalNamed "math/bits.deBruijn64tab" = some 0 by kernel_rfl).symm.trans hg)
  obtain rfl := Option.some.inj ((show (Tryd.prog.globals[0]?).map (·.type) = some 135 by kernel_rfl).symm.trans ht)
  rw [laid_deB] at hd
  obtain ⟨xs, m, _, ex, _, hl, hel⟩ := DataW.trod_array Tryd.underlying135 hd
  have c5 : Tryd.prog.cellsOf 5 = 1 := by kernel_rfl
  have hE := hel r hr
  rw [c5, Nat.mul_one, List.getElem?_eq_getElem (by omega)] at hE
  obtain ⟨z, e1, e2, _⟩ := DataW.trod_int Tryd.underlying5 hE
  have hlen : deB.length = 64 := rfl
  have e3 : (xs.map (·.1)) = deB.map fun n : Nat => .lit (.int .u8 (n : Int)) := (DataW.agg.inj (Prod.mk.inj ex).1).symm
  have e4 : (xs.map (·.1))[r]? = (deB.map fun n : Nat => (DataW.lit (.int .u8 (n : Int)) : DataW Unit))[r]? := by rw [e3]
  rw [List.getElem?_map, List.getElem?_map, List.getElem?_eq_getElem (by omega : r < xs.length), List.getElem?_eq_getElem (by omega : r < deB.length), e2] at e4
  have hz : z = (deB.getD r 0 : Nat) := by
    simp only [Option.map_some, Option.some.injEq, DataW.lit.injEq, Lit.int.injEq, true_and] at e4
    rw [e4, List.getD, List.getElem?_eq_getElem (by omega : r < deB.length)]; rfl
  rw [World.var?_cell hg hv r, ← hz]
  have : cs.toList[r]? = some (.int .u8 z) := by
    have h0 : ((cs.toList.drop r).take 1)[0]? = some (.int .u8 z) := by rw [e1]; rfl
    simpa using h0
  simpa using this
end Go.Proofs.YtdmedllaackbaaaDoor
