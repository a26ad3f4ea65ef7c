/-
  Texts put together: Open, OpenRows, Laws13b, Ref13, Ref13b, Ref13c, Ref13d, Ref13e, Ref13f, Laws13c, Laws13d, Laws13e, Laws13f, Laws13g, Tied.
-/
import Derived.Test.YtdmedllaackbaaaDoorPt2
import Derived.Test.YtdmedllaackbaaaDoorRows
import Derived.Test.YtdmedllaackbaaaDoorBase
import Derived.OpenShut
import Derived.ShutString
import Derived.ChangeOld
import Derived.Deep.Slices
import Derived.Test.YtdmedllaackbaaaDoorTie
import Derived.Test.YtdmedllaackbaaaDoorCards
import Derived.ProofKit
import Derived.LaidMore
import Derived.Lay
import Derived.SevenTiedAt
import Derived.Stop.Joined
set_option linter.unusedVariables false
/-
  What every claim of this seat needs: no switch of its own, and what the text lays.
-/
namespace Go.Proofs.YtdmedllaackbaaaDoor
open Go.RowKit

theorem own : ownKnob Tryd.prog.godebug = none := by kernel_rfl
theorem laidOut : laidOutB Tryd.prog = true := by kernel_rfl
end Go.Proofs.YtdmedllaackbaaaDoor
/-
  Arguments that came in: bounds of numbers, slices of elements.
-/
namespace Go.Proofs.YtdmedllaackbaaaDoor
open Go.ChangeShapes Go.WideShapes Go.ChangeAt Go.RowKit

theorem inU8_of_wf {n : Int} (h : (Lit.int .u8 n).wf = true) : 0 ≤ n ∧ n < 256 := by
  have h' : 0 ≤ n ∧ n ≤ 255 := by simp only [Lit.wf, Bool.and_eq_true, decide_eq_true_eq] at h; exact h
  omega
theorem inU16_of_wf {n : Int} (h : (Lit.int .u16 n).wf = true) : 0 ≤ n ∧ n < 65536 := by
  have h' : 0 ≤ n ∧ n ≤ 65535 := by simp only [Lit.wf, Bool.and_eq_true, decide_eq_true_eq] at h; exact h
  omega
theorem inU32_of_wf {n : Int} (h : (Lit.int .u32 n).wf = true) : 0 ≤ n ∧ n < 4294967296 := by
  have h' : 0 ≤ n ∧ n ≤ 4294967295 := by simp only [Lit.wf, Bool.and_eq_true, decide_eq_true_eq] at h; exact h
  omega
theorem inI64_of_wf {n : Int} (h : (Lit.int .i64 n).wf = true) : -9223372036854775808 ≤ n ∧ n ≤ 9223372036854775807 := by
  simp only [Lit.wf, Bool.and_eq_true, decide_eq_true_eq] at h
  exact h
section
variable {H : Type} {enc : TypeId × Value → H} {w : World} {base b0 : Nat} {r : Go.Reach} {spare : Nat → Bool} {held : Bool} {P : Program}
theorem spot_none {w : World} {b off : Nat} {q : Option _} {v : Value} (h : w.cell? ⟨b, off, q⟩ = some v) : q = none := by
  cases q with
  | none => rfl
  | some q =>
    exfalso
    simp only [World.cell?] at h
    split at h <;> simp at h
/-- A slice of elements that came in. -/
theorem open_rows {α : Type} {cells : α → List Value} {Ok : α → Prop} {t e sz fuel : Nat} {cs : List Value} {x : DataW H × List MemPlace} (ht : P.underlying t = some (.slice e)) (hsz : P.cellsOf e = sz) (h0 : 0 < sz)
    (hopen : ∀ n cs y, DataW.trod enc P w base spare held n e cs = some y → ∃ v, cs = cells v ∧ Ok v) (h : DataW.trod enc P w base spare held fuel t cs = some x) :
    ∃ a cap xs, cs = [.slice a xs.length cap] ∧ Rows cells sz w a xs ∧ (∀ x ∈ xs, Ok x) ∧ xs.length ≤ cap ∧ cap ≤ maxLen := by
  rcases Go.Deep.open_slice ht h with ⟨hcs, _⟩ | ⟨a, len, cap, m, n, D, Pl, hcs, _, hl, hm, hmm, _, hi⟩
  · exact ⟨none, 0, [], hcs, (fun i x hx => by simp at hx), (fun x hx => by cases hx), Nat.le_refl _, by decide⟩
  · have hle : len ≤ m := by rw [hmm]; split <;> omega
    have hv : ∀ i : Fin len, ∃ v, Ok v ∧ w.cells? base (a.add (i * sz)) sz = some (cells v) := fun i => by
      obtain ⟨cs', h1, h2⟩ := hi i (by omega)
      obtain ⟨v, rfl, hok⟩ := hopen n cs' _ h2
      rw [hsz] at h1
      exact ⟨v, hok, h1⟩
    let f : Fin len → α := fun i => Classical.choose (hv i)
    have hf : ∀ i, Ok (f i) ∧ w.cells? base (a.add (i * sz)) sz = some (cells (f i)) := fun i => Classical.choose_spec (hv i)
    have hlen : (List.ofFn f).length = len := List.length_ofFn
    refine ⟨some a, cap, List.ofFn f, by rw [hlen]; exact hcs, fun i x hx => ?_, fun x hx => ?_, by rw [hlen]; exact hl, hm⟩
    · rw [List.getElem?_ofFn] at hx
      split at hx
      · rename_i hil
        cases hx
        obtain ⟨_, hcl, hat⟩ := World.cells?_some (hf ⟨i, hil⟩).2
        have h00 := hi 0 (by omega)
        obtain ⟨cs0, h1, _⟩ := h00
        obtain ⟨_, hcl0, hat0⟩ := World.cells?_some h1
        have hc0 := hat0 0 (by omega)
        obtain ⟨b, off, q⟩ := a
        have hq : q = none := by
          rw [List.getElem?_eq_getElem (by omega)] at hc0
          simp only [Nat.zero_mul, Addr.add, if_true] at hc0
          exact spot_none hc0
        subst hq
        refine ⟨b, off, rfl, fun j v hv => ?_⟩
        have hj : j < sz := by
          have := (List.getElem?_eq_some_iff.1 hv).1
          omega
        have := hat j hj
        rw [hv, add_off, add_off] at this
        exact this
      · cases hx
    · rw [List.mem_ofFn] at hx
      obtain ⟨i, rfl⟩ := hx
      exact (hf i).1
end
end Go.Proofs.YtdmedllaackbaaaDoor
/-
  Layer 13: an act on a shelf; how many pages there are.
-/
namespace Go.Proofs.YtdmedllaackbaaaDoor
open Go.RowKit

structure Act13 where
  kind : Int
  page : Int
  at' : Int
  who : Int
def act13L (u : Act13) : List Value := [.int .u8 u.kind, .int .i64 u.page, .int .i64 u.at', .int .i64 u.who]
def do13X (x : Sm) (pl : PlM) (u : Act13) : Sm := if u.kind % 3 = 0 then shTake x pl u.who else if u.kind % 3 = 1 then shGive x u.page u.at' else shOwn x u.page u.at' u.who
def do13P (x : Sm) (pl : PlM) (u : Act13) : PlM := if u.kind % 3 = 0 then shTakeP x pl u.who else if u.kind % 3 = 1 then shGiveP x pl u.page u.at' else pl
def do13N (x : Sm) (pl : PlM) (u : Act13) : Int := if u.kind % 3 = 0 then shTakeN x pl u.who else 0
def do13A (x : Sm) (pl : PlM) (u : Act13) : Int := if u.kind % 3 = 0 then shTakeA x pl u.who else 0
def do13E (x : Sm) (pl : PlM) (u : Act13) : Int := if u.kind % 3 = 0 then shTakeE x pl u.who else if u.kind % 3 = 1 then shGiveE x u.page u.at' else shOwnE x u.page u.at' u.who
theorem ShSt.mono {F F' : Nat → Prop} {w : World} {S : Sh} {x : Sm} {pl : PlM} (h : ShSt F w S x pl) (hF : ∀ z, F z → F' z) : ShSt F' w S x pl := by
  obtain ⟨G, a, b⟩ := h
  exact ⟨G, a, fun z hz => hF z (b z hz)⟩
theorem law13_do {F : Nat → Prop} {S : Sh} {x : Sm} {pl : PlM} (u : Act13) (w : World) (h : ShSt F w S x pl) (hk : 0 ≤ u.kind ∧ u.kind < 256) : Does Tryd.prog 16 #[sfV S, .agg (act13L u).toArray] w
    (fun v w' => v = .tuple #[.int .i64 (do13N x pl u), .int .i64 (do13A x pl u), .int .i64 (do13E x pl u)] ∧ ShSt (growF F w w') w' S (do13X x pl u) (do13P x pl u) ∧ Chg F w w') := by
  unfold do13N do13A do13E do13X do13P
  refine Does.enter Tryd.func16 rfl Tryd.ntmps16 rfl rfl ?_
  refine Goes.adv hTT 400 rfl ?_
  refine Goes.alloc hTT rfl ?_
  intro ub w1 e1 hub hw1 hz1
  refine Goes.adv hTT 400 rfl ?_
  replace hub : w1.heap[ub]? = some (.cells (act13L u).toArray 41 (0, 0)) := hub
  have h1 := h.grow hw1
  have hc1 : Chg F w w1 := hw1.mono fun _ _ h => h.elim
  have hs1 := hw1.size
  refine Goes.loadb hTT rfl hub rfl rfl ?_
  refine Goes.div hTT rfl (by omega) (rem_ (by omega)) rfl ?_
  refine Goes.fork hTT rfl rfl rfl (fun h0 => ?_) (fun h0 => ?_)
  · have g0 : u.kind % 3 = 0 := by simpa using h0
    simp only [if_pos g0]
    refine Goes.loadb hTT rfl hub rfl rfl ?_
    refine Goes.call rfl (st_Take u.who h1) ?_
    rintro _ w2 ⟨rfl, h2, hc2⟩
    refine Goes.adv hTT 400 rfl ?_
    exact Goes.ret hTT rfl Tryd.func16 (ResOk.tmp rfl (.tmp rfl (.tmp rfl .nil))) ⟨rfl, h2.mono (fun z hz => hz.imp id (fun h => ⟨by omega, h.2⟩)), hc1.trans hc2⟩
  have g0 : ¬ u.kind % 3 = 0 := by simpa using h0
  simp only [if_neg g0]
  refine Goes.fork hTT rfl rfl rfl (fun h2 => ?_) (fun h2 => ?_)
  · have g1 : u.kind % 3 = 1 := by simpa using h2
    simp only [if_pos g1]
    refine Goes.loadb hTT rfl hub rfl rfl ?_
    refine Goes.loadb hTT rfl hub rfl rfl ?_
    refine Goes.call rfl (st_Give u.page u.at' h1) ?_
    rintro _ w2 ⟨rfl, h2, hc2⟩
    refine Goes.adv hTT 400 rfl ?_
    exact Goes.ret hTT rfl Tryd.func16 (ResOk.tmp rfl (.tmp rfl (.tmp rfl .nil))) ⟨rfl, h2.mono (fun z hz => .inl hz), hc1.trans hc2⟩
  · have g1 : ¬ u.kind % 3 = 1 := by simpa using h2
    simp only [if_neg g1]
    refine Goes.loadb hTT rfl hub rfl rfl ?_
    refine Goes.loadb hTT rfl hub rfl rfl ?_
    refine Goes.loadb hTT rfl hub rfl rfl ?_
    refine Goes.call rfl (st_Own u.page u.at' u.who h1) ?_
    rintro _ w2 ⟨rfl, h2, hc2⟩
    refine Goes.adv hTT 400 rfl ?_
    exact Goes.ret hTT rfl Tryd.func16 (ResOk.tmp rfl (.tmp rfl (.tmp rfl .nil))) ⟨rfl, h2.mono (fun z hz => .inl hz), hc1.trans hc2⟩
/-! ### How many -/
theorem ShSt.ok {F : Nat → Prop} {w : World} {S : Sh} {x : Sm} {pl : PlM} (h : ShSt F w S x pl) : x.Ok ∧ x.Pos ∧ x.Of pl ∧ pl.Good := by
  obtain ⟨G, a, _⟩ := h
  exact ⟨a.ok, a.pos, a.of, a.pool.good⟩
theorem smSet_length (l : PgL) (n : Nat) (p : List Int) : (smSet l n p).length = l.length := by unfold smSet; simp
/-- What is taken: what a shelf becomes. -/
theorem shTake_cases (x : Sm) (pl : PlM) (who : Int) : (shTakeE x pl who ≠ 0 ∧ shTake x pl who = x ∧ shTakeP x pl who = pl) ∨
    (shTakeE x pl who = 0 ∧ 0 ≤ who ∧ ((∃ n r, x.opn = n :: r ∧ shTake x pl who = x.takeAt n (shP x pl) who ∧ shTakeP x pl who = pl ∧ shP x pl = (smGet x.pg n).getD [] ∧ shTakeN x pl who = n ∧ shTakeA x pl who = pgHole (shP x pl)) ∨
      (∃ n r, x.opn = [] ∧ pl.free = n :: r ∧ shTake x pl who = (x.fresh n).takeAt n (shP x pl) who ∧ shTakeP x pl who = pl.take x.cls ∧ shP x pl = (smGet (x.fresh n).pg n).getD [] ∧ shTakeN x pl who = n ∧ shTakeA x pl who = pgHole (shP x pl)))) := by
  by_cases hE : shTakeE x pl who = 0
  · refine .inr ⟨hE, ?_, ?_⟩
    · unfold shTakeE at hE
      split at hE
      · cases hE
      · omega
    · have e1 : shTake x pl who = (shPre x pl).takeAt (shPage x pl) (shP x pl) who := by unfold shTake; rw [if_pos hE]
      have e2 : shTakeP x pl who = shPl x pl := by unfold shTakeP; rw [if_pos hE]
      have e3 : shTakeN x pl who = shPage x pl := by unfold shTakeN; rw [if_pos hE]
      have e4 : shTakeA x pl who = pgHole (shP x pl) := by unfold shTakeA; rw [if_pos hE]
      have e5 : shP x pl = (smGet (shPre x pl).pg (shPage x pl)).getD [] := rfl
      cases ho : x.opn with
      | cons n r =>
        have a1 : shPre x pl = x := by unfold shPre; rw [ho]
        have a2 : shPage x pl = n := by unfold shPage; rw [ho]
        have a3 : shPl x pl = pl := by unfold shPl; rw [ho]
        refine .inl ⟨n, r, rfl, ?_, ?_, ?_, ?_, e4⟩
        · rw [e1, a1, a2]
        · rw [e2, a3]
        · rw [e5, a1, a2]
        · rw [e3, a2]
      | nil =>
        cases hf : pl.free with
        | nil =>
          unfold shTakeE at hE
          split at hE
          · cases hE
          · rw [if_pos (by rw [ho, hf]; exact ⟨rfl, rfl⟩)] at hE; cases hE
        | cons n r =>
          have a1 : shPre x pl = x.fresh n := by unfold shPre; rw [ho, hf]; rfl
          have a2 : shPage x pl = n := by unfold shPage; rw [ho, hf]; rfl
          have a3 : shPl x pl = pl.take x.cls := by unfold shPl; rw [ho]
          refine .inr ⟨n, r, rfl, rfl, ?_, ?_, ?_, ?_, e4⟩
          · rw [e1, a1, a2]
          · rw [e2, a3]
          · rw [e5, a1, a2]
          · rw [e3, a2]
  · exact .inl ⟨hE, by unfold shTake; rw [if_neg hE], by unfold shTakeP; rw [if_neg hE]⟩
/-- All pages that are held are this shelf's. -/
def Cnt (x : Sm) (pl : PlM) : Prop := pgUsed pl.own = x.pg.length
theorem takeAt_blocks (x : Sm) (n : Nat) (p : List Int) (who : Int) : (x.takeAt n p who).blocks = x.blocks := rfl
theorem do13_blocks (x : Sm) (pl : PlM) (u : Act13) : (do13X x pl u).blocks = x.blocks := by
  unfold do13X
  split
  · rcases shTake_cases x pl u.who with ⟨_, h, _⟩ | ⟨_, _, ⟨n, r, _, h, _⟩ | ⟨n, r, _, _, h, _⟩⟩ <;> rw [h] <;> rfl
  · split
    · unfold shGive
      split
      · split
        · unfold Sm.giveAt; simp only; split <;> rfl
        · rfl
      · rfl
    · unfold shOwn
      split <;> rfl
theorem Cnt.do13 {x : Sm} {pl : PlM} {u : Act13} (h : Cnt x pl) (hok : x.Ok) (hof : x.Of pl) (hg : pl.Good) : Cnt (do13X x pl u) (do13P x pl u) := by
  unfold Cnt do13X do13P at *
  split
  · rcases shTake_cases x pl u.who with ⟨_, h1, h2⟩ | ⟨_, _, ⟨n, r, _, h1, h2, _⟩ | ⟨n, r, _, hf, h1, h2, _⟩⟩
    · rw [h1, h2]; exact h
    · rw [h1, h2]; show _ = (smSet _ _ _).length; rw [smSet_length]; exact h
    · rw [h1, h2]
      show _ = (smSet (x.pg ++ _) _ _).length
      rw [smSet_length, List.length_append]
      obtain ⟨hn, ho⟩ := hg.free n (by rw [hf]; simp)
      have := pgUsed_set (v := x.cls) hn
      have hcl := hok.cls
      rw [if_pos ho, if_neg (by omega)] at this
      have e : (pl.take x.cls).own = pl.own.set n x.cls := by unfold PlM.take; rw [hf]
      rw [e]
      simp only [List.length_cons, List.length_nil]
      omega
  · split
    · unfold shGive shGiveP
      split
      · rename_i p hp
        obtain ⟨k, hk, hm⟩ := smGet_some hp
        rw [hk]
        by_cases hE : pgGiveE p u.at' = 0
        · simp only [hE, if_true, true_and, Int.toNat_natCast]
          unfold Sm.giveAt
          simp only
          by_cases hz : pgUsed (pgGive p u.at') = 0
          · rw [if_pos hz, if_pos hz]
            obtain ⟨hn, ho⟩ := hof _ hm
            simp only at hn ho
            have hcl := hok.cls
            have := pgUsed_set (v := -1) hn
            rw [if_neg (by omega), if_pos rfl] at this
            have hd := (smUsed_del hok.nodup hm).2
            show pgUsed (pl.own.set k (-1)) = (smDel x.pg k).length
            omega
          · rw [if_neg hz, if_neg hz]
            show _ = (smSet _ _ _).length
            rw [smSet_length]; exact h
        · simp only [hE, if_false, false_and]; exact h
      · exact h
    · unfold shOwn
      split
      · show _ = (smSet _ _ _).length
        rw [smSet_length]; exact h
      · exact h
theorem nodup_sub : ∀ (l l' : List Nat), l.Nodup → (∀ a ∈ l, a ∈ l') → l.length ≤ l'.length
  | [], _, _, _ => Nat.zero_le _
  | a :: r, l', hn, h => by
    obtain ⟨h1, h2⟩ := List.nodup_cons.1 hn
    have ha := h a (by simp)
    have ih := nodup_sub r (l'.erase a) h2 (fun b hb => by
      have : b ≠ a := fun e => h1 (e ▸ hb)
      exact (List.mem_erase_of_ne this).2 (h b (by simp [hb])))
    rw [List.length_erase_of_mem ha] at ih
    have := List.length_pos_of_mem ha
    simp only [List.length_cons]
    omega
def cntOpen (b : Nat) : PgL → Nat
  | [] => 0
  | (_, p) :: r => (if pgUsed p ≠ b then 1 else 0) + cntOpen b r
theorem cntOpen_filter (b : Nat) : ∀ (l : PgL), cntOpen b l = (l.filter fun e => decide (pgUsed e.2 ≠ b)).length
  | [] => rfl
  | (a, p) :: r => by
    rw [List.filter_cons]
    unfold cntOpen
    rw [cntOpen_filter b r]
    by_cases h : pgUsed p ≠ b
    · rw [if_pos h, if_pos (by simpa using h), List.length_cons]; omega
    · rw [if_neg h, if_neg (by simpa using h)]; omega
theorem open_count {x : Sm} (h : x.Ok) : x.opn.length = cntOpen x.blocks x.pg := by
  have hn : ((x.pg.filter fun e => decide (pgUsed e.2 ≠ x.blocks)).map (·.1)).Nodup := h.nodup.sublist (List.filter_sublist.map _)
  have e1 : ((x.pg.filter fun e => decide (pgUsed e.2 ≠ x.blocks)).map (·.1)).length = (x.pg.filter fun e => decide (pgUsed e.2 ≠ x.blocks)).length := by simp
  rw [cntOpen_filter, ← e1]
  refine Nat.le_antisymm (nodup_sub _ _ h.onodup fun n hm => ?_) (nodup_sub _ _ hn fun n hm => ?_)
  · obtain ⟨p, hp⟩ := h.osub n hm
    exact List.mem_map.2 ⟨(n, p), List.mem_filter.2 ⟨hp, by simpa using (h.each _ hp).2.2.1 hm⟩, rfl⟩
  · obtain ⟨e, he, rfl⟩ := List.mem_map.1 hm
    obtain ⟨h1, h2⟩ := List.mem_filter.1 he
    exact (h.each e h1).2.2.2 (by simpa using h2)
theorem pages_bounds {b : Nat} (hb : 1 ≤ b) : ∀ {l : PgL}, (∀ e ∈ l, e.2.length = b ∧ 0 < pgUsed e.2) → smUsed l + cntOpen b l ≤ l.length * b ∧ l.length * b + cntOpen b l ≤ smUsed l + cntOpen b l * b ∧ l.length ≤ smUsed l
  | [], _ => by simp [smUsed, cntOpen]
  | (a, p) :: r, h => by
    obtain ⟨i1, i2, i3⟩ := pages_bounds hb (l := r) (fun e he => h e (by simp [he]))
    obtain ⟨h1, h2⟩ := h (a, p) (by simp)
    have h3 := pgUsed_le p
    simp only at h1 h2 h3
    simp only [smUsed, cntOpen, List.length_cons, Nat.succ_mul]
    by_cases hf : pgUsed p = b
    · rw [if_neg (by simpa using hf)]
      simp only [Nat.zero_add]
      omega
    · rw [if_pos hf, Nat.add_mul, Nat.one_mul]
      omega
theorem need_bounds {N O U b : Nat} (hb : 1 ≤ b) (h1 : U + O ≤ N * b) (h2 : N * b + O ≤ U + O * b) : (U + b - 1) / b ≤ N ∧ N ≤ (U + b - 1) / b + (O - 1) ∧ (O = 0 ↔ N * b = U) := by
  obtain ⟨q, hq⟩ : ∃ q, q = (U + b - 1) / b := ⟨_, rfl⟩
  have a1 : q * b ≤ U + b - 1 := by rw [hq]; exact Nat.div_mul_le_self _ _
  have a2 : U + b - 1 < q * b + b := by
    have := Nat.lt_div_mul_add (a := U + b - 1) (show 0 < b by omega)
    rw [← hq] at this; exact this
  rw [← hq]
  refine ⟨?_, ?_, ?_⟩
  · refine Nat.le_of_not_lt fun h => ?_
    have : (N + 1) * b ≤ q * b := Nat.mul_le_mul_right _ h
    rw [Nat.add_mul, Nat.one_mul] at this
    omega
  · refine Nat.le_of_not_lt fun h => ?_
    by_cases hO : O = 0
    · subst hO
      have : (q + 1) * b ≤ N * b := Nat.mul_le_mul_right _ (by omega)
      rw [Nat.add_mul, Nat.one_mul] at this
      omega
    · have : (q + O) * b ≤ N * b := Nat.mul_le_mul_right _ (by omega)
      rw [Nat.add_mul] at this
      omega
  · constructor
    · intro h; subst h; omega
    · intro h; omega
end Go.Proofs.YtdmedllaackbaaaDoor
/-
  Layer 13: what the document says of a shelf.
-/
namespace Go.Proofs.YtdmedllaackbaaaDoor
open Go.RowKit

/-- The document's shelf. -/
structure RS where
  p : RP
  cls : Int
  blocks : Nat
  nums : IL
  pa : Option Addr
  pcap : Nat
  ps : List IL
  opn : IL
def rsL (r : RS) : List Value := [ilV r.p.o, ilV r.p.f, .int .i64 r.cls, .int .i64 (r.blocks : Int), ilV r.nums, .slice r.pa r.ps.length r.pcap, ilV r.opn]
/-- A slice of lists. -/
def RdP (w : World) (a : Option Addr) (ps : List IL) : Prop := ∀ (i : Nat) (l : IL), ps[i]? = some l → ∃ b off, a = some ⟨b, off, none⟩ ∧ w.cell? ⟨b, off + i, none⟩ = some (ilV l)
theorem RdP.grow {w w' : World} {a : Option Addr} {ps : List IL} (h : RdP w a ps) (hc : Chg None' w w') : RdP w' a ps := fun i l hl => by
  obtain ⟨b, off, e, hcell⟩ := h i l hl
  exact ⟨b, off, e, hc.cell hcell id⟩
theorem RdP.far {w w' : World} {a : Option Addr} {ps : List IL} {S : Nat → Prop} (h : RdP w a ps) (hs : OutA S a) (hc : Chg S w w') : RdP w' a ps := fun i l hl => by
  obtain ⟨b, off, e, hcell⟩ := h i l hl
  exact ⟨b, off, e, hc.cell hcell (hs b off none e)⟩
theorem RdP.noneA {w : World} {a : Option Addr} {ps : List IL} (h : RdP w a ps) : a = none → ps.length = 0 := fun e => by
  cases ps with
  | nil => rfl
  | cons l r =>
    obtain ⟨b, off, e', _⟩ := h 0 l rfl
    rw [e] at e'; cases e'
theorem RdP.cellsA {w : World} {a : Option Addr} {ps : List IL} (h : RdP w a ps) : ∀ i u, (ps.map ilV)[i]? = some u → ∃ a', a = some a' ∧ w.cell? (a'.add i) = some u := fun i u hu => by
  rw [List.getElem?_map, Option.map_eq_some_iff] at hu
  obtain ⟨l, hl, rfl⟩ := hu
  obtain ⟨b, off, rfl, hc⟩ := h i l hl
  exact ⟨_, rfl, by rw [add_off]; exact hc⟩
theorem plain_il {ps : List IL} : ∀ u ∈ ps.map ilV, u.oneCell' = true := fun u hu => by
  obtain ⟨l, _, rfl⟩ := List.mem_map.1 hu
  rfl
theorem Own.pl {base m : Nat} {w : World} {v : Value} {ps : List IL} (h : Own base 30 1 w v m (ps.map ilV)) (hm : ps.length = m) :
    ∃ pa pcap, v = .slice pa ps.length pcap ∧ RdP w pa ps ∧ ALt w pa ∧ ps.length ≤ pcap ∧ ∀ b off s, pa = some ⟨b, off, s⟩ → base ≤ b := by
  rcases h.2 with ⟨rfl, h2⟩ | ⟨g, cap, cur, rfl, hg, hh, hcap, hm2, _, hx2⟩
  · have : ps = [] := List.length_eq_zero_iff.1 (by omega)
    subst this
    exact ⟨none, 0, rfl, (fun i l hl => by simp at hl), (by intro b off s e; cases e), Nat.le_refl _, (by intro b off s e; cases e)⟩
  · subst hm
    refine ⟨some ⟨g, 0, none⟩, cap, rfl, fun i l hl => ⟨g, 0, rfl, ?_⟩, (by intro b off s e; cases e; exact lt_of_heap hh), hcap, (by intro b off s e; cases e; exact hg)⟩
    have hi : i < ps.length := (List.getElem?_eq_some_iff.1 hl).1
    have h1 : (cur.toList.take ps.length)[i]? = (ps.map ilV)[i]? := by rw [← hx2, Nat.mul_one]
    rw [List.getElem?_take, if_pos hi, List.getElem?_map, hl] at h1
    rw [cell_of hh, Nat.zero_add, ← Array.getElem?_toList, h1]
    rfl
/-- A page's owners. -/
structure IlY (w : World) (l : IL) : Prop where
  ok : IlOk w l
  lt : ALt w l.a
theorem IlY.grow {w w' : World} {l : IL} (h : IlY w l) (hc : Chg None' w w') : IlY w' l := ⟨h.ok.grow hc, h.lt.grow hc.size⟩
theorem IlY.far {w w' : World} {l : IL} {S : Nat → Prop} (h : IlY w l) (hs : OutA S l.a) (hc : Chg S w w') : IlY w' l := ⟨h.ok.far hs hc, h.lt.grow hc.size⟩
theorem IlY.of {w : World} {l : IL} (h : IlOk w l) (hp : 0 < l.x.length) : IlY w l := ⟨h, fun b off s e => by
  obtain ⟨b', off', e', hc⟩ := h.rd 0 hp
  rw [e] at e'; cases e'
  exact World.block_lt_of_cell? w _ hc⟩
theorem Newer.outS {w : World} {a a' : Option Addr} {S : Nat → Prop} (h : Newer w a a') (ha : OutA S a) (hs : ∀ z, S z → z < w.heap.size) : OutA S a' := by
  rcases h with rfl | ⟨g, off, rfl, hg⟩
  · exact ha
  · intro b off' s e hb
    cases e
    have := hs _ hb
    omega
structure RsOk (w : World) (r : RS) (x : Sm) (pl : PlM) : Prop where
  p : RpOk w r.p pl
  nums : IlX w r.nums
  opn : IlX w r.opn
  rp : RdP w r.pa r.ps
  plt : ALt w r.pa
  pcap : r.ps.length ≤ r.pcap
  each : ∀ l ∈ r.ps, IlY w l
  e1 : r.cls = x.cls
  e2 : r.blocks = x.blocks
  e3 : r.nums.x = x.pg.map (fun e => ((e.1 : Nat) : Int))
  e4 : r.ps.map (·.x) = x.pg.map (·.2)
  e5 : r.opn.x = x.opn.map (fun n : Nat => (n : Int))
structure RsOut (S : Nat → Prop) (r : RS) : Prop where
  o : OutA S r.p.o.a
  f : OutA S r.p.f.a
  nums : OutA S r.nums.a
  opn : OutA S r.opn.a
  pa : OutA S r.pa
  each : ∀ l ∈ r.ps, OutA S l.a
theorem RsOk.grow {w w' : World} {r : RS} {x : Sm} {pl : PlM} (h : RsOk w r x pl) (hc : Chg None' w w') : RsOk w' r x pl :=
  ⟨h.p.grow hc, h.nums.grow hc, h.opn.grow hc, h.rp.grow hc, h.plt.grow hc.size, h.pcap, fun l hl => (h.each l hl).grow hc, h.e1, h.e2, h.e3, h.e4, h.e5⟩
theorem RsOk.far {w w' : World} {r : RS} {x : Sm} {pl : PlM} {S : Nat → Prop} (h : RsOk w r x pl) (ho : RsOut S r) (hc : Chg S w w') : RsOk w' r x pl :=
  ⟨⟨h.p.o.far ho.o hc, h.p.f.far ho.f hc, h.p.eo, h.p.ef⟩, h.nums.far ho.nums hc, h.opn.far ho.opn hc, h.rp.far ho.pa hc, h.plt.grow hc.size, h.pcap, fun l hl => (h.each l hl).far (ho.each l hl) hc, h.e1, h.e2, h.e3, h.e4, h.e5⟩
theorem RsOk.out {w : World} {r : RS} {x : Sm} {pl : PlM} {S : Nat → Prop} (h : RsOk w r x pl) (hs : ∀ z, S z → w.heap.size ≤ z) : RsOut S r :=
  ⟨h.p.o.lt.out hs, h.p.f.lt.out hs, h.nums.lt.out hs, h.opn.lt.out hs, h.plt.out hs, fun l hl => (h.each l hl).lt.out hs⟩
/-- What lay outside of old blocks still does. -/
def Keep (w : World) (r r' : RS) : Prop := ∀ S : Nat → Prop, (∀ z, S z → z < w.heap.size) → RsOut S r → RsOut S r'
theorem Keep.refl (w : World) (r : RS) : Keep w r r := fun _ _ h => h
theorem Keep.trans {w w1 : World} {r r1 r2 : RS} (h : Keep w r r1) (h' : Keep w1 r1 r2) (hs : w.heap.size ≤ w1.heap.size) : Keep w r r2 := fun S hS ho =>
  h' S (fun z hz => by have := hS z hz; omega) (h S hS ho)
def posI (l : List Int) (n : Int) : Int := idx (fun m => m == n) l
theorem pos_cases {l : PgL} {n : Int} : (smGet l n = none ∧ posI (l.map fun e => ((e.1 : Nat) : Int)) n = -1) ∨ ∃ (i : Nat) (p : List Int) (m : Nat), n = m ∧ smGet l n = some p ∧ posI (l.map fun e => ((e.1 : Nat) : Int)) n = (i : Int) ∧ i < l.length ∧ l[i]? = some (m, p) := by
  cases hg : smGet l n with
  | none =>
    refine .inl ⟨rfl, idx_none (p := fun m => m == n) fun j hj => ?_⟩
    rw [List.getElem_map]
    have hj' : j < l.length := by simpa using hj
    have := smGet_none hg l[j] (List.getElem_mem hj')
    simpa using this
  | some p =>
    right
    have key : ∀ {l : PgL}, smGet l n = some p → ∃ (i m : Nat), n = m ∧ i < l.length ∧ l[i]? = some (m, p) ∧ ∀ (j : Nat) (h : j < l.length), j < i → ((l[j].1 : Nat) : Int) ≠ n := by
      intro l
      induction l with
      | nil => intro h; cases h
      | cons e r ih =>
        obtain ⟨a, q⟩ := e
        intro h
        unfold smGet at h
        by_cases ha : (a : Int) = n
        · rw [if_pos ha] at h; cases h
          exact ⟨0, a, ha.symm, by simp, rfl, fun j _ h => absurd h (Nat.not_lt_zero _)⟩
        · rw [if_neg ha] at h
          obtain ⟨i, m, h1, h2, h3, h4⟩ := ih h
          refine ⟨i + 1, m, h1, by simp; omega, by simpa using h3, fun j hj hji => ?_⟩
          cases j with
          | zero => exact ha
          | succ j => exact h4 j (by simpa using hj) (by omega)
    obtain ⟨i, m, h1, h2, h3, h4⟩ := key hg
    refine ⟨i, p, m, h1, rfl, idx_at (p := fun m => m == n) (by simpa using h2) (fun j hj hji => ?_) ?_, h2, h3⟩
    · rw [List.getElem_map]
      have := h4 j (by simpa using hj) hji
      simpa using this
    · rw [List.getElem_map]
      have : l[i] = (m, p) := by rw [List.getElem?_eq_getElem h2] at h3; exact Option.some.inj h3
      rw [this, h1]; simp
theorem ref13_find (r : RS) (n : Int) (w : World) (h : IlX w r.nums) : Does Tryd.prog 71 #[.agg (rsL r).toArray, .int .i64 n] w (Grow (.int .i64 (posI r.nums.x n)) w) := by
  have hl := h.ok.len
  refine Does.enter Tryd.func71 rfl Tryd.ntmps71 rfl rfl ?_
  refine Goes.adv hTT 400 rfl ?_
  refine Goes.alloc hTT rfl ?_
  intro rb w1 e1 hrb hw1 hz1
  refine Goes.adv hTT 400 rfl ?_
  replace hrb : w1.heap[rb]? = some (.cells (rsL r).toArray 54 (0, 0)) := hrb
  refine Goes.loop (α := Nat) (fun i => [(1, false, .int .i64 n), (2, false, .pointer (some ⟨rb, 0, none⟩)), (5, false, .int .i64 i)])
    (fun i w' => i ≤ r.nums.x.length ∧ Chg None' w1 w' ∧ ∀ (j : Nat) (h : j < r.nums.x.length), j < i → (r.nums.x[j] == n) = false) (fun i => r.nums.x.length - i) 0 ⟨rfl, rfl, rfl, trivial⟩ ⟨Nat.zero_le _, Chg.refl _ _, fun _ _ h => absurd h (Nat.not_lt_zero _)⟩ ?_
  rintro i w2 ⟨hi, hw2, hpre⟩ ih
  have hrb2 := hw2.heap' hrb
  refine Goes.adv hTT 400 rfl ?_
  refine Goes.loadb hTT rfl hrb2 rfl rfl ?_
  refine Goes.fork hTT rfl rfl rfl (fun hc => ?_) (fun hc => ?_)
  · have hlt : i < r.nums.x.length := by have := of_decide_eq_true hc; omega
    obtain ⟨b, off, ha, hcell⟩ := (h.ok.rd.chg (hw1.trans hw2)) i hlt
    obtain ⟨rp, cls, blocks, ⟨na, ncap, nx⟩, pa, pcap, ps, opn⟩ := r
    simp only at ha hcell hlt hpre hl hi
    subst ha
    replace hrb2 : w2.heap[rb]? = some (.cells ([ilV rp.o, ilV rp.f, .int .i64 cls, .int .i64 (blocks : Int), .slice (some ⟨b, off, none⟩) nx.length ncap, .slice pa ps.length pcap, ilV opn] : List Value).toArray 54 (0, 0)) := hrb2
    refine Goes.loadb hTT rfl hrb2 rfl rfl ?_
    refine Goes.index hTT rfl (j := i) (by omega) (by omega) (by first | rfl | omega | (simp; done) | (simp; omega)) rfl ?_
    refine Goes.load hTT rfl hcell rfl ?_
    rw [show nx.getD i 0 = nx[i] from by rw [List.getD_eq_getElem?_getD, List.getElem?_eq_getElem hlt]; rfl]
    refine Goes.fork hTT rfl rfl rfl (fun he => ?_) (fun he => ?_)
    · exact Goes.ret1 hTT rfl Tryd.func71 rfl rfl ⟨int_v (idx_at (p := fun m => m == n) hlt hpre he).symm, hw1.trans hw2⟩
    · refine Goes.arith hTT rfl (w64 (by omega)) rfl ?_
      exact ih (i + 1) _ _ ⟨hlt, hw2, fun j hj hji => by
        by_cases e : j = i
        · subst e; exact he
        · exact hpre j hj (by omega)⟩ (by simp only; omega) ⟨rfl, rfl, rfl, trivial⟩
  · have hge : i = r.nums.x.length := by have := of_decide_eq_false hc; omega
    exact Goes.ret1 hTT rfl Tryd.func71 rfl rfl ⟨int_v (idx_none (p := fun m => m == n) (fun j hj => hpre j hj (by omega))).symm, hw1.trans hw2⟩
theorem ref13_without (l : IL) (n : Int) (w : World) (h : IlX w l) : Does Tryd.prog 75 #[ilV l, .int .i64 n] w (fun v w' => ∃ l' : IL, v = ilV l' ∧ l'.x = l.x.filter (fun m => m != n) ∧ IlX w' l' ∧ Fresh w l'.a ∧ Chg None' w w') := by
  obtain ⟨a, cap, x⟩ := l
  have hl := h.ok.len
  have hr := h.ok.rd
  simp only at hl hr
  have hml : maxLen = 9223372036854775807 := rfl
  refine Does.enter Tryd.func75 rfl Tryd.ntmps75 rfl rfl ?_
  refine Goes.adv hTT 400 rfl ?_
  refine Goes.loop (α := Nat × Value) (fun p => [(0, false, .slice a x.length cap), (1, false, .int .i64 n), (5, false, p.2), (6, false, .int .i64 p.1)])
    (fun p w' => p.1 ≤ x.length ∧ Own w.heap.size 3 1 w' p.2 ((x.take p.1).filter (fun m => m != n)).length (((x.take p.1).filter (fun m => m != n)).map (Value.int .i64)) ∧ Chg None' w w') (fun p => x.length - p.1) (0, .slice none 0 0) ⟨rfl, rfl, rfl, rfl, trivial⟩ ⟨Nat.zero_le _, World.ownsRow_nil _ _ _ _, Chg.refl _ _⟩ ?_
  rintro ⟨i, v⟩ w1 ⟨hi, ho, hw1⟩ ih
  simp only at hi ho
  refine Goes.adv hTT 400 rfl ?_
  refine Goes.fork hTT rfl rfl rfl (fun hc => ?_) (fun hc => ?_)
  · have hlt : i < x.length := by have := of_decide_eq_true hc; omega
    obtain ⟨b, off, rfl, hcell⟩ := (hr.chg hw1) i hlt
    have hgd : x.getD i 0 = x[i] := by rw [List.getD_eq_getElem?_getD, List.getElem?_eq_getElem hlt]; rfl
    rw [hgd] at hcell
    have htk : x.take (i + 1) = x.take i ++ [x[i]] := by rw [List.take_add_one, List.getElem?_eq_getElem hlt]; rfl
    refine Goes.index hTT rfl (j := i) (by omega) (by omega) (by first | rfl | omega | (simp; done) | (simp; omega)) rfl ?_
    refine Goes.load hTT rfl hcell rfl ?_
    refine Goes.fork hTT rfl rfl rfl (fun hne => ?_) (fun hne => ?_)
    · refine Goes.index hTT rfl (j := i) (by omega) (by omega) (by first | rfl | omega | (simp; done) | (simp; omega)) rfl ?_
      refine Goes.load hTT rfl hcell rfl ?_
      refine Goes.buildSlice hTT rfl ?_
      intro b2 w2 e2 hb2 hw2 hz2
      refine Goes.adv hTT 400 rfl ?_
      have ho2 := ho.chg hw2 (fun _ _ h => h)
      have hfl : ((x.take i).filter (fun m => m != n)).length ≤ i := Nat.le_trans (List.length_filter_le _ _) (by rw [List.length_take]; omega)
      refine Goes.append (base := w.heap.size) (xs := ((x.take i).filter (fun m => m != n)).map (Value.int .i64)) (news := [.int .i64 x[i]]) hTT rfl ho2 (by have := hw1.size; have := hw2.size; omega) (by simp) (cells1 hb2) (by simp [Value.oneCell']) (by simp only; omega) ?_
      intro v3 w3 ho3 hs3 hv3
      refine Goes.adv hTT 400 rfl ?_
      refine Goes.arith hTT rfl (w64 (by omega)) rfl ?_
      have hf : (x.take (i + 1)).filter (fun m => m != n) = (x.take i).filter (fun m => m != n) ++ [x[i]] := by rw [htk, List.filter_append, List.filter_cons, if_pos hne]; rfl
      exact ih (i + 1, v3) _ _ ⟨hlt, by simp only; rw [hf, List.length_append, List.map_append]; exact ho3, ho2.since (hw1.trans hw2) (Nat.le_refl _) hs3⟩ (by simp only; omega) ⟨rfl, rfl, rfl, rfl, trivial⟩
    · have hf : (x.take (i + 1)).filter (fun m => m != n) = (x.take i).filter (fun m => m != n) := by rw [htk, List.filter_append, List.filter_cons, if_neg (by rw [hne]; decide)]; simp
      refine Goes.arith hTT rfl (w64 (by omega)) rfl ?_
      exact ih (i + 1, v) _ _ ⟨hlt, by simp only; rw [hf]; exact ho, hw1⟩ (by simp only; omega) ⟨rfl, rfl, rfl, rfl, trivial⟩
  · have hge : i = x.length := by have := of_decide_eq_false hc; omega
    subst hge
    rw [List.take_length] at ho
    obtain ⟨l', hv, hx, hX, hb⟩ := Own.il ho rfl (Nat.le_trans (List.length_filter_le _ _) hl)
    subst hv
    exact Goes.ret1 hTT rfl Tryd.func75 rfl rfl ⟨l', rfl, hx, hX, fun b off s e => hb b off s e, hw1⟩
theorem ref13_with (r : RS) (i : Nat) (p : IL) (w : World) (hrp : RdP w r.pa r.ps) (hi : i < r.ps.length) (hl : r.ps.length ≤ 512) : Does Tryd.prog 73 #[.agg (rsL r).toArray, .int .i64 i, ilV p] w
    (fun v w' => ∃ pa' pcap', v = .agg (rsL { r with pa := pa', pcap := pcap', ps := r.ps.set i p }).toArray ∧ RdP w' pa' (r.ps.set i p) ∧ ALt w' pa' ∧ (r.ps.set i p).length ≤ pcap' ∧ Fresh w pa' ∧ Chg None' w w') := by
  have hml : maxLen = 9223372036854775807 := rfl
  obtain ⟨rp, cls, blocks, nums, pa, pcap, ps, opn⟩ := r
  simp only at hi hl hrp
  refine Does.enter Tryd.func73 rfl Tryd.ntmps73 rfl rfl ?_
  refine Goes.adv hTT 400 rfl ?_
  refine Goes.alloc hTT rfl ?_
  intro rb w1 e1 hrb hw1 hz1
  refine Goes.adv hTT 400 rfl ?_
  refine Goes.alloc hTT rfl ?_
  intro qb w2 e2 hqb hw2 hz2
  refine Goes.adv hTT 400 rfl ?_
  replace hrb : w1.heap[rb]? = some (.cells ([ilV rp.o, ilV rp.f, .int .i64 cls, .int .i64 (blocks : Int), ilV nums, .slice pa ps.length pcap, ilV opn] : List Value).toArray 54 (0, 0)) := hrb
  refine Goes.buildSlice hTT rfl ?_
  intro b3 w3 e3 hb3 hw3 hz3
  refine Goes.adv hTT 400 rfl ?_
  have hw13 := hw2.trans hw3
  have hw03 := hw1.trans hw13
  refine Goes.loadb hTT rfl (hw13.heap' hrb) rfl rfl ?_
  have ho : Own w2.heap.size 30 1 w3 (.slice (some ⟨b3, 0, none⟩) 0 0) 0 [] := Own.empty (by omega) hb3
  refine Goes.appendA (base := w2.heap.size) (xs := []) (news := ps.map ilV) hTT rfl ho hw3.size hrp.noneA (by simp) (hrp.grow hw03).cellsA plain_il (by simp only; omega) ?_
  intro v4 w4 ho4 hs4 hv4
  refine Goes.adv hTT 400 rfl ?_
  have hw4 := ho.since hw3 (Nat.le_refl _) hs4
  obtain ⟨g, cap4, cur, rfl, hg1, hg2, hg3, hg4, hg5⟩ := ho4.form (by omega)
  have hcur : cur.toList = ps.map ilV ++ cur.toList.drop ps.length := by
    have e := List.take_append_drop ps.length cur.toList
    rw [show cur.toList.take ps.length = ps.map ilV from by simpa using hg5] at e
    exact e.symm
  obtain ⟨rest, hrest⟩ : ∃ rest, rest = cur.toList.drop ps.length := ⟨_, rfl⟩
  rw [← hrest] at hcur
  have hg2' : w4.heap[g]? = some (.cells (ps.map ilV ++ rest).toArray 30 (0, 0)) := by rw [← hcur]; exact hg2
  have hl4 : 0 + ps.length = ps.length := by omega
  rw [hl4] at hg3 ⊢
  refine Goes.index hTT rfl (j := i) (by omega) (by omega) (by first | rfl | omega | (simp; done) | (simp; omega)) rfl ?_
  refine Goes.store hTT rfl hg2' (show setV (ps.map ilV ++ rest) (0 + i) [ilV p] = some ((ps.set i p).map ilV ++ rest) from by rw [Nat.zero_add, setV_oneL _ _ _ (by simp; omega), List.set_append_left _ _ (by simpa using hi), List.map_set]) rfl ?_
  intro w5 hg5' hs5 hz5
  refine Goes.adv hTT 400 rfl ?_
  have hsl : (ps.set i p).length = ps.length := by simp
  have hs2 := hw2.size
  have hs4' := hw4.size
  have hlr := lt_of_heap hrb
  have hlq := lt_of_heap hqb
  have hrb5 := hs5.heap (hw4.heap' (hw2.heap' hrb)) (show ¬ rb = g by omega)
  have hqb5 := hs5.heap (hw4.heap' hqb) (show ¬ qb = g by omega)
  refine Goes.store hTT rfl hrb5 rfl rfl ?_
  intro w6 hrb6 hs6 hz6
  refine Goes.adv hTT 400 rfl ?_
  refine Goes.loads hTT rfl hrb6 rfl rfl ?_
  have hqb6 := hs6.heap hqb5 (by omega)
  refine Goes.store hTT rfl hqb6 rfl rfl ?_
  intro w7 hqb7 hs7 hz7
  refine Goes.adv hTT 400 rfl ?_
  have hg7 := hs7.heap (hs6.heap hg5' (by omega)) (by omega)
  have hw05 : Chg None' w w5 := ((hw1.trans hw2).trans hw4).since hs5 (fun z hz e => by have := hw1.size; omega)
  have hw07 : Chg None' w w7 := (hw05.since hs6 (fun z hz e => by omega)).since hs7 (fun z hz e => by have := hw1.size; omega)
  exact Goes.ret hTT rfl Tryd.func73 (ResOk.cell rfl rfl rfl hqb7 rfl .nil) ⟨some ⟨g, 0, none⟩, cap4, by show _ = Value.agg [_, _, _, _, _, Value.slice _ (ps.set i p).length _, _].toArray; rw [hsl]; rfl, fun j l hj => ⟨g, 0, rfl, by
    have hjl : j < ps.length := by have := (List.getElem?_eq_some_iff.1 hj).1; simpa using this
    rw [cell_of hg7, Nat.zero_add, List.getElem?_toArray, List.getElem?_append_left (by simpa using hjl), List.getElem?_map, hj]; rfl⟩, (by intro b off s e; cases e; exact lt_of_heap hg7), by rw [hsl]; omega, (by intro b off s e; cases e; have := hw1.size; omega), hw07⟩
end Go.Proofs.YtdmedllaackbaaaDoor
/-
  Layer 13: what the document says of a shelf: a page more.
-/
namespace Go.Proofs.YtdmedllaackbaaaDoor
open Go.RowKit

theorem smSet_idx {l : PgL} {m i : Nat} {p q : List Int} (hn : (l.map (·.1)).Nodup) (hi : l[i]? = some (m, q)) : smSet l m p = l.set i (m, p) := by
  have hil : i < l.length := (List.getElem?_eq_some_iff.1 hi).1
  refine List.ext_getElem? fun j => ?_
  unfold smSet
  rw [List.getElem?_map, List.getElem?_set]
  by_cases h : i = j
  · subst h
    rw [if_pos rfl, if_pos hil, hi]
    simp
  · rw [if_neg h]
    cases hj : l[j]? with
    | none => rfl
    | some e =>
      have hjl : j < l.length := (List.getElem?_eq_some_iff.1 hj).1
      have hne : e.1 ≠ m := fun e' => by
        have h1 : (l.map (·.1))[i]? = some m := by rw [List.getElem?_map, hi]; rfl
        have h2 : (l.map (·.1))[j]? = some m := by rw [List.getElem?_map, hj, ← e']; rfl
        exact h ((List.getElem?_inj (by simpa using hil) hn).1 (h1.trans h2.symm))
      simp [hne]
theorem smDel_idx {l : PgL} {m i : Nat} {q : List Int} (hn : (l.map (·.1)).Nodup) (hi : l[i]? = some (m, q)) : smDel l m = l.take i ++ l.drop (i + 1) := by
  have hil : i < l.length := (List.getElem?_eq_some_iff.1 hi).1
  have hli : l[i] = (m, q) := by rw [List.getElem?_eq_getElem hil] at hi; exact Option.some.inj hi
  have hs : l = l.take i ++ (m, q) :: l.drop (i + 1) := by
    conv => lhs; rw [← List.take_append_drop i l]
    rw [List.drop_eq_getElem_cons hil, hli]
  have hn2 := hn
  rw [hs, List.map_append, List.map_cons] at hn2
  obtain ⟨h1, h2, h3⟩ := List.nodup_append.1 hn2
  obtain ⟨h4, _⟩ := List.nodup_cons.1 h2
  conv => lhs; rw [hs]
  unfold smDel
  rw [List.filter_append, List.filter_cons]
  simp only [bne_self_eq_false, Bool.false_eq_true, if_false]
  rw [List.filter_eq_self.2 (fun e he => by simp only [bne_iff_ne, ne_eq]; exact fun e' => h3 e.1 (List.mem_map.2 ⟨e, he, rfl⟩) m (by simp) e'), List.filter_eq_self.2 (fun e he => by simp only [bne_iff_ne, ne_eq]; exact fun e' => h4 (List.mem_map.2 ⟨e, he, e'⟩))]
theorem RsOk.get {w : World} {r : RS} {x : Sm} {pl : PlM} (h : RsOk w r x pl) {i m : Nat} {p : List Int} (hi : x.pg[i]? = some (m, p)) : ∃ l, r.ps[i]? = some l ∧ l.x = p ∧ IlY w l := by
  have h1 : (x.pg.map (·.2))[i]? = some p := by rw [List.getElem?_map, hi]; rfl
  rw [← h.e4, List.getElem?_map, Option.map_eq_some_iff] at h1
  obtain ⟨l, hl, hx⟩ := h1
  exact ⟨l, hl, hx, h.each l (List.mem_of_getElem? hl)⟩
theorem RsOk.plen {w : World} {r : RS} {x : Sm} {pl : PlM} (h : RsOk w r x pl) : r.ps.length = x.pg.length := by
  have := congrArg List.length h.e4
  simpa using this
/-- There are few pages. -/
theorem RsOk.few {w : World} {r : RS} {x : Sm} {pl : PlM} (h : RsOk w r x pl) (hok : x.Ok) (hof : x.Of pl) : x.pg.length ≤ 512 ∧ x.opn.length ≤ 512 ∧ pl.own.length ≤ 512 := by
  have ho := h.p.o.ok.len
  rw [h.p.eo] at ho
  have h1 : (x.pg.map (·.1)).length ≤ pl.own.length := nodup_le _ _ hok.nodup (fun n hn => by obtain ⟨e, he, rfl⟩ := List.mem_map.1 hn; exact (hof e he).1)
  rw [List.length_map] at h1
  have h2 := nodup_le pl.own.length x.opn hok.onodup (fun n hn => by obtain ⟨p, hp⟩ := hok.osub n hn; exact (hof _ hp).1)
  exact ⟨by omega, by omega, ho⟩
theorem RpOk.out {w : World} {r : RP} {pl : PlM} {S : Nat → Prop} (h : RpOk w r pl) (hs : ∀ z, S z → w.heap.size ≤ z) : OutA S r.o.a ∧ OutA S r.f.a := ⟨h.o.lt.out hs, h.f.lt.out hs⟩
theorem ref13_fresh_no (r : RS) (x : Sm) (pl : PlM) (w : World) (h : RsOk w r x pl) (hok : x.Ok) (hf : pl.free = []) : Does Tryd.prog 70 #[.agg (rsL r).toArray] w (Grow (.tuple #[.agg (rsL r).toArray, .int .i64 5]) w) := by
  have hcl : 0 ≤ r.cls := by rw [h.e1]; exact hok.cls
  refine Does.enter Tryd.func70 rfl Tryd.ntmps70 rfl rfl ?_
  refine Goes.adv hTT 400 rfl ?_
  refine Goes.alloc hTT rfl ?_
  intro rb w1 e1 hrb hw1 hz1
  refine Goes.adv hTT 400 rfl ?_
  refine Goes.alloc hTT rfl ?_
  intro qb w2 e2 hqb hw2 hz2
  refine Goes.adv hTT 400 rfl ?_
  replace hrb : w1.heap[rb]? = some (.cells (rsL r).toArray 54 (0, 0)) := hrb
  have hrb2 := hw2.heap' hrb
  have hw02 := hw1.trans hw2
  refine Goes.loads hTT rfl hrb2 rfl rfl ?_
  refine Goes.loadb hTT rfl hrb2 rfl rfl ?_
  refine Goes.call rfl (ref08_Take_no r.p r.cls pl w2 (h.p.grow hw02) hcl hf) ?_
  rintro _ w3 ⟨rfl, hw3⟩
  refine Goes.adv hTT 400 rfl ?_
  refine Goes.alloc hTT rfl ?_
  intro tb w4 e4 htb hw4 hz4
  refine Goes.adv hTT 400 rfl ?_
  refine Goes.store hTT rfl htb rfl rfl ?_
  intro w5 htb5 hs5 hz5
  refine Goes.adv hTT 400 rfl ?_
  have hs2 := hw02.size
  have hs3 := hw3.size
  have hc25 : Chg None' w2 w5 := (hw3.trans hw4).since hs5 (fun z hz e => by omega)
  refine Goes.yes hTT rfl rfl rfl ?_
  refine Goes.loads hTT rfl (hc25.heap' hrb2) rfl rfl ?_
  refine Goes.store hTT rfl (hc25.heap' hqb) rfl rfl ?_
  intro w6 hqb6 hs6 hz6
  refine Goes.adv hTT 400 rfl ?_
  replace hqb6 : w6.heap[qb]? = some (.cells (rsL r).toArray 54 (0, 0)) := hqb6
  exact Goes.ret hTT rfl Tryd.func70 (ResOk.cell rfl rfl rfl hqb6 rfl (.tmp rfl .nil)) ⟨rfl, (hw02.trans hc25).since hs6 (fun z hz e => by have := hw1.size; omega)⟩
set_option maxRecDepth 100000 in
theorem ref13_fresh (r : RS) (x : Sm) (pl : PlM) (n : Nat) (t : List Nat) (w : World) (h : RsOk w r x pl) (hok : x.Ok) (hof : x.Of pl) (hg : pl.Good) (hf : pl.free = n :: t) : Does Tryd.prog 70 #[.agg (rsL r).toArray] w
    (fun v w' => ∃ r', v = .tuple #[.agg (rsL r').toArray, .int .i64 0] ∧ RsOk w' r' (x.fresh n) (pl.take x.cls) ∧ Keep w r r' ∧ Chg None' w w') := by
  have hcl : 0 ≤ r.cls := by rw [h.e1]; exact hok.cls
  have hbl := hok.blk
  have hml : maxLen = 9223372036854775807 := rfl
  obtain ⟨hfew1, hfew2, hfew3⟩ := h.few hok hof
  have hnew := free_new hok hof hg (n := n) (by rw [hf]; simp)
  have hnn : n ∉ x.opn := fun hm => by obtain ⟨p, hp⟩ := hok.osub n hm; exact hnew (List.mem_map.2 ⟨_, hp, rfl⟩)
  obtain ⟨hnl, _⟩ := hg.free n (by rw [hf]; simp)
  have hfew4 : x.pg.length + 1 ≤ 512 := by
    have : (n :: x.pg.map (·.1)).length ≤ pl.own.length := nodup_le _ _ (List.nodup_cons.2 ⟨hnew, hok.nodup⟩) (fun m hm => by
      rcases List.mem_cons.1 hm with rfl | hm
      · exact hnl
      · obtain ⟨e, he, rfl⟩ := List.mem_map.1 hm; exact (hof e he).1)
    simp only [List.length_cons, List.length_map] at this
    omega
  have hfew5 : x.opn.length + 1 ≤ 512 := by
    have : (n :: x.opn).length ≤ pl.own.length := nodup_le _ _ (List.nodup_cons.2 ⟨hnn, hok.onodup⟩) (fun m hm => by
      rcases List.mem_cons.1 hm with rfl | hm
      · exact hnl
      · obtain ⟨p, hp⟩ := hok.osub m hm; exact (hof _ hp).1)
    simp only [List.length_cons] at this
    omega
  have hnumL : r.nums.x.length = x.pg.length := by rw [h.e3]; simp
  have hpsL := h.plen
  have hopL : r.opn.x.length = x.opn.length := by rw [h.e5]; simp
  refine Does.enter Tryd.func70 rfl Tryd.ntmps70 rfl rfl ?_
  refine Goes.adv hTT 400 rfl ?_
  refine Goes.alloc hTT rfl ?_
  intro rb w1 e1 hrb hw1 hz1
  refine Goes.adv hTT 400 rfl ?_
  refine Goes.alloc hTT rfl ?_
  intro qb w2 e2 hqb hw2 hz2
  refine Goes.adv hTT 400 rfl ?_
  replace hrb : w1.heap[rb]? = some (.cells (rsL r).toArray 54 (0, 0)) := hrb
  have hrb2 := hw2.heap' hrb
  have hw02 := hw1.trans hw2
  have hs02 := hw02.size
  have hlr := lt_of_heap hrb2
  have hlq := lt_of_heap hqb
  refine Goes.loads hTT rfl hrb2 rfl rfl ?_
  refine Goes.loadb hTT rfl hrb2 rfl rfl ?_
  rw [h.e1]
  refine Goes.call rfl (ref08_Take r.p x.cls pl n t w2 (h.p.grow hw02) hg hok.cls hf) ?_
  rintro _ w3 ⟨l, rfl, hP3, hlF, hw3⟩
  refine Goes.adv hTT 400 rfl ?_
  obtain ⟨f', hf'⟩ : ∃ f', f' = r.p.f.sl 1 r.p.f.x.length := ⟨_, rfl⟩
  rw [← hf'] at hP3 ⊢
  have hs3 := hw3.size
  refine Goes.alloc hTT rfl ?_
  intro tb w4 e4 htb hw4 hz4
  refine Goes.adv hTT 400 rfl ?_
  refine Goes.store hTT rfl htb rfl rfl ?_
  intro w5 htb5 hs5 hz5
  refine Goes.adv hTT 400 rfl ?_
  replace htb5 : w5.heap[tb]? = some (.cells ([ilV l, ilV f'] : List Value).toArray 51 (0, 0)) := htb5
  have hc35 : Chg None' w3 w5 := hw4.since hs5 (fun z hz e => by omega)
  have hc25 := hw3.trans hc35
  refine Goes.no hTT rfl rfl rfl ?_
  refine Goes.loads hTT rfl htb5 rfl rfl ?_
  have hrb5 := hc25.heap' hrb2
  refine Goes.store hTT rfl hrb5 rfl rfl ?_
  intro w6 hrb6 hs6 hz6
  refine Goes.adv hTT 400 rfl ?_
  replace hrb6 : w6.heap[rb]? = some (.cells ([ilV l, ilV f', .int .i64 r.cls, .int .i64 (r.blocks : Int), ilV r.nums, .slice r.pa r.ps.length r.pcap, ilV r.opn] : List Value).toArray 54 (0, 0)) := hrb6
  have hsz35 := hc35.size
  have hqb6 := hs6.heap (hc25.heap' hqb) (show ¬ qb = rb by omega)
  have hP6 : RpOk w6 ⟨l, f'⟩ (pl.take x.cls) := by
    have h5 := hP3.grow hc35
    have hfo : OutA (fun z => z = rb) f'.a := by rw [hf']; exact IL.sl_out (h.p.f.lt.out (fun z hz => by omega))
    exact ⟨h5.o.far (hlF.out (fun z hz => by omega)) hs6, h5.f.far hfo hs6, h5.eo, h5.ef⟩
  have hc06 : Chg None' w w6 := (hw02.trans hc25).since hs6 (fun z hz e => by omega)
  have hs06 := hc06.size
  refine Goes.loadb hTT rfl hrb6 rfl rfl ?_
  rw [h.e2]
  refine Goes.call rfl (ref12_New x.blocks w6 hbl) ?_
  rintro _ w7 ⟨pg, rfl, hpx, hpI, hw7, hpN⟩
  refine Goes.adv hTT 400 rfl ?_
  have hpY : IlY w7 pg := IlY.of hpI (by rw [hpx]; simp; omega)
  have hpF : Fresh w6 pg.a := by
    rcases hpN with e | ⟨g, off, e, hgg⟩
    · intro b off s e'; rw [e] at e'; cases e'
    · intro b off' s e'; rw [e] at e'; cases e'; exact hgg
  have hs7 := hw7.size
  have hc07 := hc06.trans hw7
  have hrb7 := hw7.heap' hrb6
  -- nums
  refine Goes.buildSlice hTT rfl ?_
  intro b8 w8 e8 hb8 hw8 hz8
  refine Goes.adv hTT 400 rfl ?_
  have hc08 := hc07.trans hw8
  refine Goes.loadb hTT rfl (hw8.heap' hrb7) rfl rfl ?_
  have ho8 : Own w7.heap.size 3 1 w8 (.slice (some ⟨b8, 0, none⟩) 0 0) 0 [] := Own.empty (by omega) hb8
  refine Goes.appendA (base := w7.heap.size) (xs := []) (news := r.nums.x.map (Value.int .i64)) hTT rfl ho8 hw8.size h.nums.ok.rd.noneA (by simp) (h.nums.ok.rd.chg hc08).cellsA plain_i64 (by simp only; omega) ?_
  intro v9 w9 ho9 hs9 hv9
  refine Goes.adv hTT 400 rfl ?_
  have hw79 := ho8.since hw8 (Nat.le_refl _) hs9
  refine Goes.buildSlice hTT rfl ?_
  intro b10 w10 e10 hb10 hw10 hz10
  refine Goes.adv hTT 400 rfl ?_
  have ho10 := ho9.chg hw10 (fun _ _ h => h)
  have hw710 := hw79.trans hw10
  refine Goes.append (base := w7.heap.size) (news := [.int .i64 (n : Int)]) hTT rfl ho10 hw710.size (by simp) (cells1 hb10) (by simp [Value.oneCell']) (by simp only; omega) ?_
  intro v11 w11 ho11 hs11 hv11
  have hw711 := ho10.since hw710 (Nat.le_refl _) hs11
  obtain ⟨nl, rfl, hnx, hnX, hnB⟩ := Own.il (x := r.nums.x ++ [(n : Int)]) (v := v11) (m := 0 + r.nums.x.length + 1) (by rw [List.map_append]; exact ho11) (by simp) (by simp; omega)
  refine Goes.adv hTT 400 rfl ?_
  have hs711 := hw711.size
  refine Goes.store hTT rfl (hw711.heap' hrb7) rfl rfl ?_
  intro w12 hrb12 hs12 hz12
  refine Goes.adv hTT 400 rfl ?_
  replace hrb12 : w12.heap[rb]? = some (.cells ([ilV l, ilV f', .int .i64 r.cls, .int .i64 (r.blocks : Int), ilV nl, .slice r.pa r.ps.length r.pcap, ilV r.opn] : List Value).toArray 54 (0, 0)) := hrb12
  have hc012 : Chg None' w w12 := (hc07.trans hw711).since hs12 (fun z hz e => by omega)
  have hnX12 : IlX w12 nl := hnX.far (by intro b off s e hz; have := hnB b off s e; omega) hs12
  -- pages
  refine Goes.buildSlice hTT rfl ?_
  intro b13 w13 e13 hb13 hw13 hz13
  refine Goes.adv hTT 400 rfl ?_
  have hc013 := hc012.trans hw13
  refine Goes.loadb hTT rfl (hw13.heap' hrb12) rfl rfl ?_
  have ho13 : Own w12.heap.size 30 1 w13 (.slice (some ⟨b13, 0, none⟩) 0 0) 0 [] := Own.empty (by omega) hb13
  refine Goes.appendA (base := w12.heap.size) (xs := []) (news := r.ps.map ilV) hTT rfl ho13 hw13.size h.rp.noneA (by simp) (h.rp.grow hc013).cellsA plain_il (by simp only; omega) ?_
  intro v14 w14 ho14 hs14 hv14
  refine Goes.adv hTT 400 rfl ?_
  have hw1214 := ho13.since hw13 (Nat.le_refl _) hs14
  refine Goes.buildSlice hTT rfl ?_
  intro b15 w15 e15 hb15 hw15 hz15
  refine Goes.adv hTT 400 rfl ?_
  have ho15 := ho14.chg hw15 (fun _ _ h => h)
  have hw1215 := hw1214.trans hw15
  refine Goes.append (base := w12.heap.size) (news := [ilV pg]) hTT rfl ho15 hw1215.size (by simp) (cells1 hb15) (by simp [Value.oneCell']) (by simp only; omega) ?_
  intro v16 w16 ho16 hs16 hv16
  have hw1216 := ho15.since hw1215 (Nat.le_refl _) hs16
  obtain ⟨pa', pcap', rfl, hpR, hpL, hpC, hpB⟩ := Own.pl (ps := r.ps ++ [pg]) (v := v16) (m := 0 + r.ps.length + 1) (by rw [List.map_append]; exact ho16) (by simp)
  refine Goes.adv hTT 400 rfl ?_
  have hs1216 := hw1216.size
  have hs712 : w7.heap.size ≤ w12.heap.size := by omega
  refine Goes.store hTT rfl (hw1216.heap' hrb12) rfl rfl ?_
  intro w17 hrb17 hs17 hz17
  refine Goes.adv hTT 400 rfl ?_
  replace hrb17 : w17.heap[rb]? = some (.cells ([ilV l, ilV f', .int .i64 r.cls, .int .i64 (r.blocks : Int), ilV nl, .slice pa' (r.ps ++ [pg]).length pcap', ilV r.opn] : List Value).toArray 54 (0, 0)) := hrb17
  have hc017 : Chg None' w w17 := (hc012.trans hw1216).since hs17 (fun z hz e => by omega)
  have hpR17 : RdP w17 pa' (r.ps ++ [pg]) := hpR.far (by intro b off s e hz; have := hpB b off s e; omega) hs17
  -- open
  refine Goes.buildSlice hTT rfl ?_
  intro b18 w18 e18 hb18 hw18 hz18
  refine Goes.adv hTT 400 rfl ?_
  have hc018 := hc017.trans hw18
  refine Goes.loadb hTT rfl (hw18.heap' hrb17) rfl rfl ?_
  have ho18 : Own w17.heap.size 3 1 w18 (.slice (some ⟨b18, 0, none⟩) 1 1) 1 [.int .i64 (n : Int)] := Own.one (by omega) hb18
  refine Goes.appendA (base := w17.heap.size) (xs := [.int .i64 (n : Int)]) (news := r.opn.x.map (Value.int .i64)) hTT rfl ho18 hw18.size h.opn.ok.rd.noneA (by simp) (h.opn.ok.rd.chg hc018).cellsA plain_i64 (by simp only; omega) ?_
  intro v19 w19 ho19 hs19 hv19
  have hw1719 := ho18.since hw18 (Nat.le_refl _) hs19
  obtain ⟨ol, rfl, holx, holX, holB⟩ := Own.il (x := (n : Int) :: r.opn.x) (v := v19) (m := 1 + r.opn.x.length) (show Own w17.heap.size 3 1 w19 v19 (1 + r.opn.x.length) (((n : Int) :: r.opn.x).map (Value.int .i64)) from ho19) (by simp; omega) (by simp; omega)
  refine Goes.adv hTT 400 rfl ?_
  have hs1719 := hw1719.size
  refine Goes.store hTT rfl (hw1719.heap' hrb17) rfl rfl ?_
  intro w20 hrb20 hs20 hz20
  refine Goes.adv hTT 400 rfl ?_
  obtain ⟨r', hr'⟩ : ∃ r' : RS, r' = ⟨⟨l, f'⟩, r.cls, r.blocks, nl, pa', pcap', r.ps ++ [pg], ol⟩ := ⟨_, rfl⟩
  replace hrb20 : w20.heap[rb]? = some (.cells (rsL r').toArray 54 (0, 0)) := by rw [hr']; exact hrb20
  refine Goes.loads hTT rfl hrb20 rfl rfl ?_
  have hc020 : Chg None' w w20 := (hc017.trans hw1719).since hs20 (fun z hz e => by omega)
  have nn : ∀ {a b : World}, Chg None' a b → Chg (fun z => z = rb) a b := fun h => h.mono fun _ _ h => h.elim
  have cA : Chg (fun z => z = rb) w7 w12 := (nn hw711).trans hs12
  have cB : Chg (fun z => z = rb) w12 w17 := (nn hw1216).trans hs17
  have cC : Chg (fun z => z = rb) w17 w20 := (nn hw1719).trans hs20
  have cAll : Chg (fun z => z = rb) w6 w20 := (((nn hw7).trans cA).trans cB).trans cC
  have hfresh2 : w2.heap.size ≤ w6.heap.size := by have := hc25.size; omega
  have hkeep : ∀ Q : Nat → Prop, (∀ z, Q z → z < w2.heap.size) → RsOut Q r → RsOut Q r' := fun Q hQ ho => by
    have hlo : OutA Q l.a := hlF.out hQ
    have hfo : OutA Q f'.a := by rw [hf']; exact IL.sl_out ho.f
    have hno : OutA Q nl.a := by intro b off s e hz; have := hnB b off s e; have := hQ b hz; omega
    have hoo : OutA Q ol.a := by intro b off s e hz; have := holB b off s e; have := hQ b hz; omega
    have hpo : OutA Q pa' := by intro b off s e hz; have := hpB b off s e; have := hQ b hz; omega
    rw [hr']
    exact ⟨hlo, hfo, hno, hoo, hpo, fun l' hl' => by
      rcases List.mem_append.1 hl' with hl' | hl'
      · exact ho.each l' hl'
      · have : l' = pg := by simpa using hl'
        subst this
        exact hpF.out (fun z hz => by have := hQ z hz; omega)⟩
  have ho0 : RsOut (fun z => z = rb) r := h.out (fun z hz => by have := hw1.size; omega)
  have hor : RsOut (fun z => z = rb) r' := hkeep _ (fun z hz => by omega) ho0
  have hok20 : RsOk w20 r' (x.fresh n) (pl.take x.cls) := by
    rw [hr'] at hor
    have hP20 : RpOk w20 ⟨l, f'⟩ (pl.take x.cls) := ⟨hP6.o.far hor.o cAll, hP6.f.far hor.f cAll, hP6.eo, hP6.ef⟩
    rw [hr']
    exact ⟨hP20, hnX12.far hor.nums (cB.trans cC), holX.far hor.opn hs20, hpR17.far hor.pa cC, hpL.grow (by have := hs17.size; have := cC.size; omega), hpC, fun l' hl' => by
      rcases List.mem_append.1 hl' with hl' | hl'
      · exact (h.each l' hl').grow hc020
      · have : l' = pg := by simpa using hl'
        subst this
        exact hpY.far (hor.each _ (List.mem_append_right _ (by simp))) ((cA.trans cB).trans cC), h.e1, h.e2, by
        show nl.x = (x.pg ++ [(n, List.replicate x.blocks (-1))]).map _
        rw [hnx, h.e3, List.map_append]; rfl, by
        show (r.ps ++ [pg]).map _ = (x.pg ++ [(n, List.replicate x.blocks (-1))]).map _
        rw [List.map_append, List.map_append, h.e4]
        simp [hpx], by
        show ol.x = (n :: x.opn).map _
        rw [holx, h.e5]; rfl⟩
  have hqb20 := cAll.heap hqb6 (show ¬ qb = rb by omega)
  refine Goes.store hTT rfl hqb20 rfl rfl ?_
  intro w21 hqb21 hs21 hz21
  refine Goes.adv hTT 400 rfl ?_
  replace hqb21 : w21.heap[qb]? = some (.cells (rsL r').toArray 54 (0, 0)) := hqb21
  have hoq : RsOut (fun z => z = qb) r' := hkeep _ (fun z hz => by omega) (h.out (fun z hz => by have := hw1.size; omega))
  exact Goes.ret hTT rfl Tryd.func70 (ResOk.cell rfl rfl rfl hqb21 rfl (.tmp rfl .nil)) ⟨r', rfl, hok20.far hoq hs21, fun Q hQ ho => hkeep Q (fun z hz => by have := hQ z hz; omega) ho, hc020.since hs21 (fun z hz e => by have := hw1.size; omega)⟩
end Go.Proofs.YtdmedllaackbaaaDoor
/-
  Layer 13: what the document says of a shelf: taking a block.
-/
namespace Go.Proofs.YtdmedllaackbaaaDoor
open Go.RowKit

theorem RsOk.setPage {w : World} {r : RS} {x : Sm} {pl : PlM} (h : RsOk w r x pl) (hn : (x.pg.map (·.1)).Nodup) {i m : Nat} {q p' : List Int} {l' : IL} {pa' : Option Addr} {pcap' : Nat} (hi : x.pg[i]? = some (m, q)) (hx : l'.x = p') (hy : IlY w l')
    (h1 : RdP w pa' (r.ps.set i l')) (h2 : ALt w pa') (h3 : (r.ps.set i l').length ≤ pcap') : RsOk w { r with pa := pa', pcap := pcap', ps := r.ps.set i l' } { x with pg := smSet x.pg m p' } pl :=
  ⟨h.p, h.nums, h.opn, h1, h2, h3, fun l hl => by
    rcases List.mem_or_eq_of_mem_set hl with hl | rfl
    · exact h.each l hl
    · exact hy, h.e1, h.e2, by
    have e := smSet_fst x.pg m p'
    show r.nums.x = (smSet x.pg m p').map fun e => ((e.1 : Nat) : Int)
    rw [h.e3]
    have a1 : ∀ l : PgL, (l.map fun e => ((e.1 : Nat) : Int)) = (l.map (·.1)).map (fun n : Nat => (n : Int)) := fun l => by rw [List.map_map]; rfl
    rw [a1, a1, e], by
    show (r.ps.set i l').map (·.x) = (smSet x.pg m p').map (·.2)
    rw [smSet_idx hn hi, List.map_set, List.map_set, h.e4, hx], h.e5⟩
theorem RsOut.setPage {Q : Nat → Prop} {r : RS} (h : RsOut Q r) {i : Nat} {l' : IL} {pa' : Option Addr} {pcap' : Nat} (h1 : OutA Q pa') (h2 : OutA Q l'.a) : RsOut Q { r with pa := pa', pcap := pcap', ps := r.ps.set i l' } :=
  ⟨h.o, h.f, h.nums, h.opn, h1, fun l hl => by
    rcases List.mem_or_eq_of_mem_set hl with hl | rfl
    · exact h.each l hl
    · exact h2⟩
theorem RsOk.setOpn {w : World} {r : RS} {x : Sm} {pl : PlM} (h : RsOk w r x pl) {l' : IL} {o : List Nat} (hl : IlX w l') (he : l'.x = o.map (fun n : Nat => (n : Int))) : RsOk w { r with opn := l' } { x with opn := o } pl :=
  ⟨h.p, h.nums, hl, h.rp, h.plt, h.pcap, h.each, h.e1, h.e2, h.e3, h.e4, he⟩
theorem RsOut.setOpn {Q : Nat → Prop} {r : RS} (h : RsOut Q r) {l' : IL} (h1 : OutA Q l'.a) : RsOut Q { r with opn := l' } := ⟨h.o, h.f, h.nums, h1, h.pa, h.each⟩
theorem filter_cast (l : List Nat) (n : Nat) : (l.map (fun m : Nat => (m : Int))).filter (fun m => m != (n : Int)) = (l.filter (fun m => m != n)).map (fun m : Nat => (m : Int)) := by
  rw [List.filter_map]
  congr 1
  refine List.filter_congr fun m _ => ?_
  simp only [Function.comp]
  exact Bool.eq_iff_iff.2 (by simp only [bne_iff_ne, ne_eq]; omega)
theorem Rd.at0 {w : World} {a : Option Addr} {x : List Int} {k : IntKind} {i : Nat} (h : Rd k w a x) (hi : i < x.length) : ∃ b off, a = some ⟨b, off, none⟩ ∧ w.cell? ⟨b, off + i, none⟩ = some (.int k (x.getD i 0)) := h i hi
set_option maxRecDepth 100000 in
theorem ref13_Take (r : RS) (x : Sm) (pl : PlM) (who : Int) (w : World) (h : RsOk w r x pl) (hok : x.Ok) (hof : x.Of pl) (hg : pl.Good) : Does Tryd.prog 50 #[.agg (rsL r).toArray, .int .i64 who] w
    (fun v w' => ∃ r', v = .tuple #[.agg (rsL r').toArray, .int .i64 (shTakeN x pl who), .int .i64 (shTakeA x pl who), .int .i64 (shTakeE x pl who)] ∧ RsOk w' r' (shTake x pl who) (shTakeP x pl who) ∧ Keep w r r' ∧ Chg None' w w') := by
  have eN : ∀ e, shTakeE x pl who = e → e ≠ 0 → shTakeN x pl who = 0 ∧ shTakeA x pl who = 0 ∧ shTake x pl who = x ∧ shTakeP x pl who = pl := fun e h1 h2 => by
    unfold shTakeN shTakeA shTake shTakeP; rw [h1, if_neg h2, if_neg h2, if_neg h2, if_neg h2]; exact ⟨rfl, rfl, rfl, rfl⟩
  refine Does.enter Tryd.func50 rfl Tryd.ntmps50 rfl rfl ?_
  refine Goes.adv hTT 400 rfl ?_
  refine Goes.alloc hTT rfl ?_
  intro rb w1 e1 hrb hw1 hz1
  refine Goes.adv hTT 400 rfl ?_
  refine Goes.alloc hTT rfl ?_
  intro qb w2 e2 hqb hw2 hz2
  refine Goes.adv hTT 400 rfl ?_
  replace hrb : w1.heap[rb]? = some (.cells (rsL r).toArray 54 (0, 0)) := hrb
  have hrb2 := hw2.heap' hrb
  have hw02 := hw1.trans hw2
  have hs02 := hw02.size
  refine Goes.fork hTT rfl rfl rfl (fun g1 => ?_) (fun g1 => ?_)
  · have k1 : who < 0 := of_decide_eq_true g1
    have ee : shTakeE x pl who = 1 := by unfold shTakeE; rw [if_pos k1]
    obtain ⟨a, b, c, d⟩ := eN 1 ee (by decide)
    rw [a, b, c, d, ee]
    refine Goes.loads hTT rfl hrb2 rfl rfl ?_
    refine Goes.store hTT rfl hqb rfl rfl ?_
    intro w3 hqb3 hs3 hz3
    refine Goes.adv hTT 400 rfl ?_
    replace hqb3 : w3.heap[qb]? = some (.cells (rsL r).toArray 54 (0, 0)) := hqb3
    exact Goes.ret hTT rfl Tryd.func50 (ResOk.cell rfl rfl rfl hqb3 rfl (.tmp rfl (.tmp rfl (.tmp rfl .nil)))) ⟨r, rfl, (h.grow hw02).far (h.out (fun z hz => by omega)) hs3, Keep.refl _ _, hw02.since hs3 (fun z hz e => by omega)⟩
  have hw0 : 0 ≤ who := by have := of_decide_eq_false g1; omega
  refine Goes.loads hTT rfl hrb2 rfl rfl ?_
  refine Goes.alloc hTT rfl ?_
  intro kb w3 e3 hkb3 hw3 hz3
  refine Goes.adv hTT 400 rfl ?_
  refine Goes.store hTT rfl hkb3 rfl rfl ?_
  intro w4 hkb4 hs4 hz4
  refine Goes.adv hTT 400 rfl ?_
  replace hkb4 : w4.heap[kb]? = some (.cells (rsL r).toArray 54 (0, 0)) := hkb4
  have hc24 : Chg None' w2 w4 := hw3.since hs4 (fun z hz e => by omega)
  have hc04 := hw02.trans hc24
  have hrb4 := hc24.heap' hrb2
  have hqb4 := hc24.heap' hqb
  have hs24 := hc24.size
  have hlq4 := lt_of_heap hqb
  have hopL : r.opn.x.length = x.opn.length := by rw [h.e5]; simp
  have hqk : ¬ qb = kb := by omega
  have h4 := h.grow hc04
  refine Goes.loadb hTT rfl hrb4 rfl rfl ?_
  rw [hopL]
  cases ho : x.opn with
  | nil =>
    refine Goes.yes hTT rfl rfl rfl ?_
    refine Goes.loads hTT rfl hrb4 rfl rfl ?_
    cases hf : pl.free with
    | nil =>
      have ee : shTakeE x pl who = 5 := by unfold shTakeE; rw [if_neg (by omega), if_pos (by rw [ho, hf]; exact ⟨rfl, rfl⟩)]
      obtain ⟨a, b, c, d⟩ := eN 5 ee (by decide)
      rw [a, b, c, d, ee]
      refine Goes.call rfl (ref13_fresh_no r x pl w4 h4 hok hf) ?_
      rintro _ w5 ⟨rfl, hw5⟩
      refine Goes.adv hTT 400 rfl ?_
      refine Goes.alloc hTT rfl ?_
      intro tb w6 e6 htb hw6 hz6
      refine Goes.adv hTT 400 rfl ?_
      refine Goes.store hTT rfl htb rfl rfl ?_
      intro w7 htb7 hs7 hz7
      refine Goes.adv hTT 400 rfl ?_
      have hs5 := hw5.size
      have hc47 : Chg None' w4 w7 := (hw5.trans hw6).since hs7 (fun z hz e => by omega)
      have hc07 := hc04.trans hc47
      refine Goes.yes hTT rfl rfl rfl ?_
      refine Goes.loads hTT rfl (hc47.heap' hrb4) rfl rfl ?_
      refine Goes.store hTT rfl (hc47.heap' hqb4) rfl rfl ?_
      intro w8 hqb8 hs8 hz8
      refine Goes.adv hTT 400 rfl ?_
      replace hqb8 : w8.heap[qb]? = some (.cells (rsL r).toArray 54 (0, 0)) := hqb8
      exact Goes.ret hTT rfl Tryd.func50 (ResOk.cell rfl rfl rfl hqb8 rfl (.tmp rfl (.tmp rfl (.tmp rfl .nil)))) ⟨r, rfl, (h.grow hc07).far (h.out (fun z hz => by omega)) hs8, Keep.refl _ _, hc07.since hs8 (fun z hz e => by omega)⟩
    | cons n t =>
      have ee : shTakeE x pl who = 0 := by unfold shTakeE; rw [if_neg (by omega), if_neg (by rw [hf]; simp)]
      have hn4 : n < 1024 := by have := (hg.free n (by rw [hf]; simp)).1; have := hg.len; omega
      have hnew := free_new hok hof hg (n := n) (by rw [hf]; simp)
      rcases shTake_cases x pl who with ⟨hne, _⟩ | ⟨_, _, ⟨n', t', ho', _⟩ | ⟨n', t', _, hf', k1, k2, k3, k4, k5⟩⟩
      · exact absurd ee hne
      · rw [ho] at ho'; cases ho'
      rw [hf] at hf'
      cases hf'
      obtain ⟨x1, hx1e⟩ : ∃ x1, x1 = x.fresh n := ⟨_, rfl⟩
      obtain ⟨pl1, hpl1e⟩ : ∃ pl1, pl1 = pl.take x.cls := ⟨_, rfl⟩
      have hx1 : x1.Ok := by rw [hx1e]; exact hok.fresh hn4 hnew
      have hof1 : x1.Of pl1 := by rw [hx1e, hpl1e]; exact hof.fresh hg hf
      obtain ⟨p, hpd⟩ : ∃ p, p = List.replicate x.blocks (-1 : Int) := ⟨_, rfl⟩
      have hp : (n, p) ∈ x1.pg := by rw [hx1e, hpd]; exact List.mem_append_right _ (by simp)
      have hgp := smGet_of hx1.nodup hp
      rw [← hx1e, hgp] at k3
      simp only [Option.getD_some] at k3
      rw [← hx1e, k3] at k1
      rw [k3] at k5
      have hb1 : x1.blocks = x.blocks := by rw [hx1e]; rfl
      have hbk := hok.blk
      have hpl : p.length = x1.blocks := by rw [hb1, hpd]; exact List.length_replicate
      have hnf : pgUsed p ≠ x1.blocks := by rw [hb1, hpd, pgUsed_new]; omega
      have ho1 : x1.opn = n :: [] := by rw [hx1e]; show n :: x.opn = _; rw [ho]
      rcases pos_cases (l := x1.pg) (n := (n : Int)) with ⟨hno, _⟩ | ⟨i, p0, m, hm, hgp0, hpos, hil0, hi⟩
      · rw [hgp] at hno; cases hno
      have hmn : m = n := by omega
      subst hmn
      rw [hgp] at hgp0
      cases hgp0
      rw [k1, k2, k4, k5, ee]
      rw [← hpl1e]
      refine Goes.call rfl (ref13_fresh r x pl m t w4 h4 hok hof hg hf) ?_
      rintro _ w5 ⟨r1, rfl, hR5, hK5, hw5⟩
      refine Goes.adv hTT 400 rfl ?_
      rw [← hx1e, ← hpl1e] at hR5
      have hs5 := hw5.size
      refine Goes.alloc hTT rfl ?_
      intro tb w6 e6 htb hw6 hz6
      refine Goes.adv hTT 400 rfl ?_
      refine Goes.store hTT rfl htb rfl rfl ?_
      intro w7 htb7 hs7 hz7
      refine Goes.adv hTT 400 rfl ?_
      replace htb7 : w7.heap[tb]? = some (.cells (rsL r1).toArray 54 (0, 0)) := htb7
      have hc57 : Chg None' w5 w7 := hw6.since hs7 (fun z hz e => by omega)
      have hc47 := hw5.trans hc57
      refine Goes.no hTT rfl rfl rfl ?_
      refine Goes.loads hTT rfl htb7 rfl rfl ?_
      have hkb7 := hc47.heap' hkb4
      have hlk7 := lt_of_heap hkb4
      refine Goes.store hTT rfl hkb7 rfl rfl ?_
      intro W hkb hsW hzW
      refine Goes.adv hTT 400 rfl ?_
      replace hkb : W.heap[kb]? = some (.cells (rsL r1).toArray 54 (0, 0)) := hkb
      have hok' : RsOut (fun z => z = kb) r1 := hK5 _ (fun z hz => by omega) (h.out (fun z hz => by omega))
      have hoq' : RsOut (fun z => z = qb) r1 := hK5 _ (fun z hz => by omega) (h.out (fun z hz => by omega))
      have hR := (hR5.grow hc57).far hok' hsW
      have hqW := hsW.heap (hc47.heap' hqb4) hqk
      have hcW : Chg None' w W := (hc04.trans hc47).since hsW (fun z hz e => by omega)
      have hkW : ∀ Q : Nat → Prop, (∀ z, Q z → z < w.heap.size) → RsOut Q r → RsOut Q r1 := fun Q hQ ho => hK5 Q (fun z hz => by have := hQ z hz; omega) ho
      obtain ⟨n, hnm⟩ : ∃ n, n = m := ⟨_, rfl⟩
      rw [← hnm] at hi hpos ho1 hp ⊢
      have hopl : 0 < r1.opn.x.length := by rw [hR.e5, ho1]; simp
      obtain ⟨ob, ooff, hopa, hopc⟩ := hR.opn.ok.rd 0 hopl
      have hop0 : r1.opn.x.getD 0 0 = n := by rw [hR.e5, ho1]; rfl
      rw [hop0] at hopc
      have hkb1 : W.heap[kb]? = some (.cells ([ilV r1.p.o, ilV r1.p.f, .int .i64 r1.cls, .int .i64 (r1.blocks : Int), ilV r1.nums, .slice r1.pa r1.ps.length r1.pcap, .slice (some ⟨ob, ooff, none⟩) r1.opn.x.length r1.opn.cap] : List Value).toArray 54 (0, 0)) := by rw [← hopa]; exact hkb
      refine Goes.loadb hTT rfl hkb1 rfl rfl ?_
      refine Goes.index hTT rfl (j := 0) (by omega) (by omega) (by first | rfl | omega | (simp; done) | (simp; omega)) rfl ?_
      refine Goes.load hTT rfl hopc rfl ?_
      refine Goes.loads hTT rfl hkb rfl rfl ?_
      refine Goes.call rfl (ref13_find r1 n W hR.nums) ?_
      rintro _ Wa ⟨rfl, hWa⟩
      refine Goes.adv hTT 400 rfl ?_
      obtain ⟨hf1, hf2, hf3⟩ := hR.few hx1 hof1
      rw [hR.e3, hpos]
      have hRa := hR.grow hWa
      have hkba := hWa.heap' hkb
      obtain ⟨l, hl, hlx, hlY⟩ := hRa.get hi
      obtain ⟨pb, poff, hpa, hpc⟩ := hRa.rp i l hl
      have hkb2 : Wa.heap[kb]? = some (.cells ([ilV r1.p.o, ilV r1.p.f, .int .i64 r1.cls, .int .i64 (r1.blocks : Int), ilV r1.nums, .slice (some ⟨pb, poff, none⟩) r1.ps.length r1.pcap, ilV r1.opn] : List Value).toArray 54 (0, 0)) := by rw [← hpa]; exact hkba
      have hil : i < r1.ps.length := (List.getElem?_eq_some_iff.1 hl).1
      refine Goes.loadb hTT rfl hkb2 rfl rfl ?_
      refine Goes.index hTT rfl (j := i) (by omega) (by omega) (by first | rfl | omega | (simp; done) | (simp; omega)) rfl ?_
      refine Goes.load hTT rfl hpc rfl ?_
      refine Goes.call rfl (ref12_Take l who Wa hlY.ok) ?_
      rintro _ Wb ⟨l', rfl, hlx', hlI', hWb, hlN⟩
      refine Goes.adv hTT 400 rfl ?_
      rw [hlx] at hlx' ⊢
      have hRb := hRa.grow hWb
      have hlp' : 0 < l'.x.length := by rw [hlx', pgTake_len, hpl]; have := hx1.blk; omega
      have hlY' : IlY Wb l' := IlY.of hlI' hlp'
      have hkbb := hWb.heap' hkba
      refine Goes.loads hTT rfl hkbb rfl rfl ?_
      refine Goes.call rfl (ref13_with r1 i l' Wb hRb.rp hil (by rw [hR.plen]; omega)) ?_
      rintro _ Wc ⟨pa', pcap', rfl, hp1, hp2, hp3, hp4, hWc⟩
      refine Goes.adv hTT 400 rfl ?_
      have hRc := (hRb.grow hWc).setPage hx1.nodup hi hlx' (hlY'.grow hWc) hp1 hp2 hp3
      have hWac := (hWa.trans hWb).trans hWc
      have hsa := hWa.size
      have hsb := hWb.size
      have hsc := hWc.size
      obtain ⟨r2, hr2⟩ : ∃ r2 : RS, r2 = { r1 with pa := pa', pcap := pcap', ps := r1.ps.set i l' } := ⟨_, rfl⟩
      have hk2 : ∀ Q : Nat → Prop, (∀ z, Q z → z < W.heap.size) → RsOut Q r1 → RsOut Q r2 := fun Q hQ ho => by
        rw [hr2]
        exact ho.setPage (hp4.out (fun z hz => by have := hQ z hz; omega)) (hlN.outS (ho.each l (List.mem_of_getElem? hl)) (fun z hz => by have := hQ z hz; omega))
      rw [← hr2] at hRc ⊢
      have hlk := lt_of_heap hkb
      have hlq := lt_of_heap hqW
      refine Goes.store hTT rfl (hWac.heap' hkb) rfl rfl ?_
      intro Wd hkbd hsd hzd
      refine Goes.adv hTT 400 rfl ?_
      replace hkbd : Wd.heap[kb]? = some (.cells (rsL r2).toArray 54 (0, 0)) := hkbd
      have hRd := hRc.far (hk2 _ (fun z hz => by omega) hok') hsd
      have hqd := hsd.heap (hWac.heap' hqW) hqk
      have hcd : Chg None' w Wd := (hcW.trans hWac).since hsd (fun z hz e => by omega)
      have hYd : IlY Wd l' := (hlY'.grow hWc).far (hlN.outS (hok'.each l (List.mem_of_getElem? hl)) (fun z hz => by omega)) hsd
      refine Goes.call rfl (ref12_Hole l' Wd hYd.ok) ?_
      rintro _ _ ⟨rfl, rfl⟩
      refine Goes.adv hTT 400 rfl ?_
      rw [hlx']
      have hfullI : pgHole (pgTake p who) < 0 ↔ pgUsed (pgTake p who) = x1.blocks := by rw [pgHole_full, pgTake_len, hpl]
      have eE : pgTakeE p who = 0 := (pgTake_ok hw0 (by rw [hpl]; exact hnf)).1
      have eA : pgTakeA p who = pgHole p := by unfold pgTakeA; rw [if_pos eE]
      rw [eA]
      refine Goes.fork hTT rfl rfl rfl (fun hfl => ?_) (fun hfl => ?_)
      · have gfl : pgHole (pgTake p who) < 0 := of_decide_eq_true hfl
        refine Goes.loadb hTT rfl hkbd rfl rfl ?_
        refine Goes.call rfl (ref13_without r2.opn n Wd hRd.opn) ?_
        rintro _ We ⟨ol, rfl, holx, holX, holF, hWe⟩
        refine Goes.adv hTT 400 rfl ?_
        have hse := hWe.size
        refine Goes.store hTT rfl (hWe.heap' hkbd) rfl rfl ?_
        intro Wf hkbf hsf hzf
        refine Goes.adv hTT 400 rfl ?_
        obtain ⟨r3, hr3⟩ : ∃ r3 : RS, r3 = { r2 with opn := ol } := ⟨_, rfl⟩
        replace hkbf : Wf.heap[kb]? = some (.cells (rsL r3).toArray 54 (0, 0)) := by rw [hr3]; exact hkbf
        have hk3 : ∀ Q : Nat → Prop, (∀ z, Q z → z < W.heap.size) → RsOut Q r1 → RsOut Q r3 := fun Q hQ ho => by
          rw [hr3]; exact (hk2 Q hQ ho).setOpn (holF.out (fun z hz => by have := hQ z hz; have := hsd.size; omega))
        have hxe : ({ { x1 with pg := smSet x1.pg n (pgTake p who) } with opn := x1.opn.filter (fun m => m != n) } : Sm) = x1.takeAt n p who := by
          unfold Sm.takeAt; rw [if_pos (hfullI.1 gfl)]
        have hRe : RsOk We r3 (x1.takeAt n p who) pl1 := by
          rw [hr3, ← hxe]
          exact (hRd.grow hWe).setOpn holX (by rw [holx, hRd.e5]; exact filter_cast _ _)
        have hRf := hRe.far (hk3 _ (fun z hz => by omega) hok') hsf
        refine Goes.loads hTT rfl hkbf rfl rfl ?_
        have hqf := hsf.heap (hWe.heap' hqd) hqk
        refine Goes.store hTT rfl hqf rfl rfl ?_
        intro Wg hqg hsg hzg
        refine Goes.adv hTT 400 rfl ?_
        replace hqg : Wg.heap[qb]? = some (.cells (rsL r3).toArray 54 (0, 0)) := hqg
        have hRg := hRf.far (hk3 _ (fun z hz => by omega) hoq') hsg
        exact Goes.ret hTT rfl Tryd.func50 (ResOk.cell rfl rfl rfl hqg rfl (.tmp rfl (.tmp rfl (.tmp rfl .nil)))) ⟨r3, rfl, hRg, fun Q hQ ho => hk3 Q (fun z hz => by have := hQ z hz; have := hcW.size; omega) (hkW Q hQ ho), ((hcd.trans hWe).since hsf (fun z hz e => by omega)).since hsg (fun z hz e => by omega)⟩
      · have gfl : ¬ pgHole (pgTake p who) < 0 := of_decide_eq_false hfl
        have hxe : ({ x1 with pg := smSet x1.pg n (pgTake p who) } : Sm) = x1.takeAt n p who := by
          unfold Sm.takeAt; rw [if_neg (fun e => gfl (hfullI.2 e))]
        rw [hxe] at hRd
        refine Goes.loads hTT rfl hkbd rfl rfl ?_
        refine Goes.store hTT rfl hqd rfl rfl ?_
        intro Wg hqg hsg hzg
        refine Goes.adv hTT 400 rfl ?_
        replace hqg : Wg.heap[qb]? = some (.cells (rsL r2).toArray 54 (0, 0)) := hqg
        have hRg := hRd.far (hk2 _ (fun z hz => by omega) hoq') hsg
        exact Goes.ret hTT rfl Tryd.func50 (ResOk.cell rfl rfl rfl hqg rfl (.tmp rfl (.tmp rfl (.tmp rfl .nil)))) ⟨r2, rfl, hRg, fun Q hQ ho => hk2 Q (fun z hz => by have := hQ z hz; have := hcW.size; omega) (hkW Q hQ ho), hcd.since hsg (fun z hz e => by omega)⟩
  | cons n t =>
    have ee : shTakeE x pl who = 0 := by unfold shTakeE; rw [if_neg (by omega), if_neg (by rw [ho]; simp)]
    rcases shTake_cases x pl who with ⟨hne, _⟩ | ⟨_, _, ⟨n', t', ho', k1, k2, k3, k4, k5⟩ | ⟨n', t', ho', _⟩⟩
    · exact absurd ee hne
    · rw [ho] at ho'
      cases ho'
      obtain ⟨p, hp0⟩ := hok.osub n (by rw [ho]; simp)
      obtain ⟨x1, hx1e⟩ : ∃ x1, x1 = x := ⟨_, rfl⟩
      obtain ⟨pl1, hpl1e⟩ : ∃ pl1, pl1 = pl := ⟨_, rfl⟩
      have hx1 : x1.Ok := by rw [hx1e]; exact hok
      have hof1 : x1.Of pl1 := by rw [hx1e, hpl1e]; exact hof
      have hp : (n, p) ∈ x1.pg := by rw [hx1e]; exact hp0
      have hgp := smGet_of hx1.nodup hp
      have hgx := hgp
      rw [hx1e] at hgx
      rw [hgx] at k3
      simp only [Option.getD_some] at k3
      rw [k3] at k1 k5
      have hpl : p.length = x1.blocks := by rw [hx1e]; exact (hok.each _ hp0).2.1
      have hnf : pgUsed p ≠ x1.blocks := by rw [hx1e]; exact (hok.each _ hp0).2.2.1 (by rw [ho]; simp)
      have ho1 : x1.opn = n :: t := by rw [hx1e]; exact ho
      rcases pos_cases (l := x1.pg) (n := (n : Int)) with ⟨hno, _⟩ | ⟨i, p0, m, hm, hgp0, hpos, hil0, hi⟩
      · rw [hgp] at hno; cases hno
      have hmn : m = n := by omega
      subst hmn
      rw [hgp] at hgp0
      cases hgp0
      rw [k1, k2, k4, k5, ee, ← hx1e]
      rw [← hpl1e]
      refine Goes.no hTT rfl (by simp; omega) rfl ?_
      obtain ⟨r1, hr1⟩ : ∃ r1, r1 = r := ⟨_, rfl⟩
      obtain ⟨W, hW⟩ : ∃ W, W = w4 := ⟨_, rfl⟩
      have hR : RsOk W r1 x1 pl1 := by rw [hW, hr1, hx1e, hpl1e]; exact h4
      have hkb : W.heap[kb]? = some (.cells (rsL r1).toArray 54 (0, 0)) := by rw [hW, hr1]; exact hkb4
      have hok' : RsOut (fun z => z = kb) r1 := by rw [hr1]; exact h.out (fun z hz => by omega)
      have hoq' : RsOut (fun z => z = qb) r1 := by rw [hr1]; exact h.out (fun z hz => by omega)
      have hqW := hqb4
      rw [← hW] at hqW
      have hcW : Chg None' w W := by rw [hW]; exact hc04
      have hkW : ∀ Q : Nat → Prop, (∀ z, Q z → z < w.heap.size) → RsOut Q r → RsOut Q r1 := fun Q hQ ho => by rw [hr1]; exact ho
      have hgoal : ∀ {X : World → Prop}, X W → X w4 := fun h => hW ▸ h
      refine hgoal (X := fun w2 => Goes _ _ _ _ _ _ _ w2) ?_
      obtain ⟨n, hnm⟩ : ∃ n, n = m := ⟨_, rfl⟩
      rw [← hnm] at hi hpos ho1 hp ⊢
      have hopl : 0 < r1.opn.x.length := by rw [hR.e5, ho1]; simp
      obtain ⟨ob, ooff, hopa, hopc⟩ := hR.opn.ok.rd 0 hopl
      have hop0 : r1.opn.x.getD 0 0 = n := by rw [hR.e5, ho1]; rfl
      rw [hop0] at hopc
      have hkb1 : W.heap[kb]? = some (.cells ([ilV r1.p.o, ilV r1.p.f, .int .i64 r1.cls, .int .i64 (r1.blocks : Int), ilV r1.nums, .slice r1.pa r1.ps.length r1.pcap, .slice (some ⟨ob, ooff, none⟩) r1.opn.x.length r1.opn.cap] : List Value).toArray 54 (0, 0)) := by rw [← hopa]; exact hkb
      refine Goes.loadb hTT rfl hkb1 rfl rfl ?_
      refine Goes.index hTT rfl (j := 0) (by omega) (by omega) (by first | rfl | omega | (simp; done) | (simp; omega)) rfl ?_
      refine Goes.load hTT rfl hopc rfl ?_
      refine Goes.loads hTT rfl hkb rfl rfl ?_
      refine Goes.call rfl (ref13_find r1 n W hR.nums) ?_
      rintro _ Wa ⟨rfl, hWa⟩
      refine Goes.adv hTT 400 rfl ?_
      obtain ⟨hf1, hf2, hf3⟩ := hR.few hx1 hof1
      rw [hR.e3, hpos]
      have hRa := hR.grow hWa
      have hkba := hWa.heap' hkb
      obtain ⟨l, hl, hlx, hlY⟩ := hRa.get hi
      obtain ⟨pb, poff, hpa, hpc⟩ := hRa.rp i l hl
      have hkb2 : Wa.heap[kb]? = some (.cells ([ilV r1.p.o, ilV r1.p.f, .int .i64 r1.cls, .int .i64 (r1.blocks : Int), ilV r1.nums, .slice (some ⟨pb, poff, none⟩) r1.ps.length r1.pcap, ilV r1.opn] : List Value).toArray 54 (0, 0)) := by rw [← hpa]; exact hkba
      have hil : i < r1.ps.length := (List.getElem?_eq_some_iff.1 hl).1
      refine Goes.loadb hTT rfl hkb2 rfl rfl ?_
      refine Goes.index hTT rfl (j := i) (by omega) (by omega) (by first | rfl | omega | (simp; done) | (simp; omega)) rfl ?_
      refine Goes.load hTT rfl hpc rfl ?_
      refine Goes.call rfl (ref12_Take l who Wa hlY.ok) ?_
      rintro _ Wb ⟨l', rfl, hlx', hlI', hWb, hlN⟩
      refine Goes.adv hTT 400 rfl ?_
      rw [hlx] at hlx' ⊢
      have hRb := hRa.grow hWb
      have hlp' : 0 < l'.x.length := by rw [hlx', pgTake_len, hpl]; have := hx1.blk; omega
      have hlY' : IlY Wb l' := IlY.of hlI' hlp'
      have hkbb := hWb.heap' hkba
      refine Goes.loads hTT rfl hkbb rfl rfl ?_
      refine Goes.call rfl (ref13_with r1 i l' Wb hRb.rp hil (by rw [hR.plen]; omega)) ?_
      rintro _ Wc ⟨pa', pcap', rfl, hp1, hp2, hp3, hp4, hWc⟩
      refine Goes.adv hTT 400 rfl ?_
      have hRc := (hRb.grow hWc).setPage hx1.nodup hi hlx' (hlY'.grow hWc) hp1 hp2 hp3
      have hWac := (hWa.trans hWb).trans hWc
      have hsa := hWa.size
      have hsb := hWb.size
      have hsc := hWc.size
      obtain ⟨r2, hr2⟩ : ∃ r2 : RS, r2 = { r1 with pa := pa', pcap := pcap', ps := r1.ps.set i l' } := ⟨_, rfl⟩
      have hk2 : ∀ Q : Nat → Prop, (∀ z, Q z → z < W.heap.size) → RsOut Q r1 → RsOut Q r2 := fun Q hQ ho => by
        rw [hr2]
        exact ho.setPage (hp4.out (fun z hz => by have := hQ z hz; omega)) (hlN.outS (ho.each l (List.mem_of_getElem? hl)) (fun z hz => by have := hQ z hz; omega))
      rw [← hr2] at hRc ⊢
      have hlk := lt_of_heap hkb
      have hlq := lt_of_heap hqW
      refine Goes.store hTT rfl (hWac.heap' hkb) rfl rfl ?_
      intro Wd hkbd hsd hzd
      refine Goes.adv hTT 400 rfl ?_
      replace hkbd : Wd.heap[kb]? = some (.cells (rsL r2).toArray 54 (0, 0)) := hkbd
      have hRd := hRc.far (hk2 _ (fun z hz => by omega) hok') hsd
      have hqd := hsd.heap (hWac.heap' hqW) hqk
      have hcd : Chg None' w Wd := (hcW.trans hWac).since hsd (fun z hz e => by omega)
      have hYd : IlY Wd l' := (hlY'.grow hWc).far (hlN.outS (hok'.each l (List.mem_of_getElem? hl)) (fun z hz => by omega)) hsd
      refine Goes.call rfl (ref12_Hole l' Wd hYd.ok) ?_
      rintro _ _ ⟨rfl, rfl⟩
      refine Goes.adv hTT 400 rfl ?_
      rw [hlx']
      have hfullI : pgHole (pgTake p who) < 0 ↔ pgUsed (pgTake p who) = x1.blocks := by rw [pgHole_full, pgTake_len, hpl]
      have eE : pgTakeE p who = 0 := (pgTake_ok hw0 (by rw [hpl]; exact hnf)).1
      have eA : pgTakeA p who = pgHole p := by unfold pgTakeA; rw [if_pos eE]
      rw [eA]
      refine Goes.fork hTT rfl rfl rfl (fun hfl => ?_) (fun hfl => ?_)
      · have gfl : pgHole (pgTake p who) < 0 := of_decide_eq_true hfl
        refine Goes.loadb hTT rfl hkbd rfl rfl ?_
        refine Goes.call rfl (ref13_without r2.opn n Wd hRd.opn) ?_
        rintro _ We ⟨ol, rfl, holx, holX, holF, hWe⟩
        refine Goes.adv hTT 400 rfl ?_
        have hse := hWe.size
        refine Goes.store hTT rfl (hWe.heap' hkbd) rfl rfl ?_
        intro Wf hkbf hsf hzf
        refine Goes.adv hTT 400 rfl ?_
        obtain ⟨r3, hr3⟩ : ∃ r3 : RS, r3 = { r2 with opn := ol } := ⟨_, rfl⟩
        replace hkbf : Wf.heap[kb]? = some (.cells (rsL r3).toArray 54 (0, 0)) := by rw [hr3]; exact hkbf
        have hk3 : ∀ Q : Nat → Prop, (∀ z, Q z → z < W.heap.size) → RsOut Q r1 → RsOut Q r3 := fun Q hQ ho => by
          rw [hr3]; exact (hk2 Q hQ ho).setOpn (holF.out (fun z hz => by have := hQ z hz; have := hsd.size; omega))
        have hxe : ({ { x1 with pg := smSet x1.pg n (pgTake p who) } with opn := x1.opn.filter (fun m => m != n) } : Sm) = x1.takeAt n p who := by
          unfold Sm.takeAt; rw [if_pos (hfullI.1 gfl)]
        have hRe : RsOk We r3 (x1.takeAt n p who) pl1 := by
          rw [hr3, ← hxe]
          exact (hRd.grow hWe).setOpn holX (by rw [holx, hRd.e5]; exact filter_cast _ _)
        have hRf := hRe.far (hk3 _ (fun z hz => by omega) hok') hsf
        refine Goes.loads hTT rfl hkbf rfl rfl ?_
        have hqf := hsf.heap (hWe.heap' hqd) hqk
        refine Goes.store hTT rfl hqf rfl rfl ?_
        intro Wg hqg hsg hzg
        refine Goes.adv hTT 400 rfl ?_
        replace hqg : Wg.heap[qb]? = some (.cells (rsL r3).toArray 54 (0, 0)) := hqg
        have hRg := hRf.far (hk3 _ (fun z hz => by omega) hoq') hsg
        exact Goes.ret hTT rfl Tryd.func50 (ResOk.cell rfl rfl rfl hqg rfl (.tmp rfl (.tmp rfl (.tmp rfl .nil)))) ⟨r3, rfl, hRg, fun Q hQ ho => hk3 Q (fun z hz => by have := hQ z hz; have := hcW.size; omega) (hkW Q hQ ho), ((hcd.trans hWe).since hsf (fun z hz e => by omega)).since hsg (fun z hz e => by omega)⟩
      · have gfl : ¬ pgHole (pgTake p who) < 0 := of_decide_eq_false hfl
        have hxe : ({ x1 with pg := smSet x1.pg n (pgTake p who) } : Sm) = x1.takeAt n p who := by
          unfold Sm.takeAt; rw [if_neg (fun e => gfl (hfullI.2 e))]
        rw [hxe] at hRd
        refine Goes.loads hTT rfl hkbd rfl rfl ?_
        refine Goes.store hTT rfl hqd rfl rfl ?_
        intro Wg hqg hsg hzg
        refine Goes.adv hTT 400 rfl ?_
        replace hqg : Wg.heap[qb]? = some (.cells (rsL r2).toArray 54 (0, 0)) := hqg
        have hRg := hRd.far (hk2 _ (fun z hz => by omega) hoq') hsg
        exact Goes.ret hTT rfl Tryd.func50 (ResOk.cell rfl rfl rfl hqg rfl (.tmp rfl (.tmp rfl (.tmp rfl .nil)))) ⟨r2, rfl, hRg, fun Q hQ ho => hk2 Q (fun z hz => by have := hQ z hz; have := hcW.size; omega) (hkW Q hQ ho), hcd.since hsg (fun z hz e => by omega)⟩
    · rw [ho] at ho'; cases ho'
end Go.Proofs.YtdmedllaackbaaaDoor
/-
  Layer 13: what the document says of a shelf: handing on; what is told; a new one.
-/
namespace Go.Proofs.YtdmedllaackbaaaDoor
open Go.RowKit

theorem pos_neg {l : PgL} {n : Int} (h : smGet l n = none) : posI (l.map fun e => ((e.1 : Nat) : Int)) n = -1 := by
  rcases pos_cases (l := l) (n := n) with ⟨_, h1⟩ | ⟨_, _, _, _, h1, _⟩
  · exact h1
  · rw [h] at h1; cases h1
theorem pos_some {l : PgL} {n : Int} {p : List Int} (h : smGet l n = some p) : ∃ (i m : Nat), n = m ∧ posI (l.map fun e => ((e.1 : Nat) : Int)) n = (i : Int) ∧ i < l.length ∧ l[i]? = some (m, p) := by
  rcases pos_cases (l := l) (n := n) with ⟨h1, _⟩ | ⟨i, p', m, h0, h1, h2, h3, h4⟩
  · rw [h] at h1; cases h1
  · rw [h] at h1; cases h1
    exact ⟨i, m, h0, h2, h3, h4⟩
theorem ref13_Owner (r : RS) (x : Sm) (pl : PlM) (n i : Int) (w : World) (h : RsOk w r x pl) (hok : x.Ok) (hof : x.Of pl) : Does Tryd.prog 53 #[.agg (rsL r).toArray, .int .i64 n, .int .i64 i] w (Grow (.int .i64 (shOwner x n i)) w) := by
  refine Does.enter Tryd.func53 rfl Tryd.ntmps53 rfl rfl ?_
  refine Goes.adv hTT 400 rfl ?_
  refine Goes.alloc hTT rfl ?_
  intro rb w1 e1 hrb hw1 hz1
  refine Goes.adv hTT 400 rfl ?_
  replace hrb : w1.heap[rb]? = some (.cells (rsL r).toArray 54 (0, 0)) := hrb
  refine Goes.loads hTT rfl hrb rfl rfl ?_
  refine Goes.call rfl (ref13_find r n w1 (h.nums.grow hw1)) ?_
  rintro _ w2 ⟨rfl, hw2⟩
  refine Goes.adv hTT 400 rfl ?_
  have hw02 := hw1.trans hw2
  rw [h.e3]
  unfold shOwner
  cases hg : smGet x.pg n with
  | none =>
    rw [pos_neg hg]
    refine Goes.yes hTT rfl rfl rfl ?_
    exact Goes.ret1 hTT rfl Tryd.func53 rfl rfl ⟨rfl, hw02⟩
  | some p =>
    obtain ⟨k, m, rfl, hpos, hkl, hk⟩ := pos_some hg
    rw [hpos]
    have h2 := h.grow hw02
    obtain ⟨l, hl, hlx, hlY⟩ := h2.get hk
    obtain ⟨pb, poff, hpa, hpc⟩ := h2.rp k l hl
    have hrb2 := hw2.heap' hrb
    have hrb3 : w2.heap[rb]? = some (.cells ([ilV r.p.o, ilV r.p.f, .int .i64 r.cls, .int .i64 (r.blocks : Int), ilV r.nums, .slice (some ⟨pb, poff, none⟩) r.ps.length r.pcap, ilV r.opn] : List Value).toArray 54 (0, 0)) := by rw [← hpa]; exact hrb2
    have hil : k < r.ps.length := (List.getElem?_eq_some_iff.1 hl).1
    refine Goes.no hTT rfl (decide_eq_false (by omega)) rfl ?_
    refine Goes.loadb hTT rfl hrb3 rfl rfl ?_
    refine Goes.index hTT rfl (j := k) (by omega) (by omega) (by first | rfl | omega | (simp; done) | (simp; omega)) rfl ?_
    refine Goes.load hTT rfl hpc rfl ?_
    refine Goes.call rfl (ref12_Owner l i w2 hlY.ok) ?_
    rintro _ _ ⟨rfl, rfl⟩
    refine Goes.adv hTT 400 rfl ?_
    exact Goes.ret1 hTT rfl Tryd.func53 rfl rfl ⟨int_v (by rw [hlx]), hw02⟩
theorem smUsed_take : ∀ (l : PgL) (k : Nat) (e : Nat × List Int), l[k]? = some e → smUsed (l.take (k + 1)) = smUsed (l.take k) + pgUsed e.2
  | (a, p) :: r, 0, e, h => by
    have : (a, p) = e := by simpa using h
    subst this
    simp [smUsed]
  | (a, p) :: r, k + 1, e, h => by
    have ih := smUsed_take r k e (by simpa using h)
    rw [List.take_succ_cons, List.take_succ_cons]
    simp only [smUsed]
    omega
theorem ref13_Used (r : RS) (x : Sm) (pl : PlM) (w : World) (h : RsOk w r x pl) (hok : x.Ok) (hof : x.Of pl) : Does Tryd.prog 28 #[.agg (rsL r).toArray] w (Grow (.int .i64 (smUsed x.pg : Nat)) w) := by
  have hfew := hok.few
  have hpl := h.plen
  refine Does.enter Tryd.func28 rfl Tryd.ntmps28 rfl rfl ?_
  refine Goes.adv hTT 400 rfl ?_
  refine Goes.alloc hTT rfl ?_
  intro rb w1 e1 hrb hw1 hz1
  refine Goes.adv hTT 400 rfl ?_
  replace hrb : w1.heap[rb]? = some (.cells (rsL r).toArray 54 (0, 0)) := hrb
  have h1 := h.grow hw1
  refine Goes.loop (α := Nat) (fun i => [(1, false, .pointer (some ⟨rb, 0, none⟩)), (3, false, .int .i64 (smUsed (x.pg.take i) : Nat)), (4, false, .int .i64 i)])
    (fun i w' => i ≤ x.pg.length ∧ w' = w1) (fun i => x.pg.length - i) 0 ⟨rfl, rfl, rfl, trivial⟩ ⟨Nat.zero_le _, rfl⟩ ?_
  rintro i w2 ⟨hi, hw2⟩ ih
  subst hw2
  refine Goes.adv hTT 400 rfl ?_
  refine Goes.loadb hTT rfl hrb rfl rfl ?_
  refine Goes.fork hTT rfl rfl rfl (fun hc => ?_) (fun hc => ?_)
  · have hlt : i < x.pg.length := by have := of_decide_eq_true hc; omega
    have hk : x.pg[i]? = some x.pg[i] := List.getElem?_eq_getElem hlt
    obtain ⟨l, hl, hlx, hlY⟩ := h1.get (i := i) (m := x.pg[i].1) (p := x.pg[i].2) hk
    obtain ⟨pb, poff, hpa, hpc⟩ := h1.rp i l hl
    have hrb3 : w2.heap[rb]? = some (.cells ([ilV r.p.o, ilV r.p.f, .int .i64 r.cls, .int .i64 (r.blocks : Int), ilV r.nums, .slice (some ⟨pb, poff, none⟩) r.ps.length r.pcap, ilV r.opn] : List Value).toArray 54 (0, 0)) := by rw [← hpa]; exact hrb
    have hil : i < r.ps.length := (List.getElem?_eq_some_iff.1 hl).1
    refine Goes.loadb hTT rfl hrb3 rfl rfl ?_
    refine Goes.index hTT rfl (j := i) (by omega) (by omega) (by first | rfl | omega | (simp; done) | (simp; omega)) rfl ?_
    refine Goes.load hTT rfl hpc rfl ?_
    refine Goes.call rfl (ref12_Used l w2 hlY.ok) ?_
    rintro _ _ ⟨rfl, rfl⟩
    refine Goes.adv hTT 400 rfl ?_
    rw [hlx]
    have hst := smUsed_take x.pg i _ hk
    have hpu := pgUsed_le x.pg[i].2
    have hpe := (hok.each _ (List.getElem_mem hlt)).2.1
    have hb := hok.blk
    have htk : smUsed (x.pg.take i) ≤ 524288 := by
      have := smUsed_le (l := x.pg.take i) (b := x.blocks) (fun e he => (hok.each e (List.mem_of_mem_take he)).2.1)
      have h4 : (x.pg.take i).length * x.blocks ≤ 1024 * 512 := Nat.mul_le_mul (by rw [List.length_take]; omega) hb.2
      omega
    refine Goes.arith hTT rfl (w64 (by omega)) rfl ?_
    refine Goes.arith hTT rfl (w64 (by omega)) rfl ?_
    exact ih (i + 1) _ _ ⟨hlt, rfl⟩ (by omega) ⟨rfl, by show some (Value.int .i64 (((smUsed (x.pg.take i) : Nat) : Int) + (pgUsed x.pg[i].2 : Nat))) = some (.int .i64 (smUsed (x.pg.take (i + 1)) : Nat)); exact int_s (by omega), rfl, trivial⟩
  · have hge : i = x.pg.length := by have := of_decide_eq_false hc; omega
    subst hge
    exact Goes.ret1 hTT rfl Tryd.func28 rfl rfl ⟨int_v (by rw [List.take_length]), hw1⟩
theorem ref13_Own (r : RS) (x : Sm) (pl : PlM) (n i who : Int) (w : World) (h : RsOk w r x pl) (hok : x.Ok) (hof : x.Of pl) : Does Tryd.prog 52 #[.agg (rsL r).toArray, .int .i64 n, .int .i64 i, .int .i64 who] w
    (fun v w' => ∃ r', v = .tuple #[.agg (rsL r').toArray, .int .i64 (shOwnE x n i who)] ∧ RsOk w' r' (shOwn x n i who) pl ∧ Keep w r r' ∧ Chg None' w w') := by
  obtain ⟨hf1, hf2, hf3⟩ := h.few hok hof
  refine Does.enter Tryd.func52 rfl Tryd.ntmps52 rfl rfl ?_
  refine Goes.adv hTT 400 rfl ?_
  refine Goes.alloc hTT rfl ?_
  intro rb w1 e1 hrb hw1 hz1
  refine Goes.adv hTT 400 rfl ?_
  refine Goes.alloc hTT rfl ?_
  intro qb w2 e2 hqb hw2 hz2
  refine Goes.adv hTT 400 rfl ?_
  replace hrb : w1.heap[rb]? = some (.cells (rsL r).toArray 54 (0, 0)) := hrb
  have hrb2 := hw2.heap' hrb
  have hw02 := hw1.trans hw2
  have hs02 := hw02.size
  refine Goes.loads hTT rfl hrb2 rfl rfl ?_
  refine Goes.call rfl (ref13_find r n w2 (h.nums.grow hw02)) ?_
  rintro _ w3 ⟨rfl, hw3⟩
  refine Goes.adv hTT 400 rfl ?_
  have hw03 := hw02.trans hw3
  have hrb3 := hw3.heap' hrb2
  have hqb3 := hw3.heap' hqb
  have h3 := h.grow hw03
  have hs3 := hw3.size
  rw [h.e3]
  have hlq := lt_of_heap hqb
  cases hg : smGet x.pg n with
  | none =>
    rw [show shOwnE x n i who = 1 from by unfold shOwnE; rw [hg], show shOwn x n i who = x from by unfold shOwn; rw [hg], pos_neg hg]
    refine Goes.yes hTT rfl rfl rfl ?_
    refine Goes.loads hTT rfl hrb3 rfl rfl ?_
    refine Goes.store hTT rfl hqb3 rfl rfl ?_
    intro w4 hqb4 hs4 hz4
    refine Goes.adv hTT 400 rfl ?_
    replace hqb4 : w4.heap[qb]? = some (.cells (rsL r).toArray 54 (0, 0)) := hqb4
    exact Goes.ret hTT rfl Tryd.func52 (ResOk.cell rfl rfl rfl hqb4 rfl (.tmp rfl .nil)) ⟨r, rfl, h3.far (h.out (fun z hz => by have := hw1.size; omega)) hs4, Keep.refl _ _, hw03.since hs4 (fun z hz e => by have := hw1.size; omega)⟩
  | some p =>
    obtain ⟨k, m, rfl, hpos, hkl, hk⟩ := pos_some hg
    rw [hpos, show shOwnE x m i who = pgOwnE p i who from by unfold shOwnE; rw [hg], show shOwn x m i who = x.ownAt m p i who from by unfold shOwn; rw [hg]; rfl]
    obtain ⟨l, hl, hlx, hlY⟩ := h3.get hk
    obtain ⟨pb, poff, hpa, hpc⟩ := h3.rp k l hl
    have hrb4 : w3.heap[rb]? = some (.cells ([ilV r.p.o, ilV r.p.f, .int .i64 r.cls, .int .i64 (r.blocks : Int), ilV r.nums, .slice (some ⟨pb, poff, none⟩) r.ps.length r.pcap, ilV r.opn] : List Value).toArray 54 (0, 0)) := by rw [← hpa]; exact hrb3
    have hil : k < r.ps.length := (List.getElem?_eq_some_iff.1 hl).1
    have hmem : (m, p) ∈ x.pg := List.mem_of_getElem? hk
    have hpl := (hok.each _ hmem).2.1
    refine Goes.no hTT rfl (decide_eq_false (by omega)) rfl ?_
    refine Goes.loadb hTT rfl hrb4 rfl rfl ?_
    refine Goes.index hTT rfl (j := k) (by omega) (by omega) (by first | rfl | omega | (simp; done) | (simp; omega)) rfl ?_
    refine Goes.load hTT rfl hpc rfl ?_
    refine Goes.call rfl (ref12_Own l i who w3 hlY.ok) ?_
    rintro _ w5 ⟨l', rfl, hlx', hlI', hw5, hlN⟩
    refine Goes.adv hTT 400 rfl ?_
    rw [hlx] at hlx' ⊢
    have hlY' : IlY w5 l' := IlY.of hlI' (by rw [hlx', pgOwnS_len]; have := hok.blk; simp only at hpl; omega)
    have h5 := h3.grow hw5
    have hrb5 := hw5.heap' hrb3
    refine Goes.loads hTT rfl hrb5 rfl rfl ?_
    refine Goes.call rfl (ref13_with r k l' w5 h5.rp hil (by rw [h.plen]; omega)) ?_
    rintro _ w6 ⟨pa', pcap', rfl, hp1, hp2, hp3, hp4, hw6⟩
    refine Goes.adv hTT 400 rfl ?_
    have h6 := (h5.grow hw6).setPage hok.nodup hk hlx' (hlY'.grow hw6) hp1 hp2 hp3
    obtain ⟨r2, hr2⟩ : ∃ r2 : RS, r2 = { r with pa := pa', pcap := pcap', ps := r.ps.set k l' } := ⟨_, rfl⟩
    have hs5 := hw5.size
    have hs6 := hw6.size
    have hk2 : ∀ Q : Nat → Prop, (∀ z, Q z → z < w3.heap.size) → RsOut Q r → RsOut Q r2 := fun Q hQ ho => by
      rw [hr2]
      exact ho.setPage (hp4.out (fun z hz => by have := hQ z hz; omega)) (hlN.outS (ho.each l (List.mem_of_getElem? hl)) (fun z hz => by have := hQ z hz; omega))
    rw [← hr2] at h6 ⊢
    have hc06 := (hw03.trans hw5).trans hw6
    refine Goes.alloc hTT rfl ?_
    intro tb w7 e7 htb hw7 hz7
    refine Goes.adv hTT 400 rfl ?_
    refine Goes.store hTT rfl htb rfl rfl ?_
    intro w8 htb8 hs8 hz8
    refine Goes.adv hTT 400 rfl ?_
    replace htb8 : w8.heap[tb]? = some (.cells (rsL r2).toArray 54 (0, 0)) := htb8
    have hc68 : Chg None' w6 w8 := hw7.since hs8 (fun z hz e => by omega)
    have h8 := h6.grow hc68
    refine Goes.loads hTT rfl htb8 rfl rfl ?_
    refine Goes.store hTT rfl (((hw5.trans hw6).trans hc68).heap' hqb3) rfl rfl ?_
    intro w9 hqb9 hs9 hz9
    refine Goes.adv hTT 400 rfl ?_
    replace hqb9 : w9.heap[qb]? = some (.cells (rsL r2).toArray 54 (0, 0)) := hqb9
    exact Goes.ret hTT rfl Tryd.func52 (ResOk.cell rfl rfl rfl hqb9 rfl (.tmp rfl .nil)) ⟨r2, rfl, h8.far (hk2 _ (fun z hz => by omega) (h.out (fun z hz => by have := hw1.size; omega))) hs9, fun Q hQ ho => hk2 Q (fun z hz => by have := hQ z hz; omega) ho, (hc06.trans hc68).since hs9 (fun z hz e => by have := hw1.size; omega)⟩
theorem ref13_New (N : Nat) (cls : Int) (b : Nat) (w : World) (hN : 1 ≤ N ∧ N ≤ 512) : Does Tryd.prog 24 #[.int .i64 N, .int .i64 cls, .int .i64 b] w
    (fun v w' => ∃ r, v = .agg (rsL r).toArray ∧ RsOk w' r (newSm cls b) (plNew N) ∧ (∀ Q : Nat → Prop, (∀ z, Q z → z < w.heap.size) → RsOut Q r) ∧ Chg None' w w') := by
  refine Does.enter Tryd.func24 rfl Tryd.ntmps24 rfl rfl ?_
  refine Goes.adv hTT 400 rfl ?_
  refine Goes.alloc hTT rfl ?_
  intro qb w1 e1 hqb hw1 hz1
  refine Goes.adv hTT 400 rfl ?_
  refine Goes.call rfl (ref08_New N w1 hN) ?_
  rintro _ w2 ⟨rp, rfl, hP2, hF1, hF2, hw2⟩
  refine Goes.adv hTT 400 rfl ?_
  have hs2 := hw2.size
  refine Goes.alloc hTT rfl ?_
  intro tb w3 e3 htb hw3 hz3
  refine Goes.adv hTT 400 rfl ?_
  refine Goes.store hTT rfl htb rfl rfl ?_
  intro w4 htb4 hs4 hz4
  refine Goes.adv hTT 400 rfl ?_
  replace htb4 : w4.heap[tb]? = some (.cells (rpL rp).toArray 51 (0, 0)) := htb4
  have hc24 : Chg None' w2 w4 := hw3.since hs4 (fun z hz e => by omega)
  refine Goes.loads hTT rfl htb4 rfl rfl ?_
  refine Goes.build hTT rfl rfl ?_
  have hlq := lt_of_heap hqb
  refine Goes.store hTT rfl ((hw2.trans hc24).heap' hqb) rfl rfl ?_
  intro w5 hqb5 hs5 hz5
  refine Goes.adv hTT 400 rfl ?_
  replace hqb5 : w5.heap[qb]? = some (.cells (rsL ⟨rp, cls, b, ⟨none, 0, []⟩, none, 0, [], ⟨none, 0, []⟩⟩).toArray 54 (0, 0)) := hqb5
  have hP4 := hP2.grow hc24
  have hnil : ∀ w', IlX w' ⟨none, 0, []⟩ := fun w' => ⟨⟨Rd.nil _ _ _, by simp⟩, Nat.le_refl _, (by intro b off s e; cases e)⟩
  have hon : ∀ Q : Nat → Prop, OutA Q (none : Option Addr) := fun Q b off s e => by cases e
  exact Goes.ret hTT rfl Tryd.func24 (ResOk.cell rfl rfl rfl hqb5 rfl .nil) ⟨⟨rp, cls, b, ⟨none, 0, []⟩, none, 0, [], ⟨none, 0, []⟩⟩, rfl, ⟨⟨hP4.o.far (hF1.out (fun z hz => by omega)) hs5, hP4.f.far (hF2.out (fun z hz => by omega)) hs5, hP4.eo, hP4.ef⟩, hnil _, hnil _, (fun i l hl => by simp at hl), (by intro b off s e; cases e), Nat.le_refl _, (fun l hl => by cases hl), rfl, rfl, rfl, rfl, rfl⟩, fun Q hQ => ⟨hF1.out (fun z hz => by have := hQ z hz; omega), hF2.out (fun z hz => by have := hQ z hz; omega), hon Q, hon Q, hon Q, (fun l hl => by cases hl)⟩, ((hw1.trans hw2).trans hc24).since hs5 (fun z hz e => by omega)⟩
end Go.Proofs.YtdmedllaackbaaaDoor
/-
  Layer 13: what the document says of a shelf: what may move.
-/
namespace Go.Proofs.YtdmedllaackbaaaDoor
open Go.RowKit

theorem lastI_get : ∀ {l : List Nat} (p : Int), 0 < l.length → lastI p l = ((l.getD (l.length - 1) 0 : Nat) : Int)
  | [a], p, _ => rfl
  | a :: b :: r, p, _ => by
    have ih := lastI_get (l := b :: r) (a : Int) (by simp)
    show lastI a (b :: r) = _
    rw [ih]
    simp
set_option maxRecDepth 100000 in
theorem ref13_Plan (r : RS) (x : Sm) (pl : PlM) (w : World) (h : RsOk w r x pl) (hok : x.Ok) : Does Tryd.prog 54 #[.agg (rsL r).toArray] w (Grow (.tuple #[.agg (shPlanL x).toArray, .bool (shPlanB x)]) w) := by
  have hopL : r.opn.x.length = x.opn.length := by rw [h.e5]; simp
  have hfew := hok.few
  unfold shPlanL shPlanB
  refine Does.enter Tryd.func54 rfl Tryd.ntmps54 rfl rfl ?_
  refine Goes.adv hTT 400 rfl ?_
  refine Goes.alloc hTT rfl ?_
  intro rb w1 e1 hrb hw1 hz1
  refine Goes.adv hTT 400 rfl ?_
  refine Goes.alloc hTT rfl ?_
  intro qb w2 e2 hqb hw2 hz2
  refine Goes.adv hTT 400 rfl ?_
  replace hrb : w1.heap[rb]? = some (.cells (rsL r).toArray 54 (0, 0)) := hrb
  have hrb2 := hw2.heap' hrb
  have hw02 := hw1.trans hw2
  refine Goes.loadb hTT rfl hrb2 rfl rfl ?_
  rw [hopL]
  by_cases ho : 2 ≤ x.opn.length
  · rw [if_pos ho, decide_eq_true ho]
    have hlast : ∃ k ∈ x.opn, lastI (-1) x.opn = (k : Int) := by
      rcases lastI_mem (-1) x.opn with ⟨e, _⟩ | ⟨a, ha, e, _⟩
      · rw [e] at ho; simp at ho
      · exact ⟨a, ha, e⟩
    have hhead : ∃ k ∈ x.opn, headI x.opn = (k : Int) := by
      cases hx : x.opn with
      | nil => rw [hx] at ho; simp at ho
      | cons a r => exact ⟨a, by simp, rfl⟩
    obtain ⟨a, ha, ea⟩ := hlast
    obtain ⟨b, hb, eb⟩ := hhead
    obtain ⟨p, hp⟩ := hok.osub a ha
    obtain ⟨q, hq⟩ := hok.osub b hb
    have gp := smGet_of hok.nodup hp
    have gq := smGet_of hok.nodup hq
    rw [ea, eb, gp, gq]
    simp only [Option.getD_some]
    obtain ⟨i, m, hm, hpos, hil, hi⟩ := pos_some gp
    obtain ⟨j, m', hm', hpos', hjl, hj⟩ := pos_some gq
    have h2 := h.grow hw02
    obtain ⟨l, hl, hlx, hlY⟩ := h2.get hi
    obtain ⟨l', hl', hlx', hlY'⟩ := h2.get hj
    obtain ⟨pb, poff, hpa, hpc⟩ := h2.rp i l hl
    obtain ⟨pb', poff', hpa', hpc'⟩ := h2.rp j l' hl'
    rw [hpa] at hpa'
    cases hpa'
    obtain ⟨ob, ooff, hoa, hoc⟩ := h2.opn.ok.rd (x.opn.length - 1) (by rw [hopL]; omega)
    obtain ⟨ob', ooff', hoa', hoc'⟩ := h2.opn.ok.rd 0 (by rw [hopL]; omega)
    rw [hoa] at hoa'
    cases hoa'
    have hv1 : r.opn.x.getD (x.opn.length - 1) 0 = (a : Int) := by
      rw [h.e5, ← ea, lastI_get (-1) (by omega), List.getD_eq_getElem?_getD, List.getElem?_map, List.getD_eq_getElem?_getD, List.getElem?_eq_getElem (show x.opn.length - 1 < x.opn.length by omega)]; rfl
    have hv0 : r.opn.x.getD 0 0 = (b : Int) := by
      rw [h.e5, ← eb]
      cases hx : x.opn with
      | nil => rw [hx] at ho; simp at ho
      | cons c t => rfl
    rw [hv1] at hoc
    rw [hv0] at hoc'
    have hil' : i < r.ps.length := (List.getElem?_eq_some_iff.1 hl).1
    have hjl' : j < r.ps.length := (List.getElem?_eq_some_iff.1 hl').1
    have hrb3 : w2.heap[rb]? = some (.cells ([ilV r.p.o, ilV r.p.f, .int .i64 r.cls, .int .i64 (r.blocks : Int), ilV r.nums, .slice (some ⟨pb, poff, none⟩) r.ps.length r.pcap, .slice (some ⟨ob, ooff, none⟩) r.opn.x.length r.opn.cap] : List Value).toArray 54 (0, 0)) := by rw [← hpa, ← hoa]; exact hrb2
    have hlen1 : ((x.opn.length : Int) - 1) = ((x.opn.length - 1 : Nat) : Int) := by omega
    refine Goes.no hTT rfl (decide_eq_false (by omega)) rfl ?_
    refine Goes.drawn (q := 10) None' hTT mixed (by kernel_rfl) rfl ?_
    intro hB
    refine Drawn.loadb hTT hB rfl hrb3 (by first | exact fun h => h | (intro h; omega) | assumption) rfl rfl ?_
    refine Drawn.loads hTT hB rfl hrb2 (by first | exact fun h => h | (intro h; omega) | assumption) rfl rfl ?_
    refine Drawn.loadb hTT hB rfl hrb3 (by first | exact fun h => h | (intro h; omega) | assumption) rfl rfl ?_
    refine Drawn.arith hTT hB rfl (w64 (by omega)) rfl ?_
    rw [hlen1]
    refine Drawn.index hTT hB rfl (j := (x.opn.length - 1)) (by omega) (by omega) (by first | rfl | omega | (simp; done) | (simp; omega)) rfl ?_
    refine Drawn.load hTT hB rfl hoc (by first | exact fun h => h | (intro h; omega) | assumption) rfl ?_
    refine Drawn.call hTT hB rfl (fun w' hw' => ref13_find r a w' (h2.nums.grow hw')) rfl ?_
    rw [h.e3, hpos]
    refine Drawn.nil hB ?_
    intro w3 hw3
    refine Goes.adv hTT 400 rfl ?_
    refine Goes.index hTT rfl (j := i) (by omega) (by omega) (by first | rfl | omega | (simp; done) | (simp; omega)) rfl ?_
    refine Goes.load hTT rfl (hw3.cell hpc id) rfl ?_
    have hrb33 := hw3.heap' hrb3
    have hrb32 := hw3.heap' hrb2
    have h3 := h2.grow hw3
    refine Goes.drawn (q := 8) None' hTT mixed (by kernel_rfl) rfl ?_
    intro hB
    refine Drawn.loadb hTT hB rfl hrb33 (by first | exact fun h => h | (intro h; omega) | assumption) rfl rfl ?_
    refine Drawn.loads hTT hB rfl hrb32 (by first | exact fun h => h | (intro h; omega) | assumption) rfl rfl ?_
    refine Drawn.loadb hTT hB rfl hrb33 (by first | exact fun h => h | (intro h; omega) | assumption) rfl rfl ?_
    refine Drawn.index hTT hB rfl (j := 0) (by omega) (by omega) (by first | rfl | omega | (simp; done) | (simp; omega)) rfl ?_
    refine Drawn.load hTT hB rfl (hw3.cell hoc' id) (by first | exact fun h => h | (intro h; omega) | assumption) rfl ?_
    refine Drawn.call hTT hB rfl (fun w' hw' => ref13_find r b w' (h3.nums.grow hw')) rfl ?_
    rw [h.e3, hpos']
    refine Drawn.nil hB ?_
    intro w4 hw4
    refine Goes.adv hTT 400 rfl ?_
    refine Goes.index hTT rfl (j := j) (by omega) (by omega) (by first | rfl | omega | (simp; done) | (simp; omega)) rfl ?_
    refine Goes.load hTT rfl ((hw3.trans hw4).cell hpc' id) rfl ?_
    have hw34 := hw3.trans hw4
    have hlY4 := hlY.grow hw34
    have hlY4' := hlY'.grow hw34
    have hrb43 := hw34.heap' hrb3
    refine Goes.drawn (q := 14) None' hTT mixed (by kernel_rfl) rfl ?_
    intro hB
    refine Drawn.loadb hTT hB rfl hrb43 (by first | exact fun h => h | (intro h; omega) | assumption) rfl rfl ?_
    refine Drawn.arith hTT hB rfl (w64 (by omega)) rfl ?_
    rw [hlen1]
    refine Drawn.index hTT hB rfl (j := (x.opn.length - 1)) (by omega) (by omega) (by first | rfl | omega | (simp; done) | (simp; omega)) rfl ?_
    refine Drawn.load hTT hB rfl (hw34.cell hoc id) (by first | exact fun h => h | (intro h; omega) | assumption) rfl ?_
    refine Drawn.call hTT hB rfl (fun w' hw' => (ref12_Top l w' (hlY4.ok.grow hw')).grow) rfl ?_
    refine Drawn.loadb hTT hB rfl hrb43 (by first | exact fun h => h | (intro h; omega) | assumption) rfl rfl ?_
    refine Drawn.index hTT hB rfl (j := 0) (by omega) (by omega) (by first | rfl | omega | (simp; done) | (simp; omega)) rfl ?_
    refine Drawn.load hTT hB rfl (hw34.cell hoc' id) (by first | exact fun h => h | (intro h; omega) | assumption) rfl ?_
    refine Drawn.call hTT hB rfl (fun w' hw' => (ref12_Hole l' w' (hlY4'.ok.grow hw')).grow) rfl ?_
    refine Drawn.nil hB ?_
    intro w5 hw5
    refine Goes.adv hTT 400 rfl ?_
    refine Goes.build hTT rfl rfl ?_
    rw [hlx, hlx']
    refine Goes.store hTT rfl ((hw34.trans hw5).heap' hqb) rfl rfl ?_
    intro w6 hqb6 hs6 hz6
    refine Goes.adv hTT 400 rfl ?_
    exact Goes.ret hTT rfl Tryd.func54 (ResOk.cell rfl rfl rfl hqb6 rfl (.tmp rfl .nil)) ⟨rfl, (hw02.trans (hw34.trans hw5)).since hs6 (fun z hz e => by have := hw1.size; omega)⟩
  · refine Goes.yes hTT rfl (decide_eq_true (by omega)) rfl ?_
    rw [if_neg ho, decide_eq_false ho]
    refine Goes.build hTT rfl rfl ?_
    refine Goes.store hTT rfl hqb rfl rfl ?_
    intro w3 hqb3 hs3 hz3
    refine Goes.adv hTT 400 rfl ?_
    exact Goes.ret hTT rfl Tryd.func54 (ResOk.cell rfl rfl rfl hqb3 rfl (.tmp rfl .nil)) ⟨rfl, hw02.since hs3 (fun z hz e => by have := hw1.size; omega)⟩
end Go.Proofs.YtdmedllaackbaaaDoor
/-
  Layer 13: what the document says of a shelf: giving back.
-/
namespace Go.Proofs.YtdmedllaackbaaaDoor
open Go.RowKit

theorem RdP.shift {w : World} {a : Option Addr} {ps : List IL} {cap lo k : Nat} (h : RdP w a ps) (hm : lo + k ≤ ps.length) (hc : ps.length ≤ cap) : RdP w (shiftA a cap lo 1) ((ps.drop lo).take k) := fun i l hl => by
  have hi : i < ((ps.drop lo).take k).length := (List.getElem?_eq_some_iff.1 hl).1
  have hi' : i < k := by rw [List.length_take] at hi; omega
  rw [List.getElem?_take, if_pos hi', List.getElem?_drop] at hl
  obtain ⟨b, off, rfl, hcell⟩ := h (lo + i) l hl
  have hcl : ¬ cap = lo := by omega
  refine ⟨b, off + lo, ?_, ?_⟩
  · simp only [shiftA, if_neg hcl, Option.map_some, Nat.mul_one, add_off]
  · rw [Nat.add_assoc]; exact hcell
theorem erase_map {α β : Type} (f : α → β) (l : List α) (k : Nat) : (l.take k ++ l.drop (k + 1)).map f = (l.map f).take k ++ (l.map f).drop (k + 1) := by
  rw [List.map_append, List.map_take, List.map_drop]
theorem Rd.noneA' {w : World} {a : Option Addr} {x : List Int} {k : IntKind} (h : Rd k w a x) {n : Nat} (hn : x.length = n) : a = none → n = 0 := fun e => by rw [← hn]; exact h.noneA e
set_option maxRecDepth 100000 in
theorem ref13_Give (r : RS) (x : Sm) (pl : PlM) (n i : Int) (w : World) (h : RsOk w r x pl) (hok : x.Ok) (hof : x.Of pl) (hg : pl.Good) : Does Tryd.prog 51 #[.agg (rsL r).toArray, .int .i64 n, .int .i64 i] w
    (fun v w' => ∃ r', v = .tuple #[.agg (rsL r').toArray, .int .i64 (shGiveE x n i)] ∧ RsOk w' r' (shGive x n i) (shGiveP x pl n i) ∧ Keep w r r' ∧ Chg None' w w') := by
  obtain ⟨hf1, hf2, hf3⟩ := h.few hok hof
  have hml : maxLen = 9223372036854775807 := rfl
  have hbk := hok.blk
  refine Does.enter Tryd.func51 rfl Tryd.ntmps51 rfl rfl ?_
  refine Goes.adv hTT 400 rfl ?_
  refine Goes.alloc hTT rfl ?_
  intro rb w1 e1 hrb hw1 hz1
  refine Goes.adv hTT 400 rfl ?_
  refine Goes.alloc hTT rfl ?_
  intro qb w2 e2 hqb hw2 hz2
  refine Goes.adv hTT 400 rfl ?_
  replace hrb : w1.heap[rb]? = some (.cells (rsL r).toArray 54 (0, 0)) := hrb
  have hrb2 := hw2.heap' hrb
  have hw02 := hw1.trans hw2
  have hs02 := hw02.size
  have hs01 := hw1.size
  refine Goes.loads hTT rfl hrb2 rfl rfl ?_
  refine Goes.call rfl (ref13_find r n w2 (h.nums.grow hw02)) ?_
  rintro _ w3 ⟨rfl, hw3⟩
  refine Goes.adv hTT 400 rfl ?_
  have hw03 := hw02.trans hw3
  have hrb3 := hw3.heap' hrb2
  have hqb3 := hw3.heap' hqb
  have h3 := h.grow hw03
  have hs3 := hw3.size
  rw [h.e3]
  have hlq := lt_of_heap hqb
  cases hgn : smGet x.pg n with
  | none =>
    rw [show shGiveE x n i = 1 from by unfold shGiveE; rw [hgn], show shGive x n i = x from by unfold shGive; rw [hgn], show shGiveP x pl n i = pl from by unfold shGiveP; rw [hgn], pos_neg hgn]
    refine Goes.yes hTT rfl rfl rfl ?_
    refine Goes.loads hTT rfl hrb3 rfl rfl ?_
    have hqf := hqb3
    refine Goes.store hTT rfl hqf rfl rfl ?_
    intro Wz hqz hsz hzz
    refine Goes.adv hTT 400 rfl ?_
    replace hqz : Wz.heap[qb]? = some (.cells (rsL r).toArray 54 (0, 0)) := hqz
    exact Goes.ret hTT rfl Tryd.func51 (ResOk.cell rfl rfl rfl hqz rfl (.tmp rfl .nil)) ⟨r, rfl, h3.far (h.out (fun z hz => by omega)) hsz, Keep.refl _ _, hw03.since hsz (fun z hz e => by omega)⟩
  | some p =>
    obtain ⟨k, m, rfl, hpos, hkl, hk⟩ := pos_some hgn
    rw [hpos]
    obtain ⟨l, hl, hlx, hlY⟩ := h3.get hk
    obtain ⟨pb, poff, hpa, hpc⟩ := h3.rp k l hl
    have hrb4 : w3.heap[rb]? = some (.cells ([ilV r.p.o, ilV r.p.f, .int .i64 r.cls, .int .i64 (r.blocks : Int), ilV r.nums, .slice (some ⟨pb, poff, none⟩) r.ps.length r.pcap, ilV r.opn] : List Value).toArray 54 (0, 0)) := by rw [← hpa]; exact hrb3
    have hil' : k < r.ps.length := (List.getElem?_eq_some_iff.1 hl).1
    have hmem : (m, p) ∈ x.pg := List.mem_of_getElem? hk
    have hpl := (hok.each _ hmem).2.1
    simp only at hpl
    refine Goes.no hTT rfl (decide_eq_false (by omega)) rfl ?_
    refine Goes.loadb hTT rfl hrb4 rfl rfl ?_
    refine Goes.index hTT rfl (j := k) (by omega) (by omega) (by first | rfl | omega | (simp; done) | (simp; omega)) rfl ?_
    refine Goes.load hTT rfl hpc rfl ?_
    refine Goes.call rfl (ref12_Hole l w3 hlY.ok) ?_
    rintro _ _ ⟨rfl, rfl⟩
    refine Goes.adv hTT 400 rfl ?_
    rw [hlx]
    refine Goes.loadb hTT rfl hrb4 rfl rfl ?_
    refine Goes.index hTT rfl (j := k) (by omega) (by omega) (by first | rfl | omega | (simp; done) | (simp; omega)) rfl ?_
    refine Goes.load hTT rfl hpc rfl ?_
    refine Goes.call rfl (ref12_Give l i w3 hlY.ok) ?_
    rintro _ w5 ⟨l', rfl, hlx', hlI', hw5, hlN⟩
    refine Goes.adv hTT 400 rfl ?_
    rw [hlx] at hlx' ⊢
    have hrb5 := hw5.heap' hrb3
    have hqb5 := hw5.heap' hqb3
    have hw05 := hw03.trans hw5
    have hs5 := hw5.size
    by_cases hE : pgGiveE p i = 0
    · rw [show shGiveE x m i = 0 from by unfold shGiveE; rw [hgn]; exact hE, show shGive x m i = x.giveAt m p i from by unfold shGive; rw [hgn]; simp only; rw [if_pos hE]; rfl, show shGiveP x pl m i = (if pgUsed (pgGive p i) = 0 then pl.give m else pl) from by unfold shGiveP; rw [hgn]; simp only [hE, true_and]; rfl, hE]
      refine Goes.no hTT rfl rfl rfl ?_
      have hlY' : IlY w5 l' := IlY.of hlI' (by rw [hlx', pgGive_len]; omega)
      have h5 := h3.grow hw5
      refine Goes.loads hTT rfl hrb5 rfl rfl ?_
      refine Goes.call rfl (ref13_with r k l' w5 h5.rp hil' (by rw [h.plen]; omega)) ?_
      rintro _ w6 ⟨pa', pcap', rfl, hp1, hp2, hp3, hp4, hw6⟩
      refine Goes.adv hTT 400 rfl ?_
      have h6 := (h5.grow hw6).setPage hok.nodup hk hlx' (hlY'.grow hw6) hp1 hp2 hp3
      have hs6 := hw6.size
      obtain ⟨r2, hr2⟩ : ∃ r2 : RS, r2 = { r with pa := pa', pcap := pcap', ps := r.ps.set k l' } := ⟨_, rfl⟩
      have hk2 : ∀ Q : Nat → Prop, (∀ z, Q z → z < w3.heap.size) → RsOut Q r → RsOut Q r2 := fun Q hQ ho => by
        rw [hr2]
        exact ho.setPage (hp4.out (fun z hz => by have := hQ z hz; omega)) (hlN.outS (ho.each l (List.mem_of_getElem? hl)) (fun z hz => by have := hQ z hz; omega))
      rw [← hr2] at h6 ⊢
      have hok2 : ∀ (z0 : Nat), w6.heap.size ≤ z0 → RsOut (fun z => z = z0) r2 := fun z0 hz0 => h6.out (fun z hz => by omega)
      refine Goes.alloc hTT rfl ?_
      intro kb w7 e7 hkb7 hw7 hz7
      refine Goes.adv hTT 400 rfl ?_
      refine Goes.store hTT rfl hkb7 rfl rfl ?_
      intro w8 hkb8 hs8 hz8
      refine Goes.adv hTT 400 rfl ?_
      replace hkb8 : w8.heap[kb]? = some (.cells (rsL r2).toArray 54 (0, 0)) := hkb8
      have hc68 : Chg None' w6 w8 := hw7.since hs8 (fun z hz e => by omega)
      have hs68 := hc68.size
      have h8 := h6.grow hc68
      have hc08 := (hw05.trans hw6).trans hc68
      have hrb8 := (hw6.trans hc68).heap' hrb5
      have hqb8 := (hw6.trans hc68).heap' hqb5
      have hlY8 := (hlY'.grow hw6).grow hc68
      have hlok : OutA (fun z => z = kb) l'.a := (hlY'.grow hw6).lt.out (fun z hz => by omega)
      have hor2 := hok2 kb (by omega)
      have hfullI : pgHole p < 0 ↔ pgUsed p = x.blocks := by rw [pgHole_full, hpl]
      refine Goes.fork hTT rfl rfl rfl (fun hful => ?_) (fun hful => ?_)
      · have gful : pgUsed p = x.blocks := hfullI.1 (of_decide_eq_true hful)
        refine Goes.buildSlice hTT rfl ?_
        intro b9 w9 e9 hb9 hw9 hz9
        refine Goes.adv hTT 400 rfl ?_
        refine Goes.loadb hTT rfl (hw9.heap' hkb8) rfl rfl ?_
        have ho9 : Own w8.heap.size 3 1 w9 (.slice (some ⟨b9, 0, none⟩) 1 1) 1 [.int .i64 (m : Int)] := Own.one (by omega) hb9
        have hopL : r2.opn.x.length = x.opn.length := by rw [h8.e5]; simp
        have hfo : x.opn.length + 1 ≤ 512 := by
          have hnn : m ∉ x.opn := fun hm => ((hok.each _ hmem).2.2.1 hm) gful
          have : (m :: x.opn).length ≤ pl.own.length := nodup_le _ _ (List.nodup_cons.2 ⟨hnn, hok.onodup⟩) (fun z hz => by
            rcases List.mem_cons.1 hz with rfl | hz
            · exact (hof _ hmem).1
            · obtain ⟨q, hq⟩ := hok.osub z hz; exact (hof _ hq).1)
          simp only [List.length_cons] at this
          omega
        refine Goes.appendA (base := w8.heap.size) (xs := [.int .i64 (m : Int)]) (news := r2.opn.x.map (Value.int .i64)) hTT rfl ho9 hw9.size h8.opn.ok.rd.noneA (by simp) (h8.opn.ok.rd.chg hw9).cellsA plain_i64 (by simp only; omega) ?_
        intro v10 w10 ho10 hs10 hv10
        have hw810 := ho9.since hw9 (Nat.le_refl _) hs10
        obtain ⟨ol, rfl, holx0, holX0, holB0⟩ := Own.il (x := (m : Int) :: r2.opn.x) (v := v10) (m := 1 + r2.opn.x.length) (show Own w8.heap.size 3 1 w10 v10 (1 + r2.opn.x.length) (((m : Int) :: r2.opn.x).map (Value.int .i64)) from ho10) (by simp; omega) (by simp; omega)
        refine Goes.adv hTT 400 rfl ?_
        have hs810 := hw810.size
        refine Goes.store hTT rfl (hw810.heap' hkb8) rfl rfl ?_
        intro W hkbW hsW hzW
        refine Goes.adv hTT 400 rfl ?_
        obtain ⟨r3, hr3⟩ : ∃ r3 : RS, r3 = { r2 with opn := ol } := ⟨_, rfl⟩
        have hkb : W.heap[kb]? = some (.cells (rsL r3).toArray 54 (0, 0)) := by rw [hr3]; exact hkbW
        obtain ⟨o, ho⟩ : ∃ o, o = (if pgUsed p = x.blocks then m :: x.opn else x.opn) := ⟨_, rfl⟩
        have hoe : o = m :: x.opn := by rw [ho, if_pos gful]
        have hlkb := lt_of_heap hkb8
        have holk : OutA (fun z => z = kb) ol.a := by intro b off s e hz; have := holB0 b off s e; omega
        have hok3 : RsOut (fun z => z = kb) r3 := by rw [hr3]; exact hor2.setOpn holk
        have hR3 : RsOk W r3 { x with pg := smSet x.pg m (pgGive p i), opn := o } pl := by
          have hor := hok3
          rw [hr3] at hor ⊢
          exact ((h8.grow hw810).setOpn (o := o) holX0 (by rw [holx0, h8.e5, hoe]; rfl)).far hor hsW
        have hk3 : ∀ Q : Nat → Prop, (∀ z, Q z → z < w3.heap.size) → RsOut Q r → RsOut Q r3 := fun Q hQ hro => by
          rw [hr3]; exact (hk2 Q hQ hro).setOpn (by intro b off s e hz; have := holB0 b off s e; have := hQ b hz; omega)
        have hcW2 : Chg None' w w6 := hw05.trans hw6
        have hcW : Chg None' w W := (hc08.trans hw810).since hsW (fun z hz e => by omega)
        have hrbW := hsW.heap (hw810.heap' hrb8) (show ¬ rb = kb by omega)
        have hqW := hsW.heap (hw810.heap' hqb8) (show ¬ qb = kb by omega)
        have hlYW := (hlY8.grow hw810).far hlok hsW
        refine Goes.call rfl (ref12_Used l' W hlYW.ok) ?_
        rintro _ _ ⟨rfl, rfl⟩
        refine Goes.adv hTT 400 rfl ?_
        rw [hlx']
        by_cases hu : pgUsed (pgGive p i) = 0
        · rw [show (if pgUsed (pgGive p i) = 0 then pl.give m else pl) = pl.give m from if_pos hu]
          refine Goes.no hTT rfl (by rw [hu]; rfl) rfl ?_
          have hge : x.giveAt m p i = { x with pg := smDel x.pg m, opn := o.filter (fun z => z != m) } := by unfold Sm.giveAt; simp only; rw [if_pos hu, ho]
          rw [hge]
          refine Goes.loadb hTT rfl hkb rfl rfl ?_
          refine Goes.call rfl (ref13_without r3.opn m W hR3.opn) ?_
          rintro _ Wa ⟨ol2, rfl, holx, holX, holF, hWa⟩
          refine Goes.adv hTT 400 rfl ?_
          have hsa := hWa.size
          refine Goes.store hTT rfl (hWa.heap' hkb) rfl rfl ?_
          intro Wb hkbb hsb hzb
          refine Goes.adv hTT 400 rfl ?_
          replace hkbb : Wb.heap[kb]? = some (.cells ([ilV r3.p.o, ilV r3.p.f, .int .i64 r3.cls, .int .i64 (r3.blocks : Int), ilV r3.nums, .slice r3.pa r3.ps.length r3.pcap, ilV ol2] : List Value).toArray 54 (0, 0)) := hkbb
          have nn : ∀ {a b : World}, Chg None' a b → Chg (fun z => z = kb) a b := fun h => h.mono fun _ _ h => h.elim
          have hcb : Chg None' w Wb := (hcW.trans hWa).since hsb (fun z hz e => by omega)
          have hsWb := hsb.size
          have hrbB := hsb.heap (hWa.heap' hrbW) (show ¬ rb = kb by omega)
          -- nums
          have hnX := h.nums.grow hcb
          have hnL : r.nums.x.length = x.pg.length := by rw [h.e3]; simp
          have hnC := h.nums.cap
          have hpC := h.pcap
          refine Goes.drawn (q := 11) None' hTT mixed (by kernel_rfl) rfl ?_
          intro hB
          refine Drawn.loadb hTT hB rfl hrbB (by first | exact fun h => h | (intro h; omega) | assumption) rfl rfl ?_
          refine Drawn.slice hTT hB rfl (l := 0) (h := k) (by first | rfl | omega | simp [loV]) (by first | rfl | omega | simp [hiV]) (by omega) (by omega) rfl ?_
          refine Drawn.loadb hTT hB rfl hrbB (by first | exact fun h => h | (intro h; omega) | assumption) rfl rfl ?_
          refine Drawn.arith hTT hB rfl (w64 (by omega)) rfl ?_
          refine Drawn.slice hTT hB rfl (l := (k+1)) (h := r.nums.x.length) (by first | rfl | omega | simp [loV]) (by first | rfl | omega | simp [hiV]) (by omega) (by omega) rfl ?_
          obtain ⟨hs1, hs1l⟩ := hnX.sl (lo := 0) (hi := k) (Nat.zero_le _) (by omega)
          obtain ⟨hs2, hs2l⟩ := hnX.sl (lo := k + 1) (hi := r.nums.x.length) (by omega) (Nat.le_refl _)
          refine Drawn.turn1 hB rfl ?_
          intro Wc hWc
          refine Turn.buildSlice hTT hB rfl (fun _ => rfl) ?_
          intro b1 Wd e1' hb1 hWd hzd
          refine Drawn.turn1 hB rfl ?_
          intro We hWe
          have ho1 : Own Wb.heap.size 3 1 We (.slice (some ⟨b1, 0, none⟩) 0 0) 0 [] := Own.empty (by have := hWc.size; omega) (hWe.heap' hb1)
          have hbe := (hWc.trans hWd).trans hWe
          refine Turn.appendA hTT hB rfl (base := Wb.heap.size) (xs := []) (news := (r.nums.sl 0 k).x.map (Value.int .i64)) ho1 hbe.size ((hs1.grow hbe).ok.rd.noneA' hs1l) (Nat.le_refl _) (by rw [List.length_map, hs1l, Nat.mul_one]) (hs1.grow hbe).ok.rd.cellsA plain_i64 (by simp only; omega) (fun _ => rfl) ?_
          intro v2 Wf ho2 hsf hv2
          obtain ⟨va, vn, vc, rfl⟩ := Own.isSlice ho2
          have hbf := ho1.since hbe (Nat.le_refl _) hsf
          refine Drawn.nil hB ?_
          intro Wg hWg
          refine Goes.adv hTT 400 rfl ?_
          have ho2g := ho2.chg hWg (fun _ _ h => h)
          have hbg := hbf.trans hWg
          refine Goes.appendA (base := Wb.heap.size) (news := (r.nums.sl (k + 1) r.nums.x.length).x.map (Value.int .i64)) hTT rfl ho2g hbg.size ((hs2.grow hbg).ok.rd.noneA' hs2l) (by rw [List.length_map, hs2l, Nat.mul_one]) (hs2.grow hbg).ok.rd.cellsA plain_i64 (by simp only; omega) ?_
          intro v3 Wh ho3 hsh hv3
          have hbh := ho2g.since hbg (Nat.le_refl _) hsh
          obtain ⟨nl, rfl, hnlx, hnlX, hnlB⟩ := Own.il (x := (r.nums.sl 0 k).x ++ (r.nums.sl (k + 1) r.nums.x.length).x) (v := v3) (by rw [List.map_append]; exact ho3) (by rw [List.length_append, hs1l, hs2l]; omega) (by rw [List.length_append, hs1l, hs2l]; omega)
          refine Goes.adv hTT 400 rfl ?_
          have hsBh := hbh.size
          refine Goes.store hTT rfl (hbh.heap' hkbb) rfl rfl ?_
          intro Wi hkbi hsi hzi
          refine Goes.adv hTT 400 rfl ?_
          replace hkbi : Wi.heap[kb]? = some (.cells ([ilV r3.p.o, ilV r3.p.f, .int .i64 r3.cls, .int .i64 (r3.blocks : Int), ilV nl, .slice r3.pa r3.ps.length r3.pcap, ilV ol2] : List Value).toArray 54 (0, 0)) := hkbi
          have hci : Chg None' w Wi := (hcb.trans hbh).since hsi (fun z hz e => by omega)
          have hrbI := hsi.heap (hbh.heap' hrbB) (show ¬ rb = kb by omega)
          -- pages
          have hrpI := h.rp.grow hci
          have hpL := h.plen
          refine Goes.drawn (q := 11) None' hTT mixed (by kernel_rfl) rfl ?_
          intro hB
          refine Drawn.loadb hTT hB rfl hrbI (by first | exact fun h => h | (intro h; omega) | assumption) rfl rfl ?_
          refine Drawn.slice hTT hB rfl (l := 0) (h := k) (by first | rfl | omega | simp [loV]) (by first | rfl | omega | simp [hiV]) (by omega) (by omega) rfl ?_
          refine Drawn.loadb hTT hB rfl hrbI (by first | exact fun h => h | (intro h; omega) | assumption) rfl rfl ?_
          refine Drawn.arith hTT hB rfl (w64 (by omega)) rfl ?_
          refine Drawn.slice hTT hB rfl (l := (k+1)) (h := r.ps.length) (by first | rfl | omega | simp [loV]) (by first | rfl | omega | simp [hiV]) (by omega) (by omega) rfl ?_
          have hq1 := hrpI.shift (cap := r.pcap) (lo := 0) (k := k) (by omega) h.pcap
          have hq2 := hrpI.shift (cap := r.pcap) (lo := k + 1) (k := r.ps.length - (k + 1)) (by omega) h.pcap
          have hq1l : ((r.ps.drop 0).take k).length = k := by rw [List.length_take, List.length_drop]; omega
          have hq2l : ((r.ps.drop (k + 1)).take (r.ps.length - (k + 1))).length = r.ps.length - (k + 1) := by rw [List.length_take, List.length_drop]; omega
          refine Drawn.turn1 hB rfl ?_
          intro Wj hWj
          refine Turn.buildSlice hTT hB rfl (fun _ => rfl) ?_
          intro b4 Wk e4' hb4 hWk hzk
          refine Drawn.turn1 hB rfl ?_
          intro Wl hWl
          have ho4 : Own Wi.heap.size 30 1 Wl (.slice (some ⟨b4, 0, none⟩) 0 0) 0 [] := Own.empty (by have := hWj.size; omega) (hWl.heap' hb4)
          have hil := (hWj.trans hWk).trans hWl
          refine Turn.appendA hTT hB rfl (base := Wi.heap.size) (xs := []) (news := ((r.ps.drop 0).take k).map ilV) ho4 hil.size (fun e => by have := (hq1.grow hil).noneA e; omega) (Nat.le_refl _) (by rw [List.length_map, hq1l]; show k = (k - 0) * 1; omega) (hq1.grow hil).cellsA plain_il (by simp only; omega) (fun _ => rfl) ?_
          intro v5 Wm ho5 hsm hv5
          obtain ⟨vd, ve, vf, rfl⟩ := Own.isSlice ho5
          have him := ho4.since hil (Nat.le_refl _) hsm
          refine Drawn.nil hB ?_
          intro Wn hWn
          refine Goes.adv hTT 400 rfl ?_
          have ho5n := ho5.chg hWn (fun _ _ h => h)
          have hin := him.trans hWn
          refine Goes.appendA (base := Wi.heap.size) (news := ((r.ps.drop (k + 1)).take (r.ps.length - (k + 1))).map ilV) hTT rfl ho5n hin.size (fun e => by have := (hq2.grow hin).noneA e; omega) (by rw [List.length_map, hq2l, Nat.mul_one]) (hq2.grow hin).cellsA plain_il (by simp only; omega) ?_
          intro v6 Wo ho6 hso hv6
          have hio := ho5n.since hin (Nat.le_refl _) hso
          obtain ⟨pa3, pcap3, rfl, hp1, hp2, hp3, hpB⟩ := Own.pl (ps := (r.ps.drop 0).take k ++ (r.ps.drop (k + 1)).take (r.ps.length - (k + 1))) (v := v6) (by rw [List.map_append]; exact ho6) (by rw [List.length_append, hq1l, hq2l]; omega)
          refine Goes.adv hTT 400 rfl ?_
          have hsIo := hio.size
          have hsIi := hsi.size
          obtain ⟨ps3, hps3⟩ : ∃ ps3, ps3 = (r.ps.drop 0).take k ++ (r.ps.drop (k + 1)).take (r.ps.length - (k + 1)) := ⟨_, rfl⟩
          rw [← hps3] at hp1 hp3 ⊢
          refine Goes.store hTT rfl (hio.heap' hkbi) rfl rfl ?_
          intro Wp hkbp hsp hzp
          refine Goes.adv hTT 400 rfl ?_
          replace hkbp : Wp.heap[kb]? = some (.cells ([ilV r3.p.o, ilV r3.p.f, .int .i64 r3.cls, .int .i64 (r3.blocks : Int), ilV nl, .slice pa3 ps3.length pcap3, ilV ol2] : List Value).toArray 54 (0, 0)) := hkbp
          -- the pool
          have c1 : Chg (fun z => z = kb) Wa Wp := ((hsb.trans (nn hbh)).trans hsi).trans ((nn hio).trans hsp)
          have hRa := hR3.grow hWa
          have hPp : RpOk Wp r3.p pl := ⟨hRa.p.o.far hok3.o c1, hRa.p.f.far hok3.f c1, hRa.p.eo, hRa.p.ef⟩
          obtain ⟨hof1, hof2⟩ := hof _ (List.mem_of_getElem? hk)
          simp only at hof1 hof2
          have hcl := hok.cls
          refine Goes.loads hTT rfl hkbp rfl rfl ?_
          refine Goes.call rfl (ref08_Give r3.p m pl Wp hPp hg hof1 (by omega)) ?_
          rintro _ Wq ⟨rp', rfl, hPq, hF1, hF2, hWq⟩
          refine Goes.adv hTT 400 rfl ?_
          have hsq := hWq.size
          refine Goes.alloc hTT rfl ?_
          intro ub Wr er hub hWr hzr
          refine Goes.adv hTT 400 rfl ?_
          refine Goes.store hTT rfl hub rfl rfl ?_
          intro Ws hubs hss hzs
          refine Goes.adv hTT 400 rfl ?_
          replace hubs : Ws.heap[ub]? = some (.cells (rpL rp').toArray 51 (0, 0)) := hubs
          have hcqs : Chg None' Wq Ws := hWr.since hss (fun z hz e => by omega)
          have hcps := hWq.trans hcqs
          refine Goes.loads hTT rfl hubs rfl rfl ?_
          refine Goes.store hTT rfl (hcps.heap' hkbp) rfl rfl ?_
          intro Wt hkbt hst hzt
          refine Goes.adv hTT 400 rfl ?_
          obtain ⟨r7, hr7⟩ : ∃ r7 : RS, r7 = ⟨rp', r3.cls, r3.blocks, nl, pa3, pcap3, ps3, ol2⟩ := ⟨_, rfl⟩
          replace hkbt : Wt.heap[kb]? = some (.cells (rsL r7).toArray 54 (0, 0)) := by rw [hr7]; exact hkbt
          have hsWa : W.heap.size ≤ Wa.heap.size := hsa
          have hsbp : Wb.heap.size ≤ Wp.heap.size := by have := hsp.size; omega
          have hk7 : ∀ Q : Nat → Prop, (∀ z, Q z → z < W.heap.size) → RsOut Q r → RsOut Q r7 := fun Q hQ hro => by
            rw [hr7]
            exact ⟨hF1.out (fun z hz => by have := hQ z hz; omega), hF2.out (fun z hz => by have := hQ z hz; omega), (by intro b off s e hz; have := hnlB b off s e; have := hQ b hz; omega), holF.out (fun z hz => hQ z hz), (by intro b off s e hz; have := hpB b off s e; have := hQ b hz; omega), fun l2 hl2 => hro.each l2 (by
              rw [hps3] at hl2
              rcases List.mem_append.1 hl2 with h1 | h1
              · exact List.mem_of_mem_drop (List.mem_of_mem_take h1)
              · exact List.mem_of_mem_drop (List.mem_of_mem_take h1))⟩
          have hork : RsOut (fun z => z = kb) r := h.out (fun z hz => by have := hcW2.size; omega)
          have hor7 := hk7 (fun z => z = kb) (fun z hz => by omega) hork
          have c3 : Chg (fun z => z = kb) Ws Wt := hst
          have c4 : Chg (fun z => z = kb) Wi Wt := ((nn hio).trans hsp).trans ((nn hcps).trans hst)
          have hct : Chg None' w Wt := (((hci.trans hio).since hsp (fun z hz e => by omega)).trans hcps).since hst (fun z hz e => by omega)
          have hR7 : RsOk Wt r7 { x with pg := smDel x.pg m, opn := o.filter (fun z => z != m) } (pl.give m) := by
            have hor := hor7
            rw [hr7] at hor ⊢
            have hPs := hPq.grow hcqs
            refine ⟨⟨hPs.o.far hor.o c3, hPs.f.far hor.f c3, hPs.eo, hPs.ef⟩, (hnlX.far hor.nums hsi).far hor.nums c4, (holX.far hor.opn c1).far hor.opn ((nn hcps).trans hst), (hp1.far hor.pa hsp).far hor.pa ((nn hcps).trans hst), hp2.grow (by have := hsp.size; have := hst.size; have := hcps.size; omega), hp3, fun l2 hl2 => ?_, hR3.e1, hR3.e2, ?_, ?_, ?_⟩
            · have : l2 ∈ r.ps := by
                have hl3 : l2 ∈ ps3 := hl2
                rw [hps3] at hl3
                rcases List.mem_append.1 hl3 with h1 | h1
                · exact List.mem_of_mem_drop (List.mem_of_mem_take h1)
                · exact List.mem_of_mem_drop (List.mem_of_mem_take h1)
              exact (h.each l2 this).grow hct
            · show nl.x = (smDel x.pg m).map _
              rw [hnlx, smDel_idx hok.nodup hk, erase_map]
              show (r.nums.x.drop 0).take (k - 0) ++ (r.nums.x.drop (k + 1)).take (r.nums.x.length - (k + 1)) = _
              rw [List.drop_zero, Nat.sub_zero, List.take_of_length_le (i := r.nums.x.length - (k + 1)) (by rw [List.length_drop]; omega), h.e3]
            · show ps3.map _ = (smDel x.pg m).map _
              rw [hps3, smDel_idx hok.nodup hk, erase_map, ← h.e4, List.drop_zero, List.take_of_length_le (i := r.ps.length - (k + 1)) (by rw [List.length_drop]; omega), List.map_append, List.map_take, List.map_drop]
            · show ol2.x = (o.filter _).map _
              rw [holx, hR3.e5]; exact filter_cast _ _
          have hqt : Wt.heap[qb]? = _ := (c1.trans ((nn hcps).trans hst)).heap (hWa.heap' hqW) (show ¬ qb = kb by omega)
          refine Goes.loads hTT rfl hkbt rfl rfl ?_
          have hqf := hqt
          refine Goes.store hTT rfl hqf rfl rfl ?_
          intro Wz hqz hsz hzz
          refine Goes.adv hTT 400 rfl ?_
          replace hqz : Wz.heap[qb]? = some (.cells (rsL r7).toArray 54 (0, 0)) := hqz
          have hoq : RsOut (fun z => z = qb) r7 := hk7 _ (fun z hz => by have := lt_of_heap hqW; omega) (h.out (fun z hz => by omega))
          exact Goes.ret hTT rfl Tryd.func51 (ResOk.cell rfl rfl rfl hqz rfl (.tmp rfl .nil)) ⟨r7, rfl, hR7.far hoq hsz, fun Q hQ hro => hk7 Q (fun z hz => by have := hQ z hz; have := hcW.size; omega) hro, hct.since hsz (fun z hz e => by omega)⟩
        · rw [show (if pgUsed (pgGive p i) = 0 then pl.give m else pl) = pl from if_neg hu]
          refine Goes.yes hTT rfl (decide_eq_true (by omega)) rfl ?_
          have hge : x.giveAt m p i = { x with pg := smSet x.pg m (pgGive p i), opn := o } := by unfold Sm.giveAt; simp only; rw [if_neg hu, ho]
          rw [hge]
          refine Goes.loads hTT rfl hkb rfl rfl ?_
          have hqf := hqW
          refine Goes.store hTT rfl hqf rfl rfl ?_
          intro Wz hqz hsz hzz
          refine Goes.adv hTT 400 rfl ?_
          replace hqz : Wz.heap[qb]? = some (.cells (rsL r3).toArray 54 (0, 0)) := hqz
          have hoq : RsOut (fun z => z = qb) r3 := hk3 _ (fun z hz => by omega) (h.out (fun z hz => by omega))
          exact Goes.ret hTT rfl Tryd.func51 (ResOk.cell rfl rfl rfl hqz rfl (.tmp rfl .nil)) ⟨r3, rfl, hR3.far hoq hsz, fun Q hQ hro => hk3 Q (fun z hz => by have := hQ z hz; omega) hro, hcW.since hsz (fun z hz e => by omega)⟩
      · have gful : ¬ pgUsed p = x.blocks := fun e => by have := of_decide_eq_false hful; exact this (hfullI.2 e)
        obtain ⟨r3, hr3⟩ : ∃ r3 : RS, r3 = r2 := ⟨_, rfl⟩
        obtain ⟨W, hW⟩ : ∃ W, W = w8 := ⟨_, rfl⟩
        obtain ⟨o, ho⟩ : ∃ o, o = (if pgUsed p = x.blocks then m :: x.opn else x.opn) := ⟨_, rfl⟩
        have hoe : o = x.opn := by rw [ho, if_neg gful]
        have hkb : W.heap[kb]? = some (.cells (rsL r3).toArray 54 (0, 0)) := by rw [hW, hr3]; exact hkb8
        have hok3 : RsOut (fun z => z = kb) r3 := by rw [hr3]; exact hor2
        have hR3 : RsOk W r3 { x with pg := smSet x.pg m (pgGive p i), opn := o } pl := by rw [hW, hr3, hoe]; exact h8
        have hk3 : ∀ Q : Nat → Prop, (∀ z, Q z → z < w3.heap.size) → RsOut Q r → RsOut Q r3 := fun Q hQ hro => by rw [hr3]; exact hk2 Q hQ hro
        have hcW2 : Chg None' w w6 := hw05.trans hw6
        have hcW : Chg None' w W := by rw [hW]; exact hc08
        have hrbW := hrb8
        have hqW := hqb8
        have hlYW := hlY8
        rw [← hW] at hrbW hqW hlYW
        have hgoal : ∀ {X : World → Prop}, X W → X w8 := fun h => hW ▸ h
        refine hgoal (X := fun w2 => Goes _ _ _ _ _ _ _ w2) ?_
        have hs68W : w6.heap.size ≤ W.heap.size := by rw [hW]; exact hs68
        have hlkb := lt_of_heap hkb
        refine Goes.call rfl (ref12_Used l' W hlYW.ok) ?_
        rintro _ _ ⟨rfl, rfl⟩
        refine Goes.adv hTT 400 rfl ?_
        rw [hlx']
        by_cases hu : pgUsed (pgGive p i) = 0
        · rw [show (if pgUsed (pgGive p i) = 0 then pl.give m else pl) = pl.give m from if_pos hu]
          refine Goes.no hTT rfl (by rw [hu]; rfl) rfl ?_
          have hge : x.giveAt m p i = { x with pg := smDel x.pg m, opn := o.filter (fun z => z != m) } := by unfold Sm.giveAt; simp only; rw [if_pos hu, ho]
          rw [hge]
          refine Goes.loadb hTT rfl hkb rfl rfl ?_
          refine Goes.call rfl (ref13_without r3.opn m W hR3.opn) ?_
          rintro _ Wa ⟨ol2, rfl, holx, holX, holF, hWa⟩
          refine Goes.adv hTT 400 rfl ?_
          have hsa := hWa.size
          refine Goes.store hTT rfl (hWa.heap' hkb) rfl rfl ?_
          intro Wb hkbb hsb hzb
          refine Goes.adv hTT 400 rfl ?_
          replace hkbb : Wb.heap[kb]? = some (.cells ([ilV r3.p.o, ilV r3.p.f, .int .i64 r3.cls, .int .i64 (r3.blocks : Int), ilV r3.nums, .slice r3.pa r3.ps.length r3.pcap, ilV ol2] : List Value).toArray 54 (0, 0)) := hkbb
          have nn : ∀ {a b : World}, Chg None' a b → Chg (fun z => z = kb) a b := fun h => h.mono fun _ _ h => h.elim
          have hcb : Chg None' w Wb := (hcW.trans hWa).since hsb (fun z hz e => by omega)
          have hsWb := hsb.size
          have hrbB := hsb.heap (hWa.heap' hrbW) (show ¬ rb = kb by omega)
          -- nums
          have hnX := h.nums.grow hcb
          have hnL : r.nums.x.length = x.pg.length := by rw [h.e3]; simp
          have hnC := h.nums.cap
          have hpC := h.pcap
          refine Goes.drawn (q := 11) None' hTT mixed (by kernel_rfl) rfl ?_
          intro hB
          refine Drawn.loadb hTT hB rfl hrbB (by first | exact fun h => h | (intro h; omega) | assumption) rfl rfl ?_
          refine Drawn.slice hTT hB rfl (l := 0) (h := k) (by first | rfl | omega | simp [loV]) (by first | rfl | omega | simp [hiV]) (by omega) (by omega) rfl ?_
          refine Drawn.loadb hTT hB rfl hrbB (by first | exact fun h => h | (intro h; omega) | assumption) rfl rfl ?_
          refine Drawn.arith hTT hB rfl (w64 (by omega)) rfl ?_
          refine Drawn.slice hTT hB rfl (l := (k+1)) (h := r.nums.x.length) (by first | rfl | omega | simp [loV]) (by first | rfl | omega | simp [hiV]) (by omega) (by omega) rfl ?_
          obtain ⟨hs1, hs1l⟩ := hnX.sl (lo := 0) (hi := k) (Nat.zero_le _) (by omega)
          obtain ⟨hs2, hs2l⟩ := hnX.sl (lo := k + 1) (hi := r.nums.x.length) (by omega) (Nat.le_refl _)
          refine Drawn.turn1 hB rfl ?_
          intro Wc hWc
          refine Turn.buildSlice hTT hB rfl (fun _ => rfl) ?_
          intro b1 Wd e1' hb1 hWd hzd
          refine Drawn.turn1 hB rfl ?_
          intro We hWe
          have ho1 : Own Wb.heap.size 3 1 We (.slice (some ⟨b1, 0, none⟩) 0 0) 0 [] := Own.empty (by have := hWc.size; omega) (hWe.heap' hb1)
          have hbe := (hWc.trans hWd).trans hWe
          refine Turn.appendA hTT hB rfl (base := Wb.heap.size) (xs := []) (news := (r.nums.sl 0 k).x.map (Value.int .i64)) ho1 hbe.size ((hs1.grow hbe).ok.rd.noneA' hs1l) (Nat.le_refl _) (by rw [List.length_map, hs1l, Nat.mul_one]) (hs1.grow hbe).ok.rd.cellsA plain_i64 (by simp only; omega) (fun _ => rfl) ?_
          intro v2 Wf ho2 hsf hv2
          obtain ⟨va, vn, vc, rfl⟩ := Own.isSlice ho2
          have hbf := ho1.since hbe (Nat.le_refl _) hsf
          refine Drawn.nil hB ?_
          intro Wg hWg
          refine Goes.adv hTT 400 rfl ?_
          have ho2g := ho2.chg hWg (fun _ _ h => h)
          have hbg := hbf.trans hWg
          refine Goes.appendA (base := Wb.heap.size) (news := (r.nums.sl (k + 1) r.nums.x.length).x.map (Value.int .i64)) hTT rfl ho2g hbg.size ((hs2.grow hbg).ok.rd.noneA' hs2l) (by rw [List.length_map, hs2l, Nat.mul_one]) (hs2.grow hbg).ok.rd.cellsA plain_i64 (by simp only; omega) ?_
          intro v3 Wh ho3 hsh hv3
          have hbh := ho2g.since hbg (Nat.le_refl _) hsh
          obtain ⟨nl, rfl, hnlx, hnlX, hnlB⟩ := Own.il (x := (r.nums.sl 0 k).x ++ (r.nums.sl (k + 1) r.nums.x.length).x) (v := v3) (by rw [List.map_append]; exact ho3) (by rw [List.length_append, hs1l, hs2l]; omega) (by rw [List.length_append, hs1l, hs2l]; omega)
          refine Goes.adv hTT 400 rfl ?_
          have hsBh := hbh.size
          refine Goes.store hTT rfl (hbh.heap' hkbb) rfl rfl ?_
          intro Wi hkbi hsi hzi
          refine Goes.adv hTT 400 rfl ?_
          replace hkbi : Wi.heap[kb]? = some (.cells ([ilV r3.p.o, ilV r3.p.f, .int .i64 r3.cls, .int .i64 (r3.blocks : Int), ilV nl, .slice r3.pa r3.ps.length r3.pcap, ilV ol2] : List Value).toArray 54 (0, 0)) := hkbi
          have hci : Chg None' w Wi := (hcb.trans hbh).since hsi (fun z hz e => by omega)
          have hrbI := hsi.heap (hbh.heap' hrbB) (show ¬ rb = kb by omega)
          -- pages
          have hrpI := h.rp.grow hci
          have hpL := h.plen
          refine Goes.drawn (q := 11) None' hTT mixed (by kernel_rfl) rfl ?_
          intro hB
          refine Drawn.loadb hTT hB rfl hrbI (by first | exact fun h => h | (intro h; omega) | assumption) rfl rfl ?_
          refine Drawn.slice hTT hB rfl (l := 0) (h := k) (by first | rfl | omega | simp [loV]) (by first | rfl | omega | simp [hiV]) (by omega) (by omega) rfl ?_
          refine Drawn.loadb hTT hB rfl hrbI (by first | exact fun h => h | (intro h; omega) | assumption) rfl rfl ?_
          refine Drawn.arith hTT hB rfl (w64 (by omega)) rfl ?_
          refine Drawn.slice hTT hB rfl (l := (k+1)) (h := r.ps.length) (by first | rfl | omega | simp [loV]) (by first | rfl | omega | simp [hiV]) (by omega) (by omega) rfl ?_
          have hq1 := hrpI.shift (cap := r.pcap) (lo := 0) (k := k) (by omega) h.pcap
          have hq2 := hrpI.shift (cap := r.pcap) (lo := k + 1) (k := r.ps.length - (k + 1)) (by omega) h.pcap
          have hq1l : ((r.ps.drop 0).take k).length = k := by rw [List.length_take, List.length_drop]; omega
          have hq2l : ((r.ps.drop (k + 1)).take (r.ps.length - (k + 1))).length = r.ps.length - (k + 1) := by rw [List.length_take, List.length_drop]; omega
          refine Drawn.turn1 hB rfl ?_
          intro Wj hWj
          refine Turn.buildSlice hTT hB rfl (fun _ => rfl) ?_
          intro b4 Wk e4' hb4 hWk hzk
          refine Drawn.turn1 hB rfl ?_
          intro Wl hWl
          have ho4 : Own Wi.heap.size 30 1 Wl (.slice (some ⟨b4, 0, none⟩) 0 0) 0 [] := Own.empty (by have := hWj.size; omega) (hWl.heap' hb4)
          have hil := (hWj.trans hWk).trans hWl
          refine Turn.appendA hTT hB rfl (base := Wi.heap.size) (xs := []) (news := ((r.ps.drop 0).take k).map ilV) ho4 hil.size (fun e => by have := (hq1.grow hil).noneA e; omega) (Nat.le_refl _) (by rw [List.length_map, hq1l]; show k = (k - 0) * 1; omega) (hq1.grow hil).cellsA plain_il (by simp only; omega) (fun _ => rfl) ?_
          intro v5 Wm ho5 hsm hv5
          obtain ⟨vd, ve, vf, rfl⟩ := Own.isSlice ho5
          have him := ho4.since hil (Nat.le_refl _) hsm
          refine Drawn.nil hB ?_
          intro Wn hWn
          refine Goes.adv hTT 400 rfl ?_
          have ho5n := ho5.chg hWn (fun _ _ h => h)
          have hin := him.trans hWn
          refine Goes.appendA (base := Wi.heap.size) (news := ((r.ps.drop (k + 1)).take (r.ps.length - (k + 1))).map ilV) hTT rfl ho5n hin.size (fun e => by have := (hq2.grow hin).noneA e; omega) (by rw [List.length_map, hq2l, Nat.mul_one]) (hq2.grow hin).cellsA plain_il (by simp only; omega) ?_
          intro v6 Wo ho6 hso hv6
          have hio := ho5n.since hin (Nat.le_refl _) hso
          obtain ⟨pa3, pcap3, rfl, hp1, hp2, hp3, hpB⟩ := Own.pl (ps := (r.ps.drop 0).take k ++ (r.ps.drop (k + 1)).take (r.ps.length - (k + 1))) (v := v6) (by rw [List.map_append]; exact ho6) (by rw [List.length_append, hq1l, hq2l]; omega)
          refine Goes.adv hTT 400 rfl ?_
          have hsIo := hio.size
          have hsIi := hsi.size
          obtain ⟨ps3, hps3⟩ : ∃ ps3, ps3 = (r.ps.drop 0).take k ++ (r.ps.drop (k + 1)).take (r.ps.length - (k + 1)) := ⟨_, rfl⟩
          rw [← hps3] at hp1 hp3 ⊢
          refine Goes.store hTT rfl (hio.heap' hkbi) rfl rfl ?_
          intro Wp hkbp hsp hzp
          refine Goes.adv hTT 400 rfl ?_
          replace hkbp : Wp.heap[kb]? = some (.cells ([ilV r3.p.o, ilV r3.p.f, .int .i64 r3.cls, .int .i64 (r3.blocks : Int), ilV nl, .slice pa3 ps3.length pcap3, ilV ol2] : List Value).toArray 54 (0, 0)) := hkbp
          -- the pool
          have c1 : Chg (fun z => z = kb) Wa Wp := ((hsb.trans (nn hbh)).trans hsi).trans ((nn hio).trans hsp)
          have hRa := hR3.grow hWa
          have hPp : RpOk Wp r3.p pl := ⟨hRa.p.o.far hok3.o c1, hRa.p.f.far hok3.f c1, hRa.p.eo, hRa.p.ef⟩
          obtain ⟨hof1, hof2⟩ := hof _ (List.mem_of_getElem? hk)
          simp only at hof1 hof2
          have hcl := hok.cls
          refine Goes.loads hTT rfl hkbp rfl rfl ?_
          refine Goes.call rfl (ref08_Give r3.p m pl Wp hPp hg hof1 (by omega)) ?_
          rintro _ Wq ⟨rp', rfl, hPq, hF1, hF2, hWq⟩
          refine Goes.adv hTT 400 rfl ?_
          have hsq := hWq.size
          refine Goes.alloc hTT rfl ?_
          intro ub Wr er hub hWr hzr
          refine Goes.adv hTT 400 rfl ?_
          refine Goes.store hTT rfl hub rfl rfl ?_
          intro Ws hubs hss hzs
          refine Goes.adv hTT 400 rfl ?_
          replace hubs : Ws.heap[ub]? = some (.cells (rpL rp').toArray 51 (0, 0)) := hubs
          have hcqs : Chg None' Wq Ws := hWr.since hss (fun z hz e => by omega)
          have hcps := hWq.trans hcqs
          refine Goes.loads hTT rfl hubs rfl rfl ?_
          refine Goes.store hTT rfl (hcps.heap' hkbp) rfl rfl ?_
          intro Wt hkbt hst hzt
          refine Goes.adv hTT 400 rfl ?_
          obtain ⟨r7, hr7⟩ : ∃ r7 : RS, r7 = ⟨rp', r3.cls, r3.blocks, nl, pa3, pcap3, ps3, ol2⟩ := ⟨_, rfl⟩
          replace hkbt : Wt.heap[kb]? = some (.cells (rsL r7).toArray 54 (0, 0)) := by rw [hr7]; exact hkbt
          have hsWa : W.heap.size ≤ Wa.heap.size := hsa
          have hsbp : Wb.heap.size ≤ Wp.heap.size := by have := hsp.size; omega
          have hk7 : ∀ Q : Nat → Prop, (∀ z, Q z → z < W.heap.size) → RsOut Q r → RsOut Q r7 := fun Q hQ hro => by
            rw [hr7]
            exact ⟨hF1.out (fun z hz => by have := hQ z hz; omega), hF2.out (fun z hz => by have := hQ z hz; omega), (by intro b off s e hz; have := hnlB b off s e; have := hQ b hz; omega), holF.out (fun z hz => hQ z hz), (by intro b off s e hz; have := hpB b off s e; have := hQ b hz; omega), fun l2 hl2 => hro.each l2 (by
              rw [hps3] at hl2
              rcases List.mem_append.1 hl2 with h1 | h1
              · exact List.mem_of_mem_drop (List.mem_of_mem_take h1)
              · exact List.mem_of_mem_drop (List.mem_of_mem_take h1))⟩
          have hork : RsOut (fun z => z = kb) r := h.out (fun z hz => by have := hcW2.size; omega)
          have hor7 := hk7 (fun z => z = kb) (fun z hz => by omega) hork
          have c3 : Chg (fun z => z = kb) Ws Wt := hst
          have c4 : Chg (fun z => z = kb) Wi Wt := ((nn hio).trans hsp).trans ((nn hcps).trans hst)
          have hct : Chg None' w Wt := (((hci.trans hio).since hsp (fun z hz e => by omega)).trans hcps).since hst (fun z hz e => by omega)
          have hR7 : RsOk Wt r7 { x with pg := smDel x.pg m, opn := o.filter (fun z => z != m) } (pl.give m) := by
            have hor := hor7
            rw [hr7] at hor ⊢
            have hPs := hPq.grow hcqs
            refine ⟨⟨hPs.o.far hor.o c3, hPs.f.far hor.f c3, hPs.eo, hPs.ef⟩, (hnlX.far hor.nums hsi).far hor.nums c4, (holX.far hor.opn c1).far hor.opn ((nn hcps).trans hst), (hp1.far hor.pa hsp).far hor.pa ((nn hcps).trans hst), hp2.grow (by have := hsp.size; have := hst.size; have := hcps.size; omega), hp3, fun l2 hl2 => ?_, hR3.e1, hR3.e2, ?_, ?_, ?_⟩
            · have : l2 ∈ r.ps := by
                have hl3 : l2 ∈ ps3 := hl2
                rw [hps3] at hl3
                rcases List.mem_append.1 hl3 with h1 | h1
                · exact List.mem_of_mem_drop (List.mem_of_mem_take h1)
                · exact List.mem_of_mem_drop (List.mem_of_mem_take h1)
              exact (h.each l2 this).grow hct
            · show nl.x = (smDel x.pg m).map _
              rw [hnlx, smDel_idx hok.nodup hk, erase_map]
              show (r.nums.x.drop 0).take (k - 0) ++ (r.nums.x.drop (k + 1)).take (r.nums.x.length - (k + 1)) = _
              rw [List.drop_zero, Nat.sub_zero, List.take_of_length_le (i := r.nums.x.length - (k + 1)) (by rw [List.length_drop]; omega), h.e3]
            · show ps3.map _ = (smDel x.pg m).map _
              rw [hps3, smDel_idx hok.nodup hk, erase_map, ← h.e4, List.drop_zero, List.take_of_length_le (i := r.ps.length - (k + 1)) (by rw [List.length_drop]; omega), List.map_append, List.map_take, List.map_drop]
            · show ol2.x = (o.filter _).map _
              rw [holx, hR3.e5]; exact filter_cast _ _
          have hqt : Wt.heap[qb]? = _ := (c1.trans ((nn hcps).trans hst)).heap (hWa.heap' hqW) (show ¬ qb = kb by omega)
          refine Goes.loads hTT rfl hkbt rfl rfl ?_
          have hqf := hqt
          refine Goes.store hTT rfl hqf rfl rfl ?_
          intro Wz hqz hsz hzz
          refine Goes.adv hTT 400 rfl ?_
          replace hqz : Wz.heap[qb]? = some (.cells (rsL r7).toArray 54 (0, 0)) := hqz
          have hoq : RsOut (fun z => z = qb) r7 := hk7 _ (fun z hz => by have := lt_of_heap hqW; omega) (h.out (fun z hz => by omega))
          exact Goes.ret hTT rfl Tryd.func51 (ResOk.cell rfl rfl rfl hqz rfl (.tmp rfl .nil)) ⟨r7, rfl, hR7.far hoq hsz, fun Q hQ hro => hk7 Q (fun z hz => by have := hQ z hz; have := hcW.size; omega) hro, hct.since hsz (fun z hz e => by omega)⟩
        · rw [show (if pgUsed (pgGive p i) = 0 then pl.give m else pl) = pl from if_neg hu]
          refine Goes.yes hTT rfl (decide_eq_true (by omega)) rfl ?_
          have hge : x.giveAt m p i = { x with pg := smSet x.pg m (pgGive p i), opn := o } := by unfold Sm.giveAt; simp only; rw [if_neg hu, ho]
          rw [hge]
          refine Goes.loads hTT rfl hkb rfl rfl ?_
          have hqf := hqW
          refine Goes.store hTT rfl hqf rfl rfl ?_
          intro Wz hqz hsz hzz
          refine Goes.adv hTT 400 rfl ?_
          replace hqz : Wz.heap[qb]? = some (.cells (rsL r3).toArray 54 (0, 0)) := hqz
          have hoq : RsOut (fun z => z = qb) r3 := hk3 _ (fun z hz => by omega) (h.out (fun z hz => by omega))
          exact Goes.ret hTT rfl Tryd.func51 (ResOk.cell rfl rfl rfl hqz rfl (.tmp rfl .nil)) ⟨r3, rfl, hR3.far hoq hsz, fun Q hQ hro => hk3 Q (fun z hz => by have := hQ z hz; omega) hro, hcW.since hsz (fun z hz e => by omega)⟩
    · rw [show shGiveE x m i = pgGiveE p i from by unfold shGiveE; rw [hgn], show shGive x m i = x from by unfold shGive; rw [hgn]; simp only; rw [if_neg hE], show shGiveP x pl m i = pl from by unfold shGiveP; rw [hgn]; simp only; rw [if_neg (fun h => hE h.1)]]
      refine Goes.yes hTT rfl (show (pgGiveE p i != 0) = true by simpa using hE) rfl ?_
      refine Goes.loads hTT rfl hrb5 rfl rfl ?_
      have hqf := hqb5
      refine Goes.store hTT rfl hqf rfl rfl ?_
      intro Wz hqz hsz hzz
      refine Goes.adv hTT 400 rfl ?_
      replace hqz : Wz.heap[qb]? = some (.cells (rsL r).toArray 54 (0, 0)) := hqz
      exact Goes.ret hTT rfl Tryd.func51 (ResOk.cell rfl rfl rfl hqz rfl (.tmp rfl .nil)) ⟨r, rfl, (h3.grow hw5).far (h.out (fun z hz => by omega)) hsz, Keep.refl _ _, hw05.since hsz (fun z hz e => by omega)⟩
end Go.Proofs.YtdmedllaackbaaaDoor
/-
  Layer 13: acts that came in; there are no more pages than the blocks need, but one for each open page.
-/
namespace Go.Proofs.YtdmedllaackbaaaDoor
open Go.ChangeShapes Go.WideShapes Go.ChangeAt Go.RowKit
section
variable {H : Type} {enc : TypeId × Value → H} {w : World} {base b0 : Nat} {r : Go.Reach} {spare : Nat → Bool} {held : Bool}
set_option maxRecDepth 100000 in
theorem open_act13 {fuel : Nat} {cs : List Value} {x : DataW H × List MemPlace} (h : DataW.trod enc Tryd.prog w base spare held fuel 41 cs = some x) : ∃ u, cs = act13L u ∧ 0 ≤ u.kind ∧ u.kind < 256 := by
  obtain ⟨xs, n, _, _, hl, hlen, hfs⟩ := DataW.trod_struct (P := Tryd.prog) Tryd.underlying41 h
  clear h
  have h0 := hfs 0 _ rfl
  have h1 := hfs 1 _ rfl
  have h2 := hfs 2 _ rfl
  have h3 := hfs 3 _ rfl
  have hl' : cs.length = 4 := hl
  match xs, hlen, cs, hl' with
  | [x0, x1, x2, x3], _, [c0, c1, c2, c3], _ =>
    obtain ⟨n0, e0, _, g0⟩ := DataW.trod_int (P := Tryd.prog) Tryd.underlying5 h0
    obtain ⟨n1, e1, _, _⟩ := DataW.trod_int (P := Tryd.prog) Tryd.underlying3 h1
    obtain ⟨n2, e2, _, _⟩ := DataW.trod_int (P := Tryd.prog) Tryd.underlying3 h2
    obtain ⟨n3, e3, _, _⟩ := DataW.trod_int (P := Tryd.prog) Tryd.underlying3 h3
    have e0' : [c0] = [.int .u8 n0] := e0
    have e1' : [c1] = [.int .i64 n1] := e1
    have e2' : [c2] = [.int .i64 n2] := e2
    have e3' : [c3] = [.int .i64 n3] := e3
    cases e0'; cases e1'; cases e2'; cases e3'
    exact ⟨⟨n0, n1, n2, n3⟩, rfl, inU8_of_wf g0⟩
set_option maxRecDepth 100000 in
theorem open_acts13 {v : Value} {d : DataW H} {ps : List MemPlace} (hval : Value.okWide Tryd.prog w r b0 38 v) (h : DataW.Trod enc Tryd.prog w base spare held 38 v d ps) :
    ∃ a cap xs, v = .slice a xs.length cap ∧ Rows act13L 4 w a xs ∧ (∀ x ∈ xs, 0 ≤ x.kind ∧ x.kind < 256) ∧ xs.length ≤ 9223372036854775807 := by
  obtain ⟨a, len, cap, rfl⟩ := okWide_slice Tryd.underlying38 hval
  obtain ⟨fuel, hf⟩ := h
  obtain ⟨a', cap', xs, hcs, hr, hx, hl, hm⟩ := open_rows (P := Tryd.prog) (cells := act13L) (Ok := fun x => 0 ≤ x.kind ∧ x.kind < 256) (sz := 4) Tryd.underlying38 (by kernel_rfl) (by decide) (fun n cs y hy => open_act13 hy) hf
  have e : [Value.slice a len cap] = [.slice a' xs.length cap'] := hcs
  cases e
  have hml : maxLen ≤ 9223372036854775807 := by decide
  exact ⟨a, cap, xs, rfl, hr, hx, by omega⟩
end
theorem Cnt.new {c : Int} {b N : Nat} : Cnt (newSm c b) (plNew N) := pgUsed_new N
set_option maxRecDepth 100000 in
theorem law_ShelfPages (n : Int) (a : Option Addr) (cap : Nat) (xs : List Act13) (w : World) (ht : TabAt w) (hn : 0 ≤ n ∧ n < 256) (hr : Rows act13L 4 w a xs) (hl : xs.length ≤ 9223372036854775807) (hx : ∀ x ∈ xs, 0 ≤ x.kind ∧ x.kind < 256) :
    Does Tryd.prog 4 #[.int .u8 n, .slice a xs.length cap] w (Grow (.bool true) w) := by
  refine Does.enter Tryd.func4 rfl Tryd.ntmps4 rfl rfl ?_
  refine Goes.adv hTT 400 rfl ?_
  refine Goes.call rfl (law13_awake w ht) ?_
  rintro _ w1 ⟨rfl, hw1⟩
  refine Goes.adv hTT 400 rfl ?_
  refine Goes.fork hTT rfl rfl rfl (fun h1 => ?_) (fun h1 => ?_)
  · exact Goes.ret1 hTT rfl Tryd.func4 rfl rfl ⟨rfl, hw1⟩
  refine Goes.arith hTT rfl (w64 (by omega)) rfl ?_
  refine Goes.div hTT rfl (by omega) (rem_ (by omega)) rfl ?_
  refine Goes.arith hTT rfl (w64 (by omega)) rfl ?_
  obtain ⟨b, hb⟩ := Int.eq_ofNat_of_zero_le (show 0 ≤ 1 + n % 4 by omega)
  rw [hb]
  have hb1 : 1 ≤ b ∧ b ≤ 4 := by omega
  refine Goes.call rfl (pool_New 9 w1 (by decide)) ?_
  rintro _ w2 ⟨P, rfl, hPn, hP, hw2⟩
  refine Goes.adv hTT 400 rfl ?_
  have hw02 := hw1.trans hw2
  have hs1 := hw1.size
  have ht2 : TabAt w2 := fun j hj => hw02.cell (ht j hj) id
  refine Goes.call rfl (st_New (w0 := w) (k := b) (cls := 3) ht2 (by decide) (by omega) hP ⟨by omega, by omega⟩ hw02.size) ?_
  rintro _ w3 ⟨S, F3, hSP, rfl, h3, hF3, hw3⟩
  refine Goes.adv hTT 400 rfl ?_
  refine Goes.loop (α := Nat) (fun i => [(1, false, .slice a xs.length cap), (5, false, .bool true), (6, false, .int .i64 b), (7, false, plV P), (9, false, sfV S), (11, false, .int .i64 i)])
    (fun i w' => i ≤ xs.length ∧ ∃ F x pl, ShSt F w' S x pl ∧ (∀ z, F z → w.heap.size ≤ z) ∧ Cnt x pl ∧ x.blocks = b ∧ Chg None' w w') (fun i => xs.length - i) 0 ⟨rfl, rfl, rfl, rfl, rfl, rfl, trivial⟩ ⟨Nat.zero_le _, F3, _, _, h3, fun z hz => (hF3 z hz).1, Cnt.new, rfl, hw02.trans hw3⟩ ?_
  rintro i w4 ⟨hi, F, x, pl, h4, hF, hcn, hbk, hw04⟩ ih
  refine Goes.adv hTT 400 rfl ?_
  refine Goes.fork hTT rfl rfl rfl (fun hc => ?_) (fun hc => ?_)
  · have hlt : i < xs.length := by have := of_decide_eq_true hc; omega
    obtain ⟨ub, uoff, rfl, hcell⟩ := hr.at hlt
    have hxok := hx _ (List.getElem_mem hlt)
    refine Goes.index hTT rfl (j := (i * 4)) (by omega) (by omega) (by first | rfl | omega | (simp; done) | (simp; omega)) rfl ?_
    refine Goes.loadC hTT (act13L xs[i]) rfl (by first | rfl | (simp; done) | (simp [*]; done) | (simp; omega)) ((fun j v hv => below_cell hw04.below (hcell j v hv))) rfl ?_
    refine Goes.call rfl (law13_do xs[i] w4 h4 hxok) ?_
    rintro _ w5 ⟨rfl, h5, hc5⟩
    refine Goes.adv hTT 400 rfl ?_
    obtain ⟨hok, hpos, hof, hg⟩ := h4.ok
    have hcn5 := hcn.do13 (u := xs[i]) hok hof hg
    have hbk5 := do13_blocks x pl xs[i]
    obtain ⟨x', hx'⟩ : ∃ x', x' = do13X x pl xs[i] := ⟨_, rfl⟩
    obtain ⟨pl', hpl'⟩ : ∃ pl', pl' = do13P x pl xs[i] := ⟨_, rfl⟩
    rw [← hx', ← hpl'] at h5 hcn5
    rw [← hx', hbk] at hbk5
    have hw05 : Chg None' w w5 := hw04.since hc5 (fun z hz h => by have := hF z h; omega)
    obtain ⟨hok5, hpos5, hof5, hg5⟩ := h5.ok
    have hfew := hok5.few
    have hP5 := h5.pool
    rw [hSP] at hP5
    have hoc := open_count hok5
    rw [hbk5] at hoc
    obtain ⟨g1, g2, g3⟩ := pages_bounds hb1.1 (l := x'.pg) (fun e he => ⟨by rw [← hbk5]; exact (hok5.each e he).2.1, hpos5 e he⟩)
    rw [← hoc] at g1 g2
    obtain ⟨q1, q2, q3⟩ := need_bounds hb1.1 g1 g2
    unfold Cnt at hcn5
    obtain ⟨U, hU⟩ : ∃ U, U = smUsed x'.pg := ⟨_, rfl⟩
    obtain ⟨O, hO⟩ : ∃ O, O = x'.opn.length := ⟨_, rfl⟩
    obtain ⟨N, hN⟩ : ∃ N, N = x'.pg.length := ⟨_, rfl⟩
    rw [← hU] at g1 g2 g3 q1 q2 q3 hfew
    rw [← hO] at g1 g2 q2 q3 hfew
    rw [← hN] at g1 g2 g3 q1 q2 q3 hfew hcn5
    have hNb : N * b ≤ 1024 * 4 := Nat.mul_le_mul hfew.1 hb1.2
    have dU := st_Used h5
    have dO := st_Open h5
    have dN := st_Pages h5
    rw [← hU] at dU
    rw [← hO] at dO
    rw [← hN] at dN
    have dH := pool_Held P pl' w5 hP5
    rw [hcn5] at dH
    have hne : ((U : Int) + b - 1) / b = (((U + b - 1) / b : Nat) : Int) := by
      rw [show (U : Int) + b - 1 = ((U + b - 1 : Nat) : Int) by omega, Int.natCast_ediv]
    obtain ⟨q, hq⟩ : ∃ q, q = (U + b - 1) / b := ⟨_, rfl⟩
    rw [← hq] at q1 q2 hne
    have hno : (((O : Int) == 0) != ((N : Int) * b == U)) = false := by
      rw [show (N : Int) * b = ((N * b : Nat) : Int) by simp]
      by_cases h0 : O = 0
      · have := q3.1 h0; rw [h0, this]; simp
      · have h1 : N * b ≠ U := fun e => h0 (q3.2 e)
        rw [show ((O : Int) == 0) = false by simp; omega, show (((N * b : Nat) : Int) == U) = false by simp only [beq_eq_false_iff_ne, ne_eq]; omega]
        rfl
    refine Goes.call rfl (dU) ?_
    rintro _ _ ⟨rfl, rfl⟩
    refine Goes.adv hTT 400 rfl ?_
    refine Goes.arith hTT rfl (w64 (by omega)) rfl ?_
    refine Goes.arith hTT rfl (w64 (by omega)) rfl ?_
    refine Goes.div hTT rfl (by omega) (quo64 (by omega) (by omega)) rfl ?_
    rw [hne]
    refine Goes.call rfl (dN) ?_
    rintro _ _ ⟨rfl, rfl⟩
    refine Goes.adv hTT 400 rfl ?_
    refine Goes.call rfl (dO) ?_
    rintro _ _ ⟨rfl, rfl⟩
    refine Goes.adv hTT 400 rfl ?_
    refine Goes.arith hTT rfl (w64 (by omega)) rfl ?_
    refine Goes.arith hTT rfl (w64 (by split <;> omega)) rfl ?_
    refine Goes.no hTT rfl (decide_eq_false (by split <;> omega)) rfl ?_
    refine Goes.call rfl (dN) ?_
    rintro _ _ ⟨rfl, rfl⟩
    refine Goes.adv hTT 400 rfl ?_
    refine Goes.no hTT rfl (decide_eq_false (by omega)) rfl ?_
    refine Goes.call rfl (dO) ?_
    rintro _ _ ⟨rfl, rfl⟩
    refine Goes.adv hTT 400 rfl ?_
    refine Goes.call rfl (dN) ?_
    rintro _ _ ⟨rfl, rfl⟩
    refine Goes.adv hTT 400 rfl ?_
    refine Goes.arith hTT rfl (w64 (by rw [show (N : Int) * b = ((N * b : Nat) : Int) by simp]; omega)) rfl ?_
    refine Goes.call rfl (dU) ?_
    rintro _ _ ⟨rfl, rfl⟩
    refine Goes.adv hTT 400 rfl ?_
    refine Goes.no hTT rfl hno rfl ?_
    refine Goes.call rfl (dH) ?_
    rintro _ _ ⟨rfl, rfl⟩
    refine Goes.adv hTT 400 rfl ?_
    refine Goes.call rfl (dN) ?_
    rintro _ _ ⟨rfl, rfl⟩
    refine Goes.adv hTT 400 rfl ?_
    refine Goes.no hTT rfl (bne_self_eq_false _) rfl ?_
    refine Goes.call rfl (dU) ?_
    rintro _ _ ⟨rfl, rfl⟩
    refine Goes.adv hTT 400 rfl ?_
    refine Goes.call rfl (dN) ?_
    rintro _ _ ⟨rfl, rfl⟩
    refine Goes.adv hTT 400 rfl ?_
    refine Goes.no hTT rfl (decide_eq_false (by omega)) rfl ?_
    refine Goes.arith hTT rfl (w64 (by omega)) rfl ?_
    exact ih (i + 1) _ _ ⟨by omega, _, x', pl', h5, growF_new hF hw04.size, by unfold Cnt; rw [hcn5, hN], hbk5, hw05⟩ (by omega) ⟨rfl, rfl, rfl, rfl, rfl, rfl, trivial⟩
  · exact Goes.ret1 hTT rfl Tryd.func4 rfl rfl ⟨rfl, hw04⟩
end Go.Proofs.YtdmedllaackbaaaDoor
/-
  Layer 13: what may move.
-/
namespace Go.Proofs.YtdmedllaackbaaaDoor
open Go.RowKit

theorem growF_in {F : Nat → Prop} {w w' : World} {b : Nat} (h : ∀ z, F z → b ≤ z ∧ z < w.heap.size) (h1 : b ≤ w.heap.size) (h2 : w.heap.size ≤ w'.heap.size) : ∀ z, growF F w w' z → b ≤ z ∧ z < w'.heap.size := fun z hz => by
  rcases hz with hz | hz
  · have := h z hz; omega
  · omega
theorem getD_is0 {x : List Bool} {j : Nat} (h : j < x.length) : x.getD j false = x[j] := by rw [List.getD_eq_getElem?_getD, List.getElem?_eq_getElem h]; rfl
theorem high_is {x : List Bool} (h : cnt x ≠ 0) : ∃ t, t < x.length ∧ x.getD t false = true ∧ highM x = (t : Int) := by
  have key : ∀ m, m ≤ x.length → (∀ j, m ≤ j → x.getD j false = false) → (∀ j, x.getD j false = false) ∨ ∃ t, t < x.length ∧ x.getD t false = true ∧ ∀ j, t < j → x.getD j false = false := by
    intro m
    induction m with
    | zero => intro _ h; exact .inl fun j => h j (Nat.zero_le _)
    | succ m ihm =>
      intro hm h
      cases hb : x.getD m false with
      | true => exact .inr ⟨m, by omega, hb, fun j hj => h j hj⟩
      | false => exact ihm (by omega) fun j hj => (Nat.eq_or_lt_of_le hj).elim (fun e => e ▸ hb) (fun e => h j e)
  rcases key x.length (Nat.le_refl _) (fun j hj => by rw [List.getD_eq_getElem?_getD, List.getElem?_eq_none hj]; rfl) with h1 | ⟨t, ht1, ht2, ht3⟩
  · exfalso
    apply h
    have hall : x = List.replicate x.length false := by
      apply List.ext_getElem (by simp)
      intro j h2 h3
      rw [← getD_is0 h2, h1 j]; simp
    rw [hall, cnt_replicate]
  · exact ⟨t, ht1, ht2, ridx_at (p := id) ht1 (fun j hj hjt => by rw [← getD_is0 hj]; exact ht3 j hjt) (by rw [← getD_is0 ht1]; exact ht2)⟩
theorem pgTop_is {p : List Int} (h : 0 < pgUsed p) : ∃ t, t < p.length ∧ pgTop p = (t : Int) ∧ p.getD t (-1) ≠ -1 := by
  obtain ⟨t, h1, h2, h3⟩ := high_is (x := pgB p) (by unfold pgUsed at h; omega)
  rw [pgB_length] at h1
  rw [pgB_getD] at h2
  exact ⟨t, h1, h3, by simpa using h2⟩
/-- No owner is below -1. -/
def NN (x : Sm) : Prop := ∀ e ∈ x.pg, ∀ o ∈ e.2, -1 ≤ o
theorem mem_setI {l : List Int} {i : Nat} {v o : Int} (h : o ∈ l.set i v) : o ∈ l ∨ o = v := by
  rcases List.mem_or_eq_of_mem_set h with h | h
  · exact .inl h
  · exact .inr h
theorem NN.set {x : Sm} {n : Nat} {p q : List Int} (h : NN x) (hq : (n, q) ∈ x.pg) (hp : ∀ o ∈ p, o ∈ q ∨ -1 ≤ o) : ∀ e ∈ smSet x.pg n p, ∀ o ∈ e.2, -1 ≤ o := fun e he o ho => by
  rcases mem_smSet he with ⟨rfl, _⟩ | ⟨_, he⟩
  · rcases hp o ho with h1 | h1
    · exact h _ hq o h1
    · exact h1
  · exact h e he o ho
theorem NN.takeAt {x : Sm} (h : NN x) {n : Nat} {p : List Int} {who : Int} (hw : 0 ≤ who) (hq : (n, p) ∈ x.pg) : NN (x.takeAt n p who) :=
  NN.set h hq fun o ho => by
    unfold pgTake at ho
    split at ho
    · rcases mem_setI ho with h | h
      · exact .inl h
      · exact .inr (by omega)
    · exact .inl ho
theorem NN.giveAt {x : Sm} (h : NN x) {n : Nat} {p : List Int} {i : Int} (hq : (n, p) ∈ x.pg) : NN (x.giveAt n p i) := by
  unfold Sm.giveAt
  simp only
  split
  · exact fun e he => h e (mem_smDel.1 he).2
  · exact NN.set h hq fun o ho => by
      unfold pgGive at ho
      split at ho
      · rcases mem_setI ho with h | h
        · exact .inl h
        · exact .inr (by omega)
      · exact .inl ho
theorem NN.ownAt {x : Sm} (h : NN x) {n : Nat} {p : List Int} {i who : Int} (hq : (n, p) ∈ x.pg) : NN (x.ownAt n p i who) :=
  NN.set h hq fun o ho => by
    unfold pgOwnS at ho
    split at ho
    · rename_i hE
      rcases mem_setI ho with h | h
      · exact .inl h
      · refine .inr ?_
        unfold pgOwnE at hE
        split at hE
        · cases hE
        · omega
    · exact .inl ho
theorem NN.fresh {x : Sm} (h : NN x) (n : Nat) : NN (x.fresh n) := fun e he o ho => by
  rcases List.mem_append.1 he with he | he
  · exact h e he o ho
  · have : e = (n, List.replicate x.blocks (-1)) := by simpa using he
    subst this
    rw [List.eq_of_mem_replicate ho]; omega
theorem NN.do13 {x : Sm} {pl : PlM} {u : Act13} (h : NN x) (hok : x.Ok) (hof : x.Of pl) (hg : pl.Good) : NN (do13X x pl u) := by
  unfold do13X
  split
  · rcases shTake_cases x pl u.who with ⟨_, h1, h2⟩ | ⟨_, hw, ⟨n, r, ho, h1, _, h3, _⟩ | ⟨n, r, ho, hf, h1, _, h3, _⟩⟩
    · rw [h1]; exact h
    · rw [h1]
      obtain ⟨p, hp⟩ := hok.osub n (by rw [ho]; simp)
      rw [smGet_of hok.nodup hp] at h3
      exact h.takeAt hw (by rw [h3]; exact hp)
    · rw [h1]
      have hnew := free_new hok hof hg (n := n) (by rw [hf]; simp)
      have hn4 : n < 1024 := by have := (hg.free n (by rw [hf]; simp)).1; have := hg.len; omega
      have hx1 := hok.fresh hn4 hnew
      have hp : (n, List.replicate x.blocks (-1)) ∈ (x.fresh n).pg := List.mem_append_right _ (by simp)
      rw [smGet_of hx1.nodup hp] at h3
      exact (h.fresh n).takeAt hw (by rw [h3]; exact hp)
  · split
    · unfold shGive
      split
      · rename_i p hp
        obtain ⟨k, hk, hm⟩ := smGet_some hp
        rw [hk]
        split
        · exact h.giveAt hm
        · exact h
      · exact h
    · unfold shOwn
      split
      · rename_i p hp
        obtain ⟨k, hk, hm⟩ := smGet_some hp
        rw [hk]
        exact h.ownAt hm
      · exact h
theorem smGet_set_ne {l : PgL} {n m : Nat} {p : List Int} (h : m ≠ n) : smGet (smSet l n p) m = smGet l m := by
  induction l with
  | nil => rfl
  | cons e r ih =>
    obtain ⟨a, q⟩ := e
    unfold smSet at *
    rw [List.map_cons]
    by_cases ha : a = n
    · rw [if_pos ha]
      unfold smGet
      rw [if_neg (by omega), if_neg (by omega)]
      exact ih
    · rw [if_neg ha]
      unfold smGet
      rw [ih]
/-- What moves: what is told of it, and what the move does. -/
theorem move_facts {x : Sm} {pl : PlM} (hok : x.Ok) (hpos : x.Pos) (hnn : NN x) (h2 : 2 ≤ x.opn.length) :
    ∃ (fr to : Nat) (fa ta ow : Int), shPlanL x = planL fr fa to ta ∧ fr ≠ to ∧ shOwner x fr fa = ow ∧ 0 ≤ ow ∧ shOwner x to ta = -1 ∧ shTakeE x pl ow = 0 ∧ shTakeN x pl ow = to ∧ shTakeA x pl ow = ta ∧
      shGiveE (shTake x pl ow) fr fa = 0 ∧ (shGive (shTake x pl ow) fr fa).opn.length ≤ x.opn.length ∧ smUsed (shGive (shTake x pl ow) fr fa).pg = smUsed x.pg := by
  obtain ⟨to, r, ho⟩ : ∃ to r, x.opn = to :: r := by
    cases h : x.opn with
    | nil => rw [h] at h2; simp at h2
    | cons a r => exact ⟨a, r, rfl⟩
  have hlast : ∃ fr ∈ r, lastI (-1) x.opn = (fr : Int) := by
    rw [ho]
    show ∃ fr ∈ r, lastI to r = _
    rcases lastI_mem to r with ⟨e, _⟩ | ⟨a, ha, e, _⟩
    · rw [ho, e] at h2; simp at h2
    · exact ⟨a, ha, e⟩
  obtain ⟨fr, hfr, el⟩ := hlast
  have hnd := hok.onodup
  rw [ho] at hnd
  have hne : fr ≠ to := fun e => (List.nodup_cons.1 hnd).1 (e ▸ hfr)
  obtain ⟨p, hp⟩ := hok.osub to (by rw [ho]; simp)
  obtain ⟨q, hq⟩ := hok.osub fr (by rw [ho]; simp [hfr])
  obtain ⟨p1, p2, p3⟩ := hok.each _ hp
  obtain ⟨q1, q2, q3⟩ := hok.each _ hq
  simp only at p1 p2 p3 q1 q2 q3
  have hpn := p3.1 (by rw [ho]; simp)
  have hqn := q3.1 (by rw [ho]; simp [hfr])
  have gp := smGet_of hok.nodup hp
  have gq := smGet_of hok.nodup hq
  obtain ⟨t, ht1, ht2, ht3⟩ := pgTop_is (hpos _ hq)
  simp only at ht1 ht2 ht3
  have hown : 0 ≤ q.getD t (-1) := by
    have hm : q.getD t (-1) ∈ q := by rw [List.getD_eq_getElem?_getD, List.getElem?_eq_getElem ht1]; exact List.getElem_mem ht1
    have := hnn _ hq _ hm
    omega
  have hqo : pgOwn q (pgTop q) = q.getD t (-1) := by unfold pgOwn; rw [ht2, if_pos (by omega)]; rfl
  have hph : ¬ pgHole p < 0 := fun e => by have := pgHole_full.1 e; rw [p2] at this; exact hpn this
  obtain ⟨hh1, hh2⟩ := pg_hole_in hph
  have hpo : pgOwn p (pgHole p) = -1 := by unfold pgOwn; rw [if_pos (by omega)]; exact hh2
  have eE : shTakeE x pl (q.getD t (-1)) = 0 := by unfold shTakeE; rw [if_neg (by omega), if_neg (by rw [ho]; simp)]
  rcases shTake_cases x pl (q.getD t (-1)) with ⟨h, _⟩ | ⟨_, _, ⟨n, r', ho', k1, _, k3, k4, k5⟩ | ⟨n, r', ho', _⟩⟩
  · exact absurd eE h
  · rw [ho] at ho'
    cases ho'
    rw [gp] at k3
    simp only [Option.getD_some] at k3
    obtain ⟨e1, e2⟩ := pgTake_ok (p := p) (who := q.getD t (-1)) hown (by rw [p2]; exact hpn)
    have hgx : smGet (shTake x pl (q.getD t (-1))).pg fr = some q := by
      rw [k1, k3]
      show smGet (smSet x.pg to (pgTake p (q.getD t (-1)))) fr = some q
      rw [smGet_set_ne hne]; exact gq
    have hge : pgGiveE q (pgTop q) = 0 := by
      unfold pgGiveE
      rw [if_neg (by omega), if_neg (by rw [hqo]; omega)]
    have hu := smUsed_set (p := pgTake p (q.getD t (-1))) hok.nodup hp
    have hgu := pgGive_used hge
    have hx1 : (x.takeAt to p (q.getD t (-1))).Ok := hok.takeAt hown hp (by rw [ho]; simp)
    have hq1 : (fr, q) ∈ (x.takeAt to p (q.getD t (-1))).pg := List.mem_map.2 ⟨(fr, q), hq, if_neg hne⟩
    have hb1 : (x.takeAt to p (q.getD t (-1))).blocks = x.blocks := rfl
    have hol : (x.takeAt to p (q.getD t (-1))).opn.length ≤ x.opn.length := by
      show (if _ then _ else _ : List Nat).length ≤ _
      split
      · exact List.length_filter_le _ _
      · exact Nat.le_refl _
    refine ⟨fr, to, pgTop q, pgHole p, q.getD t (-1), ?_, hne, ?_, hown, ?_, eE, k4, by rw [k5, k3], ?_, ?_, ?_⟩
    · unfold shPlanL
      rw [if_pos h2, el, gq, show headI x.opn = to from by rw [ho]; rfl, gp]; rfl
    · unfold shOwner; rw [gq]; exact hqo
    · unfold shOwner; rw [gp]; exact hpo
    · unfold shGiveE; rw [hgx]; exact hge
    · have e3 : shGive (shTake x pl (q.getD t (-1))) fr (pgTop q) = (x.takeAt to p (q.getD t (-1))).giveAt fr q (pgTop q) := by
        unfold shGive; rw [hgx]; simp only; rw [if_pos hge, k1, k3]; rfl
      rw [e3]
      unfold Sm.giveAt
      simp only
      rw [hb1, if_neg hqn]
      split
      · exact Nat.le_trans (List.length_filter_le _ _) hol
      · exact hol
    · have e3 : shGive (shTake x pl (q.getD t (-1))) fr (pgTop q) = (x.takeAt to p (q.getD t (-1))).giveAt fr q (pgTop q) := by
        unfold shGive; rw [hgx]; simp only; rw [if_pos hge, k1, k3]; rfl
      rw [e3]
      have hu1 : smUsed (x.takeAt to p (q.getD t (-1))).pg = smUsed x.pg + 1 := by show smUsed (smSet _ _ _) = _; omega
      unfold Sm.giveAt
      simp only
      split
      · rename_i hz
        have := (smUsed_del hx1.nodup hq1).1
        show smUsed (smDel (x.takeAt to p (q.getD t (-1))).pg fr) = _
        omega
      · have := smUsed_set (p := pgGive q (pgTop q)) hx1.nodup hq1
        show smUsed (smSet (x.takeAt to p (q.getD t (-1))).pg fr _) = _
        omega
  · rw [ho] at ho'; cases ho'
set_option maxRecDepth 100000 in
theorem law_ShelfMoves (n : Int) (a : Option Addr) (cap : Nat) (xs : List Act13) (w : World) (ht : TabAt w) (hn : 0 ≤ n ∧ n < 256) (hr : Rows act13L 4 w a xs) (hl : xs.length ≤ 9223372036854775807) (hx : ∀ x ∈ xs, 0 ≤ x.kind ∧ x.kind < 256) :
    Does Tryd.prog 5 #[.int .u8 n, .slice a xs.length cap] w (Grow (.bool true) w) := by
  refine Does.enter Tryd.func5 rfl Tryd.ntmps5 rfl rfl ?_
  refine Goes.adv hTT 400 rfl ?_
  refine Goes.call rfl (law13_awake w ht) ?_
  rintro _ w1 ⟨rfl, hw1⟩
  refine Goes.adv hTT 400 rfl ?_
  refine Goes.fork hTT rfl rfl rfl (fun h1 => ?_) (fun h1 => ?_)
  · exact Goes.ret1 hTT rfl Tryd.func5 rfl rfl ⟨rfl, hw1⟩
  refine Goes.arith hTT rfl (w64 (by omega)) rfl ?_
  refine Goes.div hTT rfl (by omega) (rem_ (by omega)) rfl ?_
  refine Goes.arith hTT rfl (w64 (by omega)) rfl ?_
  obtain ⟨b, hb⟩ := Int.eq_ofNat_of_zero_le (show 0 ≤ 1 + n % 4 by omega)
  rw [hb]
  have hb1 : 1 ≤ b ∧ b ≤ 4 := by omega
  refine Goes.call rfl (pool_New 9 w1 (by decide)) ?_
  rintro _ w2 ⟨P, rfl, hPn, hP, hw2⟩
  refine Goes.adv hTT 400 rfl ?_
  have hw02 := hw1.trans hw2
  have hs1 := hw1.size
  have ht2 : TabAt w2 := fun j hj => hw02.cell (ht j hj) id
  refine Goes.call rfl (st_New (w0 := w) (k := b) (cls := 3) ht2 (by decide) (by omega) hP ⟨by omega, by omega⟩ hw02.size) ?_
  rintro _ w3 ⟨S, F3, hSP, rfl, h3, hF3, hw3⟩
  refine Goes.adv hTT 400 rfl ?_
  refine Goes.loop (α := Nat) (fun i => [(1, false, .slice a xs.length cap), (5, false, .bool true), (9, false, sfV S), (11, false, .int .i64 i)])
    (fun i w' => i ≤ xs.length ∧ ∃ F x pl, ShSt F w' S x pl ∧ (∀ z, F z → w.heap.size ≤ z ∧ z < w'.heap.size) ∧ NN x ∧ Chg None' w w') (fun i => xs.length - i) 0 ⟨rfl, rfl, rfl, rfl, trivial⟩ ⟨Nat.zero_le _, F3, _, _, h3, hF3, (fun e he => by cases he), hw02.trans hw3⟩ ?_
  rintro i w4 ⟨hi, F, x, pl, h4, hF, hnn, hw04⟩ ih
  obtain ⟨hok, hpos, hof, hg⟩ := h4.ok
  refine Goes.adv hTT 400 rfl ?_
  refine Goes.fork hTT rfl rfl rfl (fun hc => ?_) (fun hc => ?_)
  · have hlt : i < xs.length := by have := of_decide_eq_true hc; omega
    obtain ⟨ub, uoff, rfl, hcell⟩ := hr.at hlt
    have hxok := hx _ (List.getElem_mem hlt)
    refine Goes.index hTT rfl (j := (i * 4)) (by omega) (by omega) (by first | rfl | omega | (simp; done) | (simp; omega)) rfl ?_
    refine Goes.loadC hTT (act13L xs[i]) rfl (by first | rfl | (simp; done) | (simp [*]; done) | (simp; omega)) ((fun j v hv => below_cell hw04.below (hcell j v hv))) rfl ?_
    refine Goes.call rfl (law13_do xs[i] w4 h4 hxok) ?_
    rintro _ w5 ⟨rfl, h5, hc5⟩
    refine Goes.adv hTT 400 rfl ?_
    refine Goes.arith hTT rfl (w64 (by omega)) rfl ?_
    exact ih (i + 1) _ _ ⟨by omega, _, _, _, h5, growF_in hF hw04.size hc5.size, hnn.do13 hok hof hg, hw04.since hc5 (fun z hz h => by have := hF z h; omega)⟩ (by omega) ⟨rfl, rfl, rfl, rfl, trivial⟩
  · by_cases h2 : 2 ≤ x.opn.length
    · obtain ⟨fr, to, fa, ta, ow, m1, m2, m3, m4, m5, m6, m7, m8, m9, m10, m11⟩ := move_facts (pl := pl) hok hpos hnn h2
      have d5 := st_Plan h4
      rw [m1, show shPlanB x = true from decide_eq_true h2] at d5
      refine Goes.call rfl (d5) ?_
      rintro _ w5 ⟨rfl, hw5⟩
      refine Goes.adv hTT 400 rfl ?_
      refine Goes.alloc hTT rfl ?_
      intro tb w6 e6 htb hw6 hz6
      refine Goes.adv hTT 400 rfl ?_
      refine Goes.store hTT rfl htb rfl rfl ?_
      intro w7 htb7 hs7 hz7
      refine Goes.adv hTT 400 rfl ?_
      replace htb7 : w7.heap[tb]? = some (.cells (planL fr fa to ta).toArray 44 (0, 0)) := htb7
      have hs04 := hw04.size
      have hs5 := hw5.size
      have hc47 : Chg None' w4 w7 := (hw5.trans hw6).since hs7 (fun z hz e => by omega)
      have hw07 := hw04.trans hc47
      have h7 := h4.grow hc47
      refine Goes.no hTT rfl rfl rfl ?_
      refine Goes.loadb hTT rfl htb7 rfl rfl ?_
      refine Goes.loadb hTT rfl htb7 rfl rfl ?_
      have dO := st_Owner fr fa h7
      rw [m3] at dO
      refine Goes.call rfl (dO) ?_
      rintro _ _ ⟨rfl, rfl⟩
      refine Goes.adv hTT 400 rfl ?_
      refine Goes.loadb hTT rfl htb7 rfl rfl ?_
      refine Goes.loadb hTT rfl htb7 rfl rfl ?_
      have dF := st_Owner to ta h7
      rw [m5] at dF
      refine Goes.call rfl (dF) ?_
      rintro _ _ ⟨rfl, rfl⟩
      refine Goes.adv hTT 400 rfl ?_
      refine Goes.call rfl (st_Open h7) ?_
      rintro _ _ ⟨rfl, rfl⟩
      refine Goes.adv hTT 400 rfl ?_
      refine Goes.call rfl (st_Used h7) ?_
      rintro _ _ ⟨rfl, rfl⟩
      refine Goes.adv hTT 400 rfl ?_
      rw [show (if (0 : Int) > ow then 0 else ow) = ow from if_neg (by omega)]
      have dT := st_Take ow h7
      rw [m6, m7, m8] at dT
      refine Goes.call rfl (dT) ?_
      rintro _ w8 ⟨rfl, h8, hc8⟩
      refine Goes.adv hTT 400 rfl ?_
      have hs47 := hc47.size
      have htbF : ¬ F tb := fun h => by have := hF tb h; omega
      have htb8 := hc8.heap htb7 htbF
      have htbF8 : ¬ growF F w7 w8 tb := fun h => by
        rcases h with h | h
        · exact htbF h
        · have := lt_of_heap htb7; omega
      have hF8 := growF_in (fun z hz => by have := hF z hz; exact (⟨this.1, by omega⟩ : w.heap.size ≤ z ∧ z < w7.heap.size)) hw07.size hc8.size
      have hw08 : Chg None' w w8 := hw07.since hc8 (fun z hz h => by have := hF z h; omega)
      refine Goes.loadb hTT rfl htb8 rfl rfl ?_
      refine Goes.loadb hTT rfl htb8 rfl rfl ?_
      have dG := st_Give fr fa h8
      rw [m9] at dG
      refine Goes.call rfl (dG) ?_
      rintro _ w9 ⟨rfl, h9, hc9⟩
      refine Goes.adv hTT 400 rfl ?_
      have htb9 := hc9.heap htb8 htbF8
      have hw09 : Chg None' w w9 := hw08.since hc9 (fun z hz h => by have := hF8 z h; omega)
      refine Goes.yes hTT rfl rfl rfl ?_
      refine Goes.loadb hTT rfl htb9 rfl rfl ?_
      refine Goes.loadb hTT rfl htb9 rfl rfl ?_
      refine Goes.yes hTT rfl (by simp; omega) rfl ?_
      refine Goes.yes hTT rfl (decide_eq_true (by omega)) rfl ?_
      refine Goes.yes hTT rfl rfl rfl ?_
      refine Goes.yes hTT rfl rfl rfl ?_
      refine Goes.loadb hTT rfl htb9 rfl rfl ?_
      refine Goes.yes hTT rfl (beq_self_eq_true _) rfl ?_
      refine Goes.loadb hTT rfl htb9 rfl rfl ?_
      refine Goes.yes hTT rfl (beq_self_eq_true _) rfl ?_
      refine Goes.yes hTT rfl rfl rfl ?_
      refine Goes.call rfl (st_Open h9) ?_
      rintro _ _ ⟨rfl, rfl⟩
      refine Goes.adv hTT 400 rfl ?_
      refine Goes.yes hTT rfl (decide_eq_true (by omega)) rfl ?_
      refine Goes.call rfl (st_Used h9) ?_
      rintro _ _ ⟨rfl, rfl⟩
      refine Goes.adv hTT 400 rfl ?_
      exact Goes.ret1 hTT rfl Tryd.func5 rfl rfl ⟨bool_v (by rw [m11]; exact beq_self_eq_true _), hw09⟩
    · have d5 := st_Plan h4
      rw [show shPlanL x = planL 0 0 0 0 from if_neg h2, show shPlanB x = false from decide_eq_false h2] at d5
      refine Goes.call rfl (d5) ?_
      rintro _ w5 ⟨rfl, hw5⟩
      refine Goes.adv hTT 400 rfl ?_
      refine Goes.alloc hTT rfl ?_
      intro tb w6 e6 htb hw6 hz6
      refine Goes.adv hTT 400 rfl ?_
      refine Goes.store hTT rfl htb rfl rfl ?_
      intro w7 htb7 hs7 hz7
      refine Goes.adv hTT 400 rfl ?_
      have hs04 := hw04.size
      have hs5 := hw5.size
      have hc47 : Chg None' w4 w7 := (hw5.trans hw6).since hs7 (fun z hz e => by omega)
      have hw07 := hw04.trans hc47
      have h7 := h4.grow hc47
      refine Goes.yes hTT rfl rfl rfl ?_
      refine Goes.yes hTT rfl rfl rfl ?_
      refine Goes.call rfl (st_Open h7) ?_
      rintro _ _ ⟨rfl, rfl⟩
      refine Goes.adv hTT 400 rfl ?_
      refine Goes.yes hTT rfl (decide_eq_true (by omega)) rfl ?_
      refine Goes.loads hTT rfl htb7 rfl rfl ?_
      refine Goes.build hTT rfl rfl ?_
      refine Goes.aggeq hTT rfl (by kernel_rfl) (eq_plan 0 0 0 0 0 0 0 0 _) rfl ?_
      exact Goes.ret1 hTT rfl Tryd.func5 rfl rfl ⟨rfl, hw07⟩
end Go.Proofs.YtdmedllaackbaaaDoor
/-
  Layer 13: an act, the document's; what is told of a shelf by both.
-/
namespace Go.Proofs.YtdmedllaackbaaaDoor
open Go.RowKit

set_option maxRecDepth 100000 in
theorem ref13_Do (r : RS) (x : Sm) (pl : PlM) (u : Act13) (w : World) (h : RsOk w r x pl) (hok : x.Ok) (hof : x.Of pl) (hg : pl.Good) (hk : 0 ≤ u.kind ∧ u.kind < 256) : Does Tryd.prog 25 #[.agg (rsL r).toArray, .agg (act13L u).toArray] w
    (fun v w' => ∃ r', v = .tuple #[.agg (rsL r').toArray, .int .i64 (do13N x pl u), .int .i64 (do13A x pl u), .int .i64 (do13E x pl u)] ∧ RsOk w' r' (do13X x pl u) (do13P x pl u) ∧ Keep w r r' ∧ Chg None' w w') := by
  unfold do13N do13A do13E do13X do13P
  refine Does.enter Tryd.func25 rfl Tryd.ntmps25 rfl rfl ?_
  refine Goes.adv hTT 400 rfl ?_
  refine Goes.alloc hTT rfl ?_
  intro rb w1 e1 hrb hw1 hz1
  refine Goes.adv hTT 400 rfl ?_
  refine Goes.alloc hTT rfl ?_
  intro ub w2 e2 hub hw2 hz2
  refine Goes.adv hTT 400 rfl ?_
  refine Goes.alloc hTT rfl ?_
  intro qb w3 e3 hqb hw3 hz3
  refine Goes.adv hTT 400 rfl ?_
  replace hrb : w1.heap[rb]? = some (.cells (rsL r).toArray 54 (0, 0)) := hrb
  replace hub : w2.heap[ub]? = some (.cells (act13L u).toArray 41 (0, 0)) := hub
  have hw03 := (hw1.trans hw2).trans hw3
  have hrb3 := (hw2.trans hw3).heap' hrb
  have hub3 := hw3.heap' hub
  have hs1 := hw1.size
  have hs2 := hw2.size
  have hs03 := hw03.size
  have h3 := h.grow hw03
  have hlq := lt_of_heap hqb
  refine Goes.loadb hTT rfl hub3 rfl rfl ?_
  refine Goes.div hTT rfl (by omega) (rem_ (by omega)) rfl ?_
  refine Goes.fork hTT rfl rfl rfl (fun h0 => ?_) (fun h0 => ?_)
  · have g0 : u.kind % 3 = 0 := by simpa using h0
    simp only [if_pos g0]
    refine Goes.loads hTT rfl hrb3 rfl rfl ?_
    refine Goes.loadb hTT rfl hub3 rfl rfl ?_
    refine Goes.call rfl (ref13_Take r x pl u.who w3 h3 hok hof hg) ?_
    rintro _ w4 ⟨r', rfl, hR, hK, hw4⟩
    refine Goes.adv hTT 400 rfl ?_
    refine Goes.store hTT rfl (hw4.heap' hqb) rfl rfl ?_
    intro w5 hqb5 hs5 hz5
    refine Goes.adv hTT 400 rfl ?_
    replace hqb5 : w5.heap[qb]? = some (.cells (rsL r').toArray 54 (0, 0)) := hqb5
    exact Goes.ret hTT rfl Tryd.func25 (ResOk.cell rfl rfl rfl hqb5 rfl (.tmp rfl (.tmp rfl (.tmp rfl .nil)))) ⟨r', rfl, hR.far (hK _ (fun z hz => by omega) (h.out (fun z hz => by omega))) hs5, fun Q hQ ho => hK Q (fun z hz => by have := hQ z hz; omega) ho, (hw03.trans hw4).since hs5 (fun z hz e => by omega)⟩
  have g0 : ¬ u.kind % 3 = 0 := by simpa using h0
  simp only [if_neg g0]
  refine Goes.fork hTT rfl rfl rfl (fun h2 => ?_) (fun h2 => ?_)
  · have g1 : u.kind % 3 = 1 := by simpa using h2
    simp only [if_pos g1]
    refine Goes.loads hTT rfl hrb3 rfl rfl ?_
    refine Goes.loadb hTT rfl hub3 rfl rfl ?_
    refine Goes.loadb hTT rfl hub3 rfl rfl ?_
    refine Goes.call rfl (ref13_Give r x pl u.page u.at' w3 h3 hok hof hg) ?_
    rintro _ w4 ⟨r', rfl, hR, hK, hw4⟩
    refine Goes.adv hTT 400 rfl ?_
    have hs4 := hw4.size
    refine Goes.alloc hTT rfl ?_
    intro tb w5 e5 htb hw5 hz5
    refine Goes.adv hTT 400 rfl ?_
    refine Goes.store hTT rfl htb rfl rfl ?_
    intro w6 htb6 hs6 hz6
    refine Goes.adv hTT 400 rfl ?_
    replace htb6 : w6.heap[tb]? = some (.cells (rsL r').toArray 54 (0, 0)) := htb6
    have hc46 : Chg None' w4 w6 := hw5.since hs6 (fun z hz e => by omega)
    refine Goes.loads hTT rfl htb6 rfl rfl ?_
    refine Goes.store hTT rfl ((hw4.trans hc46).heap' hqb) rfl rfl ?_
    intro w7 hqb7 hs7 hz7
    refine Goes.adv hTT 400 rfl ?_
    replace hqb7 : w7.heap[qb]? = some (.cells (rsL r').toArray 54 (0, 0)) := hqb7
    exact Goes.ret hTT rfl Tryd.func25 (ResOk.cell rfl rfl rfl hqb7 rfl (.tmp rfl (.tmp rfl (.tmp rfl .nil)))) ⟨r', rfl, (hR.grow hc46).far (hK _ (fun z hz => by omega) (h.out (fun z hz => by omega))) hs7, fun Q hQ ho => hK Q (fun z hz => by have := hQ z hz; omega) ho, ((hw03.trans hw4).trans hc46).since hs7 (fun z hz e => by omega)⟩
  · have g1 : ¬ u.kind % 3 = 1 := by simpa using h2
    simp only [if_neg g1]
    refine Goes.loads hTT rfl hrb3 rfl rfl ?_
    refine Goes.loadb hTT rfl hub3 rfl rfl ?_
    refine Goes.loadb hTT rfl hub3 rfl rfl ?_
    refine Goes.loadb hTT rfl hub3 rfl rfl ?_
    refine Goes.call rfl (ref13_Own r x pl u.page u.at' u.who w3 h3 hok hof) ?_
    rintro _ w4 ⟨r', rfl, hR, hK, hw4⟩
    refine Goes.adv hTT 400 rfl ?_
    have hs4 := hw4.size
    refine Goes.alloc hTT rfl ?_
    intro tb w5 e5 htb hw5 hz5
    refine Goes.adv hTT 400 rfl ?_
    refine Goes.store hTT rfl htb rfl rfl ?_
    intro w6 htb6 hs6 hz6
    refine Goes.adv hTT 400 rfl ?_
    replace htb6 : w6.heap[tb]? = some (.cells (rsL r').toArray 54 (0, 0)) := htb6
    have hc46 : Chg None' w4 w6 := hw5.since hs6 (fun z hz e => by omega)
    refine Goes.loads hTT rfl htb6 rfl rfl ?_
    refine Goes.store hTT rfl ((hw4.trans hc46).heap' hqb) rfl rfl ?_
    intro w7 hqb7 hs7 hz7
    refine Goes.adv hTT 400 rfl ?_
    replace hqb7 : w7.heap[qb]? = some (.cells (rsL r').toArray 54 (0, 0)) := hqb7
    exact Goes.ret hTT rfl Tryd.func25 (ResOk.cell rfl rfl rfl hqb7 rfl (.tmp rfl (.tmp rfl (.tmp rfl .nil)))) ⟨r', rfl, (hR.grow hc46).far (hK _ (fun z hz => by omega) (h.out (fun z hz => by omega))) hs7, fun Q hQ ho => hK Q (fun z hz => by have := hQ z hz; omega) ho, ((hw03.trans hw4).trans hc46).since hs7 (fun z hz e => by omega)⟩
theorem planL_of (x : Sm) : ∃ a b c d, shPlanL x = planL a b c d := by
  unfold shPlanL
  split
  · exact ⟨_, _, _, _, rfl⟩
  · exact ⟨_, _, _, _, rfl⟩
set_option maxRecDepth 100000 in
theorem law13_same {F : Nat → Prop} {S : Sh} {x : Sm} {pl : PlM} (P : Pl) (r : RS) (w : World) (h : ShSt F w S x pl) (hSP : S.P = P) (hr : RsOk w r x pl) : Does Tryd.prog 26 #[sfV S, plV P, .agg (rsL r).toArray] w (Grow (.bool true) w) := by
  obtain ⟨hok, hpos, hof, hg⟩ := h.ok
  obtain ⟨hf1, hf2, hf3⟩ := hr.few hok hof
  have hbk := hok.blk
  have hol : r.p.o.x.length = pl.own.length := by rw [hr.p.eo]
  have hfl : r.p.f.x.length = pl.free.length := by rw [hr.p.ef]; simp
  have hopL : r.opn.x.length = x.opn.length := by rw [hr.e5]; simp
  have hpL := hr.plen
  obtain ⟨a, b, c, d, hpl⟩ := planL_of x
  refine Does.enter Tryd.func26 rfl Tryd.ntmps26 rfl rfl ?_
  refine Goes.adv hTT 400 rfl ?_
  refine Goes.alloc hTT rfl ?_
  intro rb w1 e1 hrb hw1 hz1
  refine Goes.adv hTT 400 rfl ?_
  replace hrb : w1.heap[rb]? = some (.cells (rsL r).toArray 54 (0, 0)) := hrb
  refine Goes.loop (α := Nat) (fun i => [(0, false, sfV S), (1, false, plV P), (5, false, .pointer (some ⟨rb, 0, none⟩)), (7, false, .int .i64 ((i : Int) - 1))])
    (fun i w' => i ≤ pl.own.length + 2 ∧ Chg None' w1 w') (fun i => pl.own.length + 2 - i) 0 ⟨rfl, rfl, rfl, rfl, trivial⟩ ⟨Nat.zero_le _, Chg.refl _ _⟩ ?_
  rintro i w2 ⟨hi, hw2⟩ ih
  have hrb2 := hw2.heap' hrb
  refine Goes.adv hTT 400 rfl ?_
  refine Goes.loadb hTT rfl hrb2 rfl rfl ?_
  refine Goes.fork hTT rfl rfl rfl (fun hc => ?_) (fun hc => ?_)
  · have hlt : i ≤ pl.own.length + 1 := by have := of_decide_eq_true hc; omega
    refine Goes.loop (α := Nat) (fun j => [(0, false, sfV S), (1, false, plV P), (5, false, .pointer (some ⟨rb, 0, none⟩)), (7, false, .int .i64 ((i : Int) - 1)), (8, false, .int .i64 ((j : Int) - 1))])
      (fun j w' => j ≤ x.blocks + 2 ∧ Chg None' w1 w') (fun j => x.blocks + 2 - j) 0 ⟨rfl, rfl, rfl, rfl, rfl, trivial⟩ ⟨Nat.zero_le _, hw2⟩ ?_
    rintro j w3 ⟨hj, hw3⟩ ih3
    have hrb3 := hw3.heap' hrb
    have hw03 := hw1.trans hw3
    refine Goes.adv hTT 400 rfl ?_
    refine Goes.loadb hTT rfl hrb3 rfl rfl ?_
    rw [hr.e2]
    refine Goes.fork hTT rfl rfl rfl (fun hc3 => ?_) (fun hc3 => ?_)
    · have hlt3 : j ≤ x.blocks + 1 := by have := of_decide_eq_true hc3; omega
      refine Goes.drawn (q := 9) None' hTT mixed (by kernel_rfl) rfl ?_
      intro hB
      refine Drawn.call hTT hB rfl (fun w' hw' => (st_Owner _ _ ((h.grow hw03).grow hw')).grow) rfl ?_
      refine Drawn.loads hTT hB rfl hrb3 (by first | exact fun h => h | (intro h; omega) | assumption) rfl rfl ?_
      refine Drawn.call hTT hB rfl (fun w' hw' => ref13_Owner r x pl _ _ w' ((hr.grow hw03).grow hw') hok hof) rfl ?_
      refine Drawn.nil hB ?_
      intro w4 hw4
      refine Goes.adv hTT 400 rfl ?_
      refine Goes.no hTT rfl (bne_self_eq_false _) rfl ?_
      refine Goes.arith hTT rfl (w64 (by omega)) rfl ?_
      exact ih3 (j + 1) _ _ ⟨by omega, hw3.trans hw4⟩ (by omega) ⟨rfl, rfl, rfl, rfl, by show some (Value.int .i64 (((j : Int) - 1) + 1)) = some (.int .i64 (((j + 1 : Nat) : Int) - 1)); exact int_s (by omega), trivial⟩
    · refine Goes.arith hTT rfl (w64 (by omega)) rfl ?_
      exact ih (i + 1) _ _ ⟨by omega, hw3⟩ (by omega) ⟨rfl, rfl, rfl, by show some (Value.int .i64 (((i : Int) - 1) + 1)) = some (.int .i64 (((i + 1 : Nat) : Int) - 1)); exact int_s (by omega), trivial⟩
  · have hw02 := hw1.trans hw2
    have d3 := st_Plan (h.grow hw02)
    rw [hpl] at d3
    refine Goes.call rfl (d3) ?_
    rintro _ w3 ⟨rfl, hw3⟩
    refine Goes.adv hTT 400 rfl ?_
    refine Goes.alloc hTT rfl ?_
    intro tb w4 e4 htb hw4 hz4
    refine Goes.adv hTT 400 rfl ?_
    refine Goes.store hTT rfl htb rfl rfl ?_
    intro w5 htb5 hs5 hz5
    refine Goes.adv hTT 400 rfl ?_
    replace htb5 : w5.heap[tb]? = some (.cells (planL a b c d).toArray 44 (0, 0)) := htb5
    have hs2 := hw02.size
    have hs3 := hw3.size
    have hc25 : Chg None' w2 w5 := (hw3.trans hw4).since hs5 (fun z hz e => by omega)
    have hc05 := hw02.trans hc25
    have hrb5 := hc25.heap' hrb2
    refine Goes.loads hTT rfl hrb5 rfl rfl ?_
    have d6 := ref13_Plan r x pl w5 (hr.grow hc05) hok
    rw [hpl] at d6
    refine Goes.call rfl (d6) ?_
    rintro _ w6 ⟨rfl, hw6⟩
    refine Goes.adv hTT 400 rfl ?_
    refine Goes.alloc hTT rfl ?_
    intro ub w7 e7 hub hw7 hz7
    refine Goes.adv hTT 400 rfl ?_
    refine Goes.store hTT rfl hub rfl rfl ?_
    intro w8 hub8 hs8 hz8
    refine Goes.adv hTT 400 rfl ?_
    replace hub8 : w8.heap[ub]? = some (.cells (planL a b c d).toArray 44 (0, 0)) := hub8
    have hs6 := hw6.size
    have hc58 : Chg None' w5 w8 := (hw6.trans hw7).since hs8 (fun z hz e => by omega)
    have hc08 := hc05.trans hc58
    have htb8 := hc58.heap' htb5
    have hrb8 := hc58.heap' hrb5
    have h8 := h.grow hc08
    have hr8 := hr.grow hc08
    have hP8 := h8.pool
    rw [hSP] at hP8
    refine Goes.drawn (q := 41) None' hTT mixed (by kernel_rfl) rfl ?_
    intro hB
    refine Drawn.loads hTT hB rfl htb8 (by first | exact fun h => h | (intro h; omega) | assumption) rfl rfl ?_
    refine Drawn.loads hTT hB rfl hub8 (by first | exact fun h => h | (intro h; omega) | assumption) rfl rfl ?_
    refine Drawn.aggeq hTT hB rfl (by kernel_rfl) (fun _ => eq_plan a b c d a b c d _) rfl ?_
    refine Drawn.yes hTT hB rfl (by simp) rfl ?_
    refine Drawn.yes hTT hB rfl (by simp) rfl ?_
    refine Drawn.call hTT hB rfl (fun w' hw' => (st_Pages (h8.grow hw')).grow) rfl ?_
    refine Drawn.loadb hTT hB rfl hrb8 (by first | exact fun h => h | (intro h; omega) | assumption) rfl rfl ?_
    refine Drawn.yes hTT hB rfl (by rw [hpL]; exact beq_self_eq_true _) rfl ?_
    refine Drawn.call hTT hB rfl (fun w' hw' => (st_Open (h8.grow hw')).grow) rfl ?_
    refine Drawn.loadb hTT hB rfl hrb8 (by first | exact fun h => h | (intro h; omega) | assumption) rfl rfl ?_
    refine Drawn.yes hTT hB rfl (by rw [hopL]; exact beq_self_eq_true _) rfl ?_
    refine Drawn.call hTT hB rfl (fun w' hw' => (st_Used (h8.grow hw')).grow) rfl ?_
    refine Drawn.loads hTT hB rfl hrb8 (by first | exact fun h => h | (intro h; omega) | assumption) rfl rfl ?_
    refine Drawn.call hTT hB rfl (fun w' hw' => ref13_Used r x pl w' (hr8.grow hw') hok hof) rfl ?_
    refine Drawn.yes hTT hB rfl (beq_self_eq_true _) rfl ?_
    refine Drawn.call hTT hB rfl (fun w' hw' => pool_Free P pl w' (hP8.grow hw')) rfl ?_
    refine Drawn.loadb hTT hB rfl hrb8 (by first | exact fun h => h | (intro h; omega) | assumption) rfl rfl ?_
    refine Drawn.nil hB ?_
    intro w9 hw9
    refine Goes.adv hTT 400 rfl ?_
    exact Goes.ret1 hTT rfl Tryd.func26 rfl rfl ⟨bool_v (by rw [hfl]; exact beq_self_eq_true _), hc08.trans hw9⟩
end Go.Proofs.YtdmedllaackbaaaDoor
/-
  Layer 13: whatever is taken, given back, and handed on.
-/
namespace Go.Proofs.YtdmedllaackbaaaDoor
open Go.RowKit

theorem ShSt.away {F : Nat → Prop} {w w' : World} {S : Sh} {x : Sm} {pl : PlM} {z t : Nat} (h : ShSt F w S x pl) (hz : kd w z = some (some t)) (ht : t ≠ 73 ∧ t ≠ 101 ∧ t ≠ 106 ∧ t ≠ 108 ∧ t ≠ 97 ∧ t ≠ 128) (ht2 : t ≠ 62 ∧ t ≠ 80)
    (hz0 : ∀ v, w.cell? ⟨z, 0, none⟩ ≠ some (.int .u8 v)) (hc : Chg (fun k => k = z) w w') : ShSt F w' S x pl := by
  obtain ⟨G, a, b⟩ := h
  obtain ⟨k1, k2⟩ := a.pool.kds
  obtain ⟨a1, a2⟩ := a.at'.apart hz ht
  have d : ∀ {t' : Nat}, t ≠ t' → some (some t') ≠ some (some t) := fun h e => h (Option.some.inj (Option.some.inj e)).symm
  exact ⟨G, ⟨a.ok, a.pos, a.of, a.at'.chg hc (fun y hy => by subst hy; exact a1) (fun y hy => by subst hy; exact a2) (tab_ne a.at'.tab hz0), a.pool.chg hc (kd_ne k1 hz (d ht2.1)) (kd_ne k2 hz (d ht2.2))⟩, b⟩
theorem rs_nou8 {w : World} {z : Nat} {r : RS} (h : w.heap[z]? = some (.cells (rsL r).toArray 54 (0, 0))) : ∀ v, w.cell? ⟨z, 0, none⟩ ≠ some (.int .u8 v) := fun v e => by
  rw [cell_of h] at e; simp [rsL] at e
theorem RsOut.growF {F : Nat → Prop} {w w1 w2 : World} {r : RS} {x : Sm} {pl : PlM} (h : RsOut F r) (hr : RsOk w r x pl) (hs : w.heap.size ≤ w1.heap.size) : RsOut (growF F w1 w2) r := by
  have a : RsOut (fun z => w1.heap.size ≤ z) r := hr.out (fun z hz => by omega)
  have j : ∀ {o : Option Addr}, OutA F o → OutA (fun z => w1.heap.size ≤ z) o → OutA (Go.Proofs.YtdmedllaackbaaaDoor.growF F w1 w2) o := fun h1 h2 b off s e hz => by
    rcases hz with hz | hz
    · exact h1 b off s e hz
    · exact h2 b off s e hz.1
  exact ⟨j h.o a.o, j h.f a.f, j h.nums a.nums, j h.opn a.opn, j h.pa a.pa, fun l hl => j (h.each l hl) (a.each l hl)⟩
set_option maxRecDepth 100000 in
theorem law_ShelfActs (n : Int) (a : Option Addr) (cap : Nat) (xs : List Act13) (w : World) (ht : TabAt w) (hn : 0 ≤ n ∧ n < 256) (hr : Rows act13L 4 w a xs) (hl : xs.length ≤ 9223372036854775807) (hx : ∀ x ∈ xs, 0 ≤ x.kind ∧ x.kind < 256) :
    Does Tryd.prog 7 #[.int .u8 n, .slice a xs.length cap] w (Grow (.bool true) w) := by
  refine Does.enter Tryd.func7 rfl Tryd.ntmps7 rfl rfl ?_
  refine Goes.adv hTT 400 rfl ?_
  refine Goes.call rfl (law13_awake w ht) ?_
  rintro _ w1 ⟨rfl, hw1⟩
  refine Goes.adv hTT 400 rfl ?_
  refine Goes.fork hTT rfl rfl rfl (fun h1 => ?_) (fun h1 => ?_)
  · exact Goes.ret1 hTT rfl Tryd.func7 rfl rfl ⟨rfl, hw1⟩
  refine Goes.arith hTT rfl (w64 (by omega)) rfl ?_
  refine Goes.div hTT rfl (by omega) (rem_ (by omega)) rfl ?_
  refine Goes.arith hTT rfl (w64 (by omega)) rfl ?_
  obtain ⟨b, hb⟩ := Int.eq_ofNat_of_zero_le (show 0 ≤ 1 + n % 4 by omega)
  rw [hb]
  have hb1 : 1 ≤ b ∧ b ≤ 4 := by omega
  refine Goes.call rfl (pool_New 5 w1 (by decide)) ?_
  rintro _ w2 ⟨P, rfl, hPn, hP, hw2⟩
  refine Goes.adv hTT 400 rfl ?_
  have hw02 := hw1.trans hw2
  have hs1 := hw1.size
  have ht2 : TabAt w2 := fun j hj => hw02.cell (ht j hj) id
  refine Goes.call rfl (st_New (w0 := w) (k := b) (cls := 3) ht2 (by decide) (by omega) hP ⟨by omega, by omega⟩ hw02.size) ?_
  rintro _ w3 ⟨S, F3, hSP, rfl, h3, hF3, hw3⟩
  refine Goes.adv hTT 400 rfl ?_
  have hw03 := hw02.trans hw3
  refine Goes.call rfl (ref13_New 5 3 b w3 (by decide)) ?_
  rintro _ v1 ⟨r0, rfl, hr0, hro0, hv1⟩
  refine Goes.adv hTT 400 rfl ?_
  refine Goes.alloc hTT rfl ?_
  intro xb v2 e2 hxb hv2 hzv2
  refine Goes.adv hTT 400 rfl ?_
  refine Goes.store hTT rfl hxb rfl rfl ?_
  intro v3 hxb3 hsv3 hzv3
  refine Goes.adv hTT 400 rfl ?_
  replace hxb3 : v3.heap[xb]? = some (.cells (rsL r0).toArray 54 (0, 0)) := hxb3
  have hsv1 := hv1.size
  have hs03 := hw03.size
  have hcv : Chg None' w3 v3 := (hv1.trans hv2).since hsv3 (fun z hz e => by omega)
  have hsv := hcv.size
  have hrv : RsOk v3 r0 (newSm 3 b) (plNew 5) := (hr0.grow hv2).far (hr0.out (fun z hz => by omega)) hsv3
  refine Goes.loop (α := Nat) (fun i => [(1, false, .slice a xs.length cap), (5, false, .bool true), (7, false, plV P), (9, false, sfV S), (10, false, .int .i64 0), (11, false, .pointer (some ⟨xb, 0, none⟩)), (12, false, .int .i64 i)])
    (fun i w' => i ≤ xs.length ∧ ∃ F x pl r, ShSt F w' S x pl ∧ (∀ z, F z → w.heap.size ≤ z ∧ z < w'.heap.size) ∧ RsOk w' r x pl ∧ RsOut F r ∧ RsOut (fun z => z = xb) r ∧ (∀ z, F z → z ≠ xb) ∧ w'.heap[xb]? = some (.cells (rsL r).toArray 54 (0, 0)) ∧ Chg None' w w') (fun i => xs.length - i) 0 ⟨rfl, rfl, rfl, rfl, rfl, rfl, rfl, trivial⟩
    ⟨Nat.zero_le _, F3, _, _, r0, h3.grow hcv, fun z hz => by have := hF3 z hz; exact ⟨this.1, by omega⟩, hrv, hro0 _ (fun z hz => (hF3 z hz).2), hr0.out (fun z hz => by omega), fun z hz => by have := hF3 z hz; omega, hxb3, hw03.trans hcv⟩ ?_
  rintro i w4 ⟨hi, F, x, pl, r, h4, hF, hr4, hro, hox, hFx, hxb4, hw04⟩ ih
  have hlx := lt_of_heap hxb3
  have hxbw : w.heap.size ≤ xb := by omega
  refine Goes.adv hTT 400 rfl ?_
  refine Goes.fork hTT rfl rfl rfl (fun hc => ?_) (fun hc => ?_)
  · have hlt : i < xs.length := by have := of_decide_eq_true hc; omega
    obtain ⟨ub, uoff, rfl, hcell⟩ := hr.at hlt
    have hxok := hx _ (List.getElem_mem hlt)
    refine Goes.index hTT rfl (j := (i * 4)) (by omega) (by omega) (by first | rfl | omega | (simp; done) | (simp; omega)) rfl ?_
    refine Goes.loadC hTT (act13L xs[i]) rfl (by first | rfl | (simp; done) | (simp [*]; done) | (simp; omega)) ((fun j v hv => below_cell hw04.below (hcell j v hv))) rfl ?_
    refine Goes.call rfl (law13_do xs[i] w4 h4 hxok) ?_
    rintro _ w5 ⟨rfl, h5, hc5⟩
    refine Goes.adv hTT 400 rfl ?_
    have hw05 : Chg None' w w5 := hw04.since hc5 (fun z hz h => by have := hF z h; omega)
    have hxbF : ¬ F xb := fun h => (hFx xb h) rfl
    have hxb5 := hc5.heap hxb4 hxbF
    have hr5 := hr4.far hro hc5
    have hF5 := growF_in hF hw04.size hc5.size
    have hro5 := hro.growF (w2 := w5) hr4 (Nat.le_refl _)
    have hlx5 := lt_of_heap hxb5
    obtain ⟨hok, hpos, hof, hg⟩ := h4.ok
    have hs45 := hc5.size
    have hFx5 : ∀ z, growF F w4 w5 z → z ≠ xb := fun z hz => by
      rcases hz with hz | hz
      · exact hFx z hz
      · have := lt_of_heap hxb4; omega
    refine Goes.drawn (q := 16) None' hTT mixed (by kernel_rfl) rfl ?_
    intro hB
    refine Drawn.loads hTT hB rfl hxb5 (by first | exact fun h => h | (intro h; omega) | assumption) rfl rfl ?_
    refine Drawn.index hTT hB rfl (j := (i * 4)) (by omega) (by omega) (by first | rfl | omega | (simp; done) | (simp; omega)) rfl ?_
    refine Drawn.loadC hTT hB (act13L xs[i]) rfl (by first | rfl | (simp; done) | (simp [*]; done) | (simp; omega)) ((fun j v hv => below_cell hw05.below (hcell j v hv))) (by first | exact fun h => h | (intro h; omega) | assumption) rfl ?_
    refine Drawn.turn2 hB rfl ?_ ?_
    · intro w6 hw6
      have hd := ref13_Do r x pl xs[i] w6 (hr5.grow hw6) hok hof hg hxok
      refine Turn.call rfl hd.fn (Post := fun v w2 => (∃ r', v = .tuple #[.agg (rsL r').toArray, .int .i64 (do13N x pl xs[i]), .int .i64 (do13A x pl xs[i]), .int .i64 (do13E x pl xs[i])] ∧ RsOk w2 r' (do13X x pl xs[i]) (do13P x pl xs[i]) ∧ Keep w6 r r') ∧ Chg None' w6 w2) (fun h0 => hd.mono fun v w2 ⟨r', p1, p2, p3, p4⟩ => ⟨h0.trans p4, ⟨r', p1, p2, p3⟩, p4⟩) ?_
      rintro _ w7 _ ⟨⟨r', rfl, hR7, hK7⟩, hc67⟩
      have hs56 := hw6.size
      have hs67 := hc67.size
      refine Drawn.adv hTT hB rfl ?_
      refine Drawn.turn1 hB rfl ?_
      intro w8 hw8
      refine Turn.alloc hTT hB rfl (fun _ => rfl) ?_
      intro nb w9 e9 hnb hw9 hz9
      have hs78 := hw8.size
      refine Drawn.turn1 hB rfl ?_
      intro w10 hw10
      refine Turn.store hTT hB rfl (hw10.heap' hnb) (by first | (intro h; exact rfl) | (intro h; omega)) rfl rfl rfl ?_
      intro w11 hnb11 hs11 hz11
      refine Drawn.nil hB ?_
      intro w12 hw12
      refine Goes.adv hTT 400 rfl ?_
      have hc57 := hw6.trans hc67
      have hc710 := (hw8.trans hw9).trans hw10
      have hR12 : RsOk w12 r' (do13X x pl xs[i]) (do13P x pl xs[i]) := ((hR7.grow hc710).far (hR7.out (fun z hz => by omega)) hs11).grow hw12
      have hKF : ∀ Q : Nat → Prop, (∀ z, Q z → z < w5.heap.size) → RsOut Q r → RsOut Q r' := fun Q hQ ho => hK7 Q (fun z hz => by have := hQ z hz; omega) ho
      have hc512 : Chg None' w5 w12 := ((hc57.trans hc710).since hs11 (fun z hz e => by omega)).trans hw12
      replace hnb11 : w11.heap[nb]? = some (.cells (rsL r').toArray 54 (0, 0)) := hnb11
      have hnb12 := hw12.heap' hnb11
      refine Goes.loads hTT rfl hnb12 rfl rfl ?_
      have hxb12 := hc512.heap' hxb5
      refine Goes.store hTT rfl hxb12 rfl rfl ?_
      intro w13 hxb13 hs13 hz13
      refine Goes.adv hTT 400 rfl ?_
      replace hxb13 : w13.heap[xb]? = some (.cells (rsL r').toArray 54 (0, 0)) := hxb13
      have hox' := hKF _ (fun z hz => by omega) hox
      have hR13 := hR12.far hox' hs13
      have h13 := (h5.grow hc512).away (kd_cells hxb12) (by decide) (by decide) (rs_nou8 hxb12) hs13
      have hw013 : Chg None' w w13 := (hw05.trans hc512).since hs13 (fun z hz e => by omega)
      have hroF := hKF _ (fun z hz => (hF5 z hz).2) hro5
      have hs513 : w5.heap.size ≤ w13.heap.size := by have := hc512.size; omega
      have hF13 : ∀ z, growF F w4 w5 z → w.heap.size ≤ z ∧ z < w13.heap.size := fun z hz => by have := hF5 z hz; exact ⟨this.1, by omega⟩
      refine Goes.no hTT rfl (bne_self_eq_false _) rfl ?_
      refine Goes.no hTT rfl (bne_self_eq_false _) rfl ?_
      refine Goes.no hTT rfl (bne_self_eq_false _) rfl ?_
      refine Goes.loads hTT rfl hxb13 rfl rfl ?_
      refine Goes.call rfl (law13_same P r' w13 h13 hSP hR13) ?_
      rintro _ w14 ⟨rfl, hw14⟩
      refine Goes.adv hTT 400 rfl ?_
      refine Goes.no hTT rfl rfl rfl ?_
      refine Goes.arith hTT rfl (w64 (by omega)) rfl ?_
      exact ih (i + 1) _ _ ⟨by omega, growF F w4 w5, do13X x pl xs[i], do13P x pl xs[i], r', h13.grow hw14, fun z hz => by have h1 := hF13 z hz; have := hw14.size; exact ⟨h1.1, by omega⟩, hR13.grow hw14, hroF, hox', hFx5, hw14.heap' hxb13, hw013.trans hw14⟩ (by omega) ⟨rfl, rfl, rfl, rfl, rfl, rfl, rfl, trivial⟩
    · intro w6 hw6
      refine Turn.alloc hTT hB rfl (fun _ => rfl) ?_
      intro nb w7 e7 hnb hw7 hz7
      have hs56 := hw6.size
      refine Drawn.turn1 hB rfl ?_
      intro w8 hw8
      have hs78 := hw8.size
      have hc58 := (hw6.trans hw7).trans hw8
      have hd := ref13_Do r x pl xs[i] w8 (hr5.grow hc58) hok hof hg hxok
      refine Turn.call rfl hd.fn (Post := fun v w2 => (∃ r', v = .tuple #[.agg (rsL r').toArray, .int .i64 (do13N x pl xs[i]), .int .i64 (do13A x pl xs[i]), .int .i64 (do13E x pl xs[i])] ∧ RsOk w2 r' (do13X x pl xs[i]) (do13P x pl xs[i]) ∧ Keep w8 r r') ∧ Chg None' w8 w2) (fun h0 => hd.mono fun v w2 ⟨r', p1, p2, p3, p4⟩ => ⟨h0.trans p4, ⟨r', p1, p2, p3⟩, p4⟩) ?_
      rintro _ w9 _ ⟨⟨r', rfl, hR9, hK9⟩, hc89⟩
      refine Drawn.adv hTT hB rfl ?_
      refine Drawn.turn1 hB rfl ?_
      intro w10 hw10
      have hnb10 := (hw8.trans (hc89.trans hw10)).heap' hnb
      refine Turn.store hTT hB rfl hnb10 (by first | (intro h; exact rfl) | (intro h; omega)) rfl rfl rfl ?_
      intro w11 hnb11 hs11 hz11
      refine Drawn.nil hB ?_
      intro w12 hw12
      refine Goes.adv hTT 400 rfl ?_
      have hR12 : RsOk w12 r' (do13X x pl xs[i]) (do13P x pl xs[i]) := ((hR9.grow hw10).far (hK9 _ (fun z hz => by omega) (hr5.out (fun z hz => by omega))) hs11).grow hw12
      have hKF : ∀ Q : Nat → Prop, (∀ z, Q z → z < w5.heap.size) → RsOut Q r → RsOut Q r' := fun Q hQ ho => hK9 Q (fun z hz => by have := hQ z hz; omega) ho
      have hc512 : Chg None' w5 w12 := ((hc58.trans (hc89.trans hw10)).since hs11 (fun z hz e => by omega)).trans hw12
      replace hnb11 : w11.heap[nb]? = some (.cells (rsL r').toArray 54 (0, 0)) := hnb11
      have hnb12 := hw12.heap' hnb11
      refine Goes.loads hTT rfl hnb12 rfl rfl ?_
      have hxb12 := hc512.heap' hxb5
      refine Goes.store hTT rfl hxb12 rfl rfl ?_
      intro w13 hxb13 hs13 hz13
      refine Goes.adv hTT 400 rfl ?_
      replace hxb13 : w13.heap[xb]? = some (.cells (rsL r').toArray 54 (0, 0)) := hxb13
      have hox' := hKF _ (fun z hz => by omega) hox
      have hR13 := hR12.far hox' hs13
      have h13 := (h5.grow hc512).away (kd_cells hxb12) (by decide) (by decide) (rs_nou8 hxb12) hs13
      have hw013 : Chg None' w w13 := (hw05.trans hc512).since hs13 (fun z hz e => by omega)
      have hroF := hKF _ (fun z hz => (hF5 z hz).2) hro5
      have hs513 : w5.heap.size ≤ w13.heap.size := by have := hc512.size; omega
      have hF13 : ∀ z, growF F w4 w5 z → w.heap.size ≤ z ∧ z < w13.heap.size := fun z hz => by have := hF5 z hz; exact ⟨this.1, by omega⟩
      refine Goes.no hTT rfl (bne_self_eq_false _) rfl ?_
      refine Goes.no hTT rfl (bne_self_eq_false _) rfl ?_
      refine Goes.no hTT rfl (bne_self_eq_false _) rfl ?_
      refine Goes.loads hTT rfl hxb13 rfl rfl ?_
      refine Goes.call rfl (law13_same P r' w13 h13 hSP hR13) ?_
      rintro _ w14 ⟨rfl, hw14⟩
      refine Goes.adv hTT 400 rfl ?_
      refine Goes.no hTT rfl rfl rfl ?_
      refine Goes.arith hTT rfl (w64 (by omega)) rfl ?_
      exact ih (i + 1) _ _ ⟨by omega, growF F w4 w5, do13X x pl xs[i], do13P x pl xs[i], r', h13.grow hw14, fun z hz => by have h1 := hF13 z hz; have := hw14.size; exact ⟨h1.1, by omega⟩, hR13.grow hw14, hroF, hox', hFx5, hw14.heap' hxb13, hw013.trans hw14⟩ (by omega) ⟨rfl, rfl, rfl, rfl, rfl, rfl, rfl, trivial⟩
  · refine Goes.yes hTT rfl rfl rfl ?_
    refine Goes.yes hTT rfl rfl rfl ?_
    refine Goes.loads hTT rfl hxb4 rfl rfl ?_
    refine Goes.call rfl (law13_same P r w4 h4 hSP hr4) ?_
    rintro _ w5 ⟨rfl, hw5⟩
    refine Goes.adv hTT 400 rfl ?_
    exact Goes.ret1 hTT rfl Tryd.func7 rfl rfl ⟨rfl, hw04.trans hw5⟩
end Go.Proofs.YtdmedllaackbaaaDoor
/-
  Layer 13: a block that is taken, and given back, leaves the pages' blocks asV they were.
-/
namespace Go.Proofs.YtdmedllaackbaaaDoor
open Go.RowKit

theorem pgOwn_set {p : List Int} {k : Nat} {v : Int} (h : k < p.length) : pgOwn (p.set k v) k = v := by
  unfold pgOwn
  rw [if_pos (by omega)]
  show (p.set k v).getD k (-1) = v
  rw [getD_set_i, if_pos ⟨rfl, h⟩]
theorem smGet_set_eq {l : PgL} {n : Nat} {p q : List Int} (hn : (l.map (·.1)).Nodup) (hq : (n, q) ∈ l) : smGet (smSet l n p) n = some p :=
  smGet_of (by rw [smSet_fst]; exact hn) (List.mem_map.2 ⟨(n, q), hq, if_pos rfl⟩)
theorem smGet_del {l : PgL} {n : Nat} : smGet (smDel l n) n = none := by
  cases h : smGet (smDel l n) n with
  | none => rfl
  | some p =>
    obtain ⟨m, hm, hp⟩ := smGet_some h
    have := (mem_smDel.1 hp).1
    simp only at this
    omega
/-- A block taken and given back. -/
theorem take_give {x1 : Sm} {n : Nat} {p : List Int} {who : Int} (hok : x1.Ok) (hw : 0 ≤ who) (hp : (n, p) ∈ x1.pg) (hhd : ∃ r, x1.opn = n :: r) :
    shOwner (x1.takeAt n p who) n (pgHole p) = who ∧ shGiveE (x1.takeAt n p who) n (pgHole p) = 0 ∧ shOwner (shGive (x1.takeAt n p who) n (pgHole p)) n (pgHole p) = -1 ∧
      smUsed (shGive (x1.takeAt n p who) n (pgHole p)).pg = smUsed x1.pg ∧
      ((0 < pgUsed p → (shGive (x1.takeAt n p who) n (pgHole p)).pg.length = x1.pg.length ∧ (shGive (x1.takeAt n p who) n (pgHole p)).opn.length = x1.opn.length) ∧
       (pgUsed p = 0 → (shGive (x1.takeAt n p who) n (pgHole p)).pg.length + 1 = x1.pg.length ∧ (shGive (x1.takeAt n p who) n (pgHole p)).opn.length + 1 = x1.opn.length)) := by
  obtain ⟨r, ho⟩ := hhd
  obtain ⟨h1, h2, h3⟩ := hok.each _ hp
  simp only at h1 h2 h3
  have hnf := h3.1 (by rw [ho]; simp)
  obtain ⟨e1, e2⟩ := pgTake_ok (p := p) (who := who) hw (by rw [h2]; exact hnf)
  have hh : ¬ pgHole p < 0 := fun e => by have := pgHole_full.1 e; omega
  obtain ⟨g1, g2⟩ := pg_hole_in hh
  obtain ⟨k, hk⟩ := Int.eq_ofNat_of_zero_le (show 0 ≤ pgHole p by omega)
  have hkt : (pgHole p).toNat = k := by omega
  rw [hkt] at g1 g2
  have hpt : pgTake p who = p.set k who := by unfold pgTake; rw [if_pos e1, hkt]
  have hx1 : (x1.takeAt n p who).Ok := hok.takeAt hw hp (by rw [ho]; simp)
  have hpg : (x1.takeAt n p who).pg = smSet x1.pg n (p.set k who) := by show smSet x1.pg n (pgTake p who) = _; rw [hpt]
  have hget : smGet (x1.takeAt n p who).pg n = some (p.set k who) := by rw [hpg]; exact smGet_set_eq hok.nodup hp
  have hmem : (n, p.set k who) ∈ (x1.takeAt n p who).pg := by rw [hpg]; exact List.mem_map.2 ⟨(n, p), hp, if_pos rfl⟩
  have hpo : pgOwn (p.set k who) (pgHole p) = who := by rw [hk]; exact pgOwn_set g1
  have hgE : pgGiveE (p.set k who) (pgHole p) = 0 := by
    unfold pgGiveE
    rw [if_neg (by rw [List.length_set]; omega), hpo, if_neg (by omega)]
  have hu1 : pgUsed (p.set k who) = pgUsed p + 1 := by rw [← hpt]; exact e2
  have hgu := pgGive_used hgE
  have hgv : shGive (x1.takeAt n p who) n (pgHole p) = (x1.takeAt n p who).giveAt n (p.set k who) (pgHole p) := by unfold shGive; rw [hget]; simp only; rw [if_pos hgE]; rfl
  have hb : (x1.takeAt n p who).blocks = x1.blocks := rfl
  have hopn : (x1.takeAt n p who).opn = if pgUsed (p.set k who) = x1.blocks then r else x1.opn := by
    show (if pgUsed (pgTake p who) = x1.blocks then x1.opn.filter (fun m => m != n) else x1.opn) = _
    rw [hpt]
    split
    · rw [ho]; exact filter_head (ho ▸ hok.onodup)
    · rfl
  have hus := smUsed_set (p := p.set k who) hok.nodup hp
  have hol : x1.opn.length = r.length + 1 := by rw [ho]; simp
  refine ⟨by unfold shOwner; rw [hget]; exact hpo, by unfold shGiveE; rw [hget]; exact hgE, ?_, ?_, ?_, ?_⟩
  · rw [hgv]
    by_cases hz : pgUsed (pgGive (p.set k who) (pgHole p)) = 0
    · have e : ((x1.takeAt n p who).giveAt n (p.set k who) (pgHole p)).pg = smDel (x1.takeAt n p who).pg n := by unfold Sm.giveAt; simp only; rw [if_pos hz]
      unfold shOwner; rw [e, smGet_del]
    · have e : ((x1.takeAt n p who).giveAt n (p.set k who) (pgHole p)).pg = smSet (x1.takeAt n p who).pg n (pgGive (p.set k who) (pgHole p)) := by unfold Sm.giveAt; simp only; rw [if_neg hz]
      unfold shOwner; rw [e, smGet_set_eq hx1.nodup hmem]
      show pgOwn (pgGive (p.set k who) (pgHole p)) (pgHole p) = -1
      unfold pgGive
      rw [if_pos hgE, hkt, hk]
      exact pgOwn_set (by rw [List.length_set]; exact g1)
  · rw [hgv]
    unfold Sm.giveAt
    simp only
    split
    · have := (smUsed_del hx1.nodup hmem).1
      rw [hpg] at this ⊢
      show smUsed (smDel _ _) = _
      omega
    · have := smUsed_set (p := pgGive (p.set k who) (pgHole p)) hx1.nodup hmem
      rw [hpg] at this ⊢
      show smUsed (smSet _ _ _) = _
      omega
  · intro hpos
    rw [hgv]
    unfold Sm.giveAt
    simp only
    rw [if_neg (by omega), hopn]
    refine ⟨by show (smSet _ _ _).length = _; rw [smSet_length, hpg, smSet_length], ?_⟩
    show (if pgUsed (p.set k who) = (x1.takeAt n p who).blocks then n :: _ else _ : List Nat).length = _
    rw [hb]
    split
    · rw [List.length_cons, hol]
    · rfl
  · intro hz
    rw [hgv]
    unfold Sm.giveAt
    simp only
    rw [if_pos (by omega), hopn]
    refine ⟨?_, ?_⟩
    · have := (smUsed_del hx1.nodup hmem).2
      rw [hpg, smSet_length] at this
      rw [hpg]
      exact this
    · show (List.filter _ (if pgUsed (p.set k who) = (x1.takeAt n p who).blocks then n :: _ else _ : List Nat)).length + 1 = _
      rw [hb]
      have hnd : (n :: r).Nodup := ho ▸ hok.onodup
      split
      · rw [filter_head hnd, hol]
      · rw [ho, filter_head hnd]; simp
theorem back_facts {x : Sm} {pl : PlM} {who : Int} (hok : x.Ok) (hpos : x.Pos) (hof : x.Of pl) (hg : pl.Good) (hE : shTakeE x pl who = 0) :
    shOwner (shTake x pl who) (shTakeN x pl who) (shTakeA x pl who) = who ∧ shGiveE (shTake x pl who) (shTakeN x pl who) (shTakeA x pl who) = 0 ∧ shOwner (shGive (shTake x pl who) (shTakeN x pl who) (shTakeA x pl who)) (shTakeN x pl who) (shTakeA x pl who) = -1 ∧
      smUsed (shGive (shTake x pl who) (shTakeN x pl who) (shTakeA x pl who)).pg = smUsed x.pg ∧ (shGive (shTake x pl who) (shTakeN x pl who) (shTakeA x pl who)).pg.length = x.pg.length ∧ (shGive (shTake x pl who) (shTakeN x pl who) (shTakeA x pl who)).opn.length = x.opn.length := by
  rcases shTake_cases x pl who with ⟨h, _⟩ | ⟨_, hw, ⟨n, r, ho, k1, _, k3, k4, k5⟩ | ⟨n, r, ho, hf, k1, _, k3, k4, k5⟩⟩
  · exact absurd hE h
  · obtain ⟨p, hp⟩ := hok.osub n (by rw [ho]; simp)
    rw [smGet_of hok.nodup hp] at k3
    simp only [Option.getD_some] at k3
    rw [k3] at k1 k5
    obtain ⟨a1, a2, a3, a4, a5, _⟩ := take_give hok hw hp ⟨r, ho⟩
    obtain ⟨b1, b2⟩ := a5 (hpos _ hp)
    rw [k1, k4, k5]
    exact ⟨a1, a2, a3, a4, b1, b2⟩
  · have hnew := free_new hok hof hg (n := n) (by rw [hf]; simp)
    have hn4 : n < 1024 := by have := (hg.free n (by rw [hf]; simp)).1; have := hg.len; omega
    have hx1 := hok.fresh hn4 hnew
    have hp : (n, List.replicate x.blocks (-1)) ∈ (x.fresh n).pg := List.mem_append_right _ (by simp)
    rw [smGet_of hx1.nodup hp] at k3
    simp only [Option.getD_some] at k3
    rw [k3] at k1 k5
    obtain ⟨a1, a2, a3, a4, _, a6⟩ := take_give hx1 hw hp ⟨[], by show n :: x.opn = _; rw [ho]⟩
    obtain ⟨b1, b2⟩ := a6 (pgUsed_new _)
    rw [k1, k4, k5]
    refine ⟨a1, a2, a3, ?_, ?_, ?_⟩
    · rw [a4]; show smUsed (x.pg ++ _) = _; rw [smUsed_append, pgUsed_new]; rfl
    · have e : (x.fresh n).pg.length = x.pg.length + 1 := by show (x.pg ++ _).length = _; simp
      omega
    · have e : (x.fresh n).opn.length = x.opn.length + 1 := rfl
      omega
set_option maxRecDepth 100000 in
theorem law_ShelfBack (n : Int) (a : Option Addr) (cap : Nat) (xs : List Act13) (w : World) (ht : TabAt w) (hn : 0 ≤ n ∧ n < 256) (hr : Rows act13L 4 w a xs) (hl : xs.length ≤ 9223372036854775807) (hx : ∀ x ∈ xs, 0 ≤ x.kind ∧ x.kind < 256) :
    Does Tryd.prog 8 #[.int .u8 n, .slice a xs.length cap] w (Grow (.bool true) w) := by
  refine Does.enter Tryd.func8 rfl Tryd.ntmps8 rfl rfl ?_
  refine Goes.adv hTT 400 rfl ?_
  refine Goes.call rfl (law13_awake w ht) ?_
  rintro _ w1 ⟨rfl, hw1⟩
  refine Goes.adv hTT 400 rfl ?_
  refine Goes.fork hTT rfl rfl rfl (fun h1 => ?_) (fun h1 => ?_)
  · exact Goes.ret1 hTT rfl Tryd.func8 rfl rfl ⟨rfl, hw1⟩
  refine Goes.arith hTT rfl (w64 (by omega)) rfl ?_
  refine Goes.div hTT rfl (by omega) (rem_ (by omega)) rfl ?_
  refine Goes.arith hTT rfl (w64 (by omega)) rfl ?_
  obtain ⟨b, hb⟩ := Int.eq_ofNat_of_zero_le (show 0 ≤ 1 + n % 4 by omega)
  rw [hb]
  have hb1 : 1 ≤ b ∧ b ≤ 4 := by omega
  refine Goes.call rfl (pool_New 3 w1 (by decide)) ?_
  rintro _ w2 ⟨P, rfl, hPn, hP, hw2⟩
  refine Goes.adv hTT 400 rfl ?_
  have hw02 := hw1.trans hw2
  have hs1 := hw1.size
  have ht2 : TabAt w2 := fun j hj => hw02.cell (ht j hj) id
  refine Goes.call rfl (st_New (w0 := w) (k := b) (cls := 3) ht2 (by decide) (by omega) hP ⟨by omega, by omega⟩ hw02.size) ?_
  rintro _ w3 ⟨S, F3, hSP, rfl, h3, hF3, hw3⟩
  refine Goes.adv hTT 400 rfl ?_
  have hw03 := hw02.trans hw3
  refine Goes.call rfl (ref13_New 3 3 b w3 (by decide)) ?_
  rintro _ v1 ⟨r0, rfl, hr0, hro0, hv1⟩
  refine Goes.adv hTT 400 rfl ?_
  refine Goes.alloc hTT rfl ?_
  intro xb v2 e2 hxb hv2 hzv2
  refine Goes.adv hTT 400 rfl ?_
  refine Goes.store hTT rfl hxb rfl rfl ?_
  intro v3 hxb3 hsv3 hzv3
  refine Goes.adv hTT 400 rfl ?_
  replace hxb3 : v3.heap[xb]? = some (.cells (rsL r0).toArray 54 (0, 0)) := hxb3
  have hsv1 := hv1.size
  have hs03 := hw03.size
  have hcv : Chg None' w3 v3 := (hv1.trans hv2).since hsv3 (fun z hz e => by omega)
  have hsv := hcv.size
  have hrv : RsOk v3 r0 (newSm 3 b) (plNew 3) := (hr0.grow hv2).far (hr0.out (fun z hz => by omega)) hsv3
  refine Goes.loop (α := Nat) (fun i => [(1, false, .slice a xs.length cap), (5, false, .bool true), (7, false, plV P), (9, false, sfV S), (11, false, .pointer (some ⟨xb, 0, none⟩)), (12, false, .int .i64 i)])
    (fun i w' => i ≤ xs.length ∧ ∃ F x pl r, ShSt F w' S x pl ∧ (∀ z, F z → w.heap.size ≤ z ∧ z < w'.heap.size) ∧ RsOk w' r x pl ∧ RsOut F r ∧ RsOut (fun z => z = xb) r ∧ (∀ z, F z → z ≠ xb) ∧ w'.heap[xb]? = some (.cells (rsL r).toArray 54 (0, 0)) ∧ Chg None' w w') (fun i => xs.length - i) 0 ⟨rfl, rfl, rfl, rfl, rfl, rfl, trivial⟩
    ⟨Nat.zero_le _, F3, _, _, r0, h3.grow hcv, fun z hz => by have := hF3 z hz; exact ⟨this.1, by omega⟩, hrv, hro0 _ (fun z hz => (hF3 z hz).2), hr0.out (fun z hz => by omega), fun z hz => by have := hF3 z hz; omega, hxb3, hw03.trans hcv⟩ ?_
  rintro i w4 ⟨hi, F, x, pl, r, h4, hF, hr4, hro, hox, hFx, hxb4, hw04⟩ ih
  have hlx := lt_of_heap hxb3
  have hxbw : w.heap.size ≤ xb := by omega
  refine Goes.adv hTT 400 rfl ?_
  refine Goes.fork hTT rfl rfl rfl (fun hc => ?_) (fun hc => ?_)
  · have hlt : i < xs.length := by have := of_decide_eq_true hc; omega
    obtain ⟨ub, uoff, rfl, hcell⟩ := hr.at hlt
    have hxok := hx _ (List.getElem_mem hlt)
    refine Goes.index hTT rfl (j := (i * 4)) (by omega) (by omega) (by first | rfl | omega | (simp; done) | (simp; omega)) rfl ?_
    refine Goes.loadC hTT (act13L xs[i]) rfl (by first | rfl | (simp; done) | (simp [*]; done) | (simp; omega)) ((fun j v hv => below_cell hw04.below (hcell j v hv))) rfl ?_
    refine Goes.call rfl (law13_do xs[i] w4 h4 hxok) ?_
    rintro _ w5 ⟨rfl, h5, hc5⟩
    refine Goes.adv hTT 400 rfl ?_
    have hw05 : Chg None' w w5 := hw04.since hc5 (fun z hz h => by have := hF z h; omega)
    have hxbF : ¬ F xb := fun h => (hFx xb h) rfl
    have hxb5 := hc5.heap hxb4 hxbF
    have hr5 := hr4.far hro hc5
    have hF5 := growF_in hF hw04.size hc5.size
    have hro5 := hro.growF (w2 := w5) hr4 (Nat.le_refl _)
    have hlx5 := lt_of_heap hxb5
    obtain ⟨hok, hpos, hof, hg⟩ := h4.ok
    have hs45 := hc5.size
    have hFx5 : ∀ z, growF F w4 w5 z → z ≠ xb := fun z hz => by
      rcases hz with hz | hz
      · exact hFx z hz
      · have := lt_of_heap hxb4; omega
    refine Goes.drawn (q := 16) None' hTT mixed (by kernel_rfl) rfl ?_
    intro hB
    refine Drawn.loads hTT hB rfl hxb5 (by first | exact fun h => h | (intro h; omega) | assumption) rfl rfl ?_
    refine Drawn.index hTT hB rfl (j := (i * 4)) (by omega) (by omega) (by first | rfl | omega | (simp; done) | (simp; omega)) rfl ?_
    refine Drawn.loadC hTT hB (act13L xs[i]) rfl (by first | rfl | (simp; done) | (simp [*]; done) | (simp; omega)) ((fun j v hv => below_cell hw05.below (hcell j v hv))) (by first | exact fun h => h | (intro h; omega) | assumption) rfl ?_
    refine Drawn.turn2 hB rfl ?_ ?_
    · intro w6 hw6
      have hd := ref13_Do r x pl xs[i] w6 (hr5.grow hw6) hok hof hg hxok
      refine Turn.call rfl hd.fn (Post := fun v w2 => (∃ r', v = .tuple #[.agg (rsL r').toArray, .int .i64 (do13N x pl xs[i]), .int .i64 (do13A x pl xs[i]), .int .i64 (do13E x pl xs[i])] ∧ RsOk w2 r' (do13X x pl xs[i]) (do13P x pl xs[i]) ∧ Keep w6 r r') ∧ Chg None' w6 w2) (fun h0 => hd.mono fun v w2 ⟨r', p1, p2, p3, p4⟩ => ⟨h0.trans p4, ⟨r', p1, p2, p3⟩, p4⟩) ?_
      rintro _ w7 _ ⟨⟨r', rfl, hR7, hK7⟩, hc67⟩
      have hs56 := hw6.size
      have hs67 := hc67.size
      refine Drawn.adv hTT hB rfl ?_
      refine Drawn.turn1 hB rfl ?_
      intro w8 hw8
      refine Turn.alloc hTT hB rfl (fun _ => rfl) ?_
      intro nb w9 e9 hnb hw9 hz9
      have hs78 := hw8.size
      refine Drawn.turn1 hB rfl ?_
      intro w10 hw10
      refine Turn.store hTT hB rfl (hw10.heap' hnb) (by first | (intro h; exact rfl) | (intro h; omega)) rfl rfl rfl ?_
      intro w11 hnb11 hs11 hz11
      refine Drawn.nil hB ?_
      intro w12 hw12
      refine Goes.adv hTT 400 rfl ?_
      have hc57 := hw6.trans hc67
      have hc710 := (hw8.trans hw9).trans hw10
      have hR12 : RsOk w12 r' (do13X x pl xs[i]) (do13P x pl xs[i]) := ((hR7.grow hc710).far (hR7.out (fun z hz => by omega)) hs11).grow hw12
      have hKF : ∀ Q : Nat → Prop, (∀ z, Q z → z < w5.heap.size) → RsOut Q r → RsOut Q r' := fun Q hQ ho => hK7 Q (fun z hz => by have := hQ z hz; omega) ho
      have hc512 : Chg None' w5 w12 := ((hc57.trans hc710).since hs11 (fun z hz e => by omega)).trans hw12
      replace hnb11 : w11.heap[nb]? = some (.cells (rsL r').toArray 54 (0, 0)) := hnb11
      have hnb12 := hw12.heap' hnb11
      refine Goes.loads hTT rfl hnb12 rfl rfl ?_
      have hxb12 := hc512.heap' hxb5
      refine Goes.store hTT rfl hxb12 rfl rfl ?_
      intro w13 hxb13 hs13 hz13
      refine Goes.adv hTT 400 rfl ?_
      replace hxb13 : w13.heap[xb]? = some (.cells (rsL r').toArray 54 (0, 0)) := hxb13
      have hox' := hKF _ (fun z hz => by omega) hox
      have hR13 := hR12.far hox' hs13
      have h13 := (h5.grow hc512).away (kd_cells hxb12) (by decide) (by decide) (rs_nou8 hxb12) hs13
      have hw013 : Chg None' w w13 := (hw05.trans hc512).since hs13 (fun z hz e => by omega)
      have hroF := hKF _ (fun z hz => (hF5 z hz).2) hro5
      have hs513 : w5.heap.size ≤ w13.heap.size := by have := hc512.size; omega
      have hF13 : ∀ z, growF F w4 w5 z → w.heap.size ≤ z ∧ z < w13.heap.size := fun z hz => by have := hF5 z hz; exact ⟨this.1, by omega⟩
      refine Goes.arith hTT rfl (w64 (by omega)) rfl ?_
      exact ih (i + 1) _ _ ⟨by omega, growF F w4 w5, do13X x pl xs[i], do13P x pl xs[i], r', h13, hF13, hR13, hroF, hox', hFx5, hxb13, hw013⟩ (by omega) ⟨rfl, rfl, rfl, rfl, rfl, rfl, trivial⟩
    · intro w6 hw6
      refine Turn.alloc hTT hB rfl (fun _ => rfl) ?_
      intro nb w7 e7 hnb hw7 hz7
      have hs56 := hw6.size
      refine Drawn.turn1 hB rfl ?_
      intro w8 hw8
      have hs78 := hw8.size
      have hc58 := (hw6.trans hw7).trans hw8
      have hd := ref13_Do r x pl xs[i] w8 (hr5.grow hc58) hok hof hg hxok
      refine Turn.call rfl hd.fn (Post := fun v w2 => (∃ r', v = .tuple #[.agg (rsL r').toArray, .int .i64 (do13N x pl xs[i]), .int .i64 (do13A x pl xs[i]), .int .i64 (do13E x pl xs[i])] ∧ RsOk w2 r' (do13X x pl xs[i]) (do13P x pl xs[i]) ∧ Keep w8 r r') ∧ Chg None' w8 w2) (fun h0 => hd.mono fun v w2 ⟨r', p1, p2, p3, p4⟩ => ⟨h0.trans p4, ⟨r', p1, p2, p3⟩, p4⟩) ?_
      rintro _ w9 _ ⟨⟨r', rfl, hR9, hK9⟩, hc89⟩
      refine Drawn.adv hTT hB rfl ?_
      refine Drawn.turn1 hB rfl ?_
      intro w10 hw10
      have hnb10 := (hw8.trans (hc89.trans hw10)).heap' hnb
      refine Turn.store hTT hB rfl hnb10 (by first | (intro h; exact rfl) | (intro h; omega)) rfl rfl rfl ?_
      intro w11 hnb11 hs11 hz11
      refine Drawn.nil hB ?_
      intro w12 hw12
      refine Goes.adv hTT 400 rfl ?_
      have hR12 : RsOk w12 r' (do13X x pl xs[i]) (do13P x pl xs[i]) := ((hR9.grow hw10).far (hK9 _ (fun z hz => by omega) (hr5.out (fun z hz => by omega))) hs11).grow hw12
      have hKF : ∀ Q : Nat → Prop, (∀ z, Q z → z < w5.heap.size) → RsOut Q r → RsOut Q r' := fun Q hQ ho => hK9 Q (fun z hz => by have := hQ z hz; omega) ho
      have hc512 : Chg None' w5 w12 := ((hc58.trans (hc89.trans hw10)).since hs11 (fun z hz e => by omega)).trans hw12
      replace hnb11 : w11.heap[nb]? = some (.cells (rsL r').toArray 54 (0, 0)) := hnb11
      have hnb12 := hw12.heap' hnb11
      refine Goes.loads hTT rfl hnb12 rfl rfl ?_
      have hxb12 := hc512.heap' hxb5
      refine Goes.store hTT rfl hxb12 rfl rfl ?_
      intro w13 hxb13 hs13 hz13
      refine Goes.adv hTT 400 rfl ?_
      replace hxb13 : w13.heap[xb]? = some (.cells (rsL r').toArray 54 (0, 0)) := hxb13
      have hox' := hKF _ (fun z hz => by omega) hox
      have hR13 := hR12.far hox' hs13
      have h13 := (h5.grow hc512).away (kd_cells hxb12) (by decide) (by decide) (rs_nou8 hxb12) hs13
      have hw013 : Chg None' w w13 := (hw05.trans hc512).since hs13 (fun z hz e => by omega)
      have hroF := hKF _ (fun z hz => (hF5 z hz).2) hro5
      have hs513 : w5.heap.size ≤ w13.heap.size := by have := hc512.size; omega
      have hF13 : ∀ z, growF F w4 w5 z → w.heap.size ≤ z ∧ z < w13.heap.size := fun z hz => by have := hF5 z hz; exact ⟨this.1, by omega⟩
      refine Goes.arith hTT rfl (w64 (by omega)) rfl ?_
      exact ih (i + 1) _ _ ⟨by omega, growF F w4 w5, do13X x pl xs[i], do13P x pl xs[i], r', h13, hF13, hR13, hroF, hox', hFx5, hxb13, hw013⟩ (by omega) ⟨rfl, rfl, rfl, rfl, rfl, rfl, trivial⟩
  · obtain ⟨hok, hpos, hof, hg⟩ := h4.ok
    have hopL : r.opn.x.length = x.opn.length := by rw [hr4.e5]; simp
    have hpL := hr4.plen
    have hxbF : ¬ F xb := fun h => (hFx xb h) rfl
    have hs04 := hw04.size
    by_cases hE : shTakeE x pl 6 = 0
    · obtain ⟨a1, a2, a3, a4, a5, a6⟩ := back_facts hok hpos hof hg hE
      obtain ⟨N, hN⟩ : ∃ N, N = shTakeN x pl 6 := ⟨_, rfl⟩
      obtain ⟨A, hA⟩ : ∃ A, A = shTakeA x pl 6 := ⟨_, rfl⟩
      rw [← hN, ← hA] at a1 a2 a3 a4 a5 a6
      have dT := st_Take 6 h4
      rw [← hN, ← hA, hE] at dT
      refine Goes.call rfl (dT) ?_
      rintro _ w5 ⟨rfl, h5, hc5⟩
      refine Goes.adv hTT 400 rfl ?_
      have hw05 : Chg None' w w5 := hw04.since hc5 (fun z hz h => by have := hF z h; omega)
      have hF5 := growF_in hF hw04.size hc5.size
      have hxb5 := hc5.heap hxb4 hxbF
      have hr5 := hr4.far hro hc5
      have hro5 := hro.growF (w2 := w5) hr4 (Nat.le_refl _)
      have hxbF5 : ¬ growF F w4 w5 xb := fun h => by
        rcases h with h | h
        · exact hxbF h
        · have := lt_of_heap hxb4; omega
      refine Goes.no hTT rfl rfl rfl ?_
      have dO := st_Owner N A h5
      rw [a1] at dO
      refine Goes.call rfl (dO) ?_
      rintro _ _ ⟨rfl, rfl⟩
      refine Goes.adv hTT 400 rfl ?_
      have dG := st_Give N A h5
      rw [a2] at dG
      refine Goes.call rfl (dG) ?_
      rintro _ w6 ⟨rfl, h6, hc6⟩
      refine Goes.adv hTT 400 rfl ?_
      have hw06 : Chg None' w w6 := hw05.since hc6 (fun z hz h => by have := hF5 z h; omega)
      have hxb6 := hc6.heap hxb5 hxbF5
      have hr6 := hr5.far hro5 hc6
      have dOw : ∀ {w' : World}, Chg None' w6 w' → Does Tryd.prog 21 #[sfV S, .int .i64 N, .int .i64 A] w' (Same (.int .i64 (-1)) w') := fun h => by have := st_Owner N A (h6.grow h); rw [a3] at this; exact this
      have dPw : ∀ {w' : World}, Chg None' w6 w' → Does Tryd.prog 18 #[sfV S] w' (Same (.int .i64 (x.pg.length : Nat)) w') := fun h => by have := st_Pages (h6.grow h); rw [a5] at this; exact this
      have dNw : ∀ {w' : World}, Chg None' w6 w' → Does Tryd.prog 15 #[sfV S] w' (Same (.int .i64 (x.opn.length : Nat)) w') := fun h => by have := st_Open (h6.grow h); rw [a6] at this; exact this
      have dUw : ∀ {w' : World}, Chg None' w6 w' → Does Tryd.prog 17 #[sfV S] w' (Same (.int .i64 (smUsed x.pg : Nat)) w') := fun h => by have := st_Used (h6.grow h); rw [a4] at this; exact this
      refine Goes.drawn (q := 40) None' hTT mixed (by kernel_rfl) rfl ?_
      intro hB
      refine Drawn.yes hTT hB rfl rfl rfl ?_
      refine Drawn.yes hTT hB rfl rfl rfl ?_
      refine Drawn.yes hTT hB rfl rfl rfl ?_
      refine Drawn.call hTT hB rfl (fun w' hw' => (dOw hw').grow) rfl ?_
      refine Drawn.yes hTT hB rfl rfl rfl ?_
      refine Drawn.call hTT hB rfl (fun w' hw' => (dPw hw').grow) rfl ?_
      refine Drawn.loadb hTT hB rfl hxb6 (by first | exact fun h => h | (intro h; omega) | assumption) rfl rfl ?_
      refine Drawn.yes hTT hB rfl (by rw [hpL]; exact beq_self_eq_true _) rfl ?_
      refine Drawn.call hTT hB rfl (fun w' hw' => (dNw hw').grow) rfl ?_
      refine Drawn.loadb hTT hB rfl hxb6 (by first | exact fun h => h | (intro h; omega) | assumption) rfl rfl ?_
      refine Drawn.yes hTT hB rfl (by rw [hopL]; exact beq_self_eq_true _) rfl ?_
      refine Drawn.call hTT hB rfl (fun w' hw' => (dUw hw').grow) rfl ?_
      refine Drawn.loads hTT hB rfl hxb6 (by first | exact fun h => h | (intro h; omega) | assumption) rfl rfl ?_
      refine Drawn.call hTT hB rfl (fun w' hw' => ref13_Used r x pl w' (hr6.grow hw') hok hof) rfl ?_
      refine Drawn.nil hB ?_
      intro w7 hw7
      refine Goes.adv hTT 400 rfl ?_
      exact Goes.ret1 hTT rfl Tryd.func8 rfl rfl ⟨bool_v (beq_self_eq_true _), hw06.trans hw7⟩
    · have hx5 : shTakeE x pl 6 = 5 ∧ x.opn.length = 0 ∧ pl.free.length = 0 := by
        unfold shTakeE at hE ⊢
        rw [if_neg (by decide)] at hE ⊢
        by_cases h : x.opn.length = 0 ∧ pl.free.length = 0
        · rw [if_pos h]; exact ⟨rfl, h⟩
        · rw [if_neg h] at hE; exact absurd rfl hE
      obtain ⟨x5, xo, xf⟩ := hx5
      have dT := st_Take 6 h4
      rw [show shTakeN x pl 6 = 0 from by unfold shTakeN; rw [if_neg hE], show shTakeA x pl 6 = 0 from by unfold shTakeA; rw [if_neg hE], show shTake x pl 6 = x from by unfold shTake; rw [if_neg hE], show shTakeP x pl 6 = pl from by unfold shTakeP; rw [if_neg hE], x5] at dT
      refine Goes.call rfl (dT) ?_
      rintro _ w5 ⟨rfl, h5, hc5⟩
      refine Goes.adv hTT 400 rfl ?_
      have hw05 : Chg None' w w5 := hw04.since hc5 (fun z hz h => by have := hF z h; omega)
      have hxb5 := hc5.heap hxb4 hxbF
      have hr5 := hr4.far hro hc5
      have hP5 := h5.pool
      rw [hSP] at hP5
      refine Goes.yes hTT rfl rfl rfl ?_
      refine Goes.yes hTT rfl rfl rfl ?_
      refine Goes.yes hTT rfl rfl rfl ?_
      refine Goes.yes hTT rfl rfl rfl ?_
      refine Goes.yes hTT rfl rfl rfl ?_
      refine Goes.call rfl (pool_Free P pl w5 hP5) ?_
      rintro _ w6 ⟨rfl, hw6⟩
      refine Goes.adv hTT 400 rfl ?_
      rw [xf]
      refine Goes.yes hTT rfl rfl rfl ?_
      have dO := st_Open (h5.grow hw6)
      rw [xo] at dO
      refine Goes.call rfl (dO) ?_
      rintro _ _ ⟨rfl, rfl⟩
      refine Goes.adv hTT 400 rfl ?_
      refine Goes.yes hTT rfl rfl rfl ?_
      refine Goes.loads hTT rfl (hw6.heap' hxb5) rfl rfl ?_
      refine Goes.call rfl (law13_same P r w6 (h5.grow hw6) hSP (hr5.grow hw6)) ?_
      rintro _ w7 ⟨rfl, hw7⟩
      refine Goes.adv hTT 400 rfl ?_
      exact Goes.ret1 hTT rfl Tryd.func8 rfl rfl ⟨rfl, (hw05.trans hw6).trans hw7⟩
end Go.Proofs.YtdmedllaackbaaaDoor
/-
  What the row's condition says of Go's own table: its cells.
-/
namespace Go.Proofs.YtdmedllaackbaaaDoor
open Go.ChangeShapes Go.WideShapes Go.ChangeAt Go.RowKit

def laidL : List (String × DataW Unit) := [("math/bits.deBruijn64tab", Rows.laid_math_bits_deBruijn64tab)]
theorem laid_deB : (Rows.laid_math_bits_deBruijn64tab : DataW Unit) = .agg (deB.map fun n : Nat => .lit (.int .u8 (n : Int))) := by rfl
theorem tab_of_laid {W : World} (h : laidMetH Tryd.prog laidL W) : TabAt W := fun r hr => by
  rw [MakeChecks.laidMetH_plain _ _ _ (by kernel_rfl)] at h
  obtain ⟨ps, ⟨g, t, cs, fuel, p, q, hg, ht, hv, hd, _, _⟩, _, _⟩ := h
  obtain rfl := Option.some.inj ((show Tryd.prog.globalNamed "math/bits.deBruijn64tab" = some 0 by kernel_rfl).symm.trans hg)
  obtain rfl := Option.some.inj ((show (Tryd.prog.globals[0]?).map (·.type) = some 135 by kernel_rfl).symm.trans ht)
  rw [laid_deB] at hd
  obtain ⟨xs, m, _, ex, _, hl, hel⟩ := DataW.trod_array Tryd.underlying135 hd
  have c5 : Tryd.prog.cellsOf 5 = 1 := by kernel_rfl
  have hE := hel r hr
  rw [c5, Nat.mul_one, List.getElem?_eq_getElem (by omega)] at hE
  obtain ⟨z, e1, e2, _⟩ := DataW.trod_int Tryd.underlying5 hE
  have hlen : deB.length = 64 := rfl
  have e3 : (xs.map (·.1)) = deB.map fun n : Nat => .lit (.int .u8 (n : Int)) := (DataW.agg.inj (Prod.mk.inj ex).1).symm
  have e4 : (xs.map (·.1))[r]? = (deB.map fun n : Nat => (DataW.lit (.int .u8 (n : Int)) : DataW Unit))[r]? := by rw [e3]
  rw [List.getElem?_map, List.getElem?_map, List.getElem?_eq_getElem (by omega : r < xs.length), List.getElem?_eq_getElem (by omega : r < deB.length), e2] at e4
  have hz : z = (deB.getD r 0 : Nat) := by
    simp only [Option.map_some, Option.some.injEq, DataW.lit.injEq, Lit.int.injEq, true_and] at e4
    rw [e4, List.getD, List.getElem?_eq_getElem (by omega : r < deB.length)]; rfl
  rw [World.var?_cell hg hv r, ← hz]
  have : cs.toList[r]? = some (.int .u8 z) := by
    have h0 : ((cs.toList.drop r).take 1)[0]? = some (.int .u8 z) := by rw [e1]; rfl
    simpa using h0
  simpa using this
end Go.Proofs.YtdmedllaackbaaaDoor
