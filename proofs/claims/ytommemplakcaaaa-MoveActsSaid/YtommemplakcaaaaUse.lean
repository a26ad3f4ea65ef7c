/-
  Layer 6: a use of an arena: what it does.
-/
import Derived.Test.YtommemplakcaaaaRef6c
import Derived.Test.YtommemplakcaaaaRule9
import Derived.Test.YtommemplakcaaaaLap
namespace Go.Proofs.Ytommemplakcaaaa
open Go.RowKit

/-- Elements of so many cells each, one behind another. -/
def Rows {α : Type} (cells : α → List Value) (sz : Nat) (w : World) (a : Option Addr) (xs : List α) : Prop :=
  ∀ i x, xs[i]? = some x → ∃ b off, a = some ⟨b, off, none⟩ ∧ ∀ j v, (cells x)[j]? = some v → w.cell? ⟨b, off + i * sz + j, none⟩ = some v
theorem Rows.chg {α : Type} {cells : α → List Value} {sz : Nat} {w w' : World} {a : Option Addr} {xs : List α} (h : Rows cells sz w a xs) (hc : Chg None' w w') : Rows cells sz w' a xs := fun i x hx => by
  obtain ⟨b, off, e, hcell⟩ := h i x hx
  exact ⟨b, off, e, fun j v hv => below_cell hc.below (hcell j v hv)⟩
/-- A use of an arena, and where its bytes lie. -/
structure Use where
  kind : Int
  at' : Int
  frm : Int
  n : Int
  w : Int
  a : Option Addr
  cap : Nat
  bs : List Int
def useL (u : Use) : List Value := [.int .u8 u.kind, .int .i64 u.at', .int .i64 u.frm, .int .i64 u.n, .int .u64 u.w, .slice u.a u.bs.length u.cap]
structure UseOk (w : World) (u : Use) : Prop where
  kind : 0 ≤ u.kind ∧ u.kind < 256
  w64 : 0 ≤ u.w ∧ u.w < 18446744073709551616
  rd : Rd .u8 w u.a u.bs
  rng : InB u.bs
  len : u.bs.length ≤ 9223372036854775807
theorem UseOk.chg {w w' : World} {u : Use} (h : UseOk w u) (hc : Chg None' w w') : UseOk w' u := ⟨h.kind, h.w64, h.rd.chg hc, h.rng, h.len⟩
/-- What a use comes to: what is wrong, the bytes then, the charge, the bytes told, the word told. -/
structure Out where
  err : Int
  bs : List Int
  n : Nat
  told : List Int
  word : Int
def outNo (bs : List Int) (e : Int) : Out := ⟨e, bs, 0, [], 0⟩
def useOut (bs : List Int) (u : Use) : Out :=
  let m := u.kind % 6
  if m = 0 then (if thereB bs.length u.at' u.n then ⟨0, bs, u.n.toNat, sub bs u.at'.toNat u.n.toNat, 0⟩ else outNo bs 8)
  else if m = 1 then (if thereB bs.length u.at' u.bs.length then ⟨0, wrB bs u.at'.toNat u.bs, u.bs.length, [], 0⟩ else outNo bs 8)
  else if m = 2 then (if thereB bs.length u.at' u.n then ⟨0, wrB bs u.at'.toNat (List.replicate u.n.toNat (u.w % 256)), u.n.toNat, [], 0⟩ else outNo bs 8)
  else if m = 3 then (if thereB bs.length u.frm u.n && thereB bs.length u.at' u.n then ⟨0, wrB bs u.at'.toNat (sub bs u.frm.toNat u.n.toNat), u.n.toNat, [], 0⟩ else outNo bs 8)
  else if wordedV bs.length u.at' ≠ 0 then outNo bs (wordedV bs.length u.at')
  else if m = 4 then ⟨0, bs, 1, [], leK (sub bs u.at'.toNat 8) 8⟩
  else ⟨0, wrB bs u.at'.toNat (leB u.w), 1, [], 0⟩
theorem ArV.charge_zero {V : ArV} {A : Ar} : { V.charge A 0 with bs := V.bs } = V := by
  unfold ArV.charge
  split
  · rfl
  · simp [charged]
theorem ArV.charge_zero' {V : ArV} {A : Ar} : { V.charge A ((0 : Nat) : Int) with bs := V.bs } = V := ArV.charge_zero
theorem OwnB.rdS {base : Nat} {w : World} {v : Value} {l : List Int} {S : Nat → Prop} (h : OwnB base w v l) (hS : ∀ b, S b → b < base) : ∃ a cap, v = .slice a l.length cap ∧ RdS S .u8 w a l := by
  obtain ⟨g, cap, cur, h1, h2, h3, h4, h5, h6⟩ := h.rd
  exact ⟨_, cap, h1, h6, fun b off s e _ hs => by cases e; have := hS _ hs; omega⟩
theorem ArOk.foot_lt {w : World} {A : Ar} {V : ArV} (h : ArOk w A V) : ∀ b, foot A b → b < w.heap.size := fun b hb => by
  rcases hb with rfl | hb
  · exact lt_of_heap h.dat
  · exact lt_of_heap (h.met b hb).1
theorem RdS.nil {S : Nat → Prop} {k : IntKind} {w : World} {a : Option Addr} : RdS S k w a [] := ⟨Rd.nil _ _ _, fun _ _ _ _ h => absurd h (by simp)⟩
/-- A use was made of an arena. -/
def Used (A : Ar) (V : ArV) (w : World) (o : Out) : Value → World → Prop := fun v w' =>
  ∃ a cap, v = .tuple #[.slice a o.told.length cap, .int .u64 o.word, .int .i64 o.err] ∧ RdS (foot A) .u8 w' a o.told ∧ ArOk w' A { V.charge A o.n with bs := o.bs } ∧ Chg (foot A) w w'
theorem Used.no {A : Ar} {V : ArV} {w : World} {e : Int} {a : Option Addr} {cap : Nat} (h : ArOk w A V) : Used A V w (outNo V.bs e) (.tuple #[.slice a 0 cap, .int .u64 0, .int .i64 e]) w :=
  ⟨a, cap, rfl, RdS.nil, by show ArOk w A { V.charge A ((0 : Nat) : Int) with bs := V.bs }; rw [ArV.charge_zero']; exact h, Chg.refl _ _⟩
theorem i64_at {w : World} {v : Value} {x y : Int} (h : x = y) (hv : v = .int .i64 x) : v = .int .i64 y := by rw [hv, h]
theorem law06_do (A : Ar) (V : ArV) (u : Use) (w : World) (h : ArOk w A V) (hu : UseOk w u) : Does Try.prog 33 #[.pointer (some ⟨A.ab, 0, none⟩), .agg (useL u).toArray] w (Used A V w (useOut V.bs u)) := by
  have hk := hu.kind
  have hlen := h.len
  have hl := hu.len
  refine Does.enter Try.func33 rfl Try.ntmps33 rfl rfl ?_
  refine Goes.adv hTT 400 rfl ?_
  refine Goes.alloc hTT rfl ?_
  intro ub w1 e1 hub hw1 hz1
  refine Goes.adv hTT 400 rfl ?_
  have h1 := h.grow hw1
  have hu1 := hu.chg hw1
  obtain ⟨kind, at', frm, n, wd, a, cap, bs⟩ := u
  simp only at hk hl
  replace hub : w1.heap[ub]? = some (.cells ([.int .u8 kind, .int .i64 at', .int .i64 frm, .int .i64 n, .int .u64 wd, .slice a bs.length cap] : List Value).toArray 69 (0, 0)) := hub
  obtain ⟨m, hm⟩ : ∃ m, m = kind % 6 := ⟨_, rfl⟩
  have hmv : ∀ o, useOut V.bs ⟨kind, at', frm, n, wd, a, cap, bs⟩ = o → Used A V w1 o = Used A V w1 (useOut V.bs ⟨kind, at', frm, n, wd, a, cap, bs⟩) := fun o ho => by rw [ho]
  have hback : ∀ v w', Used A V w1 (useOut V.bs ⟨kind, at', frm, n, wd, a, cap, bs⟩) v w' → Used A V w (useOut V.bs ⟨kind, at', frm, n, wd, a, cap, bs⟩) v w' := fun v w' ⟨a, cap, g1, g2, g3, g4⟩ => ⟨a, cap, g1, g2, g3, (hw1.mono fun _ _ h => h.elim).trans g4⟩
  refine Goes.loadb hTT rfl hub rfl rfl ?_
  refine Goes.div hTT rfl (by omega) (rem_ (by omega)) rfl ?_
  rw [← hm]
  refine Goes.fork hTT rfl rfl rfl (fun h0 => ?_) (fun h0 => ?_)
  · have g0 : m = 0 := by simpa using h0
    refine Goes.loadb hTT rfl hub rfl rfl ?_
    refine Goes.loadb hTT rfl hub rfl rfl ?_
    cases ht : thereB V.bs.length at' n with
    | false =>
      refine Goes.call rfl (arena_Read_no A V at' n w1 h1 ht) ?_
      rintro _ _ ⟨rfl, rfl⟩
      refine Goes.adv hTT 400 rfl ?_
      exact Goes.ret hTT rfl Try.func33 (.tmp rfl (.tmp rfl (.tmp rfl .nil))) (hback _ _ (by rw [← hmv (outNo V.bs 8) (by unfold useOut; simp only; rw [← hm, if_pos g0, if_neg (by simp [ht])])]; exact Used.no h1))
    | true =>
      have g := thereB_iff.1 ht
      obtain ⟨i, rfl⟩ := Int.eq_ofNat_of_zero_le g.1
      obtain ⟨k, rfl⟩ := Int.eq_ofNat_of_zero_le g.2.1
      refine Goes.call rfl (arena_Read A V i k w1 h1 (by omega)) ?_
      rintro _ w2 ⟨v2, rfl, ho2, hA2, hs2⟩
      refine Goes.adv hTT 400 rfl ?_
      obtain ⟨a2, cap2, rfl, hr2⟩ := ho2.rdS h1.foot_lt
      exact Goes.ret hTT rfl Try.func33 (.tmp rfl (.tmp rfl (.tmp rfl .nil))) (hback _ _ (by rw [← hmv ⟨0, V.bs, k, sub V.bs i k, 0⟩ (by unfold useOut; simp only; rw [← hm, if_pos g0, if_pos ht]; simp)]; exact ⟨a2, cap2, rfl, hr2, by simp only; rw [← V.charge_bs A k]; exact hA2, hs2.mono fun b _ hb => .inr hb⟩))
  · have g0 : ¬ m = 0 := by simpa using h0
    refine Goes.fork hTT rfl rfl rfl (fun h1' => ?_) (fun h1' => ?_)
    · have g1 : m = 1 := by simpa using h1'
      refine Goes.loadb hTT rfl hub rfl rfl ?_
      refine Goes.loadb hTT rfl hub rfl rfl ?_
      cases ht : thereB V.bs.length at' bs.length with
      | false =>
        refine Goes.call rfl (arena_Write_no A V at' a cap bs.length w1 h1 ht) ?_
        rintro _ _ ⟨rfl, rfl⟩
        refine Goes.adv hTT 400 rfl ?_
        exact Goes.ret hTT rfl Try.func33 (.tmp rfl (.tmp rfl (.tmp rfl .nil))) (hback _ _ (by rw [← hmv (outNo V.bs 8) (by unfold useOut; simp only; rw [← hm, if_neg g0, if_pos g1, if_neg (by simp [ht])])]; exact Used.no h1))
      | true =>
        have g := thereB_iff.1 ht
        obtain ⟨i, rfl⟩ := Int.eq_ofNat_of_zero_le g.1
        refine Goes.call rfl (arena_Write A V i a cap bs w1 h1 hu1.rd hu1.rng (by omega)) ?_
        rintro _ w2 ⟨rfl, hA2, hs2⟩
        refine Goes.adv hTT 400 rfl ?_
        exact Goes.ret hTT rfl Try.func33 (.tmp rfl (.tmp rfl (.tmp rfl .nil))) (hback _ _ (by rw [← hmv ⟨0, wrB V.bs i bs, bs.length, [], 0⟩ (by unfold useOut; simp only; rw [← hm, if_neg g0, if_pos g1, if_pos ht]; simp)]; exact ⟨none, 0, rfl, RdS.nil, hA2, hs2⟩))
    · have g1 : ¬ m = 1 := by simpa using h1'
      refine Goes.fork hTT rfl rfl rfl (fun h2 => ?_) (fun h2 => ?_)
      · have g2 : m = 2 := by simpa using h2
        refine Goes.loadb hTT rfl hub rfl rfl ?_
        refine Goes.loadb hTT rfl hub rfl rfl ?_
        refine Goes.loadb hTT rfl hub rfl rfl ?_
        refine Goes.arith hTT rfl wrap_u8 rfl ?_
        cases ht : thereB V.bs.length at' n with
        | false =>
          refine Goes.call rfl (arena_Fill_no A V at' n (wd % 256) w1 h1 ht) ?_
          rintro _ _ ⟨rfl, rfl⟩
          refine Goes.adv hTT 400 rfl ?_
          exact Goes.ret hTT rfl Try.func33 (.tmp rfl (.tmp rfl (.tmp rfl .nil))) (hback _ _ (by rw [← hmv (outNo V.bs 8) (by unfold useOut; simp only; rw [← hm, if_neg g0, if_neg g1, if_pos g2, if_neg (by simp [ht])])]; exact Used.no h1))
        | true =>
          have g := thereB_iff.1 ht
          obtain ⟨i, rfl⟩ := Int.eq_ofNat_of_zero_le g.1
          obtain ⟨k, rfl⟩ := Int.eq_ofNat_of_zero_le g.2.1
          refine Goes.call rfl (arena_Fill A V i k (wd % 256) w1 h1 (by omega) (by omega)) ?_
          rintro _ w2 ⟨rfl, hA2, hs2⟩
          refine Goes.adv hTT 400 rfl ?_
          exact Goes.ret hTT rfl Try.func33 (.tmp rfl (.tmp rfl (.tmp rfl .nil))) (hback _ _ (by rw [← hmv ⟨0, wrB V.bs i (List.replicate k (wd % 256)), k, [], 0⟩ (by unfold useOut; simp only; rw [← hm, if_neg g0, if_neg g1, if_pos g2, if_pos ht]; simp)]; exact ⟨none, 0, rfl, RdS.nil, hA2, hs2⟩))
      · have g2 : ¬ m = 2 := by simpa using h2
        refine Goes.fork hTT rfl rfl rfl (fun h3 => ?_) (fun h3 => ?_)
        · have g3 : m = 3 := by simpa using h3
          refine Goes.loadb hTT rfl hub rfl rfl ?_
          refine Goes.loadb hTT rfl hub rfl rfl ?_
          refine Goes.loadb hTT rfl hub rfl rfl ?_
          cases hf : thereB V.bs.length frm n with
          | false =>
            refine Goes.call rfl (arena_Copy_no1 A V at' frm n w1 h1 hf) ?_
            rintro _ _ ⟨rfl, rfl⟩
            refine Goes.adv hTT 400 rfl ?_
            exact Goes.ret hTT rfl Try.func33 (.tmp rfl (.tmp rfl (.tmp rfl .nil))) (hback _ _ (by rw [← hmv (outNo V.bs 8) (by unfold useOut; simp only; rw [← hm, if_neg g0, if_neg g1, if_neg g2, if_pos g3, if_neg (by simp [hf])])]; exact Used.no h1))
          | true =>
            have gf := thereB_iff.1 hf
            obtain ⟨i, rfl⟩ := Int.eq_ofNat_of_zero_le gf.1
            obtain ⟨k, rfl⟩ := Int.eq_ofNat_of_zero_le gf.2.1
            cases ht : thereB V.bs.length at' k with
            | false =>
              refine Goes.call rfl (arena_Copy_no2 A V i k at' w1 h1 (by omega) ht) ?_
              rintro _ _ ⟨rfl, rfl⟩
              refine Goes.adv hTT 400 rfl ?_
              exact Goes.ret hTT rfl Try.func33 (.tmp rfl (.tmp rfl (.tmp rfl .nil))) (hback _ _ (by rw [← hmv (outNo V.bs 8) (by unfold useOut; simp only; rw [← hm, if_neg g0, if_neg g1, if_neg g2, if_pos g3, if_neg (by simp [ht])])]; exact Used.no h1))
            | true =>
              have gt := thereB_iff.1 ht
              obtain ⟨j, rfl⟩ := Int.eq_ofNat_of_zero_le gt.1
              refine Goes.call rfl (arena_Copy A V j i k w1 h1 (by omega) (by omega)) ?_
              rintro _ w2 ⟨rfl, hA2, hs2⟩
              refine Goes.adv hTT 400 rfl ?_
              exact Goes.ret hTT rfl Try.func33 (.tmp rfl (.tmp rfl (.tmp rfl .nil))) (hback _ _ (by rw [← hmv ⟨0, wrB V.bs j (sub V.bs i k), k, [], 0⟩ (by unfold useOut; simp only; rw [← hm, if_neg g0, if_neg g1, if_neg g2, if_pos g3, if_pos (by simp [hf, ht])]; simp)]; exact ⟨none, 0, rfl, RdS.nil, hA2, hs2⟩))
        · have g3 : ¬ m = 3 := by simpa using h3
          refine Goes.fork hTT rfl rfl rfl (fun h4 => ?_) (fun h4 => ?_)
          · have g4 : m = 4 := by simpa using h4
            refine Goes.loadb hTT rfl hub rfl rfl ?_
            cases ht : thereB V.bs.length at' 8 with
            | false =>
              have hwo : wordedV V.bs.length at' = 8 := by unfold wordedV; rw [if_pos ht]
              refine Goes.call rfl (arena_Load_no A V at' w1 h1 ht) ?_
              rintro _ _ ⟨rfl, rfl⟩
              refine Goes.adv hTT 400 rfl ?_
              exact Goes.ret hTT rfl Try.func33 (.tmp rfl (.tmp rfl (.tmp rfl .nil))) (hback _ _ (by rw [← hmv (outNo V.bs 8) (by unfold useOut; simp only; rw [← hm, if_neg g0, if_neg g1, if_neg g2, if_neg g3, if_pos (by rw [hwo]; decide), hwo])]; exact Used.no h1))
            | true =>
              have g := thereB_iff.1 ht
              obtain ⟨i, rfl⟩ := Int.eq_ofNat_of_zero_le g.1
              by_cases h8 : i % 8 = 0
              · have hwo : wordedV V.bs.length i = 0 := by unfold wordedV; rw [if_neg (by simp [ht]), if_pos (by omega)]
                refine Goes.call rfl (arena_Load A V i w1 h1 (by omega) h8) ?_
                rintro _ w2 ⟨rfl, hA2, hs2⟩
                refine Goes.adv hTT 400 rfl ?_
                exact Goes.ret hTT rfl Try.func33 (.tmp rfl (.tmp rfl (.tmp rfl .nil))) (hback _ _ (by rw [← hmv ⟨0, V.bs, 1, [], leK (sub V.bs i 8) 8⟩ (by unfold useOut; simp only; rw [← hm, if_neg g0, if_neg g1, if_neg g2, if_neg g3, if_neg (by rw [hwo]; decide), if_pos g4]; simp)]; exact ⟨none, 0, rfl, RdS.nil, by simp only; rw [← V.charge_bs A ((1 : Nat) : Int)]; exact hA2, hs2.mono fun b _ hb => .inr hb⟩))
              · have hwo : wordedV V.bs.length i = 1 := by unfold wordedV; rw [if_neg (by simp [ht]), if_neg (by omega)]
                refine Goes.call rfl (arena_Load_off A V i w1 h1 (by omega) h8) ?_
                rintro _ _ ⟨rfl, rfl⟩
                refine Goes.adv hTT 400 rfl ?_
                exact Goes.ret hTT rfl Try.func33 (.tmp rfl (.tmp rfl (.tmp rfl .nil))) (hback _ _ (by rw [← hmv (outNo V.bs 1) (by unfold useOut; simp only; rw [← hm, if_neg g0, if_neg g1, if_neg g2, if_neg g3, if_pos (by rw [hwo]; decide), hwo])]; exact Used.no h1))
          · have g4 : ¬ m = 4 := by simpa using h4
            refine Goes.loadb hTT rfl hub rfl rfl ?_
            refine Goes.loadb hTT rfl hub rfl rfl ?_
            cases ht : thereB V.bs.length at' 8 with
            | false =>
              have hwo : wordedV V.bs.length at' = 8 := by unfold wordedV; rw [if_pos ht]
              refine Goes.call rfl (arena_Store_no A V at' wd w1 h1 ht) ?_
              rintro _ _ ⟨rfl, rfl⟩
              refine Goes.adv hTT 400 rfl ?_
              exact Goes.ret hTT rfl Try.func33 (.tmp rfl (.tmp rfl (.tmp rfl .nil))) (hback _ _ (by rw [← hmv (outNo V.bs 8) (by unfold useOut; simp only; rw [← hm, if_neg g0, if_neg g1, if_neg g2, if_neg g3, if_pos (by rw [hwo]; decide), hwo])]; exact Used.no h1))
            | true =>
              have g := thereB_iff.1 ht
              obtain ⟨i, rfl⟩ := Int.eq_ofNat_of_zero_le g.1
              by_cases h8 : i % 8 = 0
              · have hwo : wordedV V.bs.length i = 0 := by unfold wordedV; rw [if_neg (by simp [ht]), if_pos (by omega)]
                refine Goes.call rfl (arena_Store A V i wd w1 h1 (by omega) h8) ?_
                rintro _ w2 ⟨rfl, hA2, hs2⟩
                refine Goes.adv hTT 400 rfl ?_
                exact Goes.ret hTT rfl Try.func33 (.tmp rfl (.tmp rfl (.tmp rfl .nil))) (hback _ _ (by rw [← hmv ⟨0, wrB V.bs i (leB wd), 1, [], 0⟩ (by unfold useOut; simp only; rw [← hm, if_neg g0, if_neg g1, if_neg g2, if_neg g3, if_neg (by rw [hwo]; decide), if_neg g4]; simp)]; exact ⟨none, 0, rfl, RdS.nil, hA2, hs2⟩))
              · have hwo : wordedV V.bs.length i = 1 := by unfold wordedV; rw [if_neg (by simp [ht]), if_neg (by omega)]
                refine Goes.call rfl (arena_Store_off A V i wd w1 h1 (by omega) h8) ?_
                rintro _ _ ⟨rfl, rfl⟩
                refine Goes.adv hTT 400 rfl ?_
                exact Goes.ret hTT rfl Try.func33 (.tmp rfl (.tmp rfl (.tmp rfl .nil))) (hback _ _ (by rw [← hmv (outNo V.bs 1) (by unfold useOut; simp only; rw [← hm, if_neg g0, if_neg g1, if_neg g2, if_neg g3, if_pos (by rw [hwo]; decide), hwo])]; exact Used.no h1))
end Go.Proofs.Ytommemplakcaaaa
