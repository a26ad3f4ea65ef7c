/-
  Texts put together: Shelf, Shelf2, Shelf3, Shelf4, Shelf5, Shst, PlanEq, Laws13.
-/
import Derived.Test.YtdmedllaackbaaaDoorPt1
import Derived.Test.YtdmedllaackbaaaDoorRule13
import Derived.Test.YtdmedllaackbaaaDoorRule8
import Derived.Test.YtdmedllaackbaaaDoorRule14
import Derived.Tactics
import Derived.Tactics2
set_option linter.unusedVariables false
/-
  Layer 13: how a shelf lies.
-/
namespace Go.Proofs.YtdmedllaackbaaaDoor
open Go.RowKit

/-- What kind of block it is: some of a type for cells, none for a map. -/
def kd (w : World) (b : Nat) : Option (Option Nat) := match w.heap[b]? with
  | some (.cells _ t _) => some (some t)
  | some (.map _ _) => some none
  | _ => none
theorem kd_cells {w : World} {b t : Nat} {c : Array Value} {f : Nat × Nat} (h : w.heap[b]? = some (.cells c t f)) : kd w b = some (some t) := by unfold kd; rw [h]
theorem kd_map {w : World} {b : Nat} {m : AL} (h : MapAt w b m) : kd w b = some none := by
  obtain ⟨es, c, hm, _⟩ := h
  unfold kd; rw [hm]
theorem kd_ne {w : World} {a b : Nat} {x y : Option (Option Nat)} (h1 : kd w a = x) (h2 : kd w b = y) (h : x ≠ y) : a ≠ b := fun e => h (by rw [← h1, ← h2, e])
theorem kd_lt {w : World} {b : Nat} {x : Option Nat} (h : kd w b = some x) : b < w.heap.size := by
  by_cases hb : b < w.heap.size
  · exact hb
  · unfold kd at h
    rw [Array.getElem?_eq_none (by omega)] at h
    cases h
theorem tab_ne {w : World} {b : Nat} (h : TabAt w) (hb : ∀ v, w.cell? ⟨b, 0, none⟩ ≠ some (.int .u8 v)) : 0 ≠ b := fun e => by
  have h0 := h 0 (by decide)
  exact hb _ ((congrArg (fun x => w.cell? ⟨x, 0, none⟩) e.symm).trans h0)
/-- Where a shelf lies. -/
structure Sh where
  sb : Nat
  sm : Nat
  R : Rg
  P : Pl
abbrev sfV (S : Sh) : Value := .pointer (some ⟨S.sb, 0, none⟩)
def shL (S : Sh) (cls : Int) (blocks : Nat) (used : Int) : List Value := [plV S.P, .int .i64 cls, .int .i64 (blocks : Int), .map (some S.sm), rgV S.R, .int .i64 used]
structure ShAt (w : World) (S : Sh) (G : Nat → Pg) (cls : Int) (blocks : Nat) (pg : PgL) (opn : List Nat) (used : Int) : Prop where
  nodup : (pg.map (·.1)).Nodup
  tab : TabAt w
  obj : w.heap[S.sb]? = some (.cells (shL S cls blocks used).toArray 73 (0, 0))
  map : ∃ m, MapAt w S.sm m ∧ (akeys m).Nodup ∧ m.length = pg.length ∧ (∀ e ∈ pg, alook m e.1 = some (pgV (G e.1))) ∧ ∀ k : Int, (∀ e ∈ pg, (e.1 : Int) ≠ k) → alook m k = none
  ring : RingOk w S.R opn
  pages : ∀ e ∈ pg, PageOk w (G e.1) e.2
  sep : ∀ e ∈ pg, (G e.1).mb ≠ S.sm ∧ ∀ e' ∈ pg, e.1 ≠ e'.1 → (G e.1).bb ≠ (G e'.1).bb ∧ (G e.1).mb ≠ (G e'.1).mb
/-- What a shelf's operations may write, but its pool's. -/
def shFoot (S : Sh) (G : Nat → Pg) (pg : PgL) : Nat → Prop := fun z => z = S.sb ∨ z = S.sm ∨ rgFoot S.R z ∨ ∃ e ∈ pg, pgFoot (G e.1) z
structure ShKd (w : World) (S : Sh) : Prop where
  sb : kd w S.sb = some (some 73)
  sm : kd w S.sm = some none
  lb : kd w S.R.lb = some (some 101)
  ab : kd w S.R.ab = some (some 106)
  nb : kd w S.R.nb = some (some 108)
structure PgKd (w : World) (g : Pg) : Prop where
  p : kd w g.p = some (some 97)
  bb : kd w g.bb = some (some 128)
  mb : kd w g.mb = some none
theorem PageOk.kds {w : World} {g : Pg} {x : List Int} (h : PageOk w g x) : PgKd w g := by
  obtain ⟨m, hm, _⟩ := h.own
  obtain ⟨ws, _, _, _, hb⟩ := h.bits.ws
  exact ⟨kd_cells h.pc, kd_cells hb, kd_map hm⟩
theorem ShAt.kds {w : World} {S : Sh} {G : Nat → Pg} {cls : Int} {blocks : Nat} {pg : PgL} {opn : List Nat} {used : Int} (h : ShAt w S G cls blocks pg opn used) : ShKd w S := by
  obtain ⟨m, hm, _⟩ := h.map
  obtain ⟨g, f, h1, h2, _⟩ := h.ring.at'
  exact ⟨kd_cells h.obj, kd_map hm, kd_cells h.ring.obj, kd_cells h1, kd_cells h2⟩
theorem tab_page {w : World} {g : Pg} {x : List Int} (h : PageOk w g x) : ¬ pgFoot g 0 := fun hz => by
  rcases hz with e | e
  · exact h.bits.ne e
  · exact h.notab e
/-- A page stays, where another one is written. -/
theorem PageOk.other {w w' : World} {g g' : Pg} {x x' : List Int} (h : PageOk w g x) (h' : PageOk w g' x') (hb : g'.bb ≠ g.bb) (hm : g'.mb ≠ g.mb) (hc : Chg (pgFoot g) w w') : PageOk w' g' x' := by
  have k := h.kds
  have k' := h'.kds
  refine h'.chg hc ?_ ?_ ?_ (tab_page h)
  · rintro (e | e)
    · exact kd_ne k'.p k.bb (by decide) e
    · exact kd_ne k'.p k.mb (by decide) e
  · rintro (e | e)
    · exact hb e
    · exact kd_ne k'.bb k.mb (by decide) e
  · rintro (e | e)
    · exact kd_ne k'.mb k.bb (by decide) e
    · exact hm e
section
variable {w w' : World} {S : Sh} {G : Nat → Pg} {cls : Int} {blocks : Nat} {pg : PgL} {opn : List Nat} {used : Int}
theorem ShAt.chg {S' : Nat → Prop} (h : ShAt w S G cls blocks pg opn used) (hc : Chg S' w w') (h1 : ∀ z, S' z → z ≠ S.sb ∧ z ≠ S.sm ∧ z ≠ S.R.lb ∧ ¬ rgFoot S.R z) (h2 : ∀ z, S' z → ∀ e ∈ pg, z ≠ (G e.1).p ∧ ¬ pgFoot (G e.1) z) (h3 : ¬ S' 0) : ShAt w' S G cls blocks pg opn used := by
  obtain ⟨m, hm, r⟩ := h.map
  exact ⟨h.nodup, h.tab.chg hc h3, hc.heap h.obj (fun hz => (h1 _ hz).1 rfl), ⟨m, hm.chg hc (fun hz => (h1 _ hz).2.1 rfl), r⟩, h.ring.chg hc (fun hz => (h1 _ hz).2.2.1 rfl) (fun hz => (h1 _ hz).2.2.2 (.inl rfl)) (fun hz => (h1 _ hz).2.2.2 (.inr rfl)),
    fun e he => (h.pages e he).chg hc (fun hz => (h2 _ hz e he).1 rfl) (fun hz => (h2 _ hz e he).2 (.inl rfl)) (fun hz => (h2 _ hz e he).2 (.inr rfl)) h3, h.sep⟩
theorem ShAt.grow (h : ShAt w S G cls blocks pg opn used) (hc : Chg None' w w') : ShAt w' S G cls blocks pg opn used := h.chg hc (fun _ h => h.elim) (fun _ h => h.elim) id
/-- A block of no kind that a shelf has. -/
theorem ShAt.apart (h : ShAt w S G cls blocks pg opn used) {z : Nat} {t : Nat} (hz : kd w z = some (some t)) (ht : t ≠ 73 ∧ t ≠ 101 ∧ t ≠ 106 ∧ t ≠ 108 ∧ t ≠ 97 ∧ t ≠ 128) :
    (z ≠ S.sb ∧ z ≠ S.sm ∧ z ≠ S.R.lb ∧ ¬ rgFoot S.R z) ∧ ∀ e ∈ pg, z ≠ (G e.1).p ∧ ¬ pgFoot (G e.1) z := by
  have k := h.kds
  have d : ∀ {t' : Nat}, t ≠ t' → some (some t) ≠ some (some t') := fun h e => h (Option.some.inj (Option.some.inj e))
  refine ⟨⟨kd_ne hz k.sb (d ht.1), kd_ne hz k.sm (by simp), kd_ne hz k.lb (d ht.2.1), ?_⟩, fun e he => ?_⟩
  · rintro (e | e)
    · exact kd_ne hz k.ab (d ht.2.2.1) e
    · exact kd_ne hz k.nb (d ht.2.2.2.1) e
  · have kp := (h.pages e he).kds
    refine ⟨kd_ne hz kp.p (d ht.2.2.2.2.1), ?_⟩
    rintro (e | e)
    · exact kd_ne hz kp.bb (d ht.2.2.2.2.2) e
    · exact kd_ne hz kp.mb (by simp) e
/-- A page is written. -/
theorem ShAt.page (h : ShAt w S G cls blocks pg opn used) {n : Nat} {p p' : List Int} (hp : (n, p) ∈ pg) (hk : PageOk w' (G n) p') (hc : Chg (pgFoot (G n)) w w') : ShAt w' S G cls blocks (smSet pg n p') opn used := by
  have k := h.kds
  have hpg := h.pages _ hp
  have kp := hpg.kds
  obtain ⟨m, hm, m1, m2, m3, m4⟩ := h.map
  have hf : ∀ z t, kd w z = some (some t) → t ≠ 128 → ¬ pgFoot (G n) z := fun z t hz ht => by
    rintro (e | e)
    · exact kd_ne hz kp.bb (fun e => ht (Option.some.inj (Option.some.inj e))) e
    · exact kd_ne hz kp.mb (by simp) e
  have hsm : ¬ pgFoot (G n) S.sm := by
    rintro (e | e)
    · exact kd_ne k.sm kp.bb (by simp) e
    · exact (h.sep _ hp).1 e.symm
  refine ⟨by rw [smSet_fst]; exact h.nodup, h.tab.chg hc (tab_page hpg), hc.heap h.obj (hf _ _ k.sb (by decide)), ⟨m, hm.chg hc hsm, m1, by unfold smSet; rw [List.length_map]; exact m2, fun e he => ?_, fun j hj => m4 j fun e he => ?_⟩, h.ring.chg hc (hf _ _ k.lb (by decide)) (hf _ _ k.ab (by decide)) (hf _ _ k.nb (by decide)), fun e he => ?_, fun e he => ?_⟩
  · rcases mem_smSet he with ⟨rfl, _⟩ | ⟨_, he⟩
    · exact m3 (n, p) hp
    · exact m3 e he
  · by_cases e1 : e.1 = n
    · have := hj (n, p') (List.mem_map.2 ⟨e, he, if_pos e1⟩)
      rw [e1]; exact this
    · exact hj e (List.mem_map.2 ⟨e, he, if_neg e1⟩)
  · rcases mem_smSet he with ⟨rfl, _⟩ | ⟨hne, he⟩
    · exact hk
    · obtain ⟨a, b⟩ := (h.sep _ hp).2 e he (Ne.symm hne)
      exact hpg.other (h.pages e he) a.symm b.symm hc
  · have old : ∃ q, (e.1, q) ∈ pg := by
      rcases mem_smSet he with ⟨rfl, _⟩ | ⟨_, he⟩
      · exact ⟨p, hp⟩
      · exact ⟨e.2, he⟩
    obtain ⟨q, hq⟩ := old
    obtain ⟨a, b⟩ := h.sep _ hq
    refine ⟨a, fun e' he' => ?_⟩
    rcases mem_smSet he' with ⟨rfl, _⟩ | ⟨_, he'⟩
    · exact b (n, p) hp
    · exact b e' he'
/-- How many blocks aren't free is written. -/
theorem ShAt.setUsed (h : ShAt w S G cls blocks pg opn used) {u : Int} (ho : w'.heap[S.sb]? = some (.cells (shL S cls blocks u).toArray 73 (0, 0))) (hc : Chg (fun z => z = S.sb) w w') : ShAt w' S G cls blocks pg opn u := by
  have k := h.kds
  obtain ⟨m, hm, r⟩ := h.map
  have h3 : ¬ 0 = S.sb := tab_ne h.tab (fun v e => by rw [cell_of h.obj] at e; simp [shL] at e)
  exact ⟨h.nodup, h.tab.chg hc h3, ho, ⟨m, hm.chg hc (kd_ne k.sm k.sb (by simp)), r⟩, h.ring.chg hc (kd_ne k.lb k.sb (by decide)) (kd_ne k.ab k.sb (by decide)) (kd_ne k.nb k.sb (by decide)),
    fun e he => by have kp := (h.pages e he).kds; exact (h.pages e he).chg hc (kd_ne kp.p k.sb (by decide)) (kd_ne kp.bb k.sb (by decide)) (kd_ne kp.mb k.sb (by simp)) h3, h.sep⟩
theorem tab_ring {R : Rg} {o : List Nat} (h : RingOk w R o) (ht : TabAt w) : ¬ rgFoot R 0 := fun hz => by
  obtain ⟨g, f, h1, h2, _⟩ := h.at'
  rcases hz with e | e
  · exact tab_ne ht (fun v e => by rw [ints_cell h1 (j := 0) (k := 0) rfl (by decide)] at e; cases e) e
  · exact tab_ne ht (fun v e => by rw [ints_cell h2 (j := 0) (k := 0) rfl (by decide)] at e; cases e) e
/-- The open pages are written. -/
theorem ShAt.setRing (h : ShAt w S G cls blocks pg opn used) {o : List Nat} (hr : RingOk w' S.R o) (hc : Chg (rgFoot S.R) w w') : ShAt w' S G cls blocks pg o used := by
  have k := h.kds
  obtain ⟨m, hm, r⟩ := h.map
  have h3 := tab_ring h.ring h.tab
  have hf : ∀ z x, kd w z = some x → x ≠ some 106 → x ≠ some 108 → ¬ rgFoot S.R z := fun z x hz h1 h2 => by
    rintro (e | e)
    · exact kd_ne hz k.ab (fun e => h1 (Option.some.inj e)) e
    · exact kd_ne hz k.nb (fun e => h2 (Option.some.inj e)) e
  exact ⟨h.nodup, h.tab.chg hc h3, hc.heap h.obj (hf _ _ k.sb (by decide) (by decide)), ⟨m, hm.chg hc (hf _ _ k.sm (by simp) (by simp)), r⟩, hr,
    fun e he => by have kp := (h.pages e he).kds; exact (h.pages e he).chg hc (hf _ _ kp.p (by decide) (by decide)) (hf _ _ kp.bb (by decide) (by decide)) (hf _ _ kp.mb (by simp) (by simp)) h3, h.sep⟩
/-- The map of pages is written. -/
theorem tab_map {r : Nat} {m : AL} (h : MapAt w r m) (ht : TabAt w) : 0 ≠ r := by
  obtain ⟨es, c, hm, _⟩ := h
  exact tab_ne ht (fun v e => by simp only [World.cell?, hm] at e; cases e)
theorem ShAt.del (h : ShAt w S G cls blocks pg opn used) {n : Nat} {p : List Int} (hp : (n, p) ∈ pg) (hm' : ∀ m, MapAt w S.sm m → MapAt w' S.sm (adel m n)) (hc : Chg (fun z => z = S.sm) w w') : ShAt w' S G cls blocks (smDel pg n) opn used := by
  have k := h.kds
  obtain ⟨m, hm, m1, m2, m3, m4⟩ := h.map
  have h3 := tab_map hm h.tab
  refine ⟨by rw [smDel_fst]; exact h.nodup.filter _, h.tab.chg hc h3, hc.heap h.obj (kd_ne k.sb k.sm (by simp)), ⟨adel m n, hm' m hm, by rw [akeys_del]; exact m1.erase _, ?_, fun e he => ?_, fun j hj => ?_⟩, h.ring.chg hc (kd_ne k.lb k.sm (by simp)) (kd_ne k.ab k.sm (by simp)) (kd_ne k.nb k.sm (by simp)), fun e he => ?_, fun e he => ?_⟩
  · have := (smUsed_del h.nodup hp).2
    rw [adel_length, m3 _ hp]
    simp only [Option.isSome_some, if_true]
    omega
  · obtain ⟨hne, he⟩ := mem_smDel.1 he
    rw [alook_del m1, if_neg (by omega)]
    exact m3 e he
  · rw [alook_del m1]
    by_cases e : j = n
    · rw [if_pos e]
    · rw [if_neg e]
      refine m4 j fun e' he' => ?_
      by_cases e2 : e'.1 = n
      · rw [e2]; exact fun h => e h.symm
      · exact hj e' (mem_smDel.2 ⟨e2, he'⟩)
  · obtain ⟨hne, he⟩ := mem_smDel.1 he
    have kp := (h.pages e he).kds
    exact (h.pages e he).chg hc (kd_ne kp.p k.sm (by simp)) (kd_ne kp.bb k.sm (by simp)) (h.sep e he).1 h3
  · obtain ⟨hne, he⟩ := mem_smDel.1 he
    exact ⟨(h.sep e he).1, fun e' he' => (h.sep e he).2 e' (mem_smDel.1 he').2⟩
def putG (G : Nat → Pg) (n : Nat) (g : Pg) : Nat → Pg := fun m => if m = n then g else G m
/-- A page comes. -/
theorem ShAt.add (h : ShAt w S G cls blocks pg opn used) {n : Nat} {g : Pg} {p : List Int} (hn : n ∉ pg.map (·.1)) (hg : PageOk w g p) (hsm : g.mb ≠ S.sm) (hd : ∀ e ∈ pg, (G e.1).bb ≠ g.bb ∧ (G e.1).mb ≠ g.mb)
    (hm' : ∀ m, MapAt w S.sm m → MapAt w' S.sm (aput m n (pgV g))) (hc : Chg (fun z => z = S.sm) w w') : ShAt w' S (putG G n g) cls blocks (pg ++ [(n, p)]) opn used := by
  have k := h.kds
  obtain ⟨m, hm, m1, m2, m3, m4⟩ := h.map
  have h3 := tab_map hm h.tab
  have hG : ∀ e ∈ pg, putG G n g e.1 = G e.1 := fun e he => if_neg (fun e' => hn (List.mem_map.2 ⟨e, he, e'⟩))
  have hGn : putG G n g n = g := if_pos rfl
  have hno : alook m n = none := m4 n fun e he e' => hn (List.mem_map.2 ⟨e, he, by omega⟩)
  have kg := hg.kds
  refine ⟨?_, h.tab.chg hc h3, hc.heap h.obj (kd_ne k.sb k.sm (by simp)), ⟨aput m n (pgV g), hm' m hm, ?_, ?_, fun e he => ?_, fun j hj => ?_⟩, h.ring.chg hc (kd_ne k.lb k.sm (by simp)) (kd_ne k.ab k.sm (by simp)) (kd_ne k.nb k.sm (by simp)), fun e he => ?_, fun e he => ?_⟩
  · rw [List.map_append]
    refine List.nodup_append.2 ⟨h.nodup, by simp, fun a ha b hb e => ?_⟩
    have : b = n := by simpa using hb
    exact hn (this ▸ e ▸ ha)
  · rw [akeys_put]
    have := alook_none.1 hno
    rw [if_neg this]
    refine List.nodup_append.2 ⟨m1, by simp, fun a ha b hb e => ?_⟩
    have hb' : b = (n : Int) := by simpa using hb
    exact this (hb' ▸ e ▸ ha)
  · rw [aput_length, hno]
    simp [m2]
  · rw [alook_put]
    rcases List.mem_append.1 he with he | he
    · have hne : e.1 ≠ n := fun e' => hn (List.mem_map.2 ⟨e, he, e'⟩)
      rw [if_neg (by omega), hG e he]
      exact m3 e he
    · have : e = (n, p) := by simpa using he
      subst this
      rw [if_pos rfl, hGn]
  · rw [alook_put, if_neg (fun e => (hj (n, p) (by simp)) e.symm)]
    exact m4 j fun e he => hj e (List.mem_append_left _ he)
  · rcases List.mem_append.1 he with he | he
    · rw [hG e he]
      have kp := (h.pages e he).kds
      exact (h.pages e he).chg hc (kd_ne kp.p k.sm (by simp)) (kd_ne kp.bb k.sm (by simp)) (h.sep e he).1 h3
    · have : e = (n, p) := by simpa using he
      subst this
      show PageOk w' (putG G n g n) p
      rw [hGn]
      exact hg.chg hc (kd_ne kg.p k.sm (by simp)) (kd_ne kg.bb k.sm (by simp)) hsm h3
  · have gl : ∀ e ∈ pg ++ [(n, p)], (e ∈ pg ∧ putG G n g e.1 = G e.1) ∨ (e.1 = n ∧ putG G n g e.1 = g) := fun e he => by
      rcases List.mem_append.1 he with he | he
      · exact .inl ⟨he, hG e he⟩
      · have : e = (n, p) := by simpa using he
        subst this
        exact .inr ⟨rfl, hGn⟩
    rcases gl e he with ⟨he, e1⟩ | ⟨en, e1⟩
    · rw [e1]
      refine ⟨(h.sep e he).1, fun e' he' hne => ?_⟩
      rcases gl e' he' with ⟨he', e2⟩ | ⟨_, e2⟩
      · rw [e2]; exact (h.sep e he).2 e' he' hne
      · rw [e2]; exact hd e he
    · rw [e1]
      refine ⟨hsm, fun e' he' hne => ?_⟩
      rcases gl e' he' with ⟨he', e2⟩ | ⟨en', e2⟩
      · rw [e2]; exact ⟨(hd e' he').1.symm, (hd e' he').2.symm⟩
      · exact absurd (en.trans en'.symm) hne
theorem ShAt.foot_lt (h : ShAt w S G cls blocks pg opn used) : ∀ z, shFoot S G pg z → z < w.heap.size := fun z hz => by
  have k := h.kds
  rcases hz with rfl | rfl | (rfl | rfl) | ⟨e, he, hz⟩
  · exact kd_lt k.sb
  · exact kd_lt k.sm
  · exact kd_lt k.ab
  · exact kd_lt k.nb
  · exact (h.pages e he).footlt z hz
/-- What the map tells. -/
theorem ShAt.look (h : ShAt w S G cls blocks pg opn used) (n : Int) : ∃ m, MapAt w S.sm m ∧ lookV m (.pointer none) n false = (match smGet pg n with | some _ => pgV (G n.toNat) | none => .pointer none) := by
  obtain ⟨m, hm, m1, m2, m3, m4⟩ := h.map
  refine ⟨m, hm, ?_⟩
  unfold lookV
  cases hg : smGet pg n with
  | none => rw [m4 n (smGet_none hg)]; rfl
  | some p =>
    obtain ⟨k, rfl, hk⟩ := smGet_some hg
    rw [m3 _ hk]; rfl
end
end Go.Proofs.YtdmedllaackbaaaDoor
/-
  Layer 13: a shelf: a page more; taking a block.
-/
namespace Go.Proofs.YtdmedllaackbaaaDoor
open Go.RowKit

theorem nodup_le : ∀ (N : Nat) (l : List Nat), l.Nodup → (∀ n ∈ l, n < N) → l.length ≤ N
  | 0, l, _, h => by
    cases l with
    | nil => exact Nat.le_refl _
    | cons a r => exact absurd (h a (by simp)) (Nat.not_lt_zero _)
  | N + 1, l, hn, h => by
    have ih := nodup_le N (l.erase N) (hn.erase N) (fun n hm => by
      obtain ⟨h1, h2⟩ := (hn.mem_erase_iff).1 hm
      have := h n h2
      omega)
    by_cases hm : N ∈ l
    · rw [List.length_erase_of_mem hm] at ih; omega
    · rw [List.erase_of_not_mem hm] at ih; omega
theorem ents_inj : ∀ {m m' : AL}, (m.map fun p => ((Value.int .i64 p.1, p.2) : Value × Value)) = m'.map (fun p => (Value.int .i64 p.1, p.2)) → m = m'
  | [], [], _ => rfl
  | [], _ :: _, h => by cases h
  | _ :: _, [], h => by cases h
  | (a, v) :: r, (b, u) :: t, h => by
    simp only [List.map_cons, List.cons.injEq, Prod.mk.injEq, Value.int.injEq, true_and] at h
    obtain ⟨⟨rfl, rfl⟩, h⟩ := h
    rw [ents_inj h]
theorem MapAt.uniq {w : World} {r : Nat} {m m' : AL} (h : MapAt w r m) (h' : MapAt w r m') : m = m' := by
  obtain ⟨es, c, a1, a2⟩ := h
  obtain ⟨es', c', b1, b2⟩ := h'
  rw [a1] at b1
  cases b1
  unfold Ents at a2 b2
  exact ents_inj (a2.symm.trans b2)
theorem Sm.Ok.few {x : Sm} (h : x.Ok) : x.pg.length ≤ 1024 ∧ x.opn.length ≤ 1024 ∧ smUsed x.pg ≤ 524288 := by
  have h1 : (x.pg.map (·.1)).length ≤ 1024 := nodup_le _ _ h.nodup (fun n hn => by obtain ⟨e, he, rfl⟩ := List.mem_map.1 hn; exact (h.each e he).1)
  rw [List.length_map] at h1
  have h2 := nodup_le 1024 x.opn h.onodup (fun n hn => by obtain ⟨p, hp⟩ := h.osub n hn; exact (h.each _ hp).1)
  have h3 := smUsed_le (l := x.pg) (b := x.blocks) (fun e he => (h.each e he).2.1)
  have h4 : x.pg.length * x.blocks ≤ 1024 * 512 := Nat.mul_le_mul h1 h.blk.2
  exact ⟨h1, h2, by omega⟩
theorem PoolOk.kds {w : World} {P : Pl} {x : PlM} (h : PoolOk w P x) : kd w P.pb = some (some 62) ∧ kd w P.ab = some (some 80) := by
  obtain ⟨head, f, a, b, _⟩ := h.at'
  exact ⟨kd_cells a, kd_cells b⟩
/-- All that a shelf's operations may write. -/
def allFoot (S : Sh) (G : Nat → Pg) (pg : PgL) : Nat → Prop := fun z => shFoot S G pg z ∨ plFoot S.P z
section
variable {w w' : World} {S : Sh} {G : Nat → Pg} {cls : Int} {blocks : Nat} {pg : PgL} {opn : List Nat} {used : Int} {pl : PlM}
theorem ShAt.notpool (h : ShAt w S G cls blocks pg opn used) (hp : PoolOk w S.P pl) : ¬ shFoot S G pg S.P.pb ∧ ¬ shFoot S G pg S.P.ab := by
  obtain ⟨k1, k2⟩ := hp.kds
  have a1 := h.apart k1 (by decide)
  have a2 := h.apart k2 (by decide)
  constructor
  · rintro (e | e | e | ⟨e, he, hz⟩)
    · exact a1.1.1 e
    · exact a1.1.2.1 e
    · exact a1.1.2.2.2 e
    · exact (a1.2 e he).2 hz
  · rintro (e | e | e | ⟨e, he, hz⟩)
    · exact a2.1.1 e
    · exact a2.1.2.1 e
    · exact a2.1.2.2.2 e
    · exact (a2.2 e he).2 hz
theorem PoolOk.far {S' : Nat → Prop} (h : ShAt w S G cls blocks pg opn used) (hp : PoolOk w S.P pl) (hc : Chg S' w w') (hs : ∀ z, S' z → shFoot S G pg z) : PoolOk w' S.P pl := by
  obtain ⟨a, b⟩ := h.notpool hp
  exact hp.chg hc (fun hz => a (hs _ hz)) (fun hz => b (hs _ hz))
theorem tab_pool (ht : TabAt w) (hp : PoolOk w S.P pl) : ¬ plFoot S.P 0 := fun hz => by
  obtain ⟨head, f, a, b, _⟩ := hp.at'
  have hl := hp.good.len
  rcases hz with e | e
  · exact tab_ne ht (fun v e => by rw [cell_of a] at e; simp [plL] at e) e
  · exact tab_ne ht (fun v e => by rw [ints_cell b (j := 0) (k := 0) rfl (by omega)] at e; cases e) e
theorem ShAt.pool (h : ShAt w S G cls blocks pg opn used) (hp : PoolOk w S.P pl) (hc : Chg (plFoot S.P) w w') : ShAt w' S G cls blocks pg opn used := by
  obtain ⟨k1, k2⟩ := hp.kds
  have a1 := h.apart k1 (by decide)
  have a2 := h.apart k2 (by decide)
  refine h.chg hc (fun z hz => ?_) (fun z hz => ?_) (tab_pool h.tab hp)
  · rcases hz with rfl | rfl
    · exact a1.1
    · exact a2.1
  · rcases hz with rfl | rfl
    · exact a1.2
    · exact a2.2
end
/-- A shelf, on a pool. -/
structure ShOk (w : World) (S : Sh) (G : Nat → Pg) (x : Sm) (pl : PlM) : Prop where
  ok : x.Ok
  pos : x.Pos
  of : x.Of pl
  at' : ShAt w S G x.cls x.blocks x.pg x.opn (smUsed x.pg : Nat)
  pool : PoolOk w S.P pl
theorem ShOk.grow {w w' : World} {S : Sh} {G : Nat → Pg} {x : Sm} {pl : PlM} (h : ShOk w S G x pl) (hc : Chg None' w w') : ShOk w' S G x pl := ⟨h.ok, h.pos, h.of, h.at'.grow hc, h.pool.grow hc⟩
theorem free_new {x : Sm} {pl : PlM} (hok : x.Ok) (hof : x.Of pl) (hg : pl.Good) {n : Nat} (hn : n ∈ pl.free) : n ∉ x.pg.map (·.1) := fun hm => by
  obtain ⟨e, he, rfl⟩ := List.mem_map.1 hm
  have h1 := (hof e he).2
  have h2 := (hg.free _ hn).2
  have := hok.cls
  omega
set_option maxRecDepth 100000 in
theorem shelf_fresh_no (S : Sh) (G : Nat → Pg) (x : Sm) (pl : PlM) (w : World) (h : ShOk w S G x pl) (hf : pl.free = []) : Does Tryd.prog 35 #[sfV S] w (fun v w' => v = .tuple #[.int .i64 0, .int .i64 5] ∧ ShOk w' S G x pl ∧ Chg (plFoot S.P) w w') := by
  have hcl := h.ok.cls
  have eE : plTakeE pl x.cls = 5 := by unfold plTakeE; rw [if_neg (by omega), hf]; rfl
  have eN : plTakeN pl x.cls = 0 := by unfold plTakeN; rw [eE]; rfl
  have eT : plTake pl x.cls = pl := by unfold plTake; rw [eE]; rfl
  refine Does.enter Tryd.func35 rfl Tryd.ntmps35 rfl rfl ?_
  refine Goes.adv hTT 400 rfl ?_
  refine Goes.drawn (q := 14) (plFoot S.P) hTT mixed (by kernel_rfl) rfl ?_
  intro hB
  have ho : ¬ plFoot S.P S.sb := fun hz => by
    obtain ⟨k1, k2⟩ := h.pool.kds
    rcases hz with e | e
    · exact kd_ne h.at'.kds.sb k1 (by decide) e
    · exact kd_ne h.at'.kds.sb k2 (by decide) e
  refine Drawn.loadb hTT hB rfl h.at'.obj (by first | exact fun h => h | (intro h; omega) | assumption) rfl rfl ?_
  refine Drawn.loadb hTT hB rfl h.at'.obj (by first | exact fun h => h | (intro h; omega) | assumption) rfl rfl ?_
  refine Drawn.turn1 hB rfl ?_
  intro w1 hw1
  have hd := pool_Take S.P pl x.cls w1 (h.pool.grow hw1)
  rw [eE, eN, eT] at hd
  have hc1 : Chg (plFoot S.P) w w1 := hw1.mono fun _ _ h => h.elim
  refine Turn.call rfl hd.fn (Post := fun v w2 => v = .tuple #[.int .i64 0, .int .i64 5] ∧ PoolOk w2 S.P pl ∧ Chg (plFoot S.P) w1 w2) (fun h0 => hd.mono fun v w2 hp => ⟨h0.trans hp.2.2, hp⟩) ?_
  rintro _ w2 _ ⟨rfl, hP2, hs2⟩
  refine Drawn.adv hTT hB rfl ?_
  refine Drawn.nil hB ?_
  intro w3 hw3
  refine Goes.adv hTT 400 rfl ?_
  refine Goes.yes hTT rfl rfl rfl ?_
  have hS := (h.at'.grow hw1).pool (h.pool.grow hw1) hs2
  exact Goes.ret2 hTT rfl Tryd.func35 rfl rfl rfl ⟨rfl, ⟨h.ok, h.pos, h.of, hS.grow hw3, hP2.grow hw3⟩, (hc1.trans hs2).trans (hw3.mono fun _ _ h => h.elim)⟩
set_option maxRecDepth 100000 in
theorem shelf_fresh (S : Sh) (G : Nat → Pg) (x : Sm) (pl : PlM) (n : Nat) (r : List Nat) (w : World) (h : ShOk w S G x pl) (hf : pl.free = n :: r) (hn4 : n < 1024) : Does Tryd.prog 35 #[sfV S] w (fun v w' => v = .tuple #[.int .i64 n, .int .i64 0] ∧ ∃ g, (w.heap.size ≤ g.p ∧ w.heap.size ≤ g.bb ∧ w.heap.size ≤ g.mb) ∧ ShAt w' S (putG G n g) x.cls x.blocks (x.fresh n).pg (x.fresh n).opn (smUsed x.pg : Nat) ∧ PoolOk w' S.P (pl.take x.cls) ∧ Chg (allFoot S G x.pg) w w') := by
  have hcl := h.ok.cls
  have eE : plTakeE pl x.cls = 0 := by unfold plTakeE; rw [if_neg (by omega), hf]; rfl
  have eN : plTakeN pl x.cls = n := by unfold plTakeN; rw [if_pos eE, hf]; rfl
  have eT : plTake pl x.cls = pl.take x.cls := by unfold plTake; rw [if_pos eE]
  have hnew := free_new h.ok h.of h.pool.good (n := n) (by rw [hf]; simp)
  have hnn : n ∉ x.opn := fun hm => by obtain ⟨p, hp⟩ := h.ok.osub n hm; exact hnew (List.mem_map.2 ⟨_, hp, rfl⟩)
  have hbl := h.ok.blk
  refine Does.enter Tryd.func35 rfl Tryd.ntmps35 rfl rfl ?_
  refine Goes.adv hTT 400 rfl ?_
  refine Goes.drawn (q := 14) (plFoot S.P) hTT mixed (by kernel_rfl) rfl ?_
  intro hB
  have ho : ¬ plFoot S.P S.sb := fun hz => by
    obtain ⟨k1, k2⟩ := h.pool.kds
    rcases hz with e | e
    · exact kd_ne h.at'.kds.sb k1 (by decide) e
    · exact kd_ne h.at'.kds.sb k2 (by decide) e
  refine Drawn.loadb hTT hB rfl h.at'.obj (by first | exact fun h => h | (intro h; omega) | assumption) rfl rfl ?_
  refine Drawn.loadb hTT hB rfl h.at'.obj (by first | exact fun h => h | (intro h; omega) | assumption) rfl rfl ?_
  refine Drawn.turn1 hB rfl ?_
  intro w1 hw1
  have hd := pool_Take S.P pl x.cls w1 (h.pool.grow hw1)
  rw [eE, eN, eT] at hd
  have hc1 : Chg (plFoot S.P) w w1 := hw1.mono fun _ _ h => h.elim
  refine Turn.call rfl hd.fn (Post := fun v w2 => v = .tuple #[.int .i64 n, .int .i64 0] ∧ PoolOk w2 S.P (pl.take x.cls) ∧ Chg (plFoot S.P) w1 w2) (fun h0 => hd.mono fun v w2 hp => ⟨h0.trans hp.2.2, hp⟩) ?_
  rintro _ w2 _ ⟨rfl, hP2, hs2⟩
  refine Drawn.adv hTT hB rfl ?_
  refine Drawn.nil hB ?_
  intro w3 hw3
  refine Goes.adv hTT 400 rfl ?_
  refine Goes.no hTT rfl rfl rfl ?_
  have hS2 := (h.at'.grow hw1).pool (h.pool.grow hw1) hs2
  have hS3 := hS2.grow hw3
  have hP3 := hP2.grow hw3
  have hsz : w.heap.size ≤ w3.heap.size := by have := hw1.size; have := hs2.size; have := hw3.size; omega
  have hsm : ¬ (S.sb = S.sm) := kd_ne hS3.kds.sb hS3.kds.sm (by simp)
  refine Goes.drawn (q := 15) (fun z => z = S.sm) hTT mixed (by kernel_rfl) rfl ?_
  intro hB
  refine Drawn.loadb hTT hB rfl hS3.obj (by first | exact fun h => h | (intro h; omega) | assumption) rfl rfl ?_
  refine Drawn.loadb hTT hB rfl hS3.obj (by first | exact fun h => h | (intro h; omega) | assumption) rfl rfl ?_
  have hd4 : ∀ w', Chg None' w3 w' → Does Tryd.prog 32 #[.int .i64 x.blocks] w' (fun v w2 => Chg (fun z => z = S.sm) w' w2 ∧ Chg None' w3 w2 ∧ ∃ g, v = .tuple #[pgV g, .int .i64 0] ∧ (w3.heap.size ≤ g.p ∧ w3.heap.size ≤ g.bb ∧ w3.heap.size ≤ g.mb) ∧ PageOk w2 g (List.replicate x.blocks (-1))) := fun w' hw' =>
    (page_New x.blocks w' (hS3.grow hw').tab hbl).mono fun v w2 ⟨g, h1, ⟨b1, b2, b3⟩, h3, h4⟩ => ⟨h4.mono fun _ _ h => h.elim, hw'.trans h4, g, h1, ⟨by have := hw'.size; omega, by have := hw'.size; omega, by have := hw'.size; omega⟩, h3⟩
  refine Drawn.callQ hB rfl rfl (hd4) ?_
  rintro _ w4 _ ⟨hw4, g, rfl, hb, hg⟩
  refine Drawn.adv hTT hB rfl ?_
  refine Drawn.turn1 hB rfl ?_
  intro w5 hw5
  have hS5 := hS3.grow (hw4.trans hw5)
  obtain ⟨m, hm, hmr⟩ := hS5.map
  refine Turn.mapset hTT hB rfl (hm) (by first | (intro h; exact rfl) | (intro h; omega)) rfl ?_
  intro w6 hm6 hs6 hz6
  refine Drawn.nil hB ?_
  intro w7 hw7
  refine Goes.adv hTT 400 rfl ?_
  have hlt := hS3.foot_lt
  have hS6 : ShAt w6 S (putG G n g) x.cls x.blocks (x.fresh n).pg x.opn (smUsed x.pg : Nat) := hS5.add hnew (hg.grow hw5) (fun e => by have := hlt S.sm (.inr (.inl rfl)); omega) (fun e he => ⟨fun e' => by have := hlt _ (.inr (.inr (.inr ⟨e, he, .inl rfl⟩))); omega, fun e' => by have := hlt _ (.inr (.inr (.inr ⟨e, he, .inr rfl⟩))); omega⟩) (fun m' h' => by
      rw [h'.uniq hm]
      exact hm6) hs6
  have hS7 := hS6.grow hw7
  refine Goes.loadb hTT rfl hS7.obj rfl rfl ?_
  refine Goes.call rfl (ring_Push S.R x.opn n w7 hS7.ring hn4 hnn (by have := h.ok.few; omega)) ?_
  rintro _ w8 ⟨rfl, hR8, hs8⟩
  refine Goes.adv hTT 400 rfl ?_
  have hS8 := hS7.setRing hR8 hs8
  have hP7 := ((PoolOk.far hS5 (hP3.grow (hw4.trans hw5)) hs6 (fun z e => .inr (.inl e))).grow hw7)
  have hP8 := PoolOk.far hS7 hP7 hs8 (fun z e => .inr (.inr (.inl e)))
  have c1 : Chg (allFoot S G x.pg) w w3 := ((hc1.trans hs2).trans (hw3.mono fun _ _ h => h.elim)).mono fun z _ h => .inr h
  have c2 : Chg (allFoot S G x.pg) w3 w5 := (hw4.trans hw5).mono fun _ _ h => h.elim
  have c3 : Chg (allFoot S G x.pg) w5 w7 := (hs6.mono fun z _ e => .inl (.inr (.inl e))).trans (hw7.mono fun _ _ h => h.elim)
  have c4 : Chg (allFoot S G x.pg) w7 w8 := hs8.mono fun z _ e => .inl (.inr (.inr (.inl e)))
  exact Goes.ret2 hTT rfl Tryd.func35 rfl rfl rfl ⟨rfl, g, ⟨by omega, by omega, by omega⟩, hS8, hP8, ((c1.trans c2).trans c3).trans c4⟩
end Go.Proofs.YtdmedllaackbaaaDoor
/-
  Layer 13: a shelf: taking a block; what is told.
-/
namespace Go.Proofs.YtdmedllaackbaaaDoor
open Go.RowKit

def shPage (x : Sm) (pl : PlM) : Nat := match x.opn with
  | n :: _ => n
  | [] => pl.free.headD 0
def shPre (x : Sm) (pl : PlM) : Sm := match x.opn with
  | _ :: _ => x
  | [] => x.fresh (pl.free.headD 0)
def shPl (x : Sm) (pl : PlM) : PlM := match x.opn with
  | _ :: _ => pl
  | [] => pl.take x.cls
def shP (x : Sm) (pl : PlM) : List Int := (smGet (shPre x pl).pg (shPage x pl)).getD []
def shTakeE (x : Sm) (pl : PlM) (who : Int) : Int := if who < 0 then 1 else if x.opn.length = 0 ∧ pl.free.length = 0 then 5 else 0
def shTakeN (x : Sm) (pl : PlM) (who : Int) : Int := if shTakeE x pl who = 0 then (shPage x pl : Int) else 0
def shTakeA (x : Sm) (pl : PlM) (who : Int) : Int := if shTakeE x pl who = 0 then pgHole (shP x pl) else 0
def shTake (x : Sm) (pl : PlM) (who : Int) : Sm := if shTakeE x pl who = 0 then (shPre x pl).takeAt (shPage x pl) (shP x pl) who else x
def shTakeP (x : Sm) (pl : PlM) (who : Int) : PlM := if shTakeE x pl who = 0 then shPl x pl else pl
theorem foot_set {S : Sh} {G : Nat → Pg} {pg : PgL} {n : Nat} {p : List Int} : ∀ z, shFoot S G (smSet pg n p) z → shFoot S G pg z := fun z h => by
  rcases h with h | h | h | ⟨e, he, hz⟩
  · exact .inl h
  · exact .inr (.inl h)
  · exact .inr (.inr (.inl h))
  · rcases mem_smSet he with ⟨rfl, q, hq⟩ | ⟨_, he⟩
    · exact .inr (.inr (.inr ⟨_, hq, hz⟩))
    · exact .inr (.inr (.inr ⟨e, he, hz⟩))
theorem foot_del {S : Sh} {G : Nat → Pg} {pg : PgL} {n : Nat} : ∀ z, shFoot S G (smDel pg n) z → shFoot S G pg z := fun z h => by
  rcases h with h | h | h | ⟨e, he, hz⟩
  · exact .inl h
  · exact .inr (.inl h)
  · exact .inr (.inr (.inl h))
  · exact .inr (.inr (.inr ⟨e, (mem_smDel.1 he).2, hz⟩))
theorem foot_put {S : Sh} {G : Nat → Pg} {pg : PgL} {n : Nat} {g : Pg} {p : List Int} {b : Nat} (hn : n ∉ pg.map (·.1)) (hg : b ≤ g.bb ∧ b ≤ g.mb) : ∀ z, shFoot S (putG G n g) (pg ++ [(n, p)]) z → shFoot S G pg z ∨ b ≤ z := fun z h => by
  rcases h with h | h | h | ⟨e, he, hz⟩
  · exact .inl (.inl h)
  · exact .inl (.inr (.inl h))
  · exact .inl (.inr (.inr (.inl h)))
  · rcases List.mem_append.1 he with he | he
    · have : putG G n g e.1 = G e.1 := if_neg (fun e' => hn (List.mem_map.2 ⟨e, he, e'⟩))
      rw [this] at hz
      exact .inl (.inr (.inr (.inr ⟨e, he, hz⟩)))
    · have : e = (n, p) := by simpa using he
      subst this
      have : putG G n g n = g := if_pos rfl
      rw [this] at hz
      rcases hz with rfl | rfl
      · exact .inr hg.1
      · exact .inr hg.2
theorem Sm.Of.set {x x' : Sm} {pl : PlM} (h : x.Of pl) (hc : x'.cls = x.cls) (hs : ∀ e ∈ x'.pg, ∃ q, (e.1, q) ∈ x.pg) : x'.Of pl := fun e he => by
  obtain ⟨q, hq⟩ := hs e he
  rw [hc]
  exact h (e.1, q) hq
theorem smSet_old {pg : PgL} {n : Nat} {p : List Int} {e : Nat × List Int} (h : e ∈ smSet pg n p) : ∃ q, (e.1, q) ∈ pg := by
  rcases mem_smSet h with ⟨rfl, q, hq⟩ | ⟨_, he⟩
  · exact ⟨q, hq⟩
  · exact ⟨e.2, he⟩
theorem Sm.Of.fresh {x : Sm} {pl : PlM} (h : x.Of pl) (hg : pl.Good) {n : Nat} {r : List Nat} (hf : pl.free = n :: r) : (x.fresh n).Of (pl.take x.cls) := by
  have e : pl.take x.cls = ⟨pl.own.set n x.cls, r⟩ := by unfold PlM.take; rw [hf]
  obtain ⟨h1, h2⟩ := hg.free n (by rw [hf]; simp)
  rw [e]
  intro u hu
  show u.1 < (pl.own.set n x.cls).length ∧ (pl.own.set n x.cls).getD u.1 0 = x.cls
  rw [List.length_set, getD_set_z]
  rcases List.mem_append.1 hu with hu | hu
  · refine ⟨(h u hu).1, ?_⟩
    split
    · rfl
    · exact (h u hu).2
  · have : u = (n, List.replicate x.blocks (-1)) := by simpa using hu
    subst this
    exact ⟨h1, if_pos ⟨rfl, h1⟩⟩
theorem filter_head {n : Nat} {r : List Nat} (h : (n :: r).Nodup) : (n :: r).filter (fun m => m != n) = r := by
  obtain ⟨h1, _⟩ := List.nodup_cons.1 h
  rw [List.filter_cons]
  simp only [bne_self_eq_false, Bool.false_eq_true, if_false]
  refine List.filter_eq_self.2 fun m hm => ?_
  simp only [bne_iff_ne, ne_eq]
  exact fun e => h1 (e ▸ hm)
theorem shelf_Take_nil (who : Int) (w : World) : Does Tryd.prog 13 #[.pointer none, .int .i64 who] w (Same (.tuple #[.int .i64 0, .int .i64 0, .int .i64 1]) w) := by
  refine Does.enter Tryd.func13 rfl Tryd.ntmps13 rfl rfl ?_
  refine Goes.adv hTT 400 rfl ?_
  exact Goes.ret hTT rfl Tryd.func13 (ResOk.tmp rfl (.tmp rfl (.tmp rfl .nil))) ⟨rfl, rfl⟩
set_option maxRecDepth 100000 in
theorem shelf_Take (S : Sh) (G : Nat → Pg) (x : Sm) (pl : PlM) (who : Int) (w : World) (h : ShOk w S G x pl) : Does Tryd.prog 13 #[sfV S, .int .i64 who] w
    (fun v w' => v = .tuple #[.int .i64 (shTakeN x pl who), .int .i64 (shTakeA x pl who), .int .i64 (shTakeE x pl who)] ∧ ∃ G', ShOk w' S G' (shTake x pl who) (shTakeP x pl who) ∧ Chg (allFoot S G x.pg) w w' ∧ ∀ z, shFoot S G' (shTake x pl who).pg z → shFoot S G x.pg z ∨ w.heap.size ≤ z) := by
  have eN : ∀ e, shTakeE x pl who = e → e ≠ 0 → shTakeN x pl who = 0 ∧ shTakeA x pl who = 0 ∧ shTake x pl who = x ∧ shTakeP x pl who = pl := fun e h1 h2 => by
    unfold shTakeN shTakeA shTake shTakeP; rw [h1, if_neg h2, if_neg h2, if_neg h2, if_neg h2]; exact ⟨rfl, rfl, rfl, rfl⟩
  refine Does.enter Tryd.func13 rfl Tryd.ntmps13 rfl rfl ?_
  refine Goes.adv hTT 400 rfl ?_
  refine Goes.fork hTT rfl rfl rfl (fun g1 => ?_) (fun g1 => ?_)
  · have k1 : who < 0 := of_decide_eq_true g1
    have e1 : shTakeE x pl who = 1 := by unfold shTakeE; rw [if_pos k1]
    obtain ⟨a, b, c, d⟩ := eN 1 e1 (by decide)
    rw [a, b, c, d, e1]
    exact Goes.ret hTT rfl Tryd.func13 (ResOk.tmp rfl (.tmp rfl (.tmp rfl .nil))) ⟨rfl, G, h, Chg.refl _ _, fun z hz => .inl hz⟩
  have hw0 : 0 ≤ who := by have := of_decide_eq_false g1; omega
  refine Goes.loadb hTT rfl h.at'.obj rfl rfl ?_
  refine Goes.call rfl (ring_First S.R x.opn w h.at'.ring) ?_
  rintro _ _ ⟨rfl, rfl⟩
  refine Goes.adv hTT 400 rfl ?_
  obtain ⟨x1, hx1e⟩ : ∃ x1, x1 = shPre x pl := ⟨_, rfl⟩
  obtain ⟨pl1, hpl1e⟩ : ∃ pl1, pl1 = shPl x pl := ⟨_, rfl⟩
  cases ho : x.opn with
  | nil =>
    refine Goes.yes hTT rfl rfl rfl ?_
    cases hf : pl.free with
    | nil =>
      have e1 : shTakeE x pl who = 5 := by unfold shTakeE; rw [if_neg (by omega), if_pos (by rw [ho, hf]; exact ⟨rfl, rfl⟩)]
      obtain ⟨a, b, c, d⟩ := eN 5 e1 (by decide)
      rw [a, b, c, d, e1]
      refine Goes.call rfl (shelf_fresh_no S G x pl w h hf) ?_
      rintro _ w1 ⟨rfl, h1, hs1⟩
      refine Goes.adv hTT 400 rfl ?_
      refine Goes.yes hTT rfl rfl rfl ?_
      exact Goes.ret hTT rfl Tryd.func13 (ResOk.tmp rfl (.tmp rfl (.tmp rfl .nil))) ⟨rfl, G, h1, hs1.mono fun z _ h => .inr h, fun z hz => .inl hz⟩
    | cons n r0 =>
      have hn4 : n < 1024 := by have := (h.pool.good.free n (by rw [hf]; simp)).1; have := h.pool.good.len; omega
      have e1 : shTakeE x pl who = 0 := by unfold shTakeE; rw [if_neg (by omega), if_neg (by rw [hf]; simp)]
      have hnew := free_new h.ok h.of h.pool.good (n := n) (by rw [hf]; simp)
      have x1e : x1 = x.fresh n := by rw [hx1e]; unfold shPre; rw [ho, hf]; rfl
      have pl1e : pl1 = pl.take x.cls := by rw [hpl1e]; unfold shPl; rw [ho]
      have hpe : shPage x pl = n := by unfold shPage; rw [ho, hf]; rfl
      refine Goes.call rfl (shelf_fresh S G x pl n r0 w h hf hn4) ?_
      rintro _ W ⟨rfl, g, hgb, hS, hP, hcW⟩
      refine Goes.adv hTT 400 rfl ?_
      refine Goes.no hTT rfl rfl rfl ?_
      have hx1 : x1.Ok := by rw [x1e]; exact h.ok.fresh hn4 hnew
      have hof1 : x1.Of pl1 := by rw [x1e, pl1e]; exact h.of.fresh h.pool.good hf
      obtain ⟨p, hpd⟩ : ∃ p, p = List.replicate x.blocks (-1 : Int) := ⟨_, rfl⟩
      have hp : (n, p) ∈ x1.pg := by rw [x1e, hpd]; exact List.mem_append_right _ (by simp)
      have hpl : p.length = x1.blocks := by rw [x1e, hpd]; exact List.length_replicate
      have hpu : pgUsed p = 0 := by rw [hpd]; exact pgUsed_new _
      have ho1 : x1.opn = n :: [] := by rw [x1e]; show n :: x.opn = _; rw [ho]
      obtain ⟨r, hrd⟩ : ∃ r : List Nat, r = [] := ⟨_, rfl⟩
      rw [← hrd] at ho1
      have hbk := h.ok.blk
      have hb1 : x1.blocks = x.blocks := by rw [x1e]; rfl
      obtain ⟨eE, eU⟩ := pgTake_ok (p := p) hw0 (by omega)
      have eA : pgTakeA p who = pgHole p := by unfold pgTakeA; rw [if_pos eE]
      have hPp : shP x pl = p := by unfold shP; rw [← hx1e, hpe, smGet_of hx1.nodup hp]; rfl
      have hpos1 : ∀ e : Nat × List Int, e.1 ≠ n → e ∈ x1.pg → 0 < pgUsed e.2 := fun e hne he => by
        rw [x1e] at he
        rcases List.mem_append.1 he with he | he
        · exact h.pos e he
        · have : e = (n, List.replicate x.blocks (-1)) := by simpa using he
          rw [this] at hne; exact absurd rfl hne
      have r1 : shTakeN x pl who = n := by unfold shTakeN; rw [if_pos e1, hpe]
      have r2 : shTakeA x pl who = pgHole p := by unfold shTakeA; rw [if_pos e1, hPp]
      have r3 : shTake x pl who = x1.takeAt n p who := by unfold shTake; rw [if_pos e1, hPp, hpe, ← hx1e]
      have r4 : shTakeP x pl who = pl1 := by unfold shTakeP; rw [if_pos e1, ← hpl1e]
      rw [r1, r2, r3, r4, e1]
      rw [← pl1e] at hP
      obtain ⟨G1, hG1⟩ : ∃ G1, G1 = putG G n g := ⟨_, rfl⟩
      rw [← hG1, show x.cls = x1.cls from by rw [x1e]; rfl, show x.blocks = x1.blocks from hb1.symm, show (x.fresh n).pg = x1.pg from by rw [x1e], show (x.fresh n).opn = x1.opn from by rw [x1e], show ((smUsed x.pg : Nat) : Int) = (smUsed x1.pg : Nat) from by
        rw [x1e]; show ((smUsed x.pg : Nat) : Int) = (smUsed (x.pg ++ [(n, List.replicate x.blocks (-1))]) : Nat); rw [smUsed_append, pgUsed_new]; rfl] at hS
      have hnewf : ∀ z, shFoot S G1 x1.pg z → shFoot S G x.pg z ∨ w.heap.size ≤ z := by rw [hG1, x1e]; exact foot_put hnew ⟨hgb.2.1, hgb.2.2⟩
      have hsub : ∀ z, z < w.heap.size → shFoot S G1 x1.pg z → allFoot S G x.pg z := fun z hz h => by
        rcases hnewf z h with h | h
        · exact .inl h
        · omega
      refine Goes.loadb hTT rfl hS.obj rfl rfl ?_
      obtain ⟨ma, hma, hla⟩ := hS.look n
      rw [smGet_of hx1.nodup hp] at hla
      refine Goes.lookup hTT rfl (hma) (hla) rfl ?_
      have hd := page_Take (G1 n) p who W (hS.pages _ hp)
      rw [eE, eA] at hd
      refine Goes.call rfl (hd) ?_
      rintro _ wa ⟨rfl, hPg, hsa⟩
      refine Goes.adv hTT 400 rfl ?_
      have hSa := hS.page hp hPg hsa
      have hPa := PoolOk.far hS hP hsa (fun z h => .inr (.inr (.inr ⟨_, hp, h⟩)))
      refine Goes.loadb hTT rfl hSa.obj rfl rfl ?_
      refine Goes.arith hTT rfl (w64 (by have := hx1.few; omega)) rfl ?_
      refine Goes.store hTT rfl hSa.obj rfl rfl ?_
      intro wb hob hsb hzb
      refine Goes.adv hTT 400 rfl ?_
      replace hob : wb.heap[S.sb]? = some (.cells (shL S x1.cls x1.blocks ((smUsed x1.pg : Nat) + 1)).toArray 73 (0, 0)) := hob
      have hSb := hSa.setUsed hob hsb
      have hPb := PoolOk.far hSa hPa hsb (fun z h => .inl h)
      have hpn : (n, pgTake p who) ∈ smSet x1.pg n (pgTake p who) := List.mem_map.2 ⟨(n, p), hp, if_pos rfl⟩
      refine Goes.loadb hTT rfl hSb.obj rfl rfl ?_
      obtain ⟨mb, hmb, hlb⟩ := hSb.look n
      rw [smGet_of (by rw [smSet_fst]; exact hx1.nodup) hpn] at hlb
      refine Goes.lookup hTT rfl (hmb) (hlb) rfl ?_
      refine Goes.call rfl (page_Full (G1 n) (pgTake p who) wb (hSb.pages _ hpn)) ?_
      rintro _ wc ⟨rfl, hwc⟩
      refine Goes.adv hTT 400 rfl ?_
      have hSc := hSb.grow hwc
      have hPc := hPb.grow hwc
      have hcc : Chg (allFoot S G x.pg) w wc := ((hcW.since hsa (fun z hz h => hsub z hz (.inr (.inr (.inr ⟨_, hp, h⟩))))).since hsb (fun z hz h => hsub z hz (.inl h))).trans (hwc.mono fun _ _ h => h.elim)
      have hus : ((smUsed (smSet x1.pg n (pgTake p who)) : Nat) : Int) = (smUsed x1.pg : Nat) + 1 := by have := smUsed_set (p := pgTake p who) hx1.nodup hp; omega
      rw [← hus] at hSc
      have hpos : (x1.takeAt n p who).Pos := fun e he => by
        rcases mem_smSet he with ⟨rfl, _⟩ | ⟨hne, he⟩
        · show 0 < pgUsed (pgTake p who); omega
        · exact hpos1 e hne he
      have hofT : (x1.takeAt n p who).Of pl1 := hof1.set rfl (fun e he => smSet_old he)
      have hfull : ((pgUsed (pgTake p who) : Int) == (pgTake p who).length) = decide (pgUsed (pgTake p who) = x1.blocks) := by rw [pgTake_len, hpl]; exact Bool.eq_iff_iff.2 (by simp only [beq_iff_eq, decide_eq_true_eq]; omega)
      rw [hfull]
      refine Goes.fork hTT rfl rfl rfl (fun hful => ?_) (fun hful => ?_)
      · have gful := of_decide_eq_true hful
        refine Goes.loadb hTT rfl hSc.obj rfl rfl ?_
        have hr := hSc.ring
        rw [ho1] at hr
        refine Goes.call rfl (ring_Drop S.R [] r n wc hr (by have := hx1.few; have e := congrArg List.length ho1; simp only [List.length_cons, List.nil_append] at e ⊢; omega)) ?_
        rintro _ wd ⟨rfl, hRd, hsd⟩
        refine Goes.adv hTT 400 rfl ?_
        have hSd := hSc.setRing hRd hsd
        have hPd := PoolOk.far hSc hPc hsd (fun z h => .inr (.inr (.inl h)))
        have hop : (x1.takeAt n p who).opn = r := by
          show (if pgUsed (pgTake p who) = x1.blocks then x1.opn.filter (fun m => m != n) else x1.opn) = r
          rw [if_pos gful, ho1]
          exact filter_head (ho1 ▸ hx1.onodup)
        exact Goes.ret hTT rfl Tryd.func13 (ResOk.tmp rfl (.tmp rfl (.tmp rfl .nil))) ⟨rfl, G1, ⟨hx1.takeAt hw0 hp (by rw [ho1]; simp), hpos, hofT, by rw [hop]; exact hSd, hPd⟩, hcc.since hsd (fun z hz h => hsub z hz (.inr (.inr (.inl h)))), fun z h => hnewf z (foot_set z h)⟩
      · have gful := of_decide_eq_false hful
        have hop : (x1.takeAt n p who).opn = x1.opn := by
          show (if pgUsed (pgTake p who) = x1.blocks then x1.opn.filter (fun m => m != n) else x1.opn) = _
          rw [if_neg gful]
        exact Goes.ret hTT rfl Tryd.func13 (ResOk.tmp rfl (.tmp rfl (.tmp rfl .nil))) ⟨rfl, G1, ⟨hx1.takeAt hw0 hp (by rw [ho1]; simp), hpos, hofT, by rw [hop]; exact hSc, hPc⟩, hcc, fun z h => hnewf z (foot_set z h)⟩
  | cons n r =>
    have e1 : shTakeE x pl who = 0 := by unfold shTakeE; rw [if_neg (by omega), if_neg (by rw [ho]; simp)]
    have x1e : x1 = x := by rw [hx1e]; unfold shPre; rw [ho]
    have pl1e : pl1 = pl := by rw [hpl1e]; unfold shPl; rw [ho]
    have hpe : shPage x pl = n := by unfold shPage; rw [ho]
    have hn := h.ok.osub n (by rw [ho]; simp)
    refine Goes.no hTT rfl (by show ((n : Int) == -1) = false; simp) rfl ?_
    obtain ⟨p, hp0⟩ := hn
    have hx1 : x1.Ok := by rw [x1e]; exact h.ok
    have hof1 : x1.Of pl1 := by rw [x1e, pl1e]; exact h.of
    have hp : (n, p) ∈ x1.pg := by rw [x1e]; exact hp0
    have hpl : p.length = x1.blocks := by rw [x1e]; exact (h.ok.each _ hp0).2.1
    have ho1 : x1.opn = n :: r := by rw [x1e]; exact ho
    have hnf : pgUsed p ≠ x1.blocks := by rw [x1e]; exact (h.ok.each _ hp0).2.2.1 (by rw [ho]; simp)
    obtain ⟨eE, eU⟩ := pgTake_ok (p := p) hw0 (by rw [hpl]; exact hnf)
    have eA : pgTakeA p who = pgHole p := by unfold pgTakeA; rw [if_pos eE]
    have hPp : shP x pl = p := by unfold shP; rw [← hx1e, hpe, smGet_of hx1.nodup hp]; rfl
    have hpos1 : ∀ e : Nat × List Int, e.1 ≠ n → e ∈ x1.pg → 0 < pgUsed e.2 := fun e _ he => by rw [x1e] at he; exact h.pos e he
    have r1 : shTakeN x pl who = n := by unfold shTakeN; rw [if_pos e1, hpe]
    have r2 : shTakeA x pl who = pgHole p := by unfold shTakeA; rw [if_pos e1, hPp]
    have r3 : shTake x pl who = x1.takeAt n p who := by unfold shTake; rw [if_pos e1, hPp, hpe, ← hx1e]
    have r4 : shTakeP x pl who = pl1 := by unfold shTakeP; rw [if_pos e1, ← hpl1e]
    rw [r1, r2, r3, r4, e1]
    have hS := h.at'
    have hP := h.pool
    rw [← x1e] at hS
    rw [← pl1e] at hP
    obtain ⟨W, hW⟩ : ∃ W, W = w := ⟨_, rfl⟩
    rw [← hW] at hS hP
    obtain ⟨G1, hG1⟩ : ∃ G1, G1 = G := ⟨_, rfl⟩
    rw [← hG1] at hS
    have hcW : Chg (allFoot S G x.pg) w W := by rw [hW]; exact Chg.refl _ _
    have hnewf : ∀ z, shFoot S G1 x1.pg z → shFoot S G x.pg z ∨ w.heap.size ≤ z := fun z hz => .inl (by rw [hG1, x1e] at hz; exact hz)
    have hsub : ∀ z, z < w.heap.size → shFoot S G1 x1.pg z → allFoot S G x.pg z := fun z _ hz => .inl (by rw [hG1, x1e] at hz; exact hz)
    have hgoal : ∀ {X : World → Prop}, X W → X w := fun h => hW ▸ h
    refine hgoal (X := fun w2 => Goes _ _ _ _ _ _ _ w2) ?_
    refine Goes.loadb hTT rfl hS.obj rfl rfl ?_
    obtain ⟨ma, hma, hla⟩ := hS.look n
    rw [smGet_of hx1.nodup hp] at hla
    refine Goes.lookup hTT rfl (hma) (hla) rfl ?_
    have hd := page_Take (G1 n) p who W (hS.pages _ hp)
    rw [eE, eA] at hd
    refine Goes.call rfl (hd) ?_
    rintro _ wa ⟨rfl, hPg, hsa⟩
    refine Goes.adv hTT 400 rfl ?_
    have hSa := hS.page hp hPg hsa
    have hPa := PoolOk.far hS hP hsa (fun z h => .inr (.inr (.inr ⟨_, hp, h⟩)))
    refine Goes.loadb hTT rfl hSa.obj rfl rfl ?_
    refine Goes.arith hTT rfl (w64 (by have := hx1.few; omega)) rfl ?_
    refine Goes.store hTT rfl hSa.obj rfl rfl ?_
    intro wb hob hsb hzb
    refine Goes.adv hTT 400 rfl ?_
    replace hob : wb.heap[S.sb]? = some (.cells (shL S x1.cls x1.blocks ((smUsed x1.pg : Nat) + 1)).toArray 73 (0, 0)) := hob
    have hSb := hSa.setUsed hob hsb
    have hPb := PoolOk.far hSa hPa hsb (fun z h => .inl h)
    have hpn : (n, pgTake p who) ∈ smSet x1.pg n (pgTake p who) := List.mem_map.2 ⟨(n, p), hp, if_pos rfl⟩
    refine Goes.loadb hTT rfl hSb.obj rfl rfl ?_
    obtain ⟨mb, hmb, hlb⟩ := hSb.look n
    rw [smGet_of (by rw [smSet_fst]; exact hx1.nodup) hpn] at hlb
    refine Goes.lookup hTT rfl (hmb) (hlb) rfl ?_
    refine Goes.call rfl (page_Full (G1 n) (pgTake p who) wb (hSb.pages _ hpn)) ?_
    rintro _ wc ⟨rfl, hwc⟩
    refine Goes.adv hTT 400 rfl ?_
    have hSc := hSb.grow hwc
    have hPc := hPb.grow hwc
    have hcc : Chg (allFoot S G x.pg) w wc := ((hcW.since hsa (fun z hz h => hsub z hz (.inr (.inr (.inr ⟨_, hp, h⟩))))).since hsb (fun z hz h => hsub z hz (.inl h))).trans (hwc.mono fun _ _ h => h.elim)
    have hus : ((smUsed (smSet x1.pg n (pgTake p who)) : Nat) : Int) = (smUsed x1.pg : Nat) + 1 := by have := smUsed_set (p := pgTake p who) hx1.nodup hp; omega
    rw [← hus] at hSc
    have hpos : (x1.takeAt n p who).Pos := fun e he => by
      rcases mem_smSet he with ⟨rfl, _⟩ | ⟨hne, he⟩
      · show 0 < pgUsed (pgTake p who); omega
      · exact hpos1 e hne he
    have hofT : (x1.takeAt n p who).Of pl1 := hof1.set rfl (fun e he => smSet_old he)
    have hfull : ((pgUsed (pgTake p who) : Int) == (pgTake p who).length) = decide (pgUsed (pgTake p who) = x1.blocks) := by rw [pgTake_len, hpl]; exact Bool.eq_iff_iff.2 (by simp only [beq_iff_eq, decide_eq_true_eq]; omega)
    rw [hfull]
    refine Goes.fork hTT rfl rfl rfl (fun hful => ?_) (fun hful => ?_)
    · have gful := of_decide_eq_true hful
      refine Goes.loadb hTT rfl hSc.obj rfl rfl ?_
      have hr := hSc.ring
      rw [ho1] at hr
      refine Goes.call rfl (ring_Drop S.R [] r n wc hr (by have := hx1.few; have e := congrArg List.length ho1; simp only [List.length_cons, List.nil_append] at e ⊢; omega)) ?_
      rintro _ wd ⟨rfl, hRd, hsd⟩
      refine Goes.adv hTT 400 rfl ?_
      have hSd := hSc.setRing hRd hsd
      have hPd := PoolOk.far hSc hPc hsd (fun z h => .inr (.inr (.inl h)))
      have hop : (x1.takeAt n p who).opn = r := by
        show (if pgUsed (pgTake p who) = x1.blocks then x1.opn.filter (fun m => m != n) else x1.opn) = r
        rw [if_pos gful, ho1]
        exact filter_head (ho1 ▸ hx1.onodup)
      exact Goes.ret hTT rfl Tryd.func13 (ResOk.tmp rfl (.tmp rfl (.tmp rfl .nil))) ⟨rfl, G1, ⟨hx1.takeAt hw0 hp (by rw [ho1]; simp), hpos, hofT, by rw [hop]; exact hSd, hPd⟩, hcc.since hsd (fun z hz h => hsub z hz (.inr (.inr (.inl h)))), fun z h => hnewf z (foot_set z h)⟩
    · have gful := of_decide_eq_false hful
      have hop : (x1.takeAt n p who).opn = x1.opn := by
        show (if pgUsed (pgTake p who) = x1.blocks then x1.opn.filter (fun m => m != n) else x1.opn) = _
        rw [if_neg gful]
      exact Goes.ret hTT rfl Tryd.func13 (ResOk.tmp rfl (.tmp rfl (.tmp rfl .nil))) ⟨rfl, G1, ⟨hx1.takeAt hw0 hp (by rw [ho1]; simp), hpos, hofT, by rw [hop]; exact hSc, hPc⟩, hcc, fun z h => hnewf z (foot_set z h)⟩
end Go.Proofs.YtdmedllaackbaaaDoor
/-
  Layer 13: a shelf: what is told; a block that is given back, or handed on.
-/
namespace Go.Proofs.YtdmedllaackbaaaDoor
open Go.RowKit

def ptrG (G : Nat → Pg) (n : Int) (o : Option (List Int)) : Value := match o with
  | some _ => pgV (G n.toNat)
  | none => .pointer none
theorem shelf_page (S : Sh) (G : Nat → Pg) (x : Sm) (pl : PlM) (n : Int) (w : World) (h : ShOk w S G x pl) : Does Tryd.prog 44 #[sfV S, .int .i64 n] w (Same (ptrG G n (smGet x.pg n)) w) := by
  obtain ⟨m, hm, hl⟩ := h.at'.look n
  refine Does.enter Tryd.func44 rfl Tryd.ntmps44 rfl rfl ?_
  refine Goes.adv hTT 400 rfl ?_
  refine Goes.loadb hTT rfl h.at'.obj rfl rfl ?_
  refine Goes.lookup hTT rfl (hm) ((hl.trans (show _ = ptrG G n (smGet x.pg n) from by unfold ptrG; cases smGet x.pg n <;> rfl))) rfl ?_
  exact Goes.ret1 hTT rfl Tryd.func44 rfl rfl ⟨rfl, rfl⟩
theorem shelf_page_nil (n : Int) (w : World) : Does Tryd.prog 44 #[.pointer none, .int .i64 n] w (Same (.pointer none) w) := by
  refine Does.enter Tryd.func44 rfl Tryd.ntmps44 rfl rfl ?_
  refine Goes.adv hTT 400 rfl ?_
  exact Goes.ret1 hTT rfl Tryd.func44 rfl rfl ⟨rfl, rfl⟩
def shOwner (x : Sm) (n i : Int) : Int := match smGet x.pg n with
  | some p => pgOwn p i
  | none => -1
theorem shelf_Owner (S : Sh) (G : Nat → Pg) (x : Sm) (pl : PlM) (n i : Int) (w : World) (h : ShOk w S G x pl) : Does Tryd.prog 21 #[sfV S, .int .i64 n, .int .i64 i] w (Same (.int .i64 (shOwner x n i)) w) := by
  unfold shOwner
  refine Does.enter Tryd.func21 rfl Tryd.ntmps21 rfl rfl ?_
  refine Goes.adv hTT 400 rfl ?_
  refine Goes.call rfl (shelf_page S G x pl n w h) ?_
  rintro _ _ ⟨rfl, rfl⟩
  refine Goes.adv hTT 400 rfl ?_
  cases hg : smGet x.pg n with
  | none =>
    refine Goes.call rfl (page_Owner_nil i w) ?_
    rintro _ _ ⟨rfl, rfl⟩
    refine Goes.adv hTT 400 rfl ?_
    exact Goes.ret1 hTT rfl Tryd.func21 rfl rfl ⟨rfl, rfl⟩
  | some p =>
    obtain ⟨k, rfl, hk⟩ := smGet_some hg
    refine Goes.call rfl (page_Owner (G k) p i w (h.at'.pages _ hk)) ?_
    rintro _ _ ⟨rfl, rfl⟩
    refine Goes.adv hTT 400 rfl ?_
    exact Goes.ret1 hTT rfl Tryd.func21 rfl rfl ⟨rfl, rfl⟩
theorem shelf_Owner_nil (n i : Int) (w : World) : Does Tryd.prog 21 #[.pointer none, .int .i64 n, .int .i64 i] w (Same (.int .i64 (-1)) w) := by
  refine Does.enter Tryd.func21 rfl Tryd.ntmps21 rfl rfl ?_
  refine Goes.adv hTT 400 rfl ?_
  refine Goes.call rfl (shelf_page_nil n w) ?_
  rintro _ _ ⟨rfl, rfl⟩
  refine Goes.adv hTT 400 rfl ?_
  refine Goes.call rfl (page_Owner_nil i w) ?_
  rintro _ _ ⟨rfl, rfl⟩
  refine Goes.adv hTT 400 rfl ?_
  exact Goes.ret1 hTT rfl Tryd.func21 rfl rfl ⟨rfl, rfl⟩
theorem shelf_Pages (S : Sh) (G : Nat → Pg) (x : Sm) (pl : PlM) (w : World) (h : ShOk w S G x pl) : Does Tryd.prog 18 #[sfV S] w (Same (.int .i64 (x.pg.length : Nat)) w) := by
  obtain ⟨m, hm, _, hl, _⟩ := h.at'.map
  refine Does.enter Tryd.func18 rfl Tryd.ntmps18 rfl rfl ?_
  refine Goes.adv hTT 400 rfl ?_
  refine Goes.loadb hTT rfl h.at'.obj rfl rfl ?_
  refine Goes.maplen hTT rfl ((show MapIs w (some S.sm) m from hm)) rfl ?_
  exact Goes.ret1 hTT rfl Tryd.func18 rfl rfl ⟨int_v (by rw [hl]), rfl⟩
theorem shelf_Pages_nil (w : World) : Does Tryd.prog 18 #[.pointer none] w (Same (.int .i64 0) w) := by
  refine Does.enter Tryd.func18 rfl Tryd.ntmps18 rfl rfl ?_
  refine Goes.adv hTT 400 rfl ?_
  exact Goes.ret1 hTT rfl Tryd.func18 rfl rfl ⟨rfl, rfl⟩
theorem shelf_Open (S : Sh) (G : Nat → Pg) (x : Sm) (pl : PlM) (w : World) (h : ShOk w S G x pl) : Does Tryd.prog 15 #[sfV S] w (Same (.int .i64 (x.opn.length : Nat)) w) := by
  refine Does.enter Tryd.func15 rfl Tryd.ntmps15 rfl rfl ?_
  refine Goes.adv hTT 400 rfl ?_
  refine Goes.loadb hTT rfl h.at'.obj rfl rfl ?_
  refine Goes.call rfl (ring_Len S.R x.opn w h.at'.ring) ?_
  rintro _ _ ⟨rfl, rfl⟩
  refine Goes.adv hTT 400 rfl ?_
  exact Goes.ret1 hTT rfl Tryd.func15 rfl rfl ⟨rfl, rfl⟩
theorem shelf_Open_nil (w : World) : Does Tryd.prog 15 #[.pointer none] w (Same (.int .i64 0) w) := by
  refine Does.enter Tryd.func15 rfl Tryd.ntmps15 rfl rfl ?_
  refine Goes.adv hTT 400 rfl ?_
  exact Goes.ret1 hTT rfl Tryd.func15 rfl rfl ⟨rfl, rfl⟩
theorem shelf_Used (S : Sh) (G : Nat → Pg) (x : Sm) (pl : PlM) (w : World) (h : ShOk w S G x pl) : Does Tryd.prog 17 #[sfV S] w (Same (.int .i64 (smUsed x.pg : Nat)) w) := by
  refine Does.enter Tryd.func17 rfl Tryd.ntmps17 rfl rfl ?_
  refine Goes.adv hTT 400 rfl ?_
  refine Goes.loadb hTT rfl h.at'.obj rfl rfl ?_
  exact Goes.ret1 hTT rfl Tryd.func17 rfl rfl ⟨rfl, rfl⟩
theorem shelf_Used_nil (w : World) : Does Tryd.prog 17 #[.pointer none] w (Same (.int .i64 0) w) := by
  refine Does.enter Tryd.func17 rfl Tryd.ntmps17 rfl rfl ?_
  refine Goes.adv hTT 400 rfl ?_
  exact Goes.ret1 hTT rfl Tryd.func17 rfl rfl ⟨rfl, rfl⟩
theorem smSet_self {l : PgL} {n : Nat} {p : List Int} (hn : (l.map (·.1)).Nodup) (hp : (n, p) ∈ l) : smSet l n p = l := by
  unfold smSet
  conv => rhs; rw [← List.map_id l]
  refine List.map_congr_left fun e he => ?_
  by_cases h : e.1 = n
  · rw [if_pos h]
    have h1 := smGet_of hn hp
    have h2 := smGet_of hn (show (e.1, e.2) ∈ l from he)
    rw [h, h1] at h2
    cases h2
    rw [← h]
    rfl
  · rw [if_neg h]; rfl
def shOwnE (x : Sm) (n i who : Int) : Int := match smGet x.pg n with
  | some p => pgOwnE p i who
  | none => 1
def shOwn (x : Sm) (n i who : Int) : Sm := match smGet x.pg n with
  | some p => x.ownAt n.toNat p i who
  | none => x
theorem shelf_Own (S : Sh) (G : Nat → Pg) (x : Sm) (pl : PlM) (n i who : Int) (w : World) (h : ShOk w S G x pl) : Does Tryd.prog 23 #[sfV S, .int .i64 n, .int .i64 i, .int .i64 who] w
    (fun v w' => v = .int .i64 (shOwnE x n i who) ∧ ShOk w' S G (shOwn x n i who) pl ∧ Chg (allFoot S G x.pg) w w' ∧ ∀ z, shFoot S G (shOwn x n i who).pg z → shFoot S G x.pg z) := by
  unfold shOwnE shOwn
  refine Does.enter Tryd.func23 rfl Tryd.ntmps23 rfl rfl ?_
  refine Goes.adv hTT 400 rfl ?_
  refine Goes.call rfl (shelf_page S G x pl n w h) ?_
  rintro _ _ ⟨rfl, rfl⟩
  refine Goes.adv hTT 400 rfl ?_
  cases hg : smGet x.pg n with
  | none =>
    refine Goes.call rfl (page_Own_nil i who w) ?_
    rintro _ _ ⟨rfl, rfl⟩
    refine Goes.adv hTT 400 rfl ?_
    exact Goes.ret1 hTT rfl Tryd.func23 rfl rfl ⟨rfl, h, Chg.refl _ _, fun _ h => h⟩
  | some p =>
    obtain ⟨k, rfl, hk⟩ := smGet_some hg
    refine Goes.call rfl (page_Own (G k) p i who w (h.at'.pages _ hk)) ?_
    rintro _ w1 ⟨rfl, hP, hs⟩
    refine Goes.adv hTT 400 rfl ?_
    have hS := h.at'.page hk hP hs
    have hPl := PoolOk.far h.at' h.pool hs (fun z e => .inr (.inr (.inr ⟨_, hk, e⟩)))
    have hu : smUsed (smSet x.pg k (pgOwnS p i who)) = smUsed x.pg := by have := smUsed_set (p := pgOwnS p i who) h.ok.nodup hk; rw [pgOwn_used] at this; omega
    have hpos : (x.ownAt k p i who).Pos := fun e he => by
      rcases mem_smSet he with ⟨rfl, _⟩ | ⟨_, he⟩
      · show 0 < pgUsed (pgOwnS p i who); rw [pgOwn_used]; exact h.pos _ hk
      · exact h.pos e he
    exact Goes.ret1 hTT rfl Tryd.func23 rfl rfl ⟨rfl, ⟨h.ok.ownAt hk, hpos, h.of.set rfl (fun e he => smSet_old he), by show ShAt w1 S G x.cls x.blocks (smSet x.pg k (pgOwnS p i who)) x.opn (smUsed (smSet x.pg k (pgOwnS p i who)) : Nat); rw [hu]; exact hS, hPl⟩, hs.mono fun z _ e => .inl (.inr (.inr (.inr ⟨_, hk, e⟩))), fun z e => foot_set z e⟩
theorem shelf_Own_nil (n i who : Int) (w : World) : Does Tryd.prog 23 #[.pointer none, .int .i64 n, .int .i64 i, .int .i64 who] w (Same (.int .i64 1) w) := by
  refine Does.enter Tryd.func23 rfl Tryd.ntmps23 rfl rfl ?_
  refine Goes.adv hTT 400 rfl ?_
  refine Goes.call rfl (shelf_page_nil n w) ?_
  rintro _ _ ⟨rfl, rfl⟩
  refine Goes.adv hTT 400 rfl ?_
  refine Goes.call rfl (page_Own_nil i who w) ?_
  rintro _ _ ⟨rfl, rfl⟩
  refine Goes.adv hTT 400 rfl ?_
  exact Goes.ret1 hTT rfl Tryd.func23 rfl rfl ⟨rfl, rfl⟩
theorem filter_mid {l1 l2 : List Nat} {n : Nat} (h : (l1 ++ n :: l2).Nodup) : (l1 ++ n :: l2).filter (fun m => m != n) = l1 ++ l2 := by
  obtain ⟨h1, h2, h3⟩ := List.nodup_append.1 h
  obtain ⟨h4, h5⟩ := List.nodup_cons.1 h2
  rw [List.filter_append, List.filter_cons]
  simp only [bne_self_eq_false, Bool.false_eq_true, if_false]
  rw [List.filter_eq_self.2 (fun m hm => by simp only [bne_iff_ne, ne_eq]; exact fun e => h3 m hm n (by simp) e), List.filter_eq_self.2 (fun m hm => by simp only [bne_iff_ne, ne_eq]; exact fun e => h4 (e ▸ hm))]
set_option maxRecDepth 100000 in
theorem shelf_settle (S : Sh) (G : Nat → Pg) (cls : Int) (blocks : Nat) (pg : PgL) (opn : List Nat) (used : Int) (pl : PlM) (n : Nat) (p : List Int) (full : Bool) (w : World) (hS : ShAt w S G cls blocks pg opn used) (hP : PoolOk w S.P pl) (hp : (n, p) ∈ pg) (hn4 : n < 1024) (hfo : full = true → n ∉ opn) (hfo' : full = false → n ∈ opn)
    (hon : opn.Nodup) (hol : opn.length ≤ 1024) (hcl : 0 ≤ cls) (hof : n < pl.own.length ∧ pl.own.getD n 0 = cls) :
    DoesD Tryd.prog 47 #[sfV S, .int .i64 n, pgV (G n), .bool full] w (fun _ w' => ShAt w' S G cls blocks (if pgUsed p = 0 then smDel pg n else pg) (if pgUsed p = 0 then (if full then n :: opn else opn).filter (fun m => m != n) else if full then n :: opn else opn) used ∧ PoolOk w' S.P (if pgUsed p = 0 then pl.give n else pl) ∧ Chg (allFoot S G pg) w w') := by
  refine DoesD.enter Tryd.func47 rfl Tryd.ntmps47 rfl rfl ?_
  refine Goes.adv hTT 400 rfl ?_
  cases full with
  | true =>
    have hno := hfo rfl
    refine Goes.yes hTT rfl rfl rfl ?_
    refine Goes.loadb hTT rfl hS.obj rfl rfl ?_
    refine Goes.call rfl (ring_Push S.R opn n w hS.ring hn4 hno (by omega)) ?_
    rintro _ W ⟨rfl, hR, hs⟩
    refine Goes.adv hTT 400 rfl ?_
    have hS1 := hS.setRing hR hs
    have hP1 := PoolOk.far hS hP hs (fun z h => .inr (.inr (.inl h)))
    have hcW : Chg (allFoot S G pg) w W := hs.mono fun z _ h => .inl (.inr (.inr (.inl h)))
    simp only [if_true]
    obtain ⟨opn1, hopn1⟩ : ∃ o, o = n :: opn := ⟨_, rfl⟩
    have hmo : n ∈ opn1 := by rw [hopn1]; simp
    have hon1 : opn1.Nodup := by rw [hopn1]; exact List.nodup_cons.2 ⟨hno, hon⟩
    have hol1 : opn1.length ≤ 4096 := by rw [hopn1, List.length_cons]; omega
    rw [← hopn1] at hS1 ⊢
    refine Goes.call rfl (page_Used (G n) p W (hS1.pages _ hp)) ?_
    rintro _ _ ⟨rfl, rfl⟩
    refine Goes.adv hTT 400 rfl ?_
    by_cases hu : pgUsed p = 0
    · rw [if_pos hu, if_pos hu, if_pos hu]
      obtain ⟨l1, l2, ho⟩ := List.append_of_mem hmo
      refine Goes.yes hTT rfl (show (((pgUsed p : Nat) : Int) == 0) = true by rw [hu]; rfl) rfl ?_
      refine Goes.loadb hTT rfl hS1.obj rfl rfl ?_
      have hr := hS1.ring
      rw [ho] at hr
      refine Goes.call rfl (ring_Drop S.R l1 l2 n W hr (by rw [← ho]; exact hol1)) ?_
      rintro _ wa ⟨rfl, hRa, hsa⟩
      refine Goes.adv hTT 400 rfl ?_
      have hSa := hS1.setRing hRa hsa
      have hPa := PoolOk.far hS1 hP1 hsa (fun z h => .inr (.inr (.inl h)))
      refine Goes.loadb hTT rfl hSa.obj rfl rfl ?_
      obtain ⟨m, hm, _⟩ := hSa.map
      refine Goes.mapdel hTT rfl (hm) ?_
      intro wb hmb hsb hzb
      refine Goes.adv hTT 400 rfl ?_
      have hSb := hSa.del hp (fun m' h' => by rw [h'.uniq hm]; exact hmb) hsb
      have hPb := PoolOk.far hSa hPa hsb (fun z h => .inr (.inl h))
      refine Goes.loadb hTT rfl hSb.obj rfl rfl ?_
      have hpo : pgOwn pl.own n = pl.own.getD n 0 := by
        unfold pgOwn; rw [if_pos (by omega)]; simp only [Int.toNat_natCast]; rw [getD_0_m1 hof.1]
      have hge : plGiveE pl n = 0 := by unfold plGiveE; rw [if_neg (by have := hof.1; omega), hpo, if_neg (by rw [hof.2]; omega)]
      have hd := pool_Give S.P pl n wb hPb
      rw [show plGive pl n = pl.give n from by unfold plGive; rw [if_pos hge]; rfl] at hd
      refine Goes.call rfl (hd) ?_
      rintro _ wc ⟨rfl, hPc, hsc⟩
      refine Goes.adv hTT 400 rfl ?_
      have hSc := hSb.pool hPb hsc
      have hfe : opn1.filter (fun m => m != n) = l1 ++ l2 := by rw [ho]; exact filter_mid (ho ▸ hon1)
      rw [hfe]
      exact Goes.ret0 hTT rfl Tryd.func47 rfl ⟨hSc, hPc, ((hcW.trans (hsa.mono fun z _ h => .inl (.inr (.inr (.inl h))))).trans (hsb.mono fun z _ h => .inl (.inr (.inl h)))).trans (hsc.mono fun z _ h => .inr h)⟩
    · rw [if_neg hu, if_neg hu, if_neg hu]
      refine Goes.no hTT rfl (show (((pgUsed p : Nat) : Int) == 0) = false by simp; omega) rfl ?_
      exact Goes.ret0 hTT rfl Tryd.func47 rfl ⟨hS1, hP1, hcW⟩
  | false =>
    have hyes := hfo' rfl
    refine Goes.no hTT rfl rfl rfl ?_
    simp only [Bool.false_eq_true, if_false]
    obtain ⟨opn1, hopn1⟩ : ∃ o, o = opn := ⟨_, rfl⟩
    have hmo : n ∈ opn1 := by rw [hopn1]; exact hyes
    have hon1 : opn1.Nodup := by rw [hopn1]; exact hon
    have hol1 : opn1.length ≤ 4096 := by rw [hopn1]; omega
    have hS1 := hS
    have hP1 := hP
    have hcW : Chg (allFoot S G pg) w w := Chg.refl _ _
    rw [← hopn1] at hS1 ⊢
    obtain ⟨W, hW⟩ : ∃ W, W = w := ⟨_, rfl⟩
    have hgoal : ∀ {X : World → Prop}, X W → X w := fun h => hW ▸ h
    rw [← hW] at hS1 hP1
    replace hcW : Chg (allFoot S G pg) w W := by rw [hW]; exact hcW
    refine hgoal (X := fun w2 => Goes _ _ _ _ _ _ _ w2) ?_
    refine Goes.call rfl (page_Used (G n) p W (hS1.pages _ hp)) ?_
    rintro _ _ ⟨rfl, rfl⟩
    refine Goes.adv hTT 400 rfl ?_
    by_cases hu : pgUsed p = 0
    · rw [if_pos hu, if_pos hu, if_pos hu]
      obtain ⟨l1, l2, ho⟩ := List.append_of_mem hmo
      refine Goes.yes hTT rfl (show (((pgUsed p : Nat) : Int) == 0) = true by rw [hu]; rfl) rfl ?_
      refine Goes.loadb hTT rfl hS1.obj rfl rfl ?_
      have hr := hS1.ring
      rw [ho] at hr
      refine Goes.call rfl (ring_Drop S.R l1 l2 n W hr (by rw [← ho]; exact hol1)) ?_
      rintro _ wa ⟨rfl, hRa, hsa⟩
      refine Goes.adv hTT 400 rfl ?_
      have hSa := hS1.setRing hRa hsa
      have hPa := PoolOk.far hS1 hP1 hsa (fun z h => .inr (.inr (.inl h)))
      refine Goes.loadb hTT rfl hSa.obj rfl rfl ?_
      obtain ⟨m, hm, _⟩ := hSa.map
      refine Goes.mapdel hTT rfl (hm) ?_
      intro wb hmb hsb hzb
      refine Goes.adv hTT 400 rfl ?_
      have hSb := hSa.del hp (fun m' h' => by rw [h'.uniq hm]; exact hmb) hsb
      have hPb := PoolOk.far hSa hPa hsb (fun z h => .inr (.inl h))
      refine Goes.loadb hTT rfl hSb.obj rfl rfl ?_
      have hpo : pgOwn pl.own n = pl.own.getD n 0 := by
        unfold pgOwn; rw [if_pos (by omega)]; simp only [Int.toNat_natCast]; rw [getD_0_m1 hof.1]
      have hge : plGiveE pl n = 0 := by unfold plGiveE; rw [if_neg (by have := hof.1; omega), hpo, if_neg (by rw [hof.2]; omega)]
      have hd := pool_Give S.P pl n wb hPb
      rw [show plGive pl n = pl.give n from by unfold plGive; rw [if_pos hge]; rfl] at hd
      refine Goes.call rfl (hd) ?_
      rintro _ wc ⟨rfl, hPc, hsc⟩
      refine Goes.adv hTT 400 rfl ?_
      have hSc := hSb.pool hPb hsc
      have hfe : opn1.filter (fun m => m != n) = l1 ++ l2 := by rw [ho]; exact filter_mid (ho ▸ hon1)
      rw [hfe]
      exact Goes.ret0 hTT rfl Tryd.func47 rfl ⟨hSc, hPc, ((hcW.trans (hsa.mono fun z _ h => .inl (.inr (.inr (.inl h))))).trans (hsb.mono fun z _ h => .inl (.inr (.inl h)))).trans (hsc.mono fun z _ h => .inr h)⟩
    · rw [if_neg hu, if_neg hu, if_neg hu]
      refine Goes.no hTT rfl (show (((pgUsed p : Nat) : Int) == 0) = false by simp; omega) rfl ?_
      exact Goes.ret0 hTT rfl Tryd.func47 rfl ⟨hS1, hP1, hcW⟩
end Go.Proofs.YtdmedllaackbaaaDoor
/-
  Layer 13: a shelf: a block that is given back; what may move; a new one.
-/
namespace Go.Proofs.YtdmedllaackbaaaDoor
open Go.RowKit

def shGiveE (x : Sm) (n i : Int) : Int := match smGet x.pg n with
  | some p => pgGiveE p i
  | none => 1
def shGive (x : Sm) (n i : Int) : Sm := match smGet x.pg n with
  | some p => if pgGiveE p i = 0 then x.giveAt n.toNat p i else x
  | none => x
def shGiveP (x : Sm) (pl : PlM) (n i : Int) : PlM := match smGet x.pg n with
  | some p => if pgGiveE p i = 0 ∧ pgUsed (pgGive p i) = 0 then pl.give n.toNat else pl
  | none => pl
theorem smDel_set (l : PgL) (n : Nat) (p : List Int) : smDel (smSet l n p) n = smDel l n := by
  induction l with
  | nil => rfl
  | cons e r ih =>
    unfold smDel smSet at *
    rw [List.map_cons, List.filter_cons, List.filter_cons]
    by_cases h : e.1 = n
    · rw [if_pos h]
      simp only [bne_self_eq_false, Bool.false_eq_true, if_false, h]
      exact ih
    · rw [if_neg h]
      have : (e.1 != n) = true := by simpa using h
      rw [if_pos this, if_pos this, ih]
theorem foot_giveAt {S : Sh} {G : Nat → Pg} {x : Sm} {n : Nat} {p : List Int} {i : Int} : ∀ z, shFoot S G (x.giveAt n p i).pg z → shFoot S G x.pg z := fun z h => by
  unfold Sm.giveAt at h
  simp only at h
  split at h
  · exact foot_del z h
  · exact foot_set z h
theorem Sm.Of.giveAt {x : Sm} {pl : PlM} (hok : x.Ok) (h : x.Of pl) {n : Nat} {p : List Int} {i : Int} : (x.giveAt n p i).Of (if pgUsed (pgGive p i) = 0 then pl.give n else pl) := by
  unfold Sm.giveAt
  simp only
  split
  · intro e he
    obtain ⟨hne, he⟩ := mem_smDel.1 he
    obtain ⟨a, b⟩ := h e he
    show e.1 < (pl.own.set n (-1)).length ∧ (pl.own.set n (-1)).getD e.1 0 = x.cls
    rw [List.length_set, getD_set_z, if_neg (fun h => hne h.1.symm)]
    exact ⟨a, b⟩
  · exact h.set rfl (fun e he => smSet_old he)
theorem shelf_Give_nil (n i : Int) (w : World) : Does Tryd.prog 22 #[.pointer none, .int .i64 n, .int .i64 i] w (Same (.int .i64 1) w) := by
  refine Does.enter Tryd.func22 rfl Tryd.ntmps22 rfl rfl ?_
  refine Goes.adv hTT 400 rfl ?_
  refine Goes.call rfl (shelf_page_nil n w) ?_
  rintro _ _ ⟨rfl, rfl⟩
  refine Goes.adv hTT 400 rfl ?_
  exact Goes.ret1 hTT rfl Tryd.func22 rfl rfl ⟨rfl, rfl⟩
set_option maxRecDepth 100000 in
theorem shelf_Give (S : Sh) (G : Nat → Pg) (x : Sm) (pl : PlM) (n i : Int) (w : World) (h : ShOk w S G x pl) : Does Tryd.prog 22 #[sfV S, .int .i64 n, .int .i64 i] w
    (fun v w' => v = .int .i64 (shGiveE x n i) ∧ ShOk w' S G (shGive x n i) (shGiveP x pl n i) ∧ Chg (allFoot S G x.pg) w w' ∧ ∀ z, shFoot S G (shGive x n i).pg z → shFoot S G x.pg z) := by
  refine Does.enter Tryd.func22 rfl Tryd.ntmps22 rfl rfl ?_
  refine Goes.adv hTT 400 rfl ?_
  refine Goes.call rfl (shelf_page S G x pl n w h) ?_
  rintro _ _ ⟨rfl, rfl⟩
  refine Goes.adv hTT 400 rfl ?_
  cases hg : smGet x.pg n with
  | none =>
    rw [show shGiveE x n i = 1 from by unfold shGiveE; rw [hg], show shGive x n i = x from by unfold shGive; rw [hg], show shGiveP x pl n i = pl from by unfold shGiveP; rw [hg]]
    exact Goes.ret1 hTT rfl Tryd.func22 rfl rfl ⟨rfl, h, Chg.refl _ _, fun _ h => h⟩
  | some p =>
    obtain ⟨k, rfl, hk⟩ := smGet_some hg
    obtain ⟨he1, he2, he3⟩ := h.ok.each _ hk
    simp only at he1 he2 he3
    have hfew := h.ok.few
    have hlt := h.at'.foot_lt
    refine Goes.call rfl (page_Full (G k) p w (h.at'.pages _ hk)) ?_
    rintro _ w1 ⟨rfl, hw1⟩
    refine Goes.adv hTT 400 rfl ?_
    have hS1 := h.at'.grow hw1
    refine Goes.call rfl (page_Give (G k) p i w1 (hS1.pages _ hk)) ?_
    rintro _ w2 ⟨rfl, hP2, hs2⟩
    refine Goes.adv hTT 400 rfl ?_
    have hS2 := hS1.page hk hP2 hs2
    have hPl2 := PoolOk.far hS1 (h.pool.grow hw1) hs2 (fun z e => .inr (.inr (.inr ⟨_, hk, e⟩)))
    have hc2 : Chg (allFoot S G x.pg) w w2 := (hw1.mono fun _ _ h => h.elim).trans (hs2.mono fun z _ e => .inl (.inr (.inr (.inr ⟨_, hk, e⟩))))
    by_cases hE : pgGiveE p i = 0
    · rw [show shGiveE x k i = 0 from by unfold shGiveE; rw [hg]; exact hE, show shGive x k i = x.giveAt k p i from by unfold shGive; rw [hg]; simp only; rw [if_pos hE]; rfl, show shGiveP x pl k i = (if pgUsed (pgGive p i) = 0 then pl.give k else pl) from by unfold shGiveP; rw [hg]; simp only [hE, true_and]; rfl, hE]
      refine Goes.no hTT rfl rfl rfl ?_
      refine Goes.defer rfl rfl ?_
      refine Goes.adv hTT 400 rfl ?_
      have hu := pgGive_used hE
      have hus := smUsed_set (p := pgGive p i) h.ok.nodup hk
      refine Goes.loadb hTT rfl hS2.obj rfl rfl ?_
      refine Goes.arith hTT rfl (w64 (by omega)) rfl ?_
      refine Goes.store hTT rfl hS2.obj rfl rfl ?_
      intro w3 hob hs3 hz3
      refine Goes.adv hTT 400 rfl ?_
      have hu3 : ((smUsed x.pg : Nat) : Int) - 1 = (smUsed (smSet x.pg k (pgGive p i)) : Nat) := by omega
      replace hob : w3.heap[S.sb]? = some (.cells (shL S x.cls x.blocks ((smUsed x.pg : Nat) - 1)).toArray 73 (0, 0)) := hob
      rw [hu3] at hob
      have hS3 := hS2.setUsed hob hs3
      have hPl3 := PoolOk.far hS2 hPl2 hs3 (fun z e => .inl e)
      have hc3 : Chg (allFoot S G x.pg) w w3 := hc2.trans (hs3.mono fun z _ e => .inl (.inl e))
      have hkn : (k, pgGive p i) ∈ smSet x.pg k (pgGive p i) := List.mem_map.2 ⟨(k, p), hk, if_pos rfl⟩
      have hfb : ((pgUsed p : Int) == p.length) = decide (pgUsed p = x.blocks) := by rw [he2]; exact Bool.eq_iff_iff.2 (by simp only [beq_iff_eq, decide_eq_true_eq]; omega)
      have hd := shelf_settle S G x.cls x.blocks _ x.opn _ pl k (pgGive p i) (decide (pgUsed p = x.blocks)) w3 hS3 hPl3 hkn he1 (fun e hm => (he3.1 hm) (of_decide_eq_true e)) (fun e => he3.2 (of_decide_eq_false e)) h.ok.onodup (by omega) h.ok.cls (h.of _ hk)
      rw [← hfb] at hd
      refine Goes.ret1D hTT rfl Tryd.func22 rfl rfl rfl (invoke_dfr (args := [sfV S, .int .i64 k, pgV (G k), .bool ((pgUsed p : Int) == p.length)]) (captured := []) hd.fn) ⟨hd.fn, ?_⟩
      have hc := hd.calls
      intro c cs hu'
      obtain ⟨en, u', w', fr, ⟨h7, v, h8, h9, h10, h11⟩, hrest⟩ := hc c cs hu'
      have hpos : (x.giveAt k p i).Pos := by
        unfold Sm.giveAt
        simp only
        split
        · intro e he
          exact h.pos e (mem_smDel.1 he).2
        · rename_i hz
          intro e he
          rcases mem_smSet he with ⟨rfl, _⟩ | ⟨_, he⟩
          · exact Nat.pos_of_ne_zero hz
          · exact h.pos e he
      refine ⟨en, u', w', fr, ⟨h7, v, h8, rfl, ⟨h.ok.giveAt hk hE, hpos, h.of.giveAt h.ok, ?_, ?_⟩, hc3.trans (h11.mono fun z _ hz => hz.imp (foot_set z) id), foot_giveAt⟩, hrest⟩
      · rw [hfb] at h9
        show ShAt w' S G (x.giveAt k p i).cls (x.giveAt k p i).blocks (x.giveAt k p i).pg (x.giveAt k p i).opn (smUsed (x.giveAt k p i).pg : Nat)
        unfold Sm.giveAt
        simp only
        simp only [decide_eq_true_eq] at h9
        by_cases hz : pgUsed (pgGive p i) = 0
        · rw [if_pos hz] at h9 ⊢
          rw [if_pos hz, smDel_set] at h9
          have hde := (smUsed_del (by rw [smSet_fst]; exact h.ok.nodup) hkn).1
          rw [smDel_set] at hde
          show ShAt w' S G x.cls x.blocks (smDel x.pg k) _ (smUsed (smDel x.pg k) : Nat)
          rw [show smUsed (smDel x.pg k) = smUsed (smSet x.pg k (pgGive p i)) by omega]
          exact h9
        · rw [if_neg hz] at h9 ⊢
          rw [if_neg hz] at h9
          exact h9
      · exact h10
    · have hsame : pgGive p i = p := by unfold pgGive; rw [if_neg hE]
      rw [hsame, smSet_self h.ok.nodup hk] at hS2
      rw [show shGiveE x k i = pgGiveE p i from by unfold shGiveE; rw [hg], show shGive x k i = x from by unfold shGive; rw [hg]; simp only; rw [if_neg hE], show shGiveP x pl k i = pl from by unfold shGiveP; rw [hg]; simp only; rw [if_neg (fun h => hE h.1)]]
      refine Goes.yes hTT rfl (show (pgGiveE p i != 0) = true by simpa using hE) rfl ?_
      exact Goes.ret1 hTT rfl Tryd.func22 rfl rfl ⟨rfl, ⟨h.ok, h.pos, h.of, hS2, hPl2⟩, hc2, fun _ h => h⟩
def planL (a b c d : Int) : List Value := [.int .i64 a, .int .i64 b, .int .i64 c, .int .i64 d]
def shPlanB (x : Sm) : Bool := decide (2 ≤ x.opn.length)
def shPlanL (x : Sm) : List Value := if 2 ≤ x.opn.length then planL (lastI (-1) x.opn) (pgTop ((smGet x.pg (lastI (-1) x.opn)).getD [])) (headI x.opn) (pgHole ((smGet x.pg (headI x.opn)).getD [])) else planL 0 0 0 0
theorem shelf_Plan_nil (w : World) : Does Tryd.prog 20 #[.pointer none] w (Grow (.tuple #[.agg (planL 0 0 0 0).toArray, .bool false]) w) := by
  refine Does.enter Tryd.func20 rfl Tryd.ntmps20 rfl rfl ?_
  refine Goes.adv hTT 400 rfl ?_
  refine Goes.alloc hTT rfl ?_
  intro tb w1 e1 htb hw1 hz1
  refine Goes.adv hTT 400 rfl ?_
  refine Goes.call rfl (shelf_Open_nil w1) ?_
  rintro _ _ ⟨rfl, rfl⟩
  refine Goes.adv hTT 400 rfl ?_
  refine Goes.yes hTT rfl rfl rfl ?_
  refine Goes.build hTT rfl rfl ?_
  refine Goes.store hTT rfl htb rfl rfl ?_
  intro w2 htb2 hs2 hz2
  refine Goes.adv hTT 400 rfl ?_
  exact Goes.ret hTT rfl Tryd.func20 (ResOk.cell rfl rfl rfl htb2 rfl (.tmp rfl .nil)) ⟨rfl, hw1.since hs2 (fun z hz e => by omega)⟩
theorem shelf_Plan (S : Sh) (G : Nat → Pg) (x : Sm) (pl : PlM) (w : World) (h : ShOk w S G x pl) : Does Tryd.prog 20 #[sfV S] w (Grow (.tuple #[.agg (shPlanL x).toArray, .bool (shPlanB x)]) w) := by
  unfold shPlanL shPlanB
  refine Does.enter Tryd.func20 rfl Tryd.ntmps20 rfl rfl ?_
  refine Goes.adv hTT 400 rfl ?_
  refine Goes.alloc hTT rfl ?_
  intro tb w1 e1 htb hw1 hz1
  refine Goes.adv hTT 400 rfl ?_
  have h1 := h.grow hw1
  refine Goes.call rfl (shelf_Open S G x pl w1 h1) ?_
  rintro _ _ ⟨rfl, rfl⟩
  refine Goes.adv hTT 400 rfl ?_
  by_cases ho : 2 ≤ x.opn.length
  · refine Goes.no hTT rfl (decide_eq_false (by omega)) rfl ?_
    rw [if_pos ho, decide_eq_true ho]
    have hlast : ∃ k ∈ x.opn, lastI (-1) x.opn = (k : Int) := by
      rcases lastI_mem (-1) x.opn with ⟨e, _⟩ | ⟨a, ha, e, _⟩
      · rw [e] at ho; simp at ho
      · exact ⟨a, ha, e⟩
    have hhead : ∃ k ∈ x.opn, headI x.opn = (k : Int) := by
      cases hx : x.opn with
      | nil => rw [hx] at ho; simp at ho
      | cons a r => exact ⟨a, by simp, rfl⟩
    obtain ⟨a, ha, ea⟩ := hlast
    obtain ⟨b, hb, eb⟩ := hhead
    obtain ⟨p, hp⟩ := h.ok.osub a ha
    obtain ⟨q, hq⟩ := h.ok.osub b hb
    rw [ea, eb, smGet_of h.ok.nodup hp, smGet_of h.ok.nodup hq]
    simp only [Option.getD_some]
    refine Goes.drawn (q := 10) None' hTT mixed (by kernel_rfl) rfl ?_
    intro hB
    refine Drawn.loadb hTT hB rfl h1.at'.obj (by first | exact fun h => h | (intro h; omega) | assumption) rfl rfl ?_
    refine Drawn.call hTT hB rfl (fun w' hw' => (ring_Last S.R x.opn w' (h1.at'.ring.grow hw')).grow) rfl ?_
    rw [ea]
    refine Drawn.loadb hTT hB rfl h1.at'.obj (by first | exact fun h => h | (intro h; omega) | assumption) rfl rfl ?_
    refine Drawn.call hTT hB rfl (fun w' hw' => (ring_First S.R x.opn w' (h1.at'.ring.grow hw')).grow) rfl ?_
    rw [eb]
    refine Drawn.nil hB ?_
    intro w2 hw2
    refine Goes.adv hTT 400 rfl ?_
    have h2 := h1.grow hw2
    obtain ⟨m, hm, hl⟩ := h2.at'.look a
    obtain ⟨m', hm', hl'⟩ := h2.at'.look b
    rw [smGet_of h.ok.nodup hp] at hl
    rw [smGet_of h.ok.nodup hq] at hl'
    refine Goes.drawn (q := 16) None' hTT mixed (by kernel_rfl) rfl ?_
    intro hB
    refine Drawn.loadb hTT hB rfl h2.at'.obj (by first | exact fun h => h | (intro h; omega) | assumption) rfl rfl ?_
    refine Drawn.lookup hTT hB rfl (hm) (by first | (intro b h; cases h; assumption) | (intro b h hs; cases h; omega)) (hl) rfl ?_
    refine Drawn.call hTT hB rfl (fun w' hw' => (page_Top (G a) p w' ((h2.at'.pages _ hp).grow hw')).grow) rfl ?_
    refine Drawn.loadb hTT hB rfl h2.at'.obj (by first | exact fun h => h | (intro h; omega) | assumption) rfl rfl ?_
    refine Drawn.lookup hTT hB rfl (hm') (by first | (intro b h; cases h; assumption) | (intro b h hs; cases h; omega)) (hl') rfl ?_
    refine Drawn.call hTT hB rfl (fun w' hw' => page_Hole (G b) q w' ((h2.at'.pages _ hq).grow hw')) rfl ?_
    refine Drawn.nil hB ?_
    intro w3 hw3
    refine Goes.adv hTT 400 rfl ?_
    refine Goes.build hTT rfl rfl ?_
    refine Goes.store hTT rfl (hw3.heap' (hw2.heap' htb)) rfl rfl ?_
    intro w4 htb4 hs4 hz4
    refine Goes.adv hTT 400 rfl ?_
    exact Goes.ret hTT rfl Tryd.func20 (ResOk.cell rfl rfl rfl htb4 rfl (.tmp rfl .nil)) ⟨rfl, ((hw1.trans hw2).trans hw3).since hs4 (fun z hz e => by omega)⟩
  · refine Goes.yes hTT rfl (decide_eq_true (by omega)) rfl ?_
    rw [if_neg ho, decide_eq_false ho]
    refine Goes.build hTT rfl rfl ?_
    refine Goes.store hTT rfl htb rfl rfl ?_
    intro w2 htb2 hs2 hz2
    refine Goes.adv hTT 400 rfl ?_
    exact Goes.ret hTT rfl Tryd.func20 (ResOk.cell rfl rfl rfl htb2 rfl (.tmp rfl .nil)) ⟨rfl, hw1.since hs2 (fun z hz e => by omega)⟩
def newSm (cls : Int) (blocks : Nat) : Sm := ⟨cls, blocks, [], []⟩
theorem shelf_New_nopool (cls m : Int) (w : World) (ht : TabAt w) : Does Tryd.prog 11 #[.pointer none, .int .i64 cls, .int .i64 m] w (Grow (.tuple #[.pointer none, .int .i64 1]) w) := by
  refine Does.enter Tryd.func11 rfl Tryd.ntmps11 rfl rfl ?_
  refine Goes.adv hTT 400 rfl ?_
  by_cases hm : 1 ≤ m ∧ m ≤ 512
  · obtain ⟨k, rfl⟩ := Int.eq_ofNat_of_zero_le (show 0 ≤ m by omega)
    refine Goes.call rfl (page_New k w ht (by omega)) ?_
    rintro _ w1 ⟨g, rfl, _, _, hw1⟩
    refine Goes.adv hTT 400 rfl ?_
    exact Goes.ret2 hTT rfl Tryd.func11 rfl rfl rfl ⟨rfl, hw1⟩
  · refine Goes.call rfl (page_New_no m w hm) ?_
    rintro _ _ ⟨rfl, rfl⟩
    refine Goes.adv hTT 400 rfl ?_
    exact Goes.ret2 hTT rfl Tryd.func11 rfl rfl rfl ⟨rfl, Chg.refl _ _⟩
theorem shelf_New_no (P : Pl) (cls m : Int) (w : World) (ht : TabAt w) (h : cls < 0 ∨ ¬ (1 ≤ m ∧ m ≤ 512)) : Does Tryd.prog 11 #[plV P, .int .i64 cls, .int .i64 m] w (Grow (.tuple #[.pointer none, .int .i64 1]) w) := by
  refine Does.enter Tryd.func11 rfl Tryd.ntmps11 rfl rfl ?_
  refine Goes.adv hTT 400 rfl ?_
  by_cases hm : 1 ≤ m ∧ m ≤ 512
  · obtain ⟨k, rfl⟩ := Int.eq_ofNat_of_zero_le (show 0 ≤ m by omega)
    refine Goes.call rfl (page_New k w ht (by omega)) ?_
    rintro _ w1 ⟨g, rfl, _, _, hw1⟩
    refine Goes.adv hTT 400 rfl ?_
    refine Goes.yes hTT rfl (decide_eq_true (show cls < 0 by rcases h with h | h; exact h; exact absurd hm h)) rfl ?_
    exact Goes.ret2 hTT rfl Tryd.func11 rfl rfl rfl ⟨rfl, hw1⟩
  · refine Goes.call rfl (page_New_no m w hm) ?_
    rintro _ _ ⟨rfl, rfl⟩
    refine Goes.adv hTT 400 rfl ?_
    refine Goes.fork hTT rfl rfl rfl (fun hc => ?_) (fun hc => ?_)
    · exact Goes.ret2 hTT rfl Tryd.func11 rfl rfl rfl ⟨rfl, Chg.refl _ _⟩
    · refine Goes.yes hTT rfl rfl rfl ?_
      exact Goes.ret2 hTT rfl Tryd.func11 rfl rfl rfl ⟨rfl, Chg.refl _ _⟩
theorem shelf_New (P : Pl) (pl : PlM) (cls : Int) (k : Nat) (w : World) (ht : TabAt w) (hc : 0 ≤ cls) (hk : 1 ≤ k ∧ k ≤ 512) (hP : PoolOk w P pl) : Does Tryd.prog 11 #[plV P, .int .i64 cls, .int .i64 k] w
    (fun v w' => ∃ S, S.P = P ∧ v = .tuple #[sfV S, .int .i64 0] ∧ (∀ G z, shFoot S G [] z → w.heap.size ≤ z) ∧ (∀ G, ShOk w' S G (newSm cls k) pl) ∧ Chg None' w w') := by
  refine Does.enter Tryd.func11 rfl Tryd.ntmps11 rfl rfl ?_
  refine Goes.adv hTT 400 rfl ?_
  refine Goes.call rfl (page_New k w ht hk) ?_
  rintro _ w1 ⟨g, rfl, _, _, hw1⟩
  refine Goes.adv hTT 400 rfl ?_
  refine Goes.no hTT rfl (decide_eq_false (by omega)) rfl ?_
  refine Goes.no hTT rfl rfl rfl ?_
  refine Goes.call rfl (ring_New w1) ?_
  rintro _ w2 ⟨R, rfl, ⟨hb1, hb2, hb3⟩, hR, hw2⟩
  refine Goes.adv hTT 400 rfl ?_
  refine Goes.mkmap rfl ?_
  intro sm w3 e3 hm3 hw3 hz3
  refine Goes.adv hTT 400 rfl ?_
  refine Goes.build hTT rfl rfl ?_
  refine Goes.alloc hTT rfl ?_
  intro sb w4 e4 hsb hw4 hz4
  refine Goes.adv hTT 400 rfl ?_
  have hw04 := ((hw1.trans hw2).trans hw3).trans hw4
  have hs1 := hw1.size
  have hs2 := hw2.size
  have hs3 := hw3.size
  replace hsb : w4.heap[sb]? = some (.cells (shL ⟨sb, sm, R, P⟩ cls k 0).toArray 73 (0, 0)) := hsb
  exact Goes.ret2 hTT rfl Tryd.func11 rfl rfl rfl ⟨⟨sb, sm, R, P⟩, rfl, rfl, (fun G z hz => by
    rcases hz with h | h | (h | h) | ⟨e, he, _⟩
    · have : z = sb := h; omega
    · have : z = sm := h; omega
    · have : z = R.ab := h; omega
    · have : z = R.nb := h; omega
    · cases he), fun G => ⟨⟨List.nodup_nil, hc, hk, (fun e he => by cases he), List.nodup_nil, (fun e he => by cases he)⟩, (fun e he => by cases he), (fun e he => by cases he), ⟨List.nodup_nil, fun j hj => hw04.cell (ht j hj) id, hsb, ⟨[], hm3.chg hw4 id, List.nodup_nil, rfl, (fun e he => by cases he), fun _ _ => rfl⟩, (hR.grow hw3).grow hw4, (fun e he => by cases he), (fun e he => by cases he)⟩, hP.grow hw04⟩, hw04⟩
end Go.Proofs.YtdmedllaackbaaaDoor
/-
  Layer 13: a shelf's state, and the blocks that it has.
-/
namespace Go.Proofs.YtdmedllaackbaaaDoor
open Go.RowKit

def growF (F : Nat → Prop) (w w' : World) : Nat → Prop := fun z => F z ∨ (w.heap.size ≤ z ∧ z < w'.heap.size)
def ShSt (F : Nat → Prop) (w : World) (S : Sh) (x : Sm) (pl : PlM) : Prop := ∃ G, ShOk w S G x pl ∧ ∀ z, allFoot S G x.pg z → F z
theorem ShSt.grow {F : Nat → Prop} {w w' : World} {S : Sh} {x : Sm} {pl : PlM} (h : ShSt F w S x pl) (hc : Chg None' w w') : ShSt F w' S x pl := by
  obtain ⟨G, a, b⟩ := h
  exact ⟨G, a.grow hc, b⟩
theorem ShOk.foot_lt {w : World} {S : Sh} {G : Nat → Pg} {x : Sm} {pl : PlM} (h : ShOk w S G x pl) : ∀ z, allFoot S G x.pg z → z < w.heap.size := fun z hz => by
  rcases hz with hz | hz | hz
  · exact h.at'.foot_lt z hz
  · have : z = S.P.pb := hz; have := h.pool.lt; omega
  · have : z = S.P.ab := hz; have := h.pool.lt; omega
theorem st_Take {F : Nat → Prop} {w : World} {S : Sh} {x : Sm} {pl : PlM} (who : Int) (h : ShSt F w S x pl) : Does Tryd.prog 13 #[sfV S, .int .i64 who] w
    (fun v w' => v = .tuple #[.int .i64 (shTakeN x pl who), .int .i64 (shTakeA x pl who), .int .i64 (shTakeE x pl who)] ∧ ShSt (growF F w w') w' S (shTake x pl who) (shTakeP x pl who) ∧ Chg F w w') := by
  obtain ⟨G, a, b⟩ := h
  refine (shelf_Take S G x pl who w a).mono fun v w' ⟨h1, G', h2, h3, h4⟩ => ⟨h1, ⟨G', h2, fun z hz => ?_⟩, h3.mono fun z _ h => b z h⟩
  have hl := h2.foot_lt z hz
  rcases hz with hz | hz
  · rcases h4 z hz with h | h
    · exact .inl (b z (.inl h))
    · exact .inr ⟨h, hl⟩
  · exact .inl (b z (.inr hz))
theorem st_Give {F : Nat → Prop} {w : World} {S : Sh} {x : Sm} {pl : PlM} (n i : Int) (h : ShSt F w S x pl) : Does Tryd.prog 22 #[sfV S, .int .i64 n, .int .i64 i] w
    (fun v w' => v = .int .i64 (shGiveE x n i) ∧ ShSt F w' S (shGive x n i) (shGiveP x pl n i) ∧ Chg F w w') := by
  obtain ⟨G, a, b⟩ := h
  refine (shelf_Give S G x pl n i w a).mono fun v w' ⟨h1, h2, h3, h4⟩ => ⟨h1, ⟨G, h2, fun z hz => ?_⟩, h3.mono fun z _ h => b z h⟩
  rcases hz with hz | hz
  · exact b z (.inl (h4 z hz))
  · exact b z (.inr hz)
theorem st_Own {F : Nat → Prop} {w : World} {S : Sh} {x : Sm} {pl : PlM} (n i who : Int) (h : ShSt F w S x pl) : Does Tryd.prog 23 #[sfV S, .int .i64 n, .int .i64 i, .int .i64 who] w
    (fun v w' => v = .int .i64 (shOwnE x n i who) ∧ ShSt F w' S (shOwn x n i who) pl ∧ Chg F w w') := by
  obtain ⟨G, a, b⟩ := h
  refine (shelf_Own S G x pl n i who w a).mono fun v w' ⟨h1, h2, h3, h4⟩ => ⟨h1, ⟨G, h2, fun z hz => ?_⟩, h3.mono fun z _ h => b z h⟩
  rcases hz with hz | hz
  · exact b z (.inl (h4 z hz))
  · exact b z (.inr hz)
theorem st_Owner {F : Nat → Prop} {w : World} {S : Sh} {x : Sm} {pl : PlM} (n i : Int) (h : ShSt F w S x pl) : Does Tryd.prog 21 #[sfV S, .int .i64 n, .int .i64 i] w (Same (.int .i64 (shOwner x n i)) w) := by
  obtain ⟨G, a, _⟩ := h
  exact shelf_Owner S G x pl n i w a
theorem st_Pages {F : Nat → Prop} {w : World} {S : Sh} {x : Sm} {pl : PlM} (h : ShSt F w S x pl) : Does Tryd.prog 18 #[sfV S] w (Same (.int .i64 (x.pg.length : Nat)) w) := by
  obtain ⟨G, a, _⟩ := h
  exact shelf_Pages S G x pl w a
theorem st_Open {F : Nat → Prop} {w : World} {S : Sh} {x : Sm} {pl : PlM} (h : ShSt F w S x pl) : Does Tryd.prog 15 #[sfV S] w (Same (.int .i64 (x.opn.length : Nat)) w) := by
  obtain ⟨G, a, _⟩ := h
  exact shelf_Open S G x pl w a
theorem st_Used {F : Nat → Prop} {w : World} {S : Sh} {x : Sm} {pl : PlM} (h : ShSt F w S x pl) : Does Tryd.prog 17 #[sfV S] w (Same (.int .i64 (smUsed x.pg : Nat)) w) := by
  obtain ⟨G, a, _⟩ := h
  exact shelf_Used S G x pl w a
theorem st_Plan {F : Nat → Prop} {w : World} {S : Sh} {x : Sm} {pl : PlM} (h : ShSt F w S x pl) : Does Tryd.prog 20 #[sfV S] w (Grow (.tuple #[.agg (shPlanL x).toArray, .bool (shPlanB x)]) w) := by
  obtain ⟨G, a, _⟩ := h
  exact shelf_Plan S G x pl w a
theorem ShSt.pool {F : Nat → Prop} {w : World} {S : Sh} {x : Sm} {pl : PlM} (h : ShSt F w S x pl) : PoolOk w S.P pl := by
  obtain ⟨G, a, _⟩ := h
  exact a.pool
theorem ShSt.tab {F : Nat → Prop} {w : World} {S : Sh} {x : Sm} {pl : PlM} (h : ShSt F w S x pl) : TabAt w := by
  obtain ⟨G, a, _⟩ := h
  exact a.at'.tab
/-- A new pool, and a shelf on it. -/
theorem growF_new {F : Nat → Prop} {w0 w w' : World} (h : ∀ z, F z → w0.heap.size ≤ z) (hw : w0.heap.size ≤ w.heap.size) : ∀ z, growF F w w' z → w0.heap.size ≤ z := fun z hz => by
  rcases hz with hz | hz
  · exact h z hz
  · omega
theorem st_New {P : Pl} {pl : PlM} {cls : Int} {k : Nat} {w0 w : World} (ht : TabAt w) (hc : 0 ≤ cls) (hk : 1 ≤ k ∧ k ≤ 512) (hP : PoolOk w P pl) (hPn : w0.heap.size ≤ P.pb ∧ w0.heap.size ≤ P.ab) (hw : w0.heap.size ≤ w.heap.size) :
    Does Tryd.prog 11 #[plV P, .int .i64 cls, .int .i64 k] w (fun v w' => ∃ S F, S.P = P ∧ v = .tuple #[sfV S, .int .i64 0] ∧ ShSt F w' S (newSm cls k) pl ∧ (∀ z, F z → w0.heap.size ≤ z ∧ z < w'.heap.size) ∧ Chg None' w w') := by
  refine (shelf_New P pl cls k w ht hc hk hP).mono fun v w' ⟨S, h1, h2, h3, h4, h5⟩ => ⟨S, allFoot S (fun _ => ⟨0, 0, 0⟩) [], h1, h2, ⟨_, h4 _, fun z hz => hz⟩, fun z hz => ⟨?_, (h4 _).foot_lt z hz⟩, h5⟩
  rcases hz with hz | hz | hz
  · have := h3 _ z hz; omega
  · rw [h1] at hz; have : z = P.pb := hz; omega
  · rw [h1] at hz; have : z = P.ab := hz; omega
end Go.Proofs.YtdmedllaackbaaaDoor
/-
  == of two plans.
-/
namespace Go.Proofs.YtdmedllaackbaaaDoor
open Go.RowKit

theorem eq_plan (a b c d a' b' c' d' : Int) (w : World) : (Op.equalIn 10000 44 (.agg #[.int .i64 a, .int .i64 b, .int .i64 c, .int .i64 d]) (.agg #[.int .i64 a', .int .i64 b', .int .i64 c', .int .i64 d'])).run Tryd.prog w = .ok (a == a' && (b == b' && (c == c' && d == d'))) w := by
  have u3 := Tryd.underlying3
  have a3 := Tryd.isAgg3
  have z3 := Tryd.sizeOf3
  have hS : Tryd.prog.underlying 44 = some (.struct (Tryd.prog.fieldsOf 44)) := by kernel_rfl
  have hp : Tryd.prog.stoodInHeld 44 = false := by kernel_rfl
  rw [show (10000 : Nat) = 9999 + 1 from rfl, run_equalIn_agg w 9999 44 _ _ hS hp]
  simp only [Program.fieldsOf, Tryd.underlying44]
  go_simp
  by_cases h1 : a = a' <;> by_cases h2 : b = b' <;> by_cases h3 : c = c' <;> by_cases h4 : d = d' <;> simp [h1, h2, h3, h4]
end Go.Proofs.YtdmedllaackbaaaDoor
/-
  Layer 13: the layer answers; of a shelf that is nil nothing is told.
-/
namespace Go.Proofs.YtdmedllaackbaaaDoor
open Go.RowKit

set_option maxRecDepth 100000 in
theorem law13_awake (w : World) (ht : TabAt w) : Does Tryd.prog 9 #[] w (Grow (.bool true) w) := by
  refine Does.enter Tryd.func9 rfl Tryd.ntmps9 rfl rfl ?_
  refine Goes.adv hTT 400 rfl ?_
  refine Goes.call rfl (pool_New 2 w (by decide)) ?_
  rintro _ w1 ⟨P, rfl, hPn, hP, hw1⟩
  refine Goes.adv hTT 400 rfl ?_
  have ht1 : TabAt w1 := fun j hj => hw1.cell (ht j hj) id
  refine Goes.call rfl (st_New (w0 := w) (k := 2) (cls := 5) ht1 (by decide) (by decide) hP hPn hw1.size) ?_
  rintro _ w2 ⟨S, F, hSP, rfl, h2, hF2, hw2⟩
  refine Goes.adv hTT 400 rfl ?_
  have hw02 := hw1.trans hw2
  have d3 := st_Take 7 h2
  rw [show shTakeN (newSm 5 2) (plNew 2) 7 = 0 from rfl, show shTakeA (newSm 5 2) (plNew 2) 7 = 0 from rfl, show shTakeE (newSm 5 2) (plNew 2) 7 = 0 from rfl, show shTake (newSm 5 2) (plNew 2) 7 = ⟨5, 2, [(0, [7, -1])], [0]⟩ from rfl, show shTakeP (newSm 5 2) (plNew 2) 7 = ⟨[5, -1], [1]⟩ from rfl] at d3
  refine Goes.call rfl (d3) ?_
  rintro _ w3 ⟨rfl, h3, hc3⟩
  refine Goes.adv hTT 400 rfl ?_
  have hF3 : ∀ z, growF F w2 w3 z → w.heap.size ≤ z := growF_new (fun z hz => (hF2 z hz).1) hw02.size
  have hw03 : Chg None' w w3 := hw02.since hc3 (fun z hz h => by have := hF2 z h; omega)
  have d4 := st_Take 8 h3
  rw [show shTakeN ⟨5, 2, [(0, [7, -1])], [0]⟩ ⟨[5, -1], [1]⟩ 8 = 0 from rfl, show shTakeA ⟨5, 2, [(0, [7, -1])], [0]⟩ ⟨[5, -1], [1]⟩ 8 = 1 from rfl, show shTakeE ⟨5, 2, [(0, [7, -1])], [0]⟩ ⟨[5, -1], [1]⟩ 8 = 0 from rfl, show shTake ⟨5, 2, [(0, [7, -1])], [0]⟩ ⟨[5, -1], [1]⟩ 8 = ⟨5, 2, [(0, [7, 8])], []⟩ from rfl, show shTakeP ⟨5, 2, [(0, [7, -1])], [0]⟩ ⟨[5, -1], [1]⟩ 8 = ⟨[5, -1], [1]⟩ from rfl] at d4
  refine Goes.call rfl (d4) ?_
  rintro _ w4 ⟨rfl, h4, hc4⟩
  refine Goes.adv hTT 400 rfl ?_
  have hF4 : ∀ z, growF _ w3 w4 z → w.heap.size ≤ z := growF_new hF3 hw03.size
  have hw04 : Chg None' w w4 := hw03.since hc4 (fun z hz h => by have := hF3 z h; omega)
  have d5 := st_Take 9 h4
  rw [show shTakeN ⟨5, 2, [(0, [7, 8])], []⟩ ⟨[5, -1], [1]⟩ 9 = 1 from rfl, show shTakeA ⟨5, 2, [(0, [7, 8])], []⟩ ⟨[5, -1], [1]⟩ 9 = 0 from rfl, show shTakeE ⟨5, 2, [(0, [7, 8])], []⟩ ⟨[5, -1], [1]⟩ 9 = 0 from rfl, show shTake ⟨5, 2, [(0, [7, 8])], []⟩ ⟨[5, -1], [1]⟩ 9 = ⟨5, 2, [(0, [7, 8]), (1, [9, -1])], [1]⟩ from rfl, show shTakeP ⟨5, 2, [(0, [7, 8])], []⟩ ⟨[5, -1], [1]⟩ 9 = ⟨[5, 5], []⟩ from rfl] at d5
  refine Goes.call rfl (d5) ?_
  rintro _ w5 ⟨rfl, h5, hc5⟩
  refine Goes.adv hTT 400 rfl ?_
  have hF5 : ∀ z, growF _ w4 w5 z → w.heap.size ≤ z := growF_new hF4 hw04.size
  have hw05 : Chg None' w w5 := hw04.since hc5 (fun z hz h => by have := hF4 z h; omega)
  have d6 := st_Give 0 1 h5
  rw [show shGiveE ⟨5, 2, [(0, [7, 8]), (1, [9, -1])], [1]⟩ 0 1 = 0 from rfl, show shGive ⟨5, 2, [(0, [7, 8]), (1, [9, -1])], [1]⟩ 0 1 = ⟨5, 2, [(0, [7, -1]), (1, [9, -1])], [0, 1]⟩ from rfl, show shGiveP ⟨5, 2, [(0, [7, 8]), (1, [9, -1])], [1]⟩ ⟨[5, 5], []⟩ 0 1 = ⟨[5, 5], []⟩ from rfl] at d6
  refine Goes.call rfl (d6) ?_
  rintro _ w6 ⟨rfl, h6, hc6⟩
  refine Goes.adv hTT 400 rfl ?_
  have hw06 : Chg None' w w6 := hw05.since hc6 (fun z hz h => by have := hF5 z h; omega)
  have d7 := st_Plan h6
  rw [show shPlanL ⟨5, 2, [(0, [7, -1]), (1, [9, -1])], [0, 1]⟩ = planL 1 0 0 1 from rfl, show shPlanB ⟨5, 2, [(0, [7, -1]), (1, [9, -1])], [0, 1]⟩ = true from rfl] at d7
  refine Goes.call rfl (d7) ?_
  rintro _ w7 ⟨rfl, hw7⟩
  refine Goes.adv hTT 400 rfl ?_
  refine Goes.alloc hTT rfl ?_
  intro tb w8 e8 htb hw8 hz8
  refine Goes.adv hTT 400 rfl ?_
  refine Goes.store hTT rfl htb rfl rfl ?_
  intro w9 htb9 hs9 hz9
  refine Goes.adv hTT 400 rfl ?_
  have hs6 := hw06.size
  have hs7 := hw7.size
  have hc69 : Chg None' w6 w9 := (hw7.trans hw8).since hs9 (fun z hz e => by omega)
  have hw09 := hw06.trans hc69
  have ht9 : TabAt w9 := fun j hj => hw09.cell (ht j hj) id
  have h9 := h6.grow hc69
  refine Goes.call rfl (shelf_New_nopool 5 2 w9 ht9) ?_
  rintro _ w10 ⟨rfl, hw10⟩
  refine Goes.adv hTT 400 rfl ?_
  have hw010 := hw09.trans hw10
  have h10 := h9.grow hw10
  have htb10 := hw10.heap' htb9
  refine Goes.yes hTT rfl rfl rfl ?_
  refine Goes.yes hTT rfl rfl rfl ?_
  refine Goes.yes hTT rfl rfl rfl ?_
  refine Goes.yes hTT rfl rfl rfl ?_
  refine Goes.yes hTT rfl rfl rfl ?_
  refine Goes.yes hTT rfl rfl rfl ?_
  refine Goes.loads hTT rfl htb10 rfl rfl ?_
  refine Goes.build hTT rfl rfl ?_
  refine Goes.aggeq hTT rfl (by kernel_rfl) (eq_plan 1 0 0 1 1 0 0 1 _) rfl ?_
  refine Goes.yes hTT rfl rfl rfl ?_
  refine Goes.yes hTT rfl rfl rfl ?_
  refine Goes.call rfl (st_Pages h10) ?_
  rintro _ _ ⟨rfl, rfl⟩
  refine Goes.adv hTT 400 rfl ?_
  refine Goes.yes hTT rfl rfl rfl ?_
  refine Goes.call rfl (st_Open h10) ?_
  rintro _ _ ⟨rfl, rfl⟩
  refine Goes.adv hTT 400 rfl ?_
  refine Goes.yes hTT rfl rfl rfl ?_
  refine Goes.call rfl (st_Used h10) ?_
  rintro _ _ ⟨rfl, rfl⟩
  refine Goes.adv hTT 400 rfl ?_
  refine Goes.yes hTT rfl rfl rfl ?_
  refine Goes.call rfl (st_Owner 1 0 h10) ?_
  rintro _ _ ⟨rfl, rfl⟩
  refine Goes.adv hTT 400 rfl ?_
  refine Goes.yes hTT rfl rfl rfl ?_
  have hP10 := h10.pool
  rw [hSP] at hP10
  refine Goes.call rfl (pool_Owner P _ 1 w10 hP10) ?_
  rintro _ _ ⟨rfl, rfl⟩
  refine Goes.adv hTT 400 rfl ?_
  refine Goes.yes hTT rfl rfl rfl ?_
  refine Goes.call rfl (pool_Held P _ w10 hP10) ?_
  rintro _ _ ⟨rfl, rfl⟩
  refine Goes.adv hTT 400 rfl ?_
  exact Goes.ret1 hTT rfl Tryd.func9 rfl rfl ⟨rfl, hw010⟩
theorem law_ShelfNobody (n i : Int) (w : World) (ht : TabAt w) : Does Tryd.prog 6 #[.int .i64 n, .int .i64 i] w (Grow (.bool true) w) := by
  refine Does.enter Tryd.func6 rfl Tryd.ntmps6 rfl rfl ?_
  refine Goes.adv hTT 400 rfl ?_
  refine Goes.call rfl (law13_awake w ht) ?_
  rintro _ w1 ⟨rfl, hw1⟩
  refine Goes.adv hTT 400 rfl ?_
  refine Goes.call rfl (shelf_Take_nil 1 w1) ?_
  rintro _ _ ⟨rfl, rfl⟩
  refine Goes.adv hTT 400 rfl ?_
  refine Goes.call rfl (shelf_Plan_nil w1) ?_
  rintro _ w2 ⟨rfl, hw2⟩
  refine Goes.adv hTT 400 rfl ?_
  refine Goes.alloc hTT rfl ?_
  intro tb w3 e3 htb hw3 hz3
  refine Goes.adv hTT 400 rfl ?_
  refine Goes.store hTT rfl htb rfl rfl ?_
  intro w4 htb4 hs4 hz4
  refine Goes.adv hTT 400 rfl ?_
  have hs1 := hw1.size
  have hs2 := hw2.size
  have hw04 : Chg None' w w4 := ((hw1.trans hw2).trans hw3).since hs4 (fun z hz e => by omega)
  refine Goes.yes hTT rfl rfl rfl ?_
  refine Goes.yes hTT rfl rfl rfl ?_
  refine Goes.yes hTT rfl rfl rfl ?_
  refine Goes.call rfl (shelf_Give_nil n i w4) ?_
  rintro _ _ ⟨rfl, rfl⟩
  refine Goes.adv hTT 400 rfl ?_
  refine Goes.yes hTT rfl rfl rfl ?_
  refine Goes.call rfl (shelf_Own_nil n i 1 w4) ?_
  rintro _ _ ⟨rfl, rfl⟩
  refine Goes.adv hTT 400 rfl ?_
  refine Goes.yes hTT rfl rfl rfl ?_
  refine Goes.call rfl (shelf_Owner_nil n i w4) ?_
  rintro _ _ ⟨rfl, rfl⟩
  refine Goes.adv hTT 400 rfl ?_
  refine Goes.yes hTT rfl rfl rfl ?_
  refine Goes.call rfl (shelf_Pages_nil w4) ?_
  rintro _ _ ⟨rfl, rfl⟩
  refine Goes.adv hTT 400 rfl ?_
  refine Goes.yes hTT rfl rfl rfl ?_
  refine Goes.call rfl (shelf_Open_nil w4) ?_
  rintro _ _ ⟨rfl, rfl⟩
  refine Goes.adv hTT 400 rfl ?_
  refine Goes.yes hTT rfl rfl rfl ?_
  refine Goes.call rfl (shelf_Used_nil w4) ?_
  rintro _ _ ⟨rfl, rfl⟩
  refine Goes.adv hTT 400 rfl ?_
  exact Goes.ret1 hTT rfl Tryd.func6 rfl rfl ⟨rfl, hw04⟩
theorem law_ShelfNew (cls m : Int) (w : World) (ht : TabAt w) : Does Tryd.prog 3 #[.int .i64 cls, .int .i64 m] w (Grow (.bool true) w) := by
  refine Does.enter Tryd.func3 rfl Tryd.ntmps3 rfl rfl ?_
  refine Goes.adv hTT 400 rfl ?_
  refine Goes.call rfl (law13_awake w ht) ?_
  rintro _ w1 ⟨rfl, hw1⟩
  refine Goes.adv hTT 400 rfl ?_
  refine Goes.call rfl (pool_New 2 w1 (by decide)) ?_
  rintro _ w2 ⟨P, rfl, hPn, hP, hw2⟩
  refine Goes.adv hTT 400 rfl ?_
  have hw02 := hw1.trans hw2
  have ht2 : TabAt w2 := fun j hj => hw02.cell (ht j hj) id
  by_cases hm : 1 ≤ m ∧ m ≤ 512
  · obtain ⟨k, rfl⟩ := Int.eq_ofNat_of_zero_le (show 0 ≤ m by omega)
    have hk : 1 ≤ k ∧ k ≤ 512 := by omega
    by_cases hc : cls < 0
    · refine Goes.call rfl (shelf_New_no P cls k w2 ht2 (.inl hc)) ?_
      rintro _ w3 ⟨rfl, hw3⟩
      refine Goes.adv hTT 400 rfl ?_
      refine Goes.call rfl (ref12_New k w3 hk) ?_
      rintro _ w4 ⟨l, rfl, _, _, hw4, _⟩
      refine Goes.adv hTT 400 rfl ?_
      refine Goes.yes hTT rfl (decide_eq_true hc) rfl ?_
      refine Goes.yes hTT rfl rfl rfl ?_
      refine Goes.yes hTT rfl rfl rfl ?_
      exact Goes.ret1 hTT rfl Tryd.func3 rfl rfl ⟨rfl, (hw02.trans hw3).trans hw4⟩
    · have hc0 : 0 ≤ cls := by omega
      refine Goes.call rfl (st_New (w0 := w) (k := k) (cls := cls) ht2 hc0 hk hP ⟨by have := hw1.size; omega, by have := hw1.size; omega⟩ hw02.size) ?_
      rintro _ w3 ⟨S, F, hSP, rfl, h3, hF3, hw3⟩
      refine Goes.adv hTT 400 rfl ?_
      refine Goes.call rfl (ref12_New k w3 hk) ?_
      rintro _ w4 ⟨l, rfl, _, _, hw4, _⟩
      refine Goes.adv hTT 400 rfl ?_
      have hw04 := (hw02.trans hw3).trans hw4
      refine Goes.no hTT rfl (decide_eq_false hc) rfl ?_
      refine Goes.no hTT rfl rfl rfl ?_
      have hrl : (List.replicate k (-1 : Int)).length = k := List.length_replicate
      have hnf : pgUsed (List.replicate k (-1 : Int)) ≠ (List.replicate k (-1 : Int)).length := by rw [pgUsed_new, hrl]; omega
      obtain ⟨hpe, hpu⟩ := pgTake_ok (who := 4) (by decide) hnf
      rw [pgUsed_new] at hpu
      have hh0 : pgHole (List.replicate k (-1 : Int)) = 0 := by
        obtain ⟨j, rfl⟩ : ∃ j, k = j + 1 := ⟨k - 1, by omega⟩
        rfl
      have eE : shTakeE (newSm cls k) (plNew 2) 4 = 0 := rfl
      have eP : shP (newSm cls k) (plNew 2) = List.replicate k (-1) := rfl
      have eN : shTakeN (newSm cls k) (plNew 2) 4 = 0 := rfl
      have eA : shTakeA (newSm cls k) (plNew 2) 4 = 0 := by unfold shTakeA; rw [if_pos eE, eP, hh0]
      have d5 := st_Take 4 (h3.grow hw4)
      rw [eE, eN, eA] at d5
      refine Goes.call rfl (d5) ?_
      rintro _ w5 ⟨rfl, h5, hc5⟩
      refine Goes.adv hTT 400 rfl ?_
      have hw05 : Chg None' w w5 := hw04.since hc5 (fun z hz h => by have := hF3 z h; omega)
      refine Goes.yes hTT rfl rfl rfl ?_
      refine Goes.yes hTT rfl rfl rfl ?_
      refine Goes.yes hTT rfl rfl rfl ?_
      refine Goes.yes hTT rfl rfl rfl ?_
      refine Goes.yes hTT rfl rfl rfl ?_
      have hP5 := h5.pool
      rw [hSP] at hP5
      have eT : shTakeP (newSm cls k) (plNew 2) 4 = ⟨[cls, -1], [1]⟩ := rfl
      rw [eT] at hP5
      refine Goes.call rfl (pool_Owner P _ 0 w5 hP5) ?_
      rintro _ _ ⟨rfl, rfl⟩
      refine Goes.adv hTT 400 rfl ?_
      refine Goes.yes hTT rfl (show (pgOwn [cls, -1] 0 == cls) = true by simp [pgOwn]) rfl ?_
      refine Goes.call rfl (st_Open h5) ?_
      rintro _ _ ⟨rfl, rfl⟩
      refine Goes.adv hTT 400 rfl ?_
      refine Goes.arith hTT rfl (w64 (by omega)) rfl ?_
      have eO : ((shTake (newSm cls k) (plNew 2) 4).opn.length : Int) = if (1 : Int) < (k : Int) - 1 then 1 else (k : Int) - 1 := by
        have e1 : (shTake (newSm cls k) (plNew 2) 4).opn = if pgUsed (pgTake (List.replicate k (-1)) 4) = k then ([0] : List Nat).filter (fun m => m != 0) else [0] := rfl
        rw [e1, hpu]
        by_cases hk1 : k = 1
        · subst hk1; rfl
        · rw [if_neg (by omega)]
          split <;> simp <;> omega
      exact Goes.ret1 hTT rfl Tryd.func3 rfl rfl ⟨bool_v (by rw [eO]; exact beq_self_eq_true _), hw05⟩
  · refine Goes.call rfl (shelf_New_no P cls m w2 ht2 (.inr hm)) ?_
    rintro _ w3 ⟨rfl, hw3⟩
    refine Goes.adv hTT 400 rfl ?_
    refine Goes.call rfl (ref12_New_no m w3 hm) ?_
    rintro _ _ ⟨rfl, rfl⟩
    refine Goes.adv hTT 400 rfl ?_
    refine Goes.fork hTT rfl rfl rfl (fun hc => ?_) (fun hc => ?_)
    · refine Goes.yes hTT rfl rfl rfl ?_
      refine Goes.yes hTT rfl rfl rfl ?_
      exact Goes.ret1 hTT rfl Tryd.func3 rfl rfl ⟨rfl, hw02.trans hw3⟩
    · refine Goes.yes hTT rfl rfl rfl ?_
      refine Goes.yes hTT rfl rfl rfl ?_
      refine Goes.yes hTT rfl rfl rfl ?_
      exact Goes.ret1 hTT rfl Tryd.func3 rfl rfl ⟨rfl, hw02.trans hw3⟩
end Go.Proofs.YtdmedllaackbaaaDoor
