/-
  Texts put together: Shelf4, Shelf5, Shst, PlanEq, RowsD, Ref12, Laws13.
-/
import Derived.Test.YtdmedllaackbaaaDoorPt1
import Derived.Test.YtdmedllaackbaaaDoorRule8
import Derived.Test.YtdmedllaackbaaaDoorRule14
import Derived.Tactics
import Derived.Tactics2
import Derived.Test.YtdmedllaackbaaaDoorRule9
import Derived.Test.YtdmedllaackbaaaDoorRule6
set_option linter.unusedVariables false
/-
  Layer 13: a shelf: what is told; a block that is given back, or handed on.
-/
namespace Go.Proofs.YtdmedllaackbaaaDoor
open Go.RowKit

def ptrG (G : Nat → Pg) (n : Int) (o : Option (List Int)) : Value := match o with
  | some _ => pgV (G n.toNat)
  | none => .pointer none
theorem shelf_page (S : Sh) (G : Nat → Pg) (x : Sm) (pl : PlM) (n : Int) (w : World) (h : ShOk w S G x pl) : Does Tryd.prog 44 #[sfV S, .int .i64 n] w (Same (ptrG G n (smGet x.pg n)) w) := by
  obtain ⟨m, hm, hl⟩ := h.at'.look n
  refine Does.enter Tryd.func44 rfl Tryd.ntmps44 rfl rfl ?_
  refine Goes.adv hTT 400 rfl ?_
  refine Goes.loadb hTT rfl h.at'.obj rfl rfl ?_
  refine Goes.lookup hTT rfl (hm) ((hl.trans (show _ = ptrG G n (smGet x.pg n) from by unfold ptrG; cases smGet x.pg n <;> rfl))) rfl ?_
  exact Goes.ret1 hTT rfl Tryd.func44 rfl rfl ⟨rfl, rfl⟩
theorem shelf_page_nil (n : Int) (w : World) : Does Tryd.prog 44 #[.pointer none, .int .i64 n] w (Same (.pointer none) w) := by
  refine Does.enter Tryd.func44 rfl Tryd.ntmps44 rfl rfl ?_
  refine Goes.adv hTT 400 rfl ?_
  exact Goes.ret1 hTT rfl Tryd.func44 rfl rfl ⟨rfl, rfl⟩
def shOwner (x : Sm) (n i : Int) : Int := match smGet x.pg n with
  | some p => pgOwn p i
  | none => -1
theorem shelf_Owner (S : Sh) (G : Nat → Pg) (x : Sm) (pl : PlM) (n i : Int) (w : World) (h : ShOk w S G x pl) : Does Tryd.prog 21 #[sfV S, .int .i64 n, .int .i64 i] w (Same (.int .i64 (shOwner x n i)) w) := by
  unfold shOwner
  refine Does.enter Tryd.func21 rfl Tryd.ntmps21 rfl rfl ?_
  refine Goes.adv hTT 400 rfl ?_
  refine Goes.call rfl (shelf_page S G x pl n w h) ?_
  rintro _ _ ⟨rfl, rfl⟩
  refine Goes.adv hTT 400 rfl ?_
  cases hg : smGet x.pg n with
  | none =>
    refine Goes.call rfl (page_Owner_nil i w) ?_
    rintro _ _ ⟨rfl, rfl⟩
    refine Goes.adv hTT 400 rfl ?_
    exact Goes.ret1 hTT rfl Tryd.func21 rfl rfl ⟨rfl, rfl⟩
  | some p =>
    obtain ⟨k, rfl, hk⟩ := smGet_some hg
    refine Goes.call rfl (page_Owner (G k) p i w (h.at'.pages _ hk)) ?_
    rintro _ _ ⟨rfl, rfl⟩
    refine Goes.adv hTT 400 rfl ?_
    exact Goes.ret1 hTT rfl Tryd.func21 rfl rfl ⟨rfl, rfl⟩
theorem shelf_Owner_nil (n i : Int) (w : World) : Does Tryd.prog 21 #[.pointer none, .int .i64 n, .int .i64 i] w (Same (.int .i64 (-1)) w) := by
  refine Does.enter Tryd.func21 rfl Tryd.ntmps21 rfl rfl ?_
  refine Goes.adv hTT 400 rfl ?_
  refine Goes.call rfl (shelf_page_nil n w) ?_
  rintro _ _ ⟨rfl, rfl⟩
  refine Goes.adv hTT 400 rfl ?_
  refine Goes.call rfl (page_Owner_nil i w) ?_
  rintro _ _ ⟨rfl, rfl⟩
  refine Goes.adv hTT 400 rfl ?_
  exact Goes.ret1 hTT rfl Tryd.func21 rfl rfl ⟨rfl, rfl⟩
theorem shelf_Pages (S : Sh) (G : Nat → Pg) (x : Sm) (pl : PlM) (w : World) (h : ShOk w S G x pl) : Does Tryd.prog 18 #[sfV S] w (Same (.int .i64 (x.pg.length : Nat)) w) := by
  obtain ⟨m, hm, _, hl, _⟩ := h.at'.map
  refine Does.enter Tryd.func18 rfl Tryd.ntmps18 rfl rfl ?_
  refine Goes.adv hTT 400 rfl ?_
  refine Goes.loadb hTT rfl h.at'.obj rfl rfl ?_
  refine Goes.maplen hTT rfl ((show MapIs w (some S.sm) m from hm)) rfl ?_
  exact Goes.ret1 hTT rfl Tryd.func18 rfl rfl ⟨int_v (by rw [hl]), rfl⟩
theorem shelf_Pages_nil (w : World) : Does Tryd.prog 18 #[.pointer none] w (Same (.int .i64 0) w) := by
  refine Does.enter Tryd.func18 rfl Tryd.ntmps18 rfl rfl ?_
  refine Goes.adv hTT 400 rfl ?_
  exact Goes.ret1 hTT rfl Tryd.func18 rfl rfl ⟨rfl, rfl⟩
theorem shelf_Open (S : Sh) (G : Nat → Pg) (x : Sm) (pl : PlM) (w : World) (h : ShOk w S G x pl) : Does Tryd.prog 15 #[sfV S] w (Same (.int .i64 (x.opn.length : Nat)) w) := by
  refine Does.enter Tryd.func15 rfl Tryd.ntmps15 rfl rfl ?_
  refine Goes.adv hTT 400 rfl ?_
  refine Goes.loadb hTT rfl h.at'.obj rfl rfl ?_
  refine Goes.call rfl (ring_Len S.R x.opn w h.at'.ring) ?_
  rintro _ _ ⟨rfl, rfl⟩
  refine Goes.adv hTT 400 rfl ?_
  exact Goes.ret1 hTT rfl Tryd.func15 rfl rfl ⟨rfl, rfl⟩
theorem shelf_Open_nil (w : World) : Does Tryd.prog 15 #[.pointer none] w (Same (.int .i64 0) w) := by
  refine Does.enter Tryd.func15 rfl Tryd.ntmps15 rfl rfl ?_
  refine Goes.adv hTT 400 rfl ?_
  exact Goes.ret1 hTT rfl Tryd.func15 rfl rfl ⟨rfl, rfl⟩
theorem shelf_Used (S : Sh) (G : Nat → Pg) (x : Sm) (pl : PlM) (w : World) (h : ShOk w S G x pl) : Does Tryd.prog 17 #[sfV S] w (Same (.int .i64 (smUsed x.pg : Nat)) w) := by
  refine Does.enter Tryd.func17 rfl Tryd.ntmps17 rfl rfl ?_
  refine Goes.adv hTT 400 rfl ?_
  refine Goes.loadb hTT rfl h.at'.obj rfl rfl ?_
  exact Goes.ret1 hTT rfl Tryd.func17 rfl rfl ⟨rfl, rfl⟩
theorem shelf_Used_nil (w : World) : Does Tryd.prog 17 #[.pointer none] w (Same (.int .i64 0) w) := by
  refine Does.enter Tryd.func17 rfl Tryd.ntmps17 rfl rfl ?_
  refine Goes.adv hTT 400 rfl ?_
  exact Goes.ret1 hTT rfl Tryd.func17 rfl rfl ⟨rfl, rfl⟩
theorem smSet_self {l : PgL} {n : Nat} {p : List Int} (hn : (l.map (·.1)).Nodup) (hp : (n, p) ∈ l) : smSet l n p = l := by
  unfold smSet
  conv => rhs; rw [← List.map_id l]
  refine List.map_congr_left fun e he => ?_
  by_cases h : e.1 = n
  · rw [if_pos h]
    have h1 := smGet_of hn hp
    have h2 := smGet_of hn (show (e.1, e.2) ∈ l from he)
    rw [h, h1] at h2
    cases h2
    rw [← h]
    rfl
  · rw [if_neg h]; rfl
def shOwnE (x : Sm) (n i who : Int) : Int := match smGet x.pg n with
  | some p => pgOwnE p i who
  | none => 1
def shOwn (x : Sm) (n i who : Int) : Sm := match smGet x.pg n with
  | some p => x.ownAt n.toNat p i who
  | none => x
theorem shelf_Own (S : Sh) (G : Nat → Pg) (x : Sm) (pl : PlM) (n i who : Int) (w : World) (h : ShOk w S G x pl) : Does Tryd.prog 23 #[sfV S, .int .i64 n, .int .i64 i, .int .i64 who] w
    (fun v w' => v = .int .i64 (shOwnE x n i who) ∧ ShOk w' S G (shOwn x n i who) pl ∧ Chg (allFoot S G x.pg) w w' ∧ ∀ z, shFoot S G (shOwn x n i who).pg z → shFoot S G x.pg z) := by
  unfold shOwnE shOwn
  refine Does.enter Tryd.func23 rfl Tryd.ntmps23 rfl rfl ?_
  refine Goes.adv hTT 400 rfl ?_
  refine Goes.call rfl (shelf_page S G x pl n w h) ?_
  rintro _ _ ⟨rfl, rfl⟩
  refine Goes.adv hTT 400 rfl ?_
  cases hg : smGet x.pg n with
  | none =>
    refine Goes.call rfl (page_Own_nil i who w) ?_
    rintro _ _ ⟨rfl, rfl⟩
    refine Goes.adv hTT 400 rfl ?_
    exact Goes.ret1 hTT rfl Tryd.func23 rfl rfl ⟨rfl, h, Chg.refl _ _, fun _ h => h⟩
  | some p =>
    obtain ⟨k, rfl, hk⟩ := smGet_some hg
    refine Goes.call rfl (page_Own (G k) p i who w (h.at'.pages _ hk)) ?_
    rintro _ w1 ⟨rfl, hP, hs⟩
    refine Goes.adv hTT 400 rfl ?_
    have hS := h.at'.page hk hP hs
    have hPl := PoolOk.far h.at' h.pool hs (fun z e => .inr (.inr (.inr ⟨_, hk, e⟩)))
    have hu : smUsed (smSet x.pg k (pgOwnS p i who)) = smUsed x.pg := by have := smUsed_set (p := pgOwnS p i who) h.ok.nodup hk; rw [pgOwn_used] at this; omega
    have hpos : (x.ownAt k p i who).Pos := fun e he => by
      rcases mem_smSet he with ⟨rfl, _⟩ | ⟨_, he⟩
      · show 0 < pgUsed (pgOwnS p i who); rw [pgOwn_used]; exact h.pos _ hk
      · exact h.pos e he
    exact Goes.ret1 hTT rfl Tryd.func23 rfl rfl ⟨rfl, ⟨h.ok.ownAt hk, hpos, h.of.set rfl (fun e he => smSet_old he), by show ShAt w1 S G x.cls x.blocks (smSet x.pg k (pgOwnS p i who)) x.opn (smUsed (smSet x.pg k (pgOwnS p i who)) : Nat); rw [hu]; exact hS, hPl⟩, hs.mono fun z _ e => .inl (.inr (.inr (.inr ⟨_, hk, e⟩))), fun z e => foot_set z e⟩
theorem shelf_Own_nil (n i who : Int) (w : World) : Does Tryd.prog 23 #[.pointer none, .int .i64 n, .int .i64 i, .int .i64 who] w (Same (.int .i64 1) w) := by
  refine Does.enter Tryd.func23 rfl Tryd.ntmps23 rfl rfl ?_
  refine Goes.adv hTT 400 rfl ?_
  refine Goes.call rfl (shelf_page_nil n w) ?_
  rintro _ _ ⟨rfl, rfl⟩
  refine Goes.adv hTT 400 rfl ?_
  refine Goes.call rfl (page_Own_nil i who w) ?_
  rintro _ _ ⟨rfl, rfl⟩
  refine Goes.adv hTT 400 rfl ?_
  exact Goes.ret1 hTT rfl Tryd.func23 rfl rfl ⟨rfl, rfl⟩
theorem filter_mid {l1 l2 : List Nat} {n : Nat} (h : (l1 ++ n :: l2).Nodup) : (l1 ++ n :: l2).filter (fun m => m != n) = l1 ++ l2 := by
  obtain ⟨h1, h2, h3⟩ := List.nodup_append.1 h
  obtain ⟨h4, h5⟩ := List.nodup_cons.1 h2
  rw [List.filter_append, List.filter_cons]
  simp only [bne_self_eq_false, Bool.false_eq_true, if_false]
  rw [List.filter_eq_self.2 (fun m hm => by simp only [bne_iff_ne, ne_eq]; exact fun e => h3 m hm n (by simp) e), List.filter_eq_self.2 (fun m hm => by simp only [bne_iff_ne, ne_eq]; exact fun e => h4 (e ▸ hm))]
set_option maxRecDepth 100000 in
theorem shelf_settle (S : Sh) (G : Nat → Pg) (cls : Int) (blocks : Nat) (pg : PgL) (opn : List Nat) (used : Int) (pl : PlM) (n : Nat) (p : List Int) (full : Bool) (w : World) (hS : ShAt w S G cls blocks pg opn used) (hP : PoolOk w S.P pl) (hp : (n, p) ∈ pg) (hn4 : n < 1024) (hfo : full = true → n ∉ opn) (hfo' : full = false → n ∈ opn)
    (hon : opn.Nodup) (hol : opn.length ≤ 1024) (hcl : 0 ≤ cls) (hof : n < pl.own.length ∧ pl.own.getD n 0 = cls) :
    DoesD Tryd.prog 47 #[sfV S, .int .i64 n, pgV (G n), .bool full] w (fun _ w' => ShAt w' S G cls blocks (if pgUsed p = 0 then smDel pg n else pg) (if pgUsed p = 0 then (if full then n :: opn else opn).filter (fun m => m != n) else if full then n :: opn else opn) used ∧ PoolOk w' S.P (if pgUsed p = 0 then pl.give n else pl) ∧ Chg (allFoot S G pg) w w') := by
  refine DoesD.enter Tryd.func47 rfl Tryd.ntmps47 rfl rfl ?_
  refine Goes.adv hTT 400 rfl ?_
  cases full with
  | true =>
    have hno := hfo rfl
    refine Goes.yes hTT rfl rfl rfl ?_
    refine Goes.loadb hTT rfl hS.obj rfl rfl ?_
    refine Goes.call rfl (ring_Push S.R opn n w hS.ring hn4 hno (by omega)) ?_
    rintro _ W ⟨rfl, hR, hs⟩
    refine Goes.adv hTT 400 rfl ?_
    have hS1 := hS.setRing hR hs
    have hP1 := PoolOk.far hS hP hs (fun z h => .inr (.inr (.inl h)))
    have hcW : Chg (allFoot S G pg) w W := hs.mono fun z _ h => .inl (.inr (.inr (.inl h)))
    simp only [if_true]
    obtain ⟨opn1, hopn1⟩ : ∃ o, o = n :: opn := ⟨_, rfl⟩
    have hmo : n ∈ opn1 := by rw [hopn1]; simp
    have hon1 : opn1.Nodup := by rw [hopn1]; exact List.nodup_cons.2 ⟨hno, hon⟩
    have hol1 : opn1.length ≤ 4096 := by rw [hopn1, List.length_cons]; omega
    rw [← hopn1] at hS1 ⊢
    refine Goes.call rfl (page_Used (G n) p W (hS1.pages _ hp)) ?_
    rintro _ _ ⟨rfl, rfl⟩
    refine Goes.adv hTT 400 rfl ?_
    by_cases hu : pgUsed p = 0
    · rw [if_pos hu, if_pos hu, if_pos hu]
      obtain ⟨l1, l2, ho⟩ := List.append_of_mem hmo
      refine Goes.yes hTT rfl (show (((pgUsed p : Nat) : Int) == 0) = true by rw [hu]; rfl) rfl ?_
      refine Goes.loadb hTT rfl hS1.obj rfl rfl ?_
      have hr := hS1.ring
      rw [ho] at hr
      refine Goes.call rfl (ring_Drop S.R l1 l2 n W hr (by rw [← ho]; exact hol1)) ?_
      rintro _ wa ⟨rfl, hRa, hsa⟩
      refine Goes.adv hTT 400 rfl ?_
      have hSa := hS1.setRing hRa hsa
      have hPa := PoolOk.far hS1 hP1 hsa (fun z h => .inr (.inr (.inl h)))
      refine Goes.loadb hTT rfl hSa.obj rfl rfl ?_
      obtain ⟨m, hm, _⟩ := hSa.map
      refine Goes.mapdel hTT rfl (hm) ?_
      intro wb hmb hsb hzb
      refine Goes.adv hTT 400 rfl ?_
      have hSb := hSa.del hp (fun m' h' => by rw [h'.uniq hm]; exact hmb) hsb
      have hPb := PoolOk.far hSa hPa hsb (fun z h => .inr (.inl h))
      refine Goes.loadb hTT rfl hSb.obj rfl rfl ?_
      have hpo : pgOwn pl.own n = pl.own.getD n 0 := by
        unfold pgOwn; rw [if_pos (by omega)]; simp only [Int.toNat_natCast]; rw [getD_0_m1 hof.1]
      have hge : plGiveE pl n = 0 := by unfold plGiveE; rw [if_neg (by have := hof.1; omega), hpo, if_neg (by rw [hof.2]; omega)]
      have hd := pool_Give S.P pl n wb hPb
      rw [show plGive pl n = pl.give n from by unfold plGive; rw [if_pos hge]; rfl] at hd
      refine Goes.call rfl (hd) ?_
      rintro _ wc ⟨rfl, hPc, hsc⟩
      refine Goes.adv hTT 400 rfl ?_
      have hSc := hSb.pool hPb hsc
      have hfe : opn1.filter (fun m => m != n) = l1 ++ l2 := by rw [ho]; exact filter_mid (ho ▸ hon1)
      rw [hfe]
      exact Goes.ret0 hTT rfl Tryd.func47 rfl ⟨hSc, hPc, ((hcW.trans (hsa.mono fun z _ h => .inl (.inr (.inr (.inl h))))).trans (hsb.mono fun z _ h => .inl (.inr (.inl h)))).trans (hsc.mono fun z _ h => .inr h)⟩
    · rw [if_neg hu, if_neg hu, if_neg hu]
      refine Goes.no hTT rfl (show (((pgUsed p : Nat) : Int) == 0) = false by simp; omega) rfl ?_
      exact Goes.ret0 hTT rfl Tryd.func47 rfl ⟨hS1, hP1, hcW⟩
  | false =>
    have hyes := hfo' rfl
    refine Goes.no hTT rfl rfl rfl ?_
    simp only [Bool.false_eq_true, if_false]
    obtain ⟨opn1, hopn1⟩ : ∃ o, o = opn := ⟨_, rfl⟩
    have hmo : n ∈ opn1 := by rw [hopn1]; exact hyes
    have hon1 : opn1.Nodup := by rw [hopn1]; exact hon
    have hol1 : opn1.length ≤ 4096 := by rw [hopn1]; omega
    have hS1 := hS
    have hP1 := hP
    have hcW : Chg (allFoot S G pg) w w := Chg.refl _ _
    rw [← hopn1] at hS1 ⊢
    obtain ⟨W, hW⟩ : ∃ W, W = w := ⟨_, rfl⟩
    have hgoal : ∀ {X : World → Prop}, X W → X w := fun h => hW ▸ h
    rw [← hW] at hS1 hP1
    replace hcW : Chg (allFoot S G pg) w W := by rw [hW]; exact hcW
    refine hgoal (X := fun w2 => Goes _ _ _ _ _ _ _ w2) ?_
    refine Goes.call rfl (page_Used (G n) p W (hS1.pages _ hp)) ?_
    rintro _ _ ⟨rfl, rfl⟩
    refine Goes.adv hTT 400 rfl ?_
    by_cases hu : pgUsed p = 0
    · rw [if_pos hu, if_pos hu, if_pos hu]
      obtain ⟨l1, l2, ho⟩ := List.append_of_mem hmo
      refine Goes.yes hTT rfl (show (((pgUsed p : Nat) : Int) == 0) = true by rw [hu]; rfl) rfl ?_
      refine Goes.loadb hTT rfl hS1.obj rfl rfl ?_
      have hr := hS1.ring
      rw [ho] at hr
      refine Goes.call rfl (ring_Drop S.R l1 l2 n W hr (by rw [← ho]; exact hol1)) ?_
      rintro _ wa ⟨rfl, hRa, hsa⟩
      refine Goes.adv hTT 400 rfl ?_
      have hSa := hS1.setRing hRa hsa
      have hPa := PoolOk.far hS1 hP1 hsa (fun z h => .inr (.inr (.inl h)))
      refine Goes.loadb hTT rfl hSa.obj rfl rfl ?_
      obtain ⟨m, hm, _⟩ := hSa.map
      refine Goes.mapdel hTT rfl (hm) ?_
      intro wb hmb hsb hzb
      refine Goes.adv hTT 400 rfl ?_
      have hSb := hSa.del hp (fun m' h' => by rw [h'.uniq hm]; exact hmb) hsb
      have hPb := PoolOk.far hSa hPa hsb (fun z h => .inr (.inl h))
      refine Goes.loadb hTT rfl hSb.obj rfl rfl ?_
      have hpo : pgOwn pl.own n = pl.own.getD n 0 := by
        unfold pgOwn; rw [if_pos (by omega)]; simp only [Int.toNat_natCast]; rw [getD_0_m1 hof.1]
      have hge : plGiveE pl n = 0 := by unfold plGiveE; rw [if_neg (by have := hof.1; omega), hpo, if_neg (by rw [hof.2]; omega)]
      have hd := pool_Give S.P pl n wb hPb
      rw [show plGive pl n = pl.give n from by unfold plGive; rw [if_pos hge]; rfl] at hd
      refine Goes.call rfl (hd) ?_
      rintro _ wc ⟨rfl, hPc, hsc⟩
      refine Goes.adv hTT 400 rfl ?_
      have hSc := hSb.pool hPb hsc
      have hfe : opn1.filter (fun m => m != n) = l1 ++ l2 := by rw [ho]; exact filter_mid (ho ▸ hon1)
      rw [hfe]
      exact Goes.ret0 hTT rfl Tryd.func47 rfl ⟨hSc, hPc, ((hcW.trans (hsa.mono fun z _ h => .inl (.inr (.inr (.inl h))))).trans (hsb.mono fun z _ h => .inl (.inr (.inl h)))).trans (hsc.mono fun z _ h => .inr h)⟩
    · rw [if_neg hu, if_neg hu, if_neg hu]
      refine Goes.no hTT rfl (show (((pgUsed p : Nat) : Int) == 0) = false by simp; omega) rfl ?_
      exact Goes.ret0 hTT rfl Tryd.func47 rfl ⟨hS1, hP1, hcW⟩
end Go.Proofs.YtdmedllaackbaaaDoor
/-
  Layer 13: a shelf: a block that is given back; what may move; a new one.
-/
namespace Go.Proofs.YtdmedllaackbaaaDoor
open Go.RowKit

def shGiveE (x : Sm) (n i : Int) : Int := match smGet x.pg n with
  | some p => pgGiveE p i
  | none => 1
def shGive (x : Sm) (n i : Int) : Sm := match smGet x.pg n with
  | some p => if pgGiveE p i = 0 then x.giveAt n.toNat p i else x
  | none => x
def shGiveP (x : Sm) (pl : PlM) (n i : Int) : PlM := match smGet x.pg n with
  | some p => if pgGiveE p i = 0 ∧ pgUsed (pgGive p i) = 0 then pl.give n.toNat else pl
  | none => pl
theorem smDel_set (l : PgL) (n : Nat) (p : List Int) : smDel (smSet l n p) n = smDel l n := by
  induction l with
  | nil => rfl
  | cons e r ih =>
    unfold smDel smSet at *
    rw [List.map_cons, List.filter_cons, List.filter_cons]
    by_cases h : e.1 = n
    · rw [if_pos h]
      simp only [bne_self_eq_false, Bool.false_eq_true, if_false, h]
      exact ih
    · rw [if_neg h]
      have : (e.1 != n) = true := by simpa using h
      rw [if_pos this, if_pos this, ih]
theorem foot_giveAt {S : Sh} {G : Nat → Pg} {x : Sm} {n : Nat} {p : List Int} {i : Int} : ∀ z, shFoot S G (x.giveAt n p i).pg z → shFoot S G x.pg z := fun z h => by
  unfold Sm.giveAt at h
  simp only at h
  split at h
  · exact foot_del z h
  · exact foot_set z h
theorem Sm.Of.giveAt {x : Sm} {pl : PlM} (hok : x.Ok) (h : x.Of pl) {n : Nat} {p : List Int} {i : Int} : (x.giveAt n p i).Of (if pgUsed (pgGive p i) = 0 then pl.give n else pl) := by
  unfold Sm.giveAt
  simp only
  split
  · intro e he
    obtain ⟨hne, he⟩ := mem_smDel.1 he
    obtain ⟨a, b⟩ := h e he
    show e.1 < (pl.own.set n (-1)).length ∧ (pl.own.set n (-1)).getD e.1 0 = x.cls
    rw [List.length_set, getD_set_z, if_neg (fun h => hne h.1.symm)]
    exact ⟨a, b⟩
  · exact h.set rfl (fun e he => smSet_old he)
theorem shelf_Give_nil (n i : Int) (w : World) : Does Tryd.prog 22 #[.pointer none, .int .i64 n, .int .i64 i] w (Same (.int .i64 1) w) := by
  refine Does.enter Tryd.func22 rfl Tryd.ntmps22 rfl rfl ?_
  refine Goes.adv hTT 400 rfl ?_
  refine Goes.call rfl (shelf_page_nil n w) ?_
  rintro _ _ ⟨rfl, rfl⟩
  refine Goes.adv hTT 400 rfl ?_
  exact Goes.ret1 hTT rfl Tryd.func22 rfl rfl ⟨rfl, rfl⟩
set_option maxRecDepth 100000 in
theorem shelf_Give (S : Sh) (G : Nat → Pg) (x : Sm) (pl : PlM) (n i : Int) (w : World) (h : ShOk w S G x pl) : Does Tryd.prog 22 #[sfV S, .int .i64 n, .int .i64 i] w
    (fun v w' => v = .int .i64 (shGiveE x n i) ∧ ShOk w' S G (shGive x n i) (shGiveP x pl n i) ∧ Chg (allFoot S G x.pg) w w' ∧ ∀ z, shFoot S G (shGive x n i).pg z → shFoot S G x.pg z) := by
  refine Does.enter Tryd.func22 rfl Tryd.ntmps22 rfl rfl ?_
  refine Goes.adv hTT 400 rfl ?_
  refine Goes.call rfl (shelf_page S G x pl n w h) ?_
  rintro _ _ ⟨rfl, rfl⟩
  refine Goes.adv hTT 400 rfl ?_
  cases hg : smGet x.pg n with
  | none =>
    rw [show shGiveE x n i = 1 from by unfold shGiveE; rw [hg], show shGive x n i = x from by unfold shGive; rw [hg], show shGiveP x pl n i = pl from by unfold shGiveP; rw [hg]]
    exact Goes.ret1 hTT rfl Tryd.func22 rfl rfl ⟨rfl, h, Chg.refl _ _, fun _ h => h⟩
  | some p =>
    obtain ⟨k, rfl, hk⟩ := smGet_some hg
    obtain ⟨he1, he2, he3⟩ := h.ok.each _ hk
    simp only at he1 he2 he3
    have hfew := h.ok.few
    have hlt := h.at'.foot_lt
    refine Goes.call rfl (page_Full (G k) p w (h.at'.pages _ hk)) ?_
    rintro _ w1 ⟨rfl, hw1⟩
    refine Goes.adv hTT 400 rfl ?_
    have hS1 := h.at'.grow hw1
    refine Goes.call rfl (page_Give (G k) p i w1 (hS1.pages _ hk)) ?_
    rintro _ w2 ⟨rfl, hP2, hs2⟩
    refine Goes.adv hTT 400 rfl ?_
    have hS2 := hS1.page hk hP2 hs2
    have hPl2 := PoolOk.far hS1 (h.pool.grow hw1) hs2 (fun z e => .inr (.inr (.inr ⟨_, hk, e⟩)))
    have hc2 : Chg (allFoot S G x.pg) w w2 := (hw1.mono fun _ _ h => h.elim).trans (hs2.mono fun z _ e => .inl (.inr (.inr (.inr ⟨_, hk, e⟩))))
    by_cases hE : pgGiveE p i = 0
    · rw [show shGiveE x k i = 0 from by unfold shGiveE; rw [hg]; exact hE, show shGive x k i = x.giveAt k p i from by unfold shGive; rw [hg]; simp only; rw [if_pos hE]; rfl, show shGiveP x pl k i = (if pgUsed (pgGive p i) = 0 then pl.give k else pl) from by unfold shGiveP; rw [hg]; simp only [hE, true_and]; rfl, hE]
      refine Goes.no hTT rfl rfl rfl ?_
      refine Goes.defer rfl rfl ?_
      refine Goes.adv hTT 400 rfl ?_
      have hu := pgGive_used hE
      have hus := smUsed_set (p := pgGive p i) h.ok.nodup hk
      refine Goes.loadb hTT rfl hS2.obj rfl rfl ?_
      refine Goes.arith hTT rfl (w64 (by omega)) rfl ?_
      refine Goes.store hTT rfl hS2.obj rfl rfl ?_
      intro w3 hob hs3 hz3
      refine Goes.adv hTT 400 rfl ?_
      have hu3 : ((smUsed x.pg : Nat) : Int) - 1 = (smUsed (smSet x.pg k (pgGive p i)) : Nat) := by omega
      replace hob : w3.heap[S.sb]? = some (.cells (shL S x.cls x.blocks ((smUsed x.pg : Nat) - 1)).toArray 73 (0, 0)) := hob
      rw [hu3] at hob
      have hS3 := hS2.setUsed hob hs3
      have hPl3 := PoolOk.far hS2 hPl2 hs3 (fun z e => .inl e)
      have hc3 : Chg (allFoot S G x.pg) w w3 := hc2.trans (hs3.mono fun z _ e => .inl (.inl e))
      have hkn : (k, pgGive p i) ∈ smSet x.pg k (pgGive p i) := List.mem_map.2 ⟨(k, p), hk, if_pos rfl⟩
      have hfb : ((pgUsed p : Int) == p.length) = decide (pgUsed p = x.blocks) := by rw [he2]; exact Bool.eq_iff_iff.2 (by simp only [beq_iff_eq, decide_eq_true_eq]; omega)
      have hd := shelf_settle S G x.cls x.blocks _ x.opn _ pl k (pgGive p i) (decide (pgUsed p = x.blocks)) w3 hS3 hPl3 hkn he1 (fun e hm => (he3.1 hm) (of_decide_eq_true e)) (fun e => he3.2 (of_decide_eq_false e)) h.ok.onodup (by omega) h.ok.cls (h.of _ hk)
      rw [← hfb] at hd
      refine Goes.ret1D hTT rfl Tryd.func22 rfl rfl rfl (invoke_dfr (args := [sfV S, .int .i64 k, pgV (G k), .bool ((pgUsed p : Int) == p.length)]) (captured := []) hd.fn) ⟨hd.fn, ?_⟩
      have hc := hd.calls
      intro c cs hu'
      obtain ⟨en, u', w', fr, ⟨h7, v, h8, h9, h10, h11⟩, hrest⟩ := hc c cs hu'
      have hpos : (x.giveAt k p i).Pos := by
        unfold Sm.giveAt
        simp only
        split
        · intro e he
          exact h.pos e (mem_smDel.1 he).2
        · rename_i hz
          intro e he
          rcases mem_smSet he with ⟨rfl, _⟩ | ⟨_, he⟩
          · exact Nat.pos_of_ne_zero hz
          · exact h.pos e he
      refine ⟨en, u', w', fr, ⟨h7, v, h8, rfl, ⟨h.ok.giveAt hk hE, hpos, h.of.giveAt h.ok, ?_, ?_⟩, hc3.trans (h11.mono fun z _ hz => hz.imp (foot_set z) id), foot_giveAt⟩, hrest⟩
      · rw [hfb] at h9
        show ShAt w' S G (x.giveAt k p i).cls (x.giveAt k p i).blocks (x.giveAt k p i).pg (x.giveAt k p i).opn (smUsed (x.giveAt k p i).pg : Nat)
        unfold Sm.giveAt
        simp only
        simp only [decide_eq_true_eq] at h9
        by_cases hz : pgUsed (pgGive p i) = 0
        · rw [if_pos hz] at h9 ⊢
          rw [if_pos hz, smDel_set] at h9
          have hde := (smUsed_del (by rw [smSet_fst]; exact h.ok.nodup) hkn).1
          rw [smDel_set] at hde
          show ShAt w' S G x.cls x.blocks (smDel x.pg k) _ (smUsed (smDel x.pg k) : Nat)
          rw [show smUsed (smDel x.pg k) = smUsed (smSet x.pg k (pgGive p i)) by omega]
          exact h9
        · rw [if_neg hz] at h9 ⊢
          rw [if_neg hz] at h9
          exact h9
      · exact h10
    · have hsame : pgGive p i = p := by unfold pgGive; rw [if_neg hE]
      rw [hsame, smSet_self h.ok.nodup hk] at hS2
      rw [show shGiveE x k i = pgGiveE p i from by unfold shGiveE; rw [hg], show shGive x k i = x from by unfold shGive; rw [hg]; simp only; rw [if_neg hE], show shGiveP x pl k i = pl from by unfold shGiveP; rw [hg]; simp only; rw [if_neg (fun h => hE h.1)]]
      refine Goes.yes hTT rfl (show (pgGiveE p i != 0) = true by simpa using hE) rfl ?_
      exact Goes.ret1 hTT rfl Tryd.func22 rfl rfl ⟨rfl, ⟨h.ok, h.pos, h.of, hS2, hPl2⟩, hc2, fun _ h => h⟩
def planL (a b c d : Int) : List Value := [.int .i64 a, .int .i64 b, .int .i64 c, .int .i64 d]
def shPlanB (x : Sm) : Bool := decide (2 ≤ x.opn.length)
def shPlanL (x : Sm) : List Value := if 2 ≤ x.opn.length then planL (lastI (-1) x.opn) (pgTop ((smGet x.pg (lastI (-1) x.opn)).getD [])) (headI x.opn) (pgHole ((smGet x.pg (headI x.opn)).getD [])) else planL 0 0 0 0
theorem shelf_Plan_nil (w : World) : Does Tryd.prog 20 #[.pointer none] w (Grow (.tuple #[.agg (planL 0 0 0 0).toArray, .bool false]) w) := by
  refine Does.enter Tryd.func20 rfl Tryd.ntmps20 rfl rfl ?_
  refine Goes.adv hTT 400 rfl ?_
  refine Goes.alloc hTT rfl ?_
  intro tb w1 e1 htb hw1 hz1
  refine Goes.adv hTT 400 rfl ?_
  refine Goes.call rfl (shelf_Open_nil w1) ?_
  rintro _ _ ⟨rfl, rfl⟩
  refine Goes.adv hTT 400 rfl ?_
  refine Goes.yes hTT rfl rfl rfl ?_
  refine Goes.build hTT rfl rfl ?_
  refine Goes.store hTT rfl htb rfl rfl ?_
  intro w2 htb2 hs2 hz2
  refine Goes.adv hTT 400 rfl ?_
  exact Goes.ret hTT rfl Tryd.func20 (ResOk.cell rfl rfl rfl htb2 rfl (.tmp rfl .nil)) ⟨rfl, hw1.since hs2 (fun z hz e => by omega)⟩
theorem shelf_Plan (S : Sh) (G : Nat → Pg) (x : Sm) (pl : PlM) (w : World) (h : ShOk w S G x pl) : Does Tryd.prog 20 #[sfV S] w (Grow (.tuple #[.agg (shPlanL x).toArray, .bool (shPlanB x)]) w) := by
  unfold shPlanL shPlanB
  refine Does.enter Tryd.func20 rfl Tryd.ntmps20 rfl rfl ?_
  refine Goes.adv hTT 400 rfl ?_
  refine Goes.alloc hTT rfl ?_
  intro tb w1 e1 htb hw1 hz1
  refine Goes.adv hTT 400 rfl ?_
  have h1 := h.grow hw1
  refine Goes.call rfl (shelf_Open S G x pl w1 h1) ?_
  rintro _ _ ⟨rfl, rfl⟩
  refine Goes.adv hTT 400 rfl ?_
  by_cases ho : 2 ≤ x.opn.length
  · refine Goes.no hTT rfl (decide_eq_false (by omega)) rfl ?_
    rw [if_pos ho, decide_eq_true ho]
    have hlast : ∃ k ∈ x.opn, lastI (-1) x.opn = (k : Int) := by
      rcases lastI_mem (-1) x.opn with ⟨e, _⟩ | ⟨a, ha, e, _⟩
      · rw [e] at ho; simp at ho
      · exact ⟨a, ha, e⟩
    have hhead : ∃ k ∈ x.opn, headI x.opn = (k : Int) := by
      cases hx : x.opn with
      | nil => rw [hx] at ho; simp at ho
      | cons a r => exact ⟨a, by simp, rfl⟩
    obtain ⟨a, ha, ea⟩ := hlast
    obtain ⟨b, hb, eb⟩ := hhead
    obtain ⟨p, hp⟩ := h.ok.osub a ha
    obtain ⟨q, hq⟩ := h.ok.osub b hb
    rw [ea, eb, smGet_of h.ok.nodup hp, smGet_of h.ok.nodup hq]
    simp only [Option.getD_some]
    refine Goes.drawn (q := 10) None' hTT mixed (by kernel_rfl) rfl ?_
    intro hB
    refine Drawn.loadb hTT hB rfl h1.at'.obj (by first | exact fun h => h | (intro h; omega) | assumption) rfl rfl ?_
    refine Drawn.call hTT hB rfl (fun w' hw' => (ring_Last S.R x.opn w' (h1.at'.ring.grow hw')).grow) rfl ?_
    rw [ea]
    refine Drawn.loadb hTT hB rfl h1.at'.obj (by first | exact fun h => h | (intro h; omega) | assumption) rfl rfl ?_
    refine Drawn.call hTT hB rfl (fun w' hw' => (ring_First S.R x.opn w' (h1.at'.ring.grow hw')).grow) rfl ?_
    rw [eb]
    refine Drawn.nil hB ?_
    intro w2 hw2
    refine Goes.adv hTT 400 rfl ?_
    have h2 := h1.grow hw2
    obtain ⟨m, hm, hl⟩ := h2.at'.look a
    obtain ⟨m', hm', hl'⟩ := h2.at'.look b
    rw [smGet_of h.ok.nodup hp] at hl
    rw [smGet_of h.ok.nodup hq] at hl'
    refine Goes.drawn (q := 16) None' hTT mixed (by kernel_rfl) rfl ?_
    intro hB
    refine Drawn.loadb hTT hB rfl h2.at'.obj (by first | exact fun h => h | (intro h; omega) | assumption) rfl rfl ?_
    refine Drawn.lookup hTT hB rfl (hm) (by first | (intro b h; cases h; assumption) | (intro b h hs; cases h; omega)) (hl) rfl ?_
    refine Drawn.call hTT hB rfl (fun w' hw' => (page_Top (G a) p w' ((h2.at'.pages _ hp).grow hw')).grow) rfl ?_
    refine Drawn.loadb hTT hB rfl h2.at'.obj (by first | exact fun h => h | (intro h; omega) | assumption) rfl rfl ?_
    refine Drawn.lookup hTT hB rfl (hm') (by first | (intro b h; cases h; assumption) | (intro b h hs; cases h; omega)) (hl') rfl ?_
    refine Drawn.call hTT hB rfl (fun w' hw' => page_Hole (G b) q w' ((h2.at'.pages _ hq).grow hw')) rfl ?_
    refine Drawn.nil hB ?_
    intro w3 hw3
    refine Goes.adv hTT 400 rfl ?_
    refine Goes.build hTT rfl rfl ?_
    refine Goes.store hTT rfl (hw3.heap' (hw2.heap' htb)) rfl rfl ?_
    intro w4 htb4 hs4 hz4
    refine Goes.adv hTT 400 rfl ?_
    exact Goes.ret hTT rfl Tryd.func20 (ResOk.cell rfl rfl rfl htb4 rfl (.tmp rfl .nil)) ⟨rfl, ((hw1.trans hw2).trans hw3).since hs4 (fun z hz e => by omega)⟩
  · refine Goes.yes hTT rfl (decide_eq_true (by omega)) rfl ?_
    rw [if_neg ho, decide_eq_false ho]
    refine Goes.build hTT rfl rfl ?_
    refine Goes.store hTT rfl htb rfl rfl ?_
    intro w2 htb2 hs2 hz2
    refine Goes.adv hTT 400 rfl ?_
    exact Goes.ret hTT rfl Tryd.func20 (ResOk.cell rfl rfl rfl htb2 rfl (.tmp rfl .nil)) ⟨rfl, hw1.since hs2 (fun z hz e => by omega)⟩
def newSm (cls : Int) (blocks : Nat) : Sm := ⟨cls, blocks, [], []⟩
theorem shelf_New_nopool (cls m : Int) (w : World) (ht : TabAt w) : Does Tryd.prog 11 #[.pointer none, .int .i64 cls, .int .i64 m] w (Grow (.tuple #[.pointer none, .int .i64 1]) w) := by
  refine Does.enter Tryd.func11 rfl Tryd.ntmps11 rfl rfl ?_
  refine Goes.adv hTT 400 rfl ?_
  by_cases hm : 1 ≤ m ∧ m ≤ 512
  · obtain ⟨k, rfl⟩ := Int.eq_ofNat_of_zero_le (show 0 ≤ m by omega)
    refine Goes.call rfl (page_New k w ht (by omega)) ?_
    rintro _ w1 ⟨g, rfl, _, _, hw1⟩
    refine Goes.adv hTT 400 rfl ?_
    exact Goes.ret2 hTT rfl Tryd.func11 rfl rfl rfl ⟨rfl, hw1⟩
  · refine Goes.call rfl (page_New_no m w hm) ?_
    rintro _ _ ⟨rfl, rfl⟩
    refine Goes.adv hTT 400 rfl ?_
    exact Goes.ret2 hTT rfl Tryd.func11 rfl rfl rfl ⟨rfl, Chg.refl _ _⟩
theorem shelf_New_no (P : Pl) (cls m : Int) (w : World) (ht : TabAt w) (h : cls < 0 ∨ ¬ (1 ≤ m ∧ m ≤ 512)) : Does Tryd.prog 11 #[plV P, .int .i64 cls, .int .i64 m] w (Grow (.tuple #[.pointer none, .int .i64 1]) w) := by
  refine Does.enter Tryd.func11 rfl Tryd.ntmps11 rfl rfl ?_
  refine Goes.adv hTT 400 rfl ?_
  by_cases hm : 1 ≤ m ∧ m ≤ 512
  · obtain ⟨k, rfl⟩ := Int.eq_ofNat_of_zero_le (show 0 ≤ m by omega)
    refine Goes.call rfl (page_New k w ht (by omega)) ?_
    rintro _ w1 ⟨g, rfl, _, _, hw1⟩
    refine Goes.adv hTT 400 rfl ?_
    refine Goes.yes hTT rfl (decide_eq_true (show cls < 0 by rcases h with h | h; exact h; exact absurd hm h)) rfl ?_
    exact Goes.ret2 hTT rfl Tryd.func11 rfl rfl rfl ⟨rfl, hw1⟩
  · refine Goes.call rfl (page_New_no m w hm) ?_
    rintro _ _ ⟨rfl, rfl⟩
    refine Goes.adv hTT 400 rfl ?_
    refine Goes.fork hTT rfl rfl rfl (fun hc => ?_) (fun hc => ?_)
    · exact Goes.ret2 hTT rfl Tryd.func11 rfl rfl rfl ⟨rfl, Chg.refl _ _⟩
    · refine Goes.yes hTT rfl rfl rfl ?_
      exact Goes.ret2 hTT rfl Tryd.func11 rfl rfl rfl ⟨rfl, Chg.refl _ _⟩
theorem shelf_New (P : Pl) (pl : PlM) (cls : Int) (k : Nat) (w : World) (ht : TabAt w) (hc : 0 ≤ cls) (hk : 1 ≤ k ∧ k ≤ 512) (hP : PoolOk w P pl) : Does Tryd.prog 11 #[plV P, .int .i64 cls, .int .i64 k] w
    (fun v w' => ∃ S, S.P = P ∧ v = .tuple #[sfV S, .int .i64 0] ∧ (∀ G z, shFoot S G [] z → w.heap.size ≤ z) ∧ (∀ G, ShOk w' S G (newSm cls k) pl) ∧ Chg None' w w') := by
  refine Does.enter Tryd.func11 rfl Tryd.ntmps11 rfl rfl ?_
  refine Goes.adv hTT 400 rfl ?_
  refine Goes.call rfl (page_New k w ht hk) ?_
  rintro _ w1 ⟨g, rfl, _, _, hw1⟩
  refine Goes.adv hTT 400 rfl ?_
  refine Goes.no hTT rfl (decide_eq_false (by omega)) rfl ?_
  refine Goes.no hTT rfl rfl rfl ?_
  refine Goes.call rfl (ring_New w1) ?_
  rintro _ w2 ⟨R, rfl, ⟨hb1, hb2, hb3⟩, hR, hw2⟩
  refine Goes.adv hTT 400 rfl ?_
  refine Goes.mkmap rfl ?_
  intro sm w3 e3 hm3 hw3 hz3
  refine Goes.adv hTT 400 rfl ?_
  refine Goes.build hTT rfl rfl ?_
  refine Goes.alloc hTT rfl ?_
  intro sb w4 e4 hsb hw4 hz4
  refine Goes.adv hTT 400 rfl ?_
  have hw04 := ((hw1.trans hw2).trans hw3).trans hw4
  have hs1 := hw1.size
  have hs2 := hw2.size
  have hs3 := hw3.size
  replace hsb : w4.heap[sb]? = some (.cells (shL ⟨sb, sm, R, P⟩ cls k 0).toArray 73 (0, 0)) := hsb
  exact Goes.ret2 hTT rfl Tryd.func11 rfl rfl rfl ⟨⟨sb, sm, R, P⟩, rfl, rfl, (fun G z hz => by
    rcases hz with h | h | (h | h) | ⟨e, he, _⟩
    · have : z = sb := h; omega
    · have : z = sm := h; omega
    · have : z = R.ab := h; omega
    · have : z = R.nb := h; omega
    · cases he), fun G => ⟨⟨List.nodup_nil, hc, hk, (fun e he => by cases he), List.nodup_nil, (fun e he => by cases he)⟩, (fun e he => by cases he), (fun e he => by cases he), ⟨List.nodup_nil, fun j hj => hw04.cell (ht j hj) id, hsb, ⟨[], hm3.chg hw4 id, List.nodup_nil, rfl, (fun e he => by cases he), fun _ _ => rfl⟩, (hR.grow hw3).grow hw4, (fun e he => by cases he), (fun e he => by cases he)⟩, hP.grow hw04⟩, hw04⟩
end Go.Proofs.YtdmedllaackbaaaDoor
/-
  Layer 13: a shelf's state, and the blocks that it has.
-/
namespace Go.Proofs.YtdmedllaackbaaaDoor
open Go.RowKit

def growF (F : Nat → Prop) (w w' : World) : Nat → Prop := fun z => F z ∨ (w.heap.size ≤ z ∧ z < w'.heap.size)
def ShSt (F : Nat → Prop) (w : World) (S : Sh) (x : Sm) (pl : PlM) : Prop := ∃ G, ShOk w S G x pl ∧ ∀ z, allFoot S G x.pg z → F z
theorem ShSt.grow {F : Nat → Prop} {w w' : World} {S : Sh} {x : Sm} {pl : PlM} (h : ShSt F w S x pl) (hc : Chg None' w w') : ShSt F w' S x pl := by
  obtain ⟨G, a, b⟩ := h
  exact ⟨G, a.grow hc, b⟩
theorem ShOk.foot_lt {w : World} {S : Sh} {G : Nat → Pg} {x : Sm} {pl : PlM} (h : ShOk w S G x pl) : ∀ z, allFoot S G x.pg z → z < w.heap.size := fun z hz => by
  rcases hz with hz | hz | hz
  · exact h.at'.foot_lt z hz
  · have : z = S.P.pb := hz; have := h.pool.lt; omega
  · have : z = S.P.ab := hz; have := h.pool.lt; omega
theorem st_Take {F : Nat → Prop} {w : World} {S : Sh} {x : Sm} {pl : PlM} (who : Int) (h : ShSt F w S x pl) : Does Tryd.prog 13 #[sfV S, .int .i64 who] w
    (fun v w' => v = .tuple #[.int .i64 (shTakeN x pl who), .int .i64 (shTakeA x pl who), .int .i64 (shTakeE x pl who)] ∧ ShSt (growF F w w') w' S (shTake x pl who) (shTakeP x pl who) ∧ Chg F w w') := by
  obtain ⟨G, a, b⟩ := h
  refine (shelf_Take S G x pl who w a).mono fun v w' ⟨h1, G', h2, h3, h4⟩ => ⟨h1, ⟨G', h2, fun z hz => ?_⟩, h3.mono fun z _ h => b z h⟩
  have hl := h2.foot_lt z hz
  rcases hz with hz | hz
  · rcases h4 z hz with h | h
    · exact .inl (b z (.inl h))
    · exact .inr ⟨h, hl⟩
  · exact .inl (b z (.inr hz))
theorem st_Give {F : Nat → Prop} {w : World} {S : Sh} {x : Sm} {pl : PlM} (n i : Int) (h : ShSt F w S x pl) : Does Tryd.prog 22 #[sfV S, .int .i64 n, .int .i64 i] w
    (fun v w' => v = .int .i64 (shGiveE x n i) ∧ ShSt F w' S (shGive x n i) (shGiveP x pl n i) ∧ Chg F w w') := by
  obtain ⟨G, a, b⟩ := h
  refine (shelf_Give S G x pl n i w a).mono fun v w' ⟨h1, h2, h3, h4⟩ => ⟨h1, ⟨G, h2, fun z hz => ?_⟩, h3.mono fun z _ h => b z h⟩
  rcases hz with hz | hz
  · exact b z (.inl (h4 z hz))
  · exact b z (.inr hz)
theorem st_Own {F : Nat → Prop} {w : World} {S : Sh} {x : Sm} {pl : PlM} (n i who : Int) (h : ShSt F w S x pl) : Does Tryd.prog 23 #[sfV S, .int .i64 n, .int .i64 i, .int .i64 who] w
    (fun v w' => v = .int .i64 (shOwnE x n i who) ∧ ShSt F w' S (shOwn x n i who) pl ∧ Chg F w w') := by
  obtain ⟨G, a, b⟩ := h
  refine (shelf_Own S G x pl n i who w a).mono fun v w' ⟨h1, h2, h3, h4⟩ => ⟨h1, ⟨G, h2, fun z hz => ?_⟩, h3.mono fun z _ h => b z h⟩
  rcases hz with hz | hz
  · exact b z (.inl (h4 z hz))
  · exact b z (.inr hz)
theorem st_Owner {F : Nat → Prop} {w : World} {S : Sh} {x : Sm} {pl : PlM} (n i : Int) (h : ShSt F w S x pl) : Does Tryd.prog 21 #[sfV S, .int .i64 n, .int .i64 i] w (Same (.int .i64 (shOwner x n i)) w) := by
  obtain ⟨G, a, _⟩ := h
  exact shelf_Owner S G x pl n i w a
theorem st_Pages {F : Nat → Prop} {w : World} {S : Sh} {x : Sm} {pl : PlM} (h : ShSt F w S x pl) : Does Tryd.prog 18 #[sfV S] w (Same (.int .i64 (x.pg.length : Nat)) w) := by
  obtain ⟨G, a, _⟩ := h
  exact shelf_Pages S G x pl w a
theorem st_Open {F : Nat → Prop} {w : World} {S : Sh} {x : Sm} {pl : PlM} (h : ShSt F w S x pl) : Does Tryd.prog 15 #[sfV S] w (Same (.int .i64 (x.opn.length : Nat)) w) := by
  obtain ⟨G, a, _⟩ := h
  exact shelf_Open S G x pl w a
theorem st_Used {F : Nat → Prop} {w : World} {S : Sh} {x : Sm} {pl : PlM} (h : ShSt F w S x pl) : Does Tryd.prog 17 #[sfV S] w (Same (.int .i64 (smUsed x.pg : Nat)) w) := by
  obtain ⟨G, a, _⟩ := h
  exact shelf_Used S G x pl w a
theorem st_Plan {F : Nat → Prop} {w : World} {S : Sh} {x : Sm} {pl : PlM} (h : ShSt F w S x pl) : Does Tryd.prog 20 #[sfV S] w (Grow (.tuple #[.agg (shPlanL x).toArray, .bool (shPlanB x)]) w) := by
  obtain ⟨G, a, _⟩ := h
  exact shelf_Plan S G x pl w a
theorem ShSt.pool {F : Nat → Prop} {w : World} {S : Sh} {x : Sm} {pl : PlM} (h : ShSt F w S x pl) : PoolOk w S.P pl := by
  obtain ⟨G, a, _⟩ := h
  exact a.pool
theorem ShSt.tab {F : Nat → Prop} {w : World} {S : Sh} {x : Sm} {pl : PlM} (h : ShSt F w S x pl) : TabAt w := by
  obtain ⟨G, a, _⟩ := h
  exact a.at'.tab
/-- A new pool, and a shelf on it. -/
theorem growF_new {F : Nat → Prop} {w0 w w' : World} (h : ∀ z, F z → w0.heap.size ≤ z) (hw : w0.heap.size ≤ w.heap.size) : ∀ z, growF F w w' z → w0.heap.size ≤ z := fun z hz => by
  rcases hz with hz | hz
  · exact h z hz
  · omega
theorem st_New {P : Pl} {pl : PlM} {cls : Int} {k : Nat} {w0 w : World} (ht : TabAt w) (hc : 0 ≤ cls) (hk : 1 ≤ k ∧ k ≤ 512) (hP : PoolOk w P pl) (hPn : w0.heap.size ≤ P.pb ∧ w0.heap.size ≤ P.ab) (hw : w0.heap.size ≤ w.heap.size) :
    Does Tryd.prog 11 #[plV P, .int .i64 cls, .int .i64 k] w (fun v w' => ∃ S F, S.P = P ∧ v = .tuple #[sfV S, .int .i64 0] ∧ ShSt F w' S (newSm cls k) pl ∧ (∀ z, F z → w0.heap.size ≤ z ∧ z < w'.heap.size) ∧ Chg None' w w') := by
  refine (shelf_New P pl cls k w ht hc hk hP).mono fun v w' ⟨S, h1, h2, h3, h4, h5⟩ => ⟨S, allFoot S (fun _ => ⟨0, 0, 0⟩) [], h1, h2, ⟨_, h4 _, fun z hz => hz⟩, fun z hz => ⟨?_, (h4 _).foot_lt z hz⟩, h5⟩
  rcases hz with hz | hz | hz
  · have := h3 _ z hz; omega
  · rw [h1] at hz; have : z = P.pb := hz; omega
  · rw [h1] at hz; have : z = P.ab := hz; omega
end Go.Proofs.YtdmedllaackbaaaDoor
/-
  == of two plans.
-/
namespace Go.Proofs.YtdmedllaackbaaaDoor
open Go.RowKit

theorem eq_plan (a b c d a' b' c' d' : Int) (w : World) : (Op.equalIn 10000 44 (.agg #[.int .i64 a, .int .i64 b, .int .i64 c, .int .i64 d]) (.agg #[.int .i64 a', .int .i64 b', .int .i64 c', .int .i64 d'])).run Tryd.prog w = .ok (a == a' && (b == b' && (c == c' && d == d'))) w := by
  have u3 := Tryd.underlying3
  have a3 := Tryd.isAgg3
  have z3 := Tryd.sizeOf3
  have hS : Tryd.prog.underlying 44 = some (.struct (Tryd.prog.fieldsOf 44)) := by kernel_rfl
  have hp : Tryd.prog.stoodInHeld 44 = false := by kernel_rfl
  rw [show (10000 : Nat) = 9999 + 1 from rfl, run_equalIn_agg w 9999 44 _ _ hS hp]
  simp only [Program.fieldsOf, Tryd.underlying44]
  go_simp
  by_cases h1 : a = a' <;> by_cases h2 : b = b' <;> by_cases h3 : c = c' <;> by_cases h4 : d = d' <;> simp [h1, h2, h3, h4]
end Go.Proofs.YtdmedllaackbaaaDoor
/-
  A slice of elements of several cells.
-/
namespace Go.Proofs.YtdmedllaackbaaaDoor
open Go.RowKit

/-- Elements of so many cells each, one behind another. -/
def Rows {α : Type} (cells : α → List Value) (sz : Nat) (w : World) (a : Option Addr) (xs : List α) : Prop :=
  ∀ i x, xs[i]? = some x → ∃ b off, a = some ⟨b, off, none⟩ ∧ ∀ j v, (cells x)[j]? = some v → w.cell? ⟨b, off + i * sz + j, none⟩ = some v
theorem Rows.chg {α : Type} {cells : α → List Value} {sz : Nat} {w w' : World} {a : Option Addr} {xs : List α} (h : Rows cells sz w a xs) (hc : Chg None' w w') : Rows cells sz w' a xs := fun i x hx => by
  obtain ⟨b, off, e, hcell⟩ := h i x hx
  exact ⟨b, off, e, fun j v hv => below_cell hc.below (hcell j v hv)⟩
theorem Rows.at {α : Type} {cells : α → List Value} {sz : Nat} {w : World} {a : Option Addr} {xs : List α} (h : Rows cells sz w a xs) {i : Nat} (hi : i < xs.length) :
    ∃ b off, a = some ⟨b, off, none⟩ ∧ ∀ j v, (cells xs[i])[j]? = some v → w.cell? ⟨b, off + i * sz + j, none⟩ = some v := h i xs[i] (List.getElem?_eq_getElem hi)
/-- Outside some blocks. -/
def OutA (S : Nat → Prop) (a : Option Addr) : Prop := ∀ b off s, a = some ⟨b, off, s⟩ → ¬ S b
/-- Where it was, or in a block that is new. -/
def Newer (w : World) (a a' : Option Addr) : Prop := a' = a ∨ ∃ g off, a' = some ⟨g, off, none⟩ ∧ w.heap.size ≤ g
theorem OutA.newer {S : Nat → Prop} {w : World} {a a' : Option Addr} (h : OutA S a) (hn : Newer w a a') (hS : ∀ b, S b → b < w.heap.size) : OutA S a' := fun b off s e hb => by
  rcases hn with hn | ⟨g, off', hn, hg⟩
  · rw [hn] at e; exact h b off s e hb
  · rw [hn] at e; cases e; have := hS _ hb; omega
theorem OutA.fresh {S : Nat → Prop} {w : World} {g off : Nat} (hg : w.heap.size ≤ g) (hS : ∀ b, S b → b < w.heap.size) : OutA S (some ⟨g, off, none⟩) := fun b off' s e hb => by cases e; have := hS _ hb; omega
theorem Rd.far {k : IntKind} {w w' : World} {a : Option Addr} {zs : List Int} {S : Nat → Prop} (h : Rd k w a zs) (hs : OutA S a) (hc : Chg S w w') : Rd k w' a zs := (RdS.chg ⟨h, fun b off s e _ => hs b off s e⟩ hc).1
theorem OutA.mono {S S' : Nat → Prop} {a : Option Addr} (h : OutA S a) (hs : ∀ z, S' z → S z) : OutA S' a := fun b off s e hb => h b off s e (hs _ hb)
end Go.Proofs.YtdmedllaackbaaaDoor
/-
  Layer 12: what the document's functions answer.
-/
namespace Go.Proofs.YtdmedllaackbaaaDoor
open Go.RowKit

/-- A list of whole numbers: where it lies. -/
structure IL where
  a : Option Addr
  cap : Nat
  x : List Int
abbrev ilV (l : IL) : Value := .slice l.a l.x.length l.cap
structure IlOk (w : World) (l : IL) : Prop where
  rd : Rd .i64 w l.a l.x
  len : l.x.length ≤ 512
theorem IlOk.grow {w w' : World} {l : IL} (h : IlOk w l) (hc : Chg None' w w') : IlOk w' l := ⟨h.rd.chg hc, h.len⟩
theorem IlOk.far {w w' : World} {l : IL} {S : Nat → Prop} (h : IlOk w l) (hs : OutA S l.a) (hc : Chg S w w') : IlOk w' l :=
  ⟨(RdS.chg ⟨h.rd, fun b off s e _ => hs b off s e⟩ hc).1, h.len⟩
theorem plain_i64 {x : List Int} : ∀ u ∈ x.map (Value.int .i64), u.oneCell' = true := by
  intro u hu
  obtain ⟨z, _, rfl⟩ := List.mem_map.1 hu
  rfl
theorem getD_m1 {x : List Int} {i : Nat} (h : i < x.length) : x.getD i (-1) = x.getD i 0 := by
  rw [List.getD_eq_getElem?_getD, List.getD_eq_getElem?_getD, List.getElem?_eq_getElem h]; rfl
theorem IlOk.at {w : World} {l : IL} (h : IlOk w l) {i : Nat} (hi : i < l.x.length) : ∃ b off, l.a = some ⟨b, off, none⟩ ∧ w.cell? ⟨b, off + i, none⟩ = some (.int .i64 (l.x.getD i (-1))) := by
  obtain ⟨b, off, e, hc⟩ := h.rd i hi
  exact ⟨b, off, e, by rw [getD_m1 hi]; exact hc⟩
theorem Rd.atm {w : World} {a : Option Addr} {x : List Int} (h : Rd .i64 w a x) {i : Nat} (hi : i < x.length) : ∃ b off, a = some ⟨b, off, none⟩ ∧ w.cell? ⟨b, off + i, none⟩ = some (.int .i64 (x.getD i (-1))) := by
  obtain ⟨b, off, e, hc⟩ := h i hi
  exact ⟨b, off, e, by rw [getD_m1 hi]; exact hc⟩
theorem ref12_New (m : Nat) (w : World) (h : 1 ≤ m ∧ m ≤ 512) : Does Tryd.prog 12 #[.int .i64 m] w (fun v w' => ∃ l : IL, v = .tuple #[ilV l, .int .i64 0] ∧ l.x = List.replicate m (-1) ∧ IlOk w' l ∧ Chg None' w w' ∧ Newer w none l.a) := by
  have hml : maxLen = 9223372036854775807 := rfl
  refine Does.enter Tryd.func12 rfl Tryd.ntmps12 rfl rfl ?_
  refine Goes.adv hTT 400 rfl ?_
  refine Goes.no hTT rfl (decide_eq_false (by omega)) rfl ?_
  refine Goes.no hTT rfl (decide_eq_false (by omega)) rfl ?_
  refine Goes.loop (α := Nat × Value) (fun p => [(0, false, .int .i64 m), (4, false, p.2), (5, false, .int .i64 p.1)])
    (fun p w' => p.1 ≤ m ∧ Own w.heap.size 3 1 w' p.2 p.1 ((List.replicate p.1 (-1)).map (Value.int .i64)) ∧ Chg None' w w') (fun p => m - p.1) (0, .slice none 0 0) ⟨rfl, rfl, rfl, trivial⟩ ⟨Nat.zero_le _, World.ownsRow_nil _ _ _ _, Chg.refl _ _⟩ ?_
  rintro ⟨i, v⟩ w1 ⟨hi, ho, hw1⟩ ih
  simp only at hi ho
  refine Goes.adv hTT 400 rfl ?_
  refine Goes.fork hTT rfl rfl rfl (fun hc => ?_) (fun hc => ?_)
  · have hlt : i < m := by have := of_decide_eq_true hc; omega
    refine Goes.buildSlice hTT rfl ?_
    intro b2 w2 e2 hb2 hw2 hz2
    refine Goes.adv hTT 400 rfl ?_
    have ho2 := ho.chg hw2 (fun _ _ h => h)
    refine Goes.append (base := w.heap.size) (xs := (List.replicate i (-1)).map (Value.int .i64)) (news := [.int .i64 (-1)]) hTT rfl ho2 (by have := hw1.size; have := hw2.size; omega) (by simp) (cells1 hb2) (by simp [Value.oneCell']) (by simp only; omega) ?_
    intro v3 w3 ho3 hs3 hv3
    refine Goes.adv hTT 400 rfl ?_
    refine Goes.arith hTT rfl (w64 (by omega)) rfl ?_
    exact ih (i + 1, v3) _ _ ⟨hlt, by
      have e : (List.replicate (i + 1) (-1 : Int)).map (Value.int .i64) = (List.replicate i (-1)).map (Value.int .i64) ++ [.int .i64 (-1)] := by rw [List.replicate_succ', List.map_append]; rfl
      rw [e]; exact ho3, (ho2.since (hw1.trans hw2) (Nat.le_refl _) hs3)⟩ (by simp only; omega) ⟨rfl, rfl, rfl, trivial⟩
  · have hge : i = m := by have := of_decide_eq_false hc; omega
    subst hge
    obtain ⟨g, cap4, cur, rfl, hg1, hg2, hg3, hg4, hg5⟩ := ho.form (by omega)
    have hlen : (List.replicate i (-1 : Int)).length = i := List.length_replicate
    exact Goes.ret2 hTT rfl Tryd.func12 rfl rfl rfl ⟨⟨some ⟨g, 0, none⟩, cap4, List.replicate i (-1)⟩, by show _ = Value.tuple #[.slice _ (List.replicate i (-1 : Int)).length _, _]; rw [hlen], rfl, ⟨Rd.of_take hg2 (by simp only [hlen]; simpa using hg5), by simp only; omega⟩, hw1, .inr ⟨g, 0, rfl, hg1⟩⟩
theorem ref12_New_no (m : Int) (w : World) (h : ¬ (1 ≤ m ∧ m ≤ 512)) : Does Tryd.prog 12 #[.int .i64 m] w (Same (.tuple #[.slice none 0 0, .int .i64 1]) w) := by
  refine Does.enter Tryd.func12 rfl Tryd.ntmps12 rfl rfl ?_
  refine Goes.adv hTT 400 rfl ?_
  refine Goes.fork hTT rfl rfl rfl (fun h1 => ?_) (fun h1 => ?_)
  · exact Goes.ret2 hTT rfl Tryd.func12 rfl rfl rfl ⟨rfl, rfl⟩
  have g1 := of_decide_eq_false h1
  refine Goes.yes hTT rfl (decide_eq_true (by omega)) rfl ?_
  exact Goes.ret2 hTT rfl Tryd.func12 rfl rfl rfl ⟨rfl, rfl⟩
theorem ref12_Owner (l : IL) (i : Int) (w : World) (h : IlOk w l) : Does Tryd.prog 79 #[ilV l, .int .i64 i] w (Same (.int .i64 (pgOwn l.x i)) w) := by
  obtain ⟨a, cap, x⟩ := l
  have hl := h.len
  have hr := h.rd
  simp only at hl hr
  show Does Tryd.prog 79 #[.slice a x.length cap, .int .i64 i] w (Same (.int .i64 (pgOwn x i)) w)
  refine Does.enter Tryd.func79 rfl Tryd.ntmps79 rfl rfl ?_
  refine Goes.adv hTT 400 rfl ?_
  refine Goes.fork hTT rfl rfl rfl (fun h1 => ?_) (fun h1 => ?_)
  · have g1 := of_decide_eq_true h1
    exact Goes.ret1 hTT rfl Tryd.func79 rfl rfl ⟨int_v (pgOwn_out (by omega)).symm, rfl⟩
  have g1 := of_decide_eq_false h1
  refine Goes.fork hTT rfl rfl rfl (fun h2 => ?_) (fun h2 => ?_)
  · have g2 := of_decide_eq_true h2
    exact Goes.ret1 hTT rfl Tryd.func79 rfl rfl ⟨int_v (pgOwn_out (by omega)).symm, rfl⟩
  have g2 := of_decide_eq_false h2
  obtain ⟨i, rfl⟩ := Int.eq_ofNat_of_zero_le (show 0 ≤ i by omega)
  obtain ⟨b, off, rfl, hc⟩ := hr.atm (i := i) (by omega)
  refine Goes.index hTT rfl (j := i) (by omega) (by omega) (by first | rfl | omega | (simp; done) | (simp; omega)) rfl ?_
  refine Goes.load hTT rfl hc rfl ?_
  exact Goes.ret1 hTT rfl Tryd.func79 rfl rfl ⟨int_v (by unfold pgOwn; rw [if_pos (by omega)]; rfl), rfl⟩
theorem pgB_take (x : List Int) (k : Nat) : (pgB x).take k = pgB (x.take k) := by unfold pgB; rw [List.map_take]
theorem pgB_at {x : List Int} {j : Nat} (h : j < (pgB x).length) : (pgB x)[j] = !(x.getD j (-1) == -1) := by rw [← pgB_getD, getD_is h]
theorem ref12_Used (l : IL) (w : World) (h : IlOk w l) : Does Tryd.prog 55 #[ilV l] w (Same (.int .i64 (pgUsed l.x)) w) := by
  obtain ⟨a, cap, x⟩ := l
  have hl := h.len
  have hr := h.rd
  simp only at hl hr
  show Does Tryd.prog 55 #[.slice a x.length cap] w (Same (.int .i64 (pgUsed x)) w)
  refine Does.enter Tryd.func55 rfl Tryd.ntmps55 rfl rfl ?_
  refine Goes.adv hTT 400 rfl ?_
  refine Goes.loop (α := Nat) (fun k => [(0, false, .slice a x.length cap), (3, false, .int .i64 (cnt ((pgB x).take k))), (4, false, .int .i64 k)])
    (fun k w' => w' = w ∧ k ≤ x.length) (fun k => x.length - k) 0 ⟨rfl, rfl, rfl, trivial⟩ ⟨rfl, Nat.zero_le _⟩ ?_
  rintro k w1 ⟨hw, hk⟩ ih
  subst hw
  have hcl := cnt_le ((pgB x).take k)
  rw [List.length_take, pgB_length] at hcl
  refine Goes.adv hTT 400 rfl ?_
  refine Goes.fork hTT rfl rfl rfl (fun h0 => ?_) (fun h0 => ?_)
  · have hlt : k < x.length := by have := of_decide_eq_true h0; omega
    obtain ⟨b, off, rfl, hc⟩ := hr.atm hlt
    have hs := cnt_take_succ' (pgB x) k (by rw [pgB_length]; exact hlt)
    rw [pgB_at] at hs
    refine Goes.index hTT rfl (j := k) (by omega) (by omega) (by first | rfl | omega | (simp; done) | (simp; omega)) rfl ?_
    refine Goes.load hTT rfl hc rfl ?_
    cases hb : (x.getD k (-1) == -1) with
    | true =>
      rw [hb, if_neg (by decide)] at hs
      refine Goes.no hTT rfl (show (x.getD k (-1) != -1) = false by simpa [bne] using hb) rfl ?_
      refine Goes.arith hTT rfl (w64 (by omega)) rfl ?_
      exact ih (k + 1) _ _ ⟨rfl, hlt⟩ (by omega) ⟨rfl, by rw [hs]; rfl, rfl, trivial⟩
    | false =>
      rw [hb, if_pos (by decide)] at hs
      refine Goes.yes hTT rfl (show (x.getD k (-1) != -1) = true by simpa [bne] using hb) rfl ?_
      refine Goes.arith hTT rfl (w64 (by omega)) rfl ?_
      refine Goes.arith hTT rfl (w64 (by omega)) rfl ?_
      exact ih (k + 1) _ _ ⟨rfl, hlt⟩ (by omega) ⟨rfl, by rw [hs]; rfl, rfl, trivial⟩
  · have hge : k = x.length := by have := of_decide_eq_false h0; omega
    subst hge
    exact Goes.ret1 hTT rfl Tryd.func55 rfl rfl ⟨int_v (by unfold pgUsed; rw [List.take_of_length_le (by rw [pgB_length]; omega)]), rfl⟩
theorem ref12_Hole (l : IL) (w : World) (h : IlOk w l) : Does Tryd.prog 74 #[ilV l] w (Same (.int .i64 (pgHole l.x)) w) := by
  obtain ⟨a, cap, x⟩ := l
  have hl := h.len
  have hr := h.rd
  simp only at hl hr
  show Does Tryd.prog 74 #[.slice a x.length cap] w (Same (.int .i64 (pgHole x)) w)
  refine Does.enter Tryd.func74 rfl Tryd.ntmps74 rfl rfl ?_
  refine Goes.adv hTT 400 rfl ?_
  refine Goes.loop (α := Nat) (fun k => [(0, false, .slice a x.length cap), (3, false, .int .i64 k)])
    (fun k w' => w' = w ∧ k ≤ x.length ∧ ∀ j, j < k → (x.getD j (-1) == -1) = false) (fun k => x.length - k) 0 ⟨rfl, rfl, trivial⟩ ⟨rfl, Nat.zero_le _, fun _ h => by omega⟩ ?_
  rintro k w1 ⟨hw, hk, hpre⟩ ih
  subst hw
  refine Goes.adv hTT 400 rfl ?_
  refine Goes.fork hTT rfl rfl rfl (fun h0 => ?_) (fun h0 => ?_)
  · have hlt : k < x.length := by have := of_decide_eq_true h0; omega
    obtain ⟨b, off, rfl, hc⟩ := hr.atm hlt
    refine Goes.index hTT rfl (j := k) (by omega) (by omega) (by first | rfl | omega | (simp; done) | (simp; omega)) rfl ?_
    refine Goes.load hTT rfl hc rfl ?_
    cases hb : (x.getD k (-1) == -1) with
    | true =>
      refine Goes.yes hTT rfl rfl rfl ?_
      exact Goes.ret1 hTT rfl Tryd.func74 rfl rfl ⟨int_v (idx_at (p := fun b => !b) (by rw [pgB_length]; exact hlt) (fun j hj hjk => by rw [pgB_at, hpre j hjk]; rfl) (by rw [pgB_at, hb]; rfl)).symm, rfl⟩
    | false =>
      refine Goes.no hTT rfl rfl rfl ?_
      refine Goes.arith hTT rfl (w64 (by omega)) rfl ?_
      exact ih (k + 1) _ _ ⟨rfl, hlt, fun j hjk => by
        by_cases e : j = k
        · subst e; exact hb
        · exact hpre j (by omega)⟩ (by omega) ⟨rfl, rfl, trivial⟩
  · have hge : k = x.length := by have := of_decide_eq_false h0; omega
    exact Goes.ret1 hTT rfl Tryd.func74 rfl rfl ⟨int_v (idx_none (p := fun b => !b) (fun j hj => by rw [pgB_at, hpre j (by rw [pgB_length] at hj; omega)]; rfl)).symm, rfl⟩
theorem ref12_Top (l : IL) (w : World) (h : IlOk w l) : Does Tryd.prog 80 #[ilV l] w (Same (.int .i64 (pgTop l.x)) w) := by
  obtain ⟨a, cap, x⟩ := l
  have hl := h.len
  have hr := h.rd
  simp only at hl hr
  show Does Tryd.prog 80 #[.slice a x.length cap] w (Same (.int .i64 (pgTop x)) w)
  refine Does.enter Tryd.func80 rfl Tryd.ntmps80 rfl rfl ?_
  refine Goes.adv hTT 400 rfl ?_
  refine Goes.arith hTT rfl (w64 (by omega)) rfl ?_
  refine Goes.loop (α := Nat) (fun k => [(0, false, .slice a x.length cap), (3, false, .int .i64 ((k : Int) - 1))])
    (fun k w' => w' = w ∧ k ≤ x.length ∧ ∀ j, k ≤ j → (x.getD j (-1) == -1) = true) (fun k => k) x.length ⟨rfl, rfl, trivial⟩ ⟨rfl, Nat.le_refl _, fun j h => by rw [List.getD_eq_getElem?_getD, List.getElem?_eq_none h]; rfl⟩ ?_
  rintro k w1 ⟨hw, hk, hpre⟩ ih
  subst hw
  refine Goes.adv hTT 400 rfl ?_
  refine Goes.fork hTT rfl rfl rfl (fun h0 => ?_) (fun h0 => ?_)
  · have hlt : 0 < k := by have := of_decide_eq_true h0; omega
    obtain ⟨k, rfl⟩ : ∃ m, k = m + 1 := ⟨k - 1, by omega⟩
    obtain ⟨b, off, rfl, hc⟩ := hr.atm (i := k) (by omega)
    rw [show (((k + 1 : Nat) : Int) - 1) = (k : Int) from by omega]
    refine Goes.index hTT rfl (j := k) (by omega) (by omega) (by first | rfl | omega | (simp; done) | (simp; omega)) rfl ?_
    refine Goes.load hTT rfl hc rfl ?_
    cases hb : (x.getD k (-1) == -1) with
    | false =>
      refine Goes.yes hTT rfl (show (x.getD k (-1) != -1) = true by simpa [bne] using hb) rfl ?_
      exact Goes.ret1 hTT rfl Tryd.func80 rfl rfl ⟨int_v (ridx_at (p := id) (by rw [pgB_length]; omega) (fun j hj hjk => by rw [pgB_at, hpre j (by omega)]; rfl) (by rw [pgB_at, hb]; rfl)).symm, rfl⟩
    | true =>
      refine Goes.no hTT rfl (show (x.getD k (-1) != -1) = false by simpa [bne] using hb) rfl ?_
      refine Goes.arith hTT rfl (w64 (by omega)) rfl ?_
      exact ih k _ _ ⟨rfl, by omega, fun j hjk => by
        by_cases e : j = k
        · subst e; exact hb
        · exact hpre j (by omega)⟩ (by omega) ⟨rfl, rfl, trivial⟩
  · have hge : k = 0 := by have := of_decide_eq_false h0; omega
    exact Goes.ret1 hTT rfl Tryd.func80 rfl rfl ⟨int_v (ridx_none (p := id) (fun j hj => by rw [pgB_at, hpre j (by omega)]; rfl)).symm, rfl⟩
theorem ref12_With (l : IL) (i : Nat) (v : Int) (w : World) (h : IlOk w l) (hi : i < l.x.length) : Does Tryd.prog 85 #[ilV l, .int .i64 i, .int .i64 v] w
    (fun u w' => ∃ l' : IL, u = ilV l' ∧ l'.x = l.x.set i v ∧ IlOk w' l' ∧ Chg None' w w' ∧ Newer w l.a l'.a) := by
  obtain ⟨a, cap, x⟩ := l
  have hl := h.len
  have hr := h.rd
  simp only at hl hr hi
  show Does Tryd.prog 85 #[.slice a x.length cap, .int .i64 i, .int .i64 v] w _
  have hml : maxLen = 9223372036854775807 := rfl
  obtain ⟨b, off, rfl, hc⟩ := hr i hi
  refine Does.enter Tryd.func85 rfl Tryd.ntmps85 rfl rfl ?_
  refine Goes.adv hTT 400 rfl ?_
  refine Goes.buildSlice hTT rfl ?_
  intro b3 w3 e3 hb3 hw3 hz3
  refine Goes.adv hTT 400 rfl ?_
  have ho : Own w.heap.size 3 1 w3 (.slice (some ⟨b3, 0, none⟩) 0 0) 0 [] := Own.empty (by omega) hb3
  refine Goes.append (base := w.heap.size) (xs := []) (news := x.map (Value.int .i64)) hTT rfl ho hw3.size (by simp) (hr.chg hw3).cells plain_i64 (by simp only; omega) ?_
  intro v4 w4 ho4 hs4 hv4
  refine Goes.adv hTT 400 rfl ?_
  have hw4 := ho.since hw3 (Nat.le_refl _) hs4
  obtain ⟨g, cap4, cur, rfl, hg1, hg2, hg3, hg4, hg5⟩ := ho4.form (by omega)
  have hcur : cur.toList = x.map (Value.int .i64) ++ cur.toList.drop x.length := by
    have e := List.take_append_drop x.length cur.toList
    rw [show cur.toList.take x.length = x.map (Value.int .i64) from by simpa using hg5] at e
    exact e.symm
  obtain ⟨rest, hrest⟩ : ∃ rest, rest = cur.toList.drop x.length := ⟨_, rfl⟩
  rw [← hrest] at hcur
  have hg2' : w4.heap[g]? = some (.cells (x.map (Value.int .i64) ++ rest).toArray 3 (0, 0)) := by rw [← hcur]; exact hg2
  have hl4 : 0 + x.length = x.length := by omega
  rw [hl4] at hg3 ⊢
  refine Goes.index hTT rfl (j := i) (by omega) (by omega) (by first | rfl | omega | (simp; done) | (simp; omega)) rfl ?_
  refine Goes.store hTT rfl hg2' (show setV (x.map (Value.int .i64) ++ rest) (0 + i) [.int .i64 v] = some ((x.set i v).map (Value.int .i64) ++ rest) from by rw [Nat.zero_add, setV_oneL _ _ _ (by simp; omega), List.set_append_left _ _ (by simpa using hi), List.map_set]) rfl ?_
  intro w5 hg5' hs5 hz5
  refine Goes.adv hTT 400 rfl ?_
  have hw5 : Chg None' w w5 := hw4.since hs5 (fun z hz hze => by omega)
  have hsl : (x.set i v).length = x.length := by simp
  exact Goes.ret1 hTT rfl Tryd.func85 rfl rfl ⟨⟨some ⟨g, 0, none⟩, cap4, x.set i v⟩, by show _ = Value.slice _ (x.set i v).length _; rw [hsl], rfl, ⟨Rd.of_take hg5' (by simp), by simp only; omega⟩, hw5, .inr ⟨g, 0, rfl, hg1⟩⟩
theorem ref12_Take (l : IL) (who : Int) (w : World) (h : IlOk w l) : Does Tryd.prog 72 #[ilV l, .int .i64 who] w
    (fun v w' => ∃ l' : IL, v = .tuple #[ilV l', .int .i64 (pgTakeA l.x who), .int .i64 (pgTakeE l.x who)] ∧ l'.x = pgTake l.x who ∧ IlOk w' l' ∧ Chg None' w w' ∧ Newer w l.a l'.a) := by
  refine Does.enter Tryd.func72 rfl Tryd.ntmps72 rfl rfl ?_
  refine Goes.adv hTT 400 rfl ?_
  refine Goes.fork hTT rfl rfl rfl (fun h0 => ?_) (fun h0 => ?_)
  · have g0 := of_decide_eq_true h0
    have he : pgTakeE l.x who = 1 := by unfold pgTakeE; rw [if_pos g0]
    have ha : pgTakeA l.x who = 0 := by unfold pgTakeA; rw [he]; rfl
    have ht : pgTake l.x who = l.x := by unfold pgTake; rw [he]; rfl
    rw [he, ha, ht]
    exact Goes.ret hTT rfl Tryd.func72 (.tmp rfl (.tmp rfl (.tmp rfl .nil))) ⟨l, rfl, rfl, h, Chg.refl _ _, .inl rfl⟩
  have g0 := of_decide_eq_false h0
  refine Goes.call rfl (ref12_Hole l w h) ?_
  rintro _ _ ⟨rfl, rfl⟩
  refine Goes.adv hTT 400 rfl ?_
  refine Goes.fork hTT rfl rfl rfl (fun h1 => ?_) (fun h1 => ?_)
  · have g1 := of_decide_eq_true h1
    have he : pgTakeE l.x who = 5 := by unfold pgTakeE; rw [if_neg g0, if_pos g1]
    have ha : pgTakeA l.x who = 0 := by unfold pgTakeA; rw [he]; rfl
    have ht : pgTake l.x who = l.x := by unfold pgTake; rw [he]; rfl
    rw [he, ha, ht]
    exact Goes.ret hTT rfl Tryd.func72 (.tmp rfl (.tmp rfl (.tmp rfl .nil))) ⟨l, rfl, rfl, h, Chg.refl _ _, .inl rfl⟩
  have g1 := of_decide_eq_false h1
  have he : pgTakeE l.x who = 0 := by unfold pgTakeE; rw [if_neg g0, if_neg g1]
  have ha : pgTakeA l.x who = pgHole l.x := by unfold pgTakeA; rw [he]; rfl
  have ht : pgTake l.x who = l.x.set (pgHole l.x).toNat who := by unfold pgTake; rw [he]; rfl
  obtain ⟨hin, hat⟩ := pg_hole_in g1
  rw [he, ha, ht]
  obtain ⟨k, hk⟩ := Int.eq_ofNat_of_zero_le (show 0 ≤ pgHole l.x by omega)
  rw [hk]
  rw [hk] at hin
  refine Goes.call rfl (ref12_With l k who w h hin) ?_
  rintro _ w1 ⟨l', rfl, hx, hl, hw, hne⟩
  refine Goes.adv hTT 400 rfl ?_
  exact Goes.ret hTT rfl Tryd.func72 (.tmp rfl (.tmp rfl (.tmp rfl .nil))) ⟨l', rfl, hx, hl, hw, hne⟩
theorem ref12_Give (l : IL) (i : Int) (w : World) (h : IlOk w l) : Does Tryd.prog 76 #[ilV l, .int .i64 i] w
    (fun v w' => ∃ l' : IL, v = .tuple #[ilV l', .int .i64 (pgGiveE l.x i)] ∧ l'.x = pgGive l.x i ∧ IlOk w' l' ∧ Chg None' w w' ∧ Newer w l.a l'.a) := by
  have hk : ∀ e : Int, pgGiveE l.x i = e → e ≠ 0 → pgGive l.x i = l.x := fun e h1 h2 => by unfold pgGive; rw [h1, if_neg h2]
  obtain ⟨a, cap, x⟩ := l
  have hr := h.rd
  have hl := h.len
  simp only at hr hk hl
  show Does Tryd.prog 76 #[.slice a x.length cap, .int .i64 i] w (fun v w' => ∃ l' : IL, v = .tuple #[ilV l', .int .i64 (pgGiveE x i)] ∧ l'.x = pgGive x i ∧ IlOk w' l' ∧ Chg None' w w' ∧ Newer w a l'.a)
  refine Does.enter Tryd.func76 rfl Tryd.ntmps76 rfl rfl ?_
  refine Goes.adv hTT 400 rfl ?_
  refine Goes.fork hTT rfl rfl rfl (fun h0 => ?_) (fun h0 => ?_)
  · have g0 := of_decide_eq_true h0
    have he : pgGiveE x i = 1 := by unfold pgGiveE; rw [if_pos (by omega)]
    rw [he, hk 1 he (by decide)]
    exact Goes.ret2 hTT rfl Tryd.func76 rfl rfl rfl ⟨⟨a, cap, x⟩, rfl, rfl, h, Chg.refl _ _, .inl rfl⟩
  have g0 := of_decide_eq_false h0
  refine Goes.fork hTT rfl rfl rfl (fun h1 => ?_) (fun h1 => ?_)
  · have g1 := of_decide_eq_true h1
    have he : pgGiveE x i = 1 := by unfold pgGiveE; rw [if_pos (by omega)]
    rw [he, hk 1 he (by decide)]
    exact Goes.ret2 hTT rfl Tryd.func76 rfl rfl rfl ⟨⟨a, cap, x⟩, rfl, rfl, h, Chg.refl _ _, .inl rfl⟩
  have g1 := of_decide_eq_false h1
  obtain ⟨i, rfl⟩ := Int.eq_ofNat_of_zero_le (show 0 ≤ i by omega)
  have hko : pgOwn x (i : Int) = x.getD i (-1) := by unfold pgOwn; rw [if_pos (by omega)]; rfl
  obtain ⟨b, off, rfl, hc⟩ := hr.atm (i := i) (by omega)
  refine Goes.index hTT rfl (j := i) (by omega) (by omega) (by first | rfl | omega | (simp; done) | (simp; omega)) rfl ?_
  refine Goes.load hTT rfl hc rfl ?_
  by_cases h2 : x.getD i (-1) = -1
  · have he : pgGiveE x i = 9 := by unfold pgGiveE; rw [if_neg (by omega), if_pos (by rw [hko]; exact h2)]
    rw [he]
    refine Goes.yes hTT rfl (show (x.getD i (-1) == -1) = true by rw [h2]; rfl) rfl ?_
    exact Goes.ret2 hTT rfl Tryd.func76 rfl rfl rfl ⟨⟨_, cap, x⟩, rfl, (hk 9 he (by decide)).symm, h, Chg.refl _ _, .inl rfl⟩
  · have he : pgGiveE x i = 0 := by unfold pgGiveE; rw [if_neg (by omega), if_neg (by rw [hko]; exact h2)]
    have ht : pgGive x i = x.set i (-1) := by unfold pgGive; rw [he]; rfl
    rw [he]
    refine Goes.no hTT rfl (show (x.getD i (-1) == -1) = false by simpa using h2) rfl ?_
    refine Goes.call rfl (ref12_With ⟨_, cap, x⟩ i (-1) w h (show i < x.length by omega)) ?_
    rintro _ w1 ⟨l', rfl, hx, hl, hw, hne⟩
    refine Goes.adv hTT 400 rfl ?_
    exact Goes.ret2 hTT rfl Tryd.func76 rfl rfl rfl ⟨l', rfl, by rw [hx]; exact ht.symm, hl, hw, hne⟩
theorem ref12_Own (l : IL) (i who : Int) (w : World) (h : IlOk w l) : Does Tryd.prog 78 #[ilV l, .int .i64 i, .int .i64 who] w
    (fun v w' => ∃ l' : IL, v = .tuple #[ilV l', .int .i64 (pgOwnE l.x i who)] ∧ l'.x = pgOwnS l.x i who ∧ IlOk w' l' ∧ Chg None' w w' ∧ Newer w l.a l'.a) := by
  have hk : ∀ e : Int, pgOwnE l.x i who = e → e ≠ 0 → pgOwnS l.x i who = l.x := fun e h1 h2 => by unfold pgOwnS; rw [h1, if_neg h2]
  obtain ⟨a, cap, x⟩ := l
  have hr := h.rd
  have hl := h.len
  simp only at hr hk hl
  show Does Tryd.prog 78 #[.slice a x.length cap, .int .i64 i, .int .i64 who] w (fun v w' => ∃ l' : IL, v = .tuple #[ilV l', .int .i64 (pgOwnE x i who)] ∧ l'.x = pgOwnS x i who ∧ IlOk w' l' ∧ Chg None' w w' ∧ Newer w a l'.a)
  refine Does.enter Tryd.func78 rfl Tryd.ntmps78 rfl rfl ?_
  refine Goes.adv hTT 400 rfl ?_
  refine Goes.fork hTT rfl rfl rfl (fun h0 => ?_) (fun h0 => ?_)
  · have g0 := of_decide_eq_true h0
    have he : pgOwnE x i who = 1 := by unfold pgOwnE; rw [if_pos (by omega)]
    rw [he, hk 1 he (by decide)]
    exact Goes.ret2 hTT rfl Tryd.func78 rfl rfl rfl ⟨⟨a, cap, x⟩, rfl, rfl, h, Chg.refl _ _, .inl rfl⟩
  have g0 := of_decide_eq_false h0
  refine Goes.fork hTT rfl rfl rfl (fun h1 => ?_) (fun h1 => ?_)
  · have g1 := of_decide_eq_true h1
    have he : pgOwnE x i who = 1 := by unfold pgOwnE; rw [if_pos (by omega)]
    rw [he, hk 1 he (by decide)]
    exact Goes.ret2 hTT rfl Tryd.func78 rfl rfl rfl ⟨⟨a, cap, x⟩, rfl, rfl, h, Chg.refl _ _, .inl rfl⟩
  have g1 := of_decide_eq_false h1
  refine Goes.fork hTT rfl rfl rfl (fun hw0 => ?_) (fun hw0 => ?_)
  · have gw := of_decide_eq_true hw0
    have he : pgOwnE x i who = 1 := by unfold pgOwnE; rw [if_pos (by omega)]
    rw [he, hk 1 he (by decide)]
    exact Goes.ret2 hTT rfl Tryd.func78 rfl rfl rfl ⟨⟨a, cap, x⟩, rfl, rfl, h, Chg.refl _ _, .inl rfl⟩
  have gw := of_decide_eq_false hw0
  obtain ⟨i, rfl⟩ := Int.eq_ofNat_of_zero_le (show 0 ≤ i by omega)
  have hko : pgOwn x (i : Int) = x.getD i (-1) := by unfold pgOwn; rw [if_pos (by omega)]; rfl
  obtain ⟨b, off, rfl, hc⟩ := hr.atm (i := i) (by omega)
  refine Goes.index hTT rfl (j := i) (by omega) (by omega) (by first | rfl | omega | (simp; done) | (simp; omega)) rfl ?_
  refine Goes.load hTT rfl hc rfl ?_
  by_cases h2 : x.getD i (-1) = -1
  · have he : pgOwnE x i who = 9 := by unfold pgOwnE; rw [if_neg (by omega), if_pos (by rw [hko]; exact h2)]
    rw [he]
    refine Goes.yes hTT rfl (show (x.getD i (-1) == -1) = true by rw [h2]; rfl) rfl ?_
    exact Goes.ret2 hTT rfl Tryd.func78 rfl rfl rfl ⟨⟨_, cap, x⟩, rfl, (hk 9 he (by decide)).symm, h, Chg.refl _ _, .inl rfl⟩
  · have he : pgOwnE x i who = 0 := by unfold pgOwnE; rw [if_neg (by omega), if_neg (by rw [hko]; exact h2)]
    have ht : pgOwnS x i who = x.set i who := by unfold pgOwnS; rw [he]; rfl
    rw [he]
    refine Goes.no hTT rfl (show (x.getD i (-1) == -1) = false by simpa using h2) rfl ?_
    refine Goes.call rfl (ref12_With ⟨_, cap, x⟩ i who w h (show i < x.length by omega)) ?_
    rintro _ w1 ⟨l', rfl, hx, hl, hw, hne⟩
    refine Goes.adv hTT 400 rfl ?_
    exact Goes.ret2 hTT rfl Tryd.func78 rfl rfl rfl ⟨l', rfl, by rw [hx]; exact ht.symm, hl, hw, hne⟩
end Go.Proofs.YtdmedllaackbaaaDoor
/-
  Layer 13: the layer answers; of a shelf that is nil nothing is told.
-/
namespace Go.Proofs.YtdmedllaackbaaaDoor
open Go.RowKit

set_option maxRecDepth 100000 in
theorem law13_awake (w : World) (ht : TabAt w) : Does Tryd.prog 9 #[] w (Grow (.bool true) w) := by
  refine Does.enter Tryd.func9 rfl Tryd.ntmps9 rfl rfl ?_
  refine Goes.adv hTT 400 rfl ?_
  refine Goes.call rfl (pool_New 2 w (by decide)) ?_
  rintro _ w1 ⟨P, rfl, hPn, hP, hw1⟩
  refine Goes.adv hTT 400 rfl ?_
  have ht1 : TabAt w1 := fun j hj => hw1.cell (ht j hj) id
  refine Goes.call rfl (st_New (w0 := w) (k := 2) (cls := 5) ht1 (by decide) (by decide) hP hPn hw1.size) ?_
  rintro _ w2 ⟨S, F, hSP, rfl, h2, hF2, hw2⟩
  refine Goes.adv hTT 400 rfl ?_
  have hw02 := hw1.trans hw2
  have d3 := st_Take 7 h2
  rw [show shTakeN (newSm 5 2) (plNew 2) 7 = 0 from rfl, show shTakeA (newSm 5 2) (plNew 2) 7 = 0 from rfl, show shTakeE (newSm 5 2) (plNew 2) 7 = 0 from rfl, show shTake (newSm 5 2) (plNew 2) 7 = ⟨5, 2, [(0, [7, -1])], [0]⟩ from rfl, show shTakeP (newSm 5 2) (plNew 2) 7 = ⟨[5, -1], [1]⟩ from rfl] at d3
  refine Goes.call rfl (d3) ?_
  rintro _ w3 ⟨rfl, h3, hc3⟩
  refine Goes.adv hTT 400 rfl ?_
  have hF3 : ∀ z, growF F w2 w3 z → w.heap.size ≤ z := growF_new (fun z hz => (hF2 z hz).1) hw02.size
  have hw03 : Chg None' w w3 := hw02.since hc3 (fun z hz h => by have := hF2 z h; omega)
  have d4 := st_Take 8 h3
  rw [show shTakeN ⟨5, 2, [(0, [7, -1])], [0]⟩ ⟨[5, -1], [1]⟩ 8 = 0 from rfl, show shTakeA ⟨5, 2, [(0, [7, -1])], [0]⟩ ⟨[5, -1], [1]⟩ 8 = 1 from rfl, show shTakeE ⟨5, 2, [(0, [7, -1])], [0]⟩ ⟨[5, -1], [1]⟩ 8 = 0 from rfl, show shTake ⟨5, 2, [(0, [7, -1])], [0]⟩ ⟨[5, -1], [1]⟩ 8 = ⟨5, 2, [(0, [7, 8])], []⟩ from rfl, show shTakeP ⟨5, 2, [(0, [7, -1])], [0]⟩ ⟨[5, -1], [1]⟩ 8 = ⟨[5, -1], [1]⟩ from rfl] at d4
  refine Goes.call rfl (d4) ?_
  rintro _ w4 ⟨rfl, h4, hc4⟩
  refine Goes.adv hTT 400 rfl ?_
  have hF4 : ∀ z, growF _ w3 w4 z → w.heap.size ≤ z := growF_new hF3 hw03.size
  have hw04 : Chg None' w w4 := hw03.since hc4 (fun z hz h => by have := hF3 z h; omega)
  have d5 := st_Take 9 h4
  rw [show shTakeN ⟨5, 2, [(0, [7, 8])], []⟩ ⟨[5, -1], [1]⟩ 9 = 1 from rfl, show shTakeA ⟨5, 2, [(0, [7, 8])], []⟩ ⟨[5, -1], [1]⟩ 9 = 0 from rfl, show shTakeE ⟨5, 2, [(0, [7, 8])], []⟩ ⟨[5, -1], [1]⟩ 9 = 0 from rfl, show shTake ⟨5, 2, [(0, [7, 8])], []⟩ ⟨[5, -1], [1]⟩ 9 = ⟨5, 2, [(0, [7, 8]), (1, [9, -1])], [1]⟩ from rfl, show shTakeP ⟨5, 2, [(0, [7, 8])], []⟩ ⟨[5, -1], [1]⟩ 9 = ⟨[5, 5], []⟩ from rfl] at d5
  refine Goes.call rfl (d5) ?_
  rintro _ w5 ⟨rfl, h5, hc5⟩
  refine Goes.adv hTT 400 rfl ?_
  have hF5 : ∀ z, growF _ w4 w5 z → w.heap.size ≤ z := growF_new hF4 hw04.size
  have hw05 : Chg None' w w5 := hw04.since hc5 (fun z hz h => by have := hF4 z h; omega)
  have d6 := st_Give 0 1 h5
  rw [show shGiveE ⟨5, 2, [(0, [7, 8]), (1, [9, -1])], [1]⟩ 0 1 = 0 from rfl, show shGive ⟨5, 2, [(0, [7, 8]), (1, [9, -1])], [1]⟩ 0 1 = ⟨5, 2, [(0, [7, -1]), (1, [9, -1])], [0, 1]⟩ from rfl, show shGiveP ⟨5, 2, [(0, [7, 8]), (1, [9, -1])], [1]⟩ ⟨[5, 5], []⟩ 0 1 = ⟨[5, 5], []⟩ from rfl] at d6
  refine Goes.call rfl (d6) ?_
  rintro _ w6 ⟨rfl, h6, hc6⟩
  refine Goes.adv hTT 400 rfl ?_
  have hw06 : Chg None' w w6 := hw05.since hc6 (fun z hz h => by have := hF5 z h; omega)
  have d7 := st_Plan h6
  rw [show shPlanL ⟨5, 2, [(0, [7, -1]), (1, [9, -1])], [0, 1]⟩ = planL 1 0 0 1 from rfl, show shPlanB ⟨5, 2, [(0, [7, -1]), (1, [9, -1])], [0, 1]⟩ = true from rfl] at d7
  refine Goes.call rfl (d7) ?_
  rintro _ w7 ⟨rfl, hw7⟩
  refine Goes.adv hTT 400 rfl ?_
  refine Goes.alloc hTT rfl ?_
  intro tb w8 e8 htb hw8 hz8
  refine Goes.adv hTT 400 rfl ?_
  refine Goes.store hTT rfl htb rfl rfl ?_
  intro w9 htb9 hs9 hz9
  refine Goes.adv hTT 400 rfl ?_
  have hs6 := hw06.size
  have hs7 := hw7.size
  have hc69 : Chg None' w6 w9 := (hw7.trans hw8).since hs9 (fun z hz e => by omega)
  have hw09 := hw06.trans hc69
  have ht9 : TabAt w9 := fun j hj => hw09.cell (ht j hj) id
  have h9 := h6.grow hc69
  refine Goes.call rfl (shelf_New_nopool 5 2 w9 ht9) ?_
  rintro _ w10 ⟨rfl, hw10⟩
  refine Goes.adv hTT 400 rfl ?_
  have hw010 := hw09.trans hw10
  have h10 := h9.grow hw10
  have htb10 := hw10.heap' htb9
  refine Goes.yes hTT rfl rfl rfl ?_
  refine Goes.yes hTT rfl rfl rfl ?_
  refine Goes.yes hTT rfl rfl rfl ?_
  refine Goes.yes hTT rfl rfl rfl ?_
  refine Goes.yes hTT rfl rfl rfl ?_
  refine Goes.yes hTT rfl rfl rfl ?_
  refine Goes.loads hTT rfl htb10 rfl rfl ?_
  refine Goes.build hTT rfl rfl ?_
  refine Goes.aggeq hTT rfl (by kernel_rfl) (eq_plan 1 0 0 1 1 0 0 1 _) rfl ?_
  refine Goes.yes hTT rfl rfl rfl ?_
  refine Goes.yes hTT rfl rfl rfl ?_
  refine Goes.call rfl (st_Pages h10) ?_
  rintro _ _ ⟨rfl, rfl⟩
  refine Goes.adv hTT 400 rfl ?_
  refine Goes.yes hTT rfl rfl rfl ?_
  refine Goes.call rfl (st_Open h10) ?_
  rintro _ _ ⟨rfl, rfl⟩
  refine Goes.adv hTT 400 rfl ?_
  refine Goes.yes hTT rfl rfl rfl ?_
  refine Goes.call rfl (st_Used h10) ?_
  rintro _ _ ⟨rfl, rfl⟩
  refine Goes.adv hTT 400 rfl ?_
  refine Goes.yes hTT rfl rfl rfl ?_
  refine Goes.call rfl (st_Owner 1 0 h10) ?_
  rintro _ _ ⟨rfl, rfl⟩
  refine Goes.adv hTT 400 rfl ?_
  refine Goes.yes hTT rfl rfl rfl ?_
  have hP10 := h10.pool
  rw [hSP] at hP10
  refine Goes.call rfl (pool_Owner P _ 1 w10 hP10) ?_
  rintro _ _ ⟨rfl, rfl⟩
  refine Goes.adv hTT 400 rfl ?_
  refine Goes.yes hTT rfl rfl rfl ?_
  refine Goes.call rfl (pool_Held P _ w10 hP10) ?_
  rintro _ _ ⟨rfl, rfl⟩
  refine Goes.adv hTT 400 rfl ?_
  exact Goes.ret1 hTT rfl Tryd.func9 rfl rfl ⟨rfl, hw010⟩
theorem law_ShelfNobody (n i : Int) (w : World) (ht : TabAt w) : Does Tryd.prog 6 #[.int .i64 n, .int .i64 i] w (Grow (.bool true) w) := by
  refine Does.enter Tryd.func6 rfl Tryd.ntmps6 rfl rfl ?_
  refine Goes.adv hTT 400 rfl ?_
  refine Goes.call rfl (law13_awake w ht) ?_
  rintro _ w1 ⟨rfl, hw1⟩
  refine Goes.adv hTT 400 rfl ?_
  refine Goes.call rfl (shelf_Take_nil 1 w1) ?_
  rintro _ _ ⟨rfl, rfl⟩
  refine Goes.adv hTT 400 rfl ?_
  refine Goes.call rfl (shelf_Plan_nil w1) ?_
  rintro _ w2 ⟨rfl, hw2⟩
  refine Goes.adv hTT 400 rfl ?_
  refine Goes.alloc hTT rfl ?_
  intro tb w3 e3 htb hw3 hz3
  refine Goes.adv hTT 400 rfl ?_
  refine Goes.store hTT rfl htb rfl rfl ?_
  intro w4 htb4 hs4 hz4
  refine Goes.adv hTT 400 rfl ?_
  have hs1 := hw1.size
  have hs2 := hw2.size
  have hw04 : Chg None' w w4 := ((hw1.trans hw2).trans hw3).since hs4 (fun z hz e => by omega)
  refine Goes.yes hTT rfl rfl rfl ?_
  refine Goes.yes hTT rfl rfl rfl ?_
  refine Goes.yes hTT rfl rfl rfl ?_
  refine Goes.call rfl (shelf_Give_nil n i w4) ?_
  rintro _ _ ⟨rfl, rfl⟩
  refine Goes.adv hTT 400 rfl ?_
  refine Goes.yes hTT rfl rfl rfl ?_
  refine Goes.call rfl (shelf_Own_nil n i 1 w4) ?_
  rintro _ _ ⟨rfl, rfl⟩
  refine Goes.adv hTT 400 rfl ?_
  refine Goes.yes hTT rfl rfl rfl ?_
  refine Goes.call rfl (shelf_Owner_nil n i w4) ?_
  rintro _ _ ⟨rfl, rfl⟩
  refine Goes.adv hTT 400 rfl ?_
  refine Goes.yes hTT rfl rfl rfl ?_
  refine Goes.call rfl (shelf_Pages_nil w4) ?_
  rintro _ _ ⟨rfl, rfl⟩
  refine Goes.adv hTT 400 rfl ?_
  refine Goes.yes hTT rfl rfl rfl ?_
  refine Goes.call rfl (shelf_Open_nil w4) ?_
  rintro _ _ ⟨rfl, rfl⟩
  refine Goes.adv hTT 400 rfl ?_
  refine Goes.yes hTT rfl rfl rfl ?_
  refine Goes.call rfl (shelf_Used_nil w4) ?_
  rintro _ _ ⟨rfl, rfl⟩
  refine Goes.adv hTT 400 rfl ?_
  exact Goes.ret1 hTT rfl Tryd.func6 rfl rfl ⟨rfl, hw04⟩
theorem law_ShelfNew (cls m : Int) (w : World) (ht : TabAt w) : Does Tryd.prog 3 #[.int .i64 cls, .int .i64 m] w (Grow (.bool true) w) := by
  refine Does.enter Tryd.func3 rfl Tryd.ntmps3 rfl rfl ?_
  refine Goes.adv hTT 400 rfl ?_
  refine Goes.call rfl (law13_awake w ht) ?_
  rintro _ w1 ⟨rfl, hw1⟩
  refine Goes.adv hTT 400 rfl ?_
  refine Goes.call rfl (pool_New 2 w1 (by decide)) ?_
  rintro _ w2 ⟨P, rfl, hPn, hP, hw2⟩
  refine Goes.adv hTT 400 rfl ?_
  have hw02 := hw1.trans hw2
  have ht2 : TabAt w2 := fun j hj => hw02.cell (ht j hj) id
  by_cases hm : 1 ≤ m ∧ m ≤ 512
  · obtain ⟨k, rfl⟩ := Int.eq_ofNat_of_zero_le (show 0 ≤ m by omega)
    have hk : 1 ≤ k ∧ k ≤ 512 := by omega
    by_cases hc : cls < 0
    · refine Goes.call rfl (shelf_New_no P cls k w2 ht2 (.inl hc)) ?_
      rintro _ w3 ⟨rfl, hw3⟩
      refine Goes.adv hTT 400 rfl ?_
      refine Goes.call rfl (ref12_New k w3 hk) ?_
      rintro _ w4 ⟨l, rfl, _, _, hw4, _⟩
      refine Goes.adv hTT 400 rfl ?_
      refine Goes.yes hTT rfl (decide_eq_true hc) rfl ?_
      refine Goes.yes hTT rfl rfl rfl ?_
      refine Goes.yes hTT rfl rfl rfl ?_
      exact Goes.ret1 hTT rfl Tryd.func3 rfl rfl ⟨rfl, (hw02.trans hw3).trans hw4⟩
    · have hc0 : 0 ≤ cls := by omega
      refine Goes.call rfl (st_New (w0 := w) (k := k) (cls := cls) ht2 hc0 hk hP ⟨by have := hw1.size; omega, by have := hw1.size; omega⟩ hw02.size) ?_
      rintro _ w3 ⟨S, F, hSP, rfl, h3, hF3, hw3⟩
      refine Goes.adv hTT 400 rfl ?_
      refine Goes.call rfl (ref12_New k w3 hk) ?_
      rintro _ w4 ⟨l, rfl, _, _, hw4, _⟩
      refine Goes.adv hTT 400 rfl ?_
      have hw04 := (hw02.trans hw3).trans hw4
      refine Goes.no hTT rfl (decide_eq_false hc) rfl ?_
      refine Goes.no hTT rfl rfl rfl ?_
      have hrl : (List.replicate k (-1 : Int)).length = k := List.length_replicate
      have hnf : pgUsed (List.replicate k (-1 : Int)) ≠ (List.replicate k (-1 : Int)).length := by rw [pgUsed_new, hrl]; omega
      obtain ⟨hpe, hpu⟩ := pgTake_ok (who := 4) (by decide) hnf
      rw [pgUsed_new] at hpu
      have hh0 : pgHole (List.replicate k (-1 : Int)) = 0 := by
        obtain ⟨j, rfl⟩ : ∃ j, k = j + 1 := ⟨k - 1, by omega⟩
        rfl
      have eE : shTakeE (newSm cls k) (plNew 2) 4 = 0 := rfl
      have eP : shP (newSm cls k) (plNew 2) = List.replicate k (-1) := rfl
      have eN : shTakeN (newSm cls k) (plNew 2) 4 = 0 := rfl
      have eA : shTakeA (newSm cls k) (plNew 2) 4 = 0 := by unfold shTakeA; rw [if_pos eE, eP, hh0]
      have d5 := st_Take 4 (h3.grow hw4)
      rw [eE, eN, eA] at d5
      refine Goes.call rfl (d5) ?_
      rintro _ w5 ⟨rfl, h5, hc5⟩
      refine Goes.adv hTT 400 rfl ?_
      have hw05 : Chg None' w w5 := hw04.since hc5 (fun z hz h => by have := hF3 z h; omega)
      refine Goes.yes hTT rfl rfl rfl ?_
      refine Goes.yes hTT rfl rfl rfl ?_
      refine Goes.yes hTT rfl rfl rfl ?_
      refine Goes.yes hTT rfl rfl rfl ?_
      refine Goes.yes hTT rfl rfl rfl ?_
      have hP5 := h5.pool
      rw [hSP] at hP5
      have eT : shTakeP (newSm cls k) (plNew 2) 4 = ⟨[cls, -1], [1]⟩ := rfl
      rw [eT] at hP5
      refine Goes.call rfl (pool_Owner P _ 0 w5 hP5) ?_
      rintro _ _ ⟨rfl, rfl⟩
      refine Goes.adv hTT 400 rfl ?_
      refine Goes.yes hTT rfl (show (pgOwn [cls, -1] 0 == cls) = true by simp [pgOwn]) rfl ?_
      refine Goes.call rfl (st_Open h5) ?_
      rintro _ _ ⟨rfl, rfl⟩
      refine Goes.adv hTT 400 rfl ?_
      refine Goes.arith hTT rfl (w64 (by omega)) rfl ?_
      have eO : ((shTake (newSm cls k) (plNew 2) 4).opn.length : Int) = if (1 : Int) < (k : Int) - 1 then 1 else (k : Int) - 1 := by
        have e1 : (shTake (newSm cls k) (plNew 2) 4).opn = if pgUsed (pgTake (List.replicate k (-1)) 4) = k then ([0] : List Nat).filter (fun m => m != 0) else [0] := rfl
        rw [e1, hpu]
        by_cases hk1 : k = 1
        · subst hk1; rfl
        · rw [if_neg (by omega)]
          split <;> simp <;> omega
      exact Goes.ret1 hTT rfl Tryd.func3 rfl rfl ⟨bool_v (by rw [eO]; exact beq_self_eq_true _), hw05⟩
  · refine Goes.call rfl (shelf_New_no P cls m w2 ht2 (.inr hm)) ?_
    rintro _ w3 ⟨rfl, hw3⟩
    refine Goes.adv hTT 400 rfl ?_
    refine Goes.call rfl (ref12_New_no m w3 hm) ?_
    rintro _ _ ⟨rfl, rfl⟩
    refine Goes.adv hTT 400 rfl ?_
    refine Goes.fork hTT rfl rfl rfl (fun hc => ?_) (fun hc => ?_)
    · refine Goes.yes hTT rfl rfl rfl ?_
      refine Goes.yes hTT rfl rfl rfl ?_
      exact Goes.ret1 hTT rfl Tryd.func3 rfl rfl ⟨rfl, hw02.trans hw3⟩
    · refine Goes.yes hTT rfl rfl rfl ?_
      refine Goes.yes hTT rfl rfl rfl ?_
      refine Goes.yes hTT rfl rfl rfl ?_
      exact Goes.ret1 hTT rfl Tryd.func3 rfl rfl ⟨rfl, hw02.trans hw3⟩
end Go.Proofs.YtdmedllaackbaaaDoor
