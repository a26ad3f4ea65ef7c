/-
  Texts put together: Sto12, Sto13, Sto14, Sto15, Ref20j, Sr0, Sr1, Sr2, Sr3, Sr4, Sr5, Sr6, Sr7, Sr8, Sr9, Sr10, Sr11, Sr12, Sr13, Sr14, Sr15, Laws22, Aw22, Laws20, Laws20b, Laws22b.
-/
import Derived.Test.YtnaoiegcobineaaGreatDoorPt4
import Derived.Test.YtnaoiegcobineaaGreatDoorQRule23
import Derived.Test.YtnaoiegcobineaaGreatDoorQRule21
import Derived.Test.YtnaoiegcobineaaGreatDoorQRule9
set_option linter.unusedVariables false
/-
  Layer 22: a store's Keep is set, a store ticks.
-/
namespace Go.Proofs.YtnaoiegcobineaaGreatDoor
open Go.RowKit
theorem tick_stop {c : Conf} {x : StM × Int} (h : x.2 < 1) (k : Nat) : tickK c x k = x := by unfold tickK; rw [if_pos h]
theorem tick_rest {c : Conf} {s : StM} {k : Nat} (h : (tickTo c s k).2 < 1) : ∀ d, tickTo c s (k + d) = tickTo c s k
  | 0 => rfl
  | d + 1 => by rw [← Nat.add_assoc, tickTo_succ, tick_rest h d, tick_stop h]
theorem step_in {c : Conf} (h : mayB c = true) : 1 ≤ c.step ∧ c.step ≤ 65536 := by
  unfold mayB at h
  simp only [Bool.and_eq_true, decide_eq_true_eq, withinM] at h
  omega
theorem bytes_tickTo {c : Conf} {s : StM} (h : s.Ok c) : ∀ n, stBytes (tickTo c s n).1 = stBytes s ∧ (tickTo c s n).1.mv.length = s.mv.length ∧ 0 ≤ (tickTo c s n).2 ∧ (tickTo c s n).2 ≤ 65536
  | 0 => by
    have := step_in h.may
    exact ⟨rfl, rfl, by show 0 ≤ c.step; omega, by show c.step ≤ _; omega⟩
  | n + 1 => by
    obtain ⟨i1, i2, i3, i4⟩ := bytes_tickTo h n
    rw [tickTo_succ]
    unfold tickK
    split
    · exact ⟨i1, i2, i3, i4⟩
    · split
      · exact ⟨(bytes_begin c _ n).trans i1, (begin_th c _ n).2.2.2.trans i2, i3, i4⟩
      · refine ⟨(bytes_go (StM.OkP.begin (StM.OkP.tickTo h n) n) n _).trans ((bytes_begin c _ n).trans i1), ((go_keep _ n _).2.2.1).trans ((begin_th c _ n).2.2.2.trans i2), ?_⟩
        rename_i m hm
        have : (goN m (tickTo c s n).2 : Int) ≤ (tickTo c s n).2 := by unfold goN stepK; omega
        simp only
        omega
theorem store_Tick {F Fr : Nat → Prop} {w : World} {S : Sto} {s : StM} {mo : Mo} (h : StoOk F Fr w S s (stBytes s) mo) (hs : s.Ok S.c) : Does Tryz.prog 37 #[stoV S] w (StE F w S (stTick S.c s) 0) := by
  obtain ⟨f1, f2, f3⟩ := OkP.few hs
  have fin : ∀ {k w'}, StTo F w w' S (tickTo S.c s k).1 (stBytes s) → tickTo S.c s s.mv.length = tickTo S.c s k → StE F w S (stTick S.c s) 0 (.int .i64 0) w' := fun {k w'} ht he => by
    unfold stTick
    rw [he]
    exact ⟨rfl, by rw [(bytes_tickTo hs k).1]; exact ht⟩
  refine Does.enter Tryz.func37 rfl Tryz.ntmps37 rfl rfl ?_
  refine Goes.adv hTT 400 rfl ?_
  refine Goes.loadb hTT rfl h.obj rfl rfl ?_
  refine Goes.loop (α := Nat) (fun k => [(0, false, stoV S), (3, false, .int .i64 (tickTo S.c s k).2), (4, false, .func (.func 82) #[stoV S] #[]), (5, false, .int .i64 k)])
    (fun k w' => StTo F w w' S (tickTo S.c s k).1 (stBytes s) ∧ k ≤ s.mv.length) (fun k => s.mv.length - k) 0 ⟨rfl, rfl, rfl, rfl, trivial⟩ ⟨.of h (Chg.refl _ _), by omega⟩ ?_
  rintro k w5 ⟨⟨F5, Fr5, mo5, h5, hF5, hc5⟩, hk⟩ ih
  obtain ⟨b1, b2, b3, b4⟩ := bytes_tickTo hs k
  have hs5 := StM.OkP.tickTo hs k
  have tsucc := tickTo_succ S.c s k
  obtain ⟨x, ex⟩ : ∃ x, x = tickTo S.c s k := ⟨_, rfl⟩
  rw [← ex] at h5 b1 b2 b3 b4 hs5 tsucc ⊢
  have fin5 : tickTo S.c s s.mv.length = tickTo S.c s k → StE F w S (stTick S.c s) 0 (.int .i64 0) w5 := fun he => fin ⟨F5, Fr5, mo5, by rw [← ex]; exact h5, hF5, hc5⟩ he
  refine Goes.adv hTT 400 rfl ?_
  refine Goes.loadb hTT rfl h5.obj rfl rfl ?_
  by_cases hlt : k < s.mv.length
  · refine Goes.yes hTT rfl (decide_eq_true (by omega)) rfl ?_
    by_cases hl : 0 < x.2
    · refine Goes.yes hTT rfl (decide_eq_true hl) rfl ?_
      refine Goes.call rfl (store_begin h5 hs5 k (by omega)) ?_
      rintro _ w6 ⟨F6, Fr6, mo6, h6, hF6, hc6⟩
      refine Goes.adv hTT 400 rfl ?_
      have z5 := hc5.size
      have hF06 : ∀ z, F6 z → F z ∨ w.heap.size ≤ z := fun z hz => (hF6 z hz).elim (hF5 z) (by omega)
      have hc06 : Chg F w w6 := hc5.since hc6 (fun z hz hf => (hF5 z hf).elim id (by omega))
      have hs6 := StM.OkP.begin hs5 k
      refine Goes.call rfl (store_moving h6 hs6 (k : Nat)) ?_
      rintro _ _ ⟨rfl, rfl⟩
      refine Goes.adv hTT 400 rfl ?_
      cases hm : stMv (stBegin S.c x.1 k) (k : Nat) with
      | none =>
        have et : tickTo S.c s (k + 1) = (stBegin S.c x.1 k, x.2) := by rw [tsucc]; unfold tickK; rw [if_neg (by omega), hm]
        refine Goes.no hTT rfl rfl rfl ?_
        refine Goes.arith hTT rfl (w64 (by omega)) rfl ?_
        refine ih (k + 1) _ _ ⟨⟨F6, Fr6, mo6, ?_, hF06, hc06⟩, hlt⟩ (by omega) ?_
        · rw [et]; exact h6
        · rw [et]; exact ⟨rfl, rfl, rfl, rfl, trivial⟩
      | some m =>
        obtain ⟨k', ek', hk', hmk⟩ := mv_some hm
        obtain rfl : k = k' := by omega
        have et : tickTo S.c s (k + 1) = (stGo (stBegin S.c x.1 k) k x.2, x.2 - goN m x.2) := by rw [tsucc]; unfold tickK; rw [if_neg (by omega), hm]
        have hgn : (goN m x.2 : Int) ≤ x.2 := by unfold goN stepK; omega
        refine Goes.yes hTT rfl rfl rfl ?_
        refine Goes.call rfl (store_proceed h6 hs6 hmk x.2) ?_
        rintro _ w7 ⟨rfl, hst⟩
        refine Goes.adv hTT 400 rfl ?_
        refine Goes.arith hTT rfl (w64 (by omega)) rfl ?_
        refine Goes.arith hTT rfl (w64 (by omega)) rfl ?_
        refine ih (k + 1) _ _ ⟨?_, hlt⟩ (by omega) ?_
        · rw [et]; exact .trans hF06 hc06 hst
        · rw [et]; exact ⟨rfl, rfl, rfl, rfl, trivial⟩
    · refine Goes.no hTT rfl (decide_eq_false hl) rfl ?_
      have he := fin5 (by obtain ⟨d, hd⟩ := Nat.exists_eq_add_of_le hk; rw [hd]; exact tick_rest (by rw [← ex]; omega) d)
      exact Goes.ret1 hTT rfl Tryz.func37 rfl rfl he
  · refine Goes.no hTT rfl (decide_eq_false (by omega)) rfl ?_
    have he := fin5 (by rw [show s.mv.length = k by omega])
    exact Goes.ret1 hTT rfl Tryz.func37 rfl rfl he
end Go.Proofs.YtnaoiegcobineaaGreatDoor
/-
  Layer 22: a store's steps are told.
-/
namespace Go.Proofs.YtnaoiegcobineaaGreatDoor
open Go.RowKit
def Rm.relap (R : Rm) (l : Int) : Rm := { R with lap := l }
def Sto.relap (S : Sto) (l : Int) : Sto := { S with R := S.R.relap l }
theorem RmSt.relap {F : Nat → Prop} {w w' : World} {R : Rm} {M : RmM} (h : RmSt F w R M) {b : Nat} (hb : R.mo = some b) {t l : Int} (hm : MeterAt w' b t l) (hc : Chg (fun z => z = b) w w') : RmSt F w' (R.relap l) { M with tot := t } := by
  obtain ⟨hF, hm0⟩ := h.met b hb
  have kb := kd_meter hm0
  have hS : ∀ z, z = b → F z := fun z e => e ▸ hF
  have kp := h.pool.kds
  have ne1 : R.P.pb ≠ b := kd_ne kp.1 kb (by decide)
  have ne2 : R.P.ab ≠ b := kd_ne kp.2 kb (by decide)
  have ne3 : R.lm ≠ b := kd_ne (kd_lg h.lg) kb (by simp)
  have ht : 0 ≠ b := fun e => h.tf (e ▸ hF)
  refine ⟨{ h.ok with tot := by have := hm.2; show 0 ≤ t ∧ t ≤ 4611686018427387904; omega }, hc.heap h.obj (fun e => h.rf (hS _ e)), h.cls.chg hc hS, h.kee.chg hc hS, h.may, fun b' hb' => ?_, fun k hk => hc.cell (h.sl k hk) (fun e => h.sf (hS _ e)), h.pool.chg hc ne1 ne2, h.pf, ?_, h.lg.chg hc (fun z _ h => .inl (hS z h)) ne3, h.lf, h.rf, h.sf, fun z hz => by have := h.low z hz; have := hc.size; omega, h.tab.chg hc ht, h.tf, fun z hz => ⟨by have := (h.xl z hz).1; have := hc.size; omega, (h.xl z hz).2⟩⟩
  · replace hb' : R.mo = some b' := hb'
    rw [hb] at hb'; cases hb'; exact ⟨hF, hm⟩
  · obtain ⟨G, a, d⟩ := h.sh
    refine ⟨G, fun k x hx => ?_, d⟩
    obtain ⟨h1, h2, h3⟩ := a k x hx
    have ap := h2.at'.apart kb (by decide)
    exact ⟨h1, ⟨h2.ok, h2.pos, h2.of, h2.at'.chg hc (fun z e => e ▸ ap.1) (fun z e => e ▸ ap.2) ht, h2.pool.chg hc (by rw [h1]; exact ne1) (by rw [h1]; exact ne2)⟩, h3⟩
theorem StoOk.relap {F Fr : Nat → Prop} {w w' : World} {S : Sto} {s : StM} {by' : Int} {mo : Mo} (h : StoOk F Fr w S s by' mo) {l : Int} (hm : MeterAt w' S.mb s.rm.tot l) (hc : Chg (fun z => z = S.mb) w w') : StoOk F Fr w' (S.relap l) s by' mo := by
  obtain ⟨k1, k2, k3, k4, k5, k6⟩ := h.kds
  obtain ⟨n1, n2, n3, n4, n5, n6⟩ := h.nF
  have hF : ∀ z, z = S.mb → F z := fun z e => e ▸ h.mb.1
  have hca := h.ca.chg hc hF
  have hka := h.ka.chg hc hF
  exact { h with
    obj := hc.heap h.obj (kd_ne k1 k6 (by decide)), kee := hc.heap h.kee (kd_ne k2 k6 (by decide)), room := h.room.relap h.rmo hm hc,
    ar := ⟨hc.heap h.ar.obj (fun e => n1 (hF _ e)), hc.heap h.ar.dat (kd_ne k3 k6 (by decide)), hc.heap h.ar.cap (fun e => n2 (hF _ e)), fun b hb => by
      replace hb : S.A.mb = some b := hb
      rw [h.amb] at hb; cases hb; exact hm, h.ar.len, h.ar.rng⟩,
    vw := ⟨hc.heap h.vw.obj (fun e => n3 (hF _ e)), by
      show ConfOk w' S.v.c S.v.p
      have := h.vw.conf
      rw [h.vc, h.vp] at this ⊢
      exact ⟨hca.1, hka.1, this.lc, this.lk, this.size⟩, h.vw.may⟩,
    th := h.th.far hc hF (kd_ne k4 k6 (by simp)), mvs := hc.heap h.mvs (kd_ne k5 k6 (by decide)), mob := h.objAt hc (fun k b m hm => kd_ne (h.kdm hm) k6 (by decide)), ca := hca, ka := hka,
    low := fun z hz => by have := h.low z hz; have := hc.size; omega }
theorem store_Steps1 {F Fr : Nat → Prop} {w : World} {S : Sto} {s : StM} {by' : Int} {mo : Mo} (h : StoOk F Fr w S s by' mo) (b : Nat) (hb : sptrBox w b (stoV S)) : Does Tryz.prog 56 [.pointer (some ⟨b, 0, none⟩)].toArray w (fun v w' => ∃ n : Int, v = .int .i64 n ∧ n = s.rm.tot - S.R.lap ∧ StoOk F Fr w' (S.relap s.rm.tot) s by' mo ∧ Chg F w w') := by
  refine Does.enter Tryz.func56 rfl Tryz.ntmps56 rfl rfl ?_
  refine Goes.adv hTT 400 rfl ?_
  refine Goes.load hTT rfl (cell_nth (off := 0) hb rfl) rfl ?_
  refine Goes.loadb hTT rfl h.obj rfl rfl ?_
  refine Goes.call rfl (meter_Lap S.mb s.rm.tot S.R.lap w h.mb.2.2) ?_
  rintro _ w1 ⟨rfl, hm, hc⟩
  refine Goes.adv hTT 400 rfl ?_
  exact Goes.ret1 hTT rfl Tryz.func56 rfl rfl ⟨_, rfl, rfl, h.relap hm hc, hc.mono fun z _ e => e ▸ h.mb.1⟩
theorem store_Steps {F Fr : Nat → Prop} {w : World} {S : Sto} {s : StM} {by' : Int} {mo : Mo} (h : StoOk F Fr w S s by' mo) : Does Tryz.prog 15 #[stoV S] w (fun v w' => v = .int .i64 (s.rm.tot - S.R.lap) ∧ StoOk F Fr w' (S.relap s.rm.tot) s by' mo ∧ Chg F w w') := by
  refine Does.enter Tryz.func15 rfl Tryz.ntmps15 rfl rfl ?_
  refine Goes.adv hTT 400 rfl ?_
  refine Goes.alloc hTT rfl ?_
  intro b w1 e1 hb hw1 hz1
  refine Goes.adv hTT 400 rfl ?_
  refine Goes.load hTT rfl (cell_nth (off := 0) hb rfl) rfl ?_
  refine Goes.call rfl (store_ask (S := S) 56 [.pointer (some ⟨b, 0, none⟩)] w1 _ (store_Steps1 (h.grow hw1) b hb)) ?_
  rintro _ w2 ⟨n, rfl, rfl, h2, hc2⟩
  refine Goes.adv hTT 400 rfl ?_
  exact Goes.ret1 hTT rfl Tryz.func15 rfl rfl ⟨rfl, h2, (hw1.mono fun _ _ h => h.elim).trans hc2⟩
end Go.Proofs.YtnaoiegcobineaaGreatDoor
/-
  Layer 22: a new store.
-/
namespace Go.Proofs.YtnaoiegcobineaaGreatDoor
open Go.RowKit
theorem clone_ints (a : Option Addr) (cap : Nat) (x : List Int) (w : World) (hr : Rd .i64 w a x) (hl : x.length ≤ 1048576) (hn : ∃ a1, a = some a1) : Does Tryz.prog 45 #[.slice a x.length cap] w
    (fun v w' => ∃ g c r, v = .slice (some ⟨g, 0, none⟩) x.length c ∧ w.heap.size ≤ g ∧ w'.heap[g]? = some (.cells (x.map (Value.int .i64) ++ r).toArray 3 (0, 0)) ∧ x.length ≤ c ∧ Chg None' w w') := by
  have hml : maxLen = 9223372036854775807 := rfl
  obtain ⟨a1, rfl⟩ := hn
  refine Does.enter Tryz.func45 rfl Tryz.ntmps45 rfl rfl ?_
  refine Goes.adv hTT 400 rfl ?_
  refine Goes.no hTT rfl rfl rfl ?_
  refine Goes.buildSlice hTT rfl ?_
  intro b w1 e1 hb hw1 hz1
  refine Goes.adv hTT 400 rfl ?_
  subst e1
  have ho : Own w.heap.size 3 1 w1 (.slice (some ⟨w.heap.size, 0, none⟩) 0 0) 0 [] := Own.empty (Nat.le_refl _) hb
  refine Goes.append (base := w.heap.size) (xs := []) (news := x.map (Value.int .i64)) hTT rfl ho (by omega) (by simp) (hr.chg hw1).cells plain_ints ⟨by omega, by show (0 + x.length) * 8 ≤ _; omega⟩ ?_
  intro v w2 ho2 hs2 hv2
  refine Goes.adv hTT 400 rfl ?_
  rw [Nat.zero_add, List.nil_append] at ho2
  have hc := ho.since hw1 (Nat.le_refl _) hs2
  rcases ho2.2 with ⟨e, _⟩ | ⟨g, c, cur, rfl, h2, h3, h4, h5, _, h6⟩
  · have := (hv2.1.1 e).1; cases this
  · have hcur : cur = (x.map (Value.int .i64) ++ cur.toList.drop x.length).toArray := by
      rw [Nat.mul_one] at h6
      rw [← h6, List.take_append_drop]
    exact Goes.ret1 hTT rfl Tryz.func45 rfl rfl ⟨g, c, cur.toList.drop x.length, rfl, h2, by rw [← hcur]; exact h3, h4, hc⟩
theorem zero_movers : ∀ n, zeroRow [.pointer none, .int .i64 0, .int .i64 0, .int .i64 0, .int .i64 0, .int .i64 0] n = fl mverL (List.replicate n none)
  | 0 => rfl
  | n + 1 => by rw [zeroRow, zero_movers n, List.replicate_succ]; rfl
set_option maxRecDepth 100000 in
theorem store_New_no (c : Conf) (p : ConfAt) (w : World) (hc : ConfOk w c p) (hm : mayB c = false) : Does Tryz.prog 11 #[.agg (confL c p).toArray] w (Grow (.tuple #[.pointer none, .int .i64 1]) w) := by
  refine Does.enter Tryz.func11 rfl Tryz.ntmps11 rfl rfl ?_
  refine Goes.adv hTT 400 rfl ?_
  refine Goes.alloc hTT rfl ?_
  intro b w1 e1 hb hw1 hz1
  refine Goes.adv hTT 400 rfl ?_
  replace hb : w1.heap[b]? = some (.cells (confL c p).toArray 24 (0, 0)) := hb
  refine Goes.loads hTT rfl hb rfl rfl ?_
  refine Goes.call rfl (conf_May c p w1 (hc.chg hw1)) ?_
  rintro _ w2 ⟨rfl, hw2⟩
  refine Goes.adv hTT 400 rfl ?_
  have em : mayM c = 1 := by unfold mayM; rw [if_neg (by rw [hm]; decide)]
  rw [em]
  refine Goes.yes hTT rfl rfl rfl ?_
  exact Goes.ret2 hTT rfl Tryz.func11 rfl rfl rfl ⟨rfl, hw1.trans hw2⟩
/-- What a store is made of. -/
structure NewB (c : Conf) (w : World) (g cap : Nat) (r : List Value) (mb tm vb : Nat) : Prop where
  g : w.heap[g]? = some (.cells (c.keep.map (Value.int .i64) ++ r).toArray 3 (0, 0))
  gc : c.keep.length ≤ cap
  m : MeterAt w mb 0 0
  t : MapAt w tm []
  v : w.heap[vb]? = some (.cells (fl mverL (List.replicate c.classes.length none)).toArray 117 (0, 0))
theorem NewB.grow {c : Conf} {w w' : World} {g cap : Nat} {r : List Value} {mb tm vb : Nat} (h : NewB c w g cap r mb tm vb) (hc : Chg None' w w') : NewB c w' g cap r mb tm vb := ⟨hc.heap' h.g, h.gc, h.m.chg hc, h.t.chg hc id, hc.heap' h.v⟩
def newL (c : Conf) (p : ConfAt) (g cap mb tm vb : Nat) (a r v : Value) : List Value := confL c p ++ [.slice (some ⟨g, 0, none⟩) c.keep.length cap, .pointer (some ⟨mb, 0, none⟩), a, r, v, .map (some tm), .slice (some ⟨vb, 0, none⟩) c.classes.length c.classes.length, .int .i64 0]
theorem NewB.note {c : Conf} {w w' : World} {g cap : Nat} {r : List Value} {mb tm vb xb : Nat} (h : NewB c w g cap r mb tm vb) (hc : Chg (fun z => z = xb) w w') (h1 : g ≠ xb) (h2 : mb ≠ xb) (h3 : tm ≠ xb) (h4 : vb ≠ xb) : NewB c w' g cap r mb tm vb :=
  ⟨hc.heap h.g h1, h.gc, ⟨hc.heap h.m.1 h2, h.m.2⟩, h.t.chg hc h3, hc.heap h.v h4⟩
/-- A room, when another block is written. -/
theorem RmSt.apart {F : Nat → Prop} {w w' : World} {R : Rm} {M : RmM} (h : RmSt F w R M) {w0 : World} (hcf : ConfOk w0 R.c R.p) (ht : TabAt w0) {xb t : Nat} {l : List Value} {n : Int} {fz : Nat × Nat} (hx : w.heap[xb]? = some (.cells (.int .i64 n :: l).toArray t fz)) (h0 : w0.heap.size ≤ xb) (hF : ¬ F xb) (htk : t ≠ 264 ∧ t ≠ 260 ∧ t ≠ 3 ∧ t ≠ 152) (hc : Chg (fun z => z = xb) w w') : RmSt F w' R M := by
  have hm := may_facts h.may
  have hk := kd_cells hx
  refine h.other hc fun z e => e ▸ ⟨hF, kd_ne (kd_cells h.obj) hk (fun e => htk.2.2.2 (Option.some.inj (Option.some.inj e)).symm), fun e => ?_, fun e => ?_, fun off s e => ?_, fun off s e => ?_, ?_, ?_, fun e => ?_⟩
  · have h1 := h.sl 0 (by have := hm.n; have := h.ok.n; omega)
    rw [e, cell_of hx] at h1
    cases h1
  · have := World.block_lt_of_cell? w0 _ (ht 0 (by decide))
    simp only at this
    omega
  · have := hcf.classes.block (by have := hm.n; omega) e
    omega
  · have := hcf.keep.block (by have := hm.keep; have := hm.n; omega) e
    omega
  · rw [hk]; exact fun e => htk.1 (Option.some.inj (Option.some.inj e))
  · rw [hk]; exact fun e => htk.2.1 (Option.some.inj (Option.some.inj e))
  · rw [hk] at e; exact absurd (Option.some.inj (Option.some.inj e)) htk.2.2.1
theorem sto_new {c : Conf} {p : ConfAt} {w w7 w' : World} {g cap mb tm vb xb vw : Nat} {r : List Value} {A : Ar} {R : Rm} {Fr : Nat → Prop} (hc : ConfOk w c p) (ht : TabAt w) (hcw : Chg None' w w') (hm : mayB c = true)
    (hx : w'.heap[xb]? = some (.cells (newL c p g cap mb tm vb (.pointer (some ⟨A.ab, 0, none⟩)) (rmV R) (.pointer (some ⟨vw, 0, none⟩))).toArray 88 (0, 0))) (hN : NewB c w' g cap r mb tm vb)
    (hA : ArOk w' A ⟨zeros (c.pages * c.size).toNat, 0, 0⟩) (hAm : A.mb = some mb) (hR : RmSt Fr w' R (newRm c 0)) (hRc : R.c = c) (hRp : R.p = p) (hRm : R.mo = some mb) (hRl : R.lap = 0) (hRX : R.X = fun z => z = g)
    (hV : VwOk w' ⟨vw, c, p, A.ab, some mb⟩) (hFr : ∀ z, Fr z → w7.heap.size ≤ z ∨ z = mb) (hFv : ¬ Fr vw) (h7 : w.heap.size ≤ w7.heap.size)
    (l1 : w.heap.size ≤ g ∧ g < w7.heap.size) (l2 : w.heap.size ≤ mb) (l3 : w.heap.size ≤ tm ∧ tm < w7.heap.size) (l4 : w.heap.size ≤ vb ∧ vb < w7.heap.size) (l5 : w.heap.size ≤ xb ∧ xb < w7.heap.size) (l6 : w.heap.size ≤ A.db ∧ A.db < w7.heap.size) (l7 : A.ab < w7.heap.size ∧ A.mc < w7.heap.size) :
    ∃ F Fr S mo, stoV S = .pointer (some ⟨xb, 0, none⟩) ∧ StoOk F Fr w' S (newSt c) 0 mo ∧ S.c = c ∧ S.R.lap = 0 ∧ ∀ z, F z → w.heap.size ≤ z := by
  have hmf := may_facts hm
  have kx := kd_cells hx
  have kg := kd_cells hN.g
  have km := kd_meter hN.m
  have kt := kd_map hN.t
  have kv := kd_cells hN.v
  have kd' := kd_cells hA.dat
  have ka := kd_cells hA.obj
  have kc := kd_cells hA.cap
  have kw := kd_cells hV.obj
  have kr := kd_cells hR.obj
  have hz : (zeros (c.size * c.pages).toNat) = zeros (c.pages * c.size).toNat := by rw [Int.mul_comm]
  have nfr : ∀ {z : Nat}, z < w7.heap.size → z ≠ mb → ¬ Fr z := fun h1 h2 h => (hFr _ h).elim (by omega) h2
  have hFw : ∀ z, (Fr z ∨ z = xb ∨ z = g ∨ z = A.db ∨ z = tm ∨ z = vb) → w.heap.size ≤ z := fun z hz => by
    rcases hz with hz | rfl | rfl | rfl | rfl | rfl
    · rcases hFr z hz with h | h <;> omega
    all_goals omega
  have hs1 : w'.cell? ⟨R.sb, 0, none⟩ = some (sfV (R.S 0)) := hR.sl 0 (by have := hmf.n; have := hR.ok.n; rw [hRc] at this; omega)
  have nsb : ∀ {b t : Nat} {v : Value} {l : List Value} {fz : Nat × Nat}, w'.heap[b]? = some (.cells (v :: l).toArray t fz) → v ≠ sfV (R.S 0) → R.sb ≠ b := fun hb hv e => by
    rw [e, cell_of hb] at hs1
    exact hv (Option.some.inj hs1)
  have hkn := hmf.keep
  have hcn := hmf.n
  have sbt : R.sb ≠ tm := fun e => by
    obtain ⟨es, clock, hes, _⟩ := hN.t
    rw [e] at hs1
    unfold World.cell? at hs1
    simp [hes] at hs1
  have sbg : R.sb ≠ g := by
    obtain ⟨k0, kl, ek⟩ : ∃ k0 kl, c.keep = k0 :: kl := by cases hk : c.keep with | nil => rw [hk] at hkn; simp at hkn; omega | cons a b => exact ⟨a, b, rfl⟩
    have := hN.g
    rw [ek] at this
    exact nsb this (fun e => by cases e)
  have sbv : R.sb ≠ vb := by
    obtain ⟨n, en⟩ : ∃ n, c.classes.length = n + 1 := ⟨c.classes.length - 1, by omega⟩
    have := hN.v
    rw [en, List.replicate_succ] at this
    replace this : w'.heap[vb]? = some (.cells (Value.pointer none :: ([.int .i64 0, .int .i64 0, .int .i64 0, .int .i64 0, .int .i64 0] ++ fl mverL (List.replicate n none))).toArray 117 (0, 0)) := this
    exact nsb this (fun e => by cases e)
  have sbd : R.sb ≠ A.db := by
    obtain ⟨n, en⟩ : ∃ n, (c.pages * c.size).toNat = n + 1 := ⟨(c.pages * c.size).toNat - 1, by
      have h1 : 1 * 64 ≤ c.pages * c.size := Int.mul_le_mul (by have := hmf.pages; omega) (by have := hmf.size; omega) (by omega) (by have := hmf.pages; omega)
      omega⟩
    have := hA.dat
    simp only [en, zeros, List.replicate_succ] at this
    exact nsb this (fun e => by cases e)
  have sbx : R.sb ≠ xb := nsb hx (fun e => by cases e)
  have tl : 0 < w.heap.size := by have := World.block_lt_of_cell? w _ (ht 0 (by decide)); exact this
  have far : ∀ {a : Option Addr} {l : List Int}, Rd .i64 w a l → Far (fun z => Fr z ∨ z = xb ∨ z = g ∨ z = A.db ∨ z = tm ∨ z = vb) w' a l := fun hr => ⟨hr.chg hcw, fun hl b off s e hz => by have := hr.block hl e; have := hFw b hz; omega⟩
  have nF : ∀ {b : Nat}, ¬ Fr b → b ≠ xb → b ≠ g → b ≠ A.db → b ≠ tm → b ≠ vb → ¬ (Fr b ∨ b = xb ∨ b = g ∨ b = A.db ∨ b = tm ∨ b = vb) := fun h0 h1 h2 h3 h4 h5 hz => by
    rcases hz with hz | hz | hz | hz | hz | hz
    · exact h0 hz
    · exact h1 hz
    · exact h2 hz
    · exact h3 hz
    · exact h4 hz
    · exact h5 hz
  have hno : ∀ (k b : Nat) m, (List.replicate c.classes.length (none : Option (Nat × MvM)))[k]? ≠ some (some (b, m)) := fun k b m e => by
    have := List.mem_of_getElem? e
    rw [List.mem_replicate] at this
    cases this.2
  refine ⟨fun z => Fr z ∨ z = xb ∨ z = g ∨ z = A.db ∨ z = tm ∨ z = vb, Fr, ⟨xb, c, p, g, cap, r, mb, A, R, ⟨vw, c, p, A.ab, some mb⟩, tm, vb, c.classes.length⟩, List.replicate c.classes.length none, rfl, ?_, rfl, hRl, hFw⟩
  exact {
    obj := by
      show w'.heap[xb]? = some (.cells (stoL _ c.keep.length (List.replicate c.classes.length (none : Option MvM)).length 0).toArray _ _)
      rw [List.length_replicate]; exact hx
    kee := hN.g, kcap := hN.gc, room := hR,
    ar := by
      show ArOk w' A ⟨zeros (c.size * c.pages).toNat, 0, R.lap⟩
      rw [hz, hRl]; exact hA
    vw := hV,
    th := ⟨[], hN.t, List.nodup_nil, (fun o t h => by
      have := List.mem_of_getElem? h
      simp only [newSt, List.mem_replicate] at this
      cases this.2), fun k _ => rfl⟩
    mvs := hN.v, mvc := by show (List.replicate _ _).length ≤ _; rw [List.length_replicate]; exact Nat.le_refl _
    mom := by unfold moMv newSt; rw [List.map_replicate]; rfl
    mob := fun k b m h => absurd h (hno k b m), mdj := fun j k b m m' h _ => absurd h (hno j b m)
    rc := hRc, rp := hRp, rmo := hRm, rX := hRX, amb := hAm, vc := rfl, vp := rfl, vab := rfl, vmb := rfl
    f1 := fun z hz => .inl hz, f2 := ⟨.inr (.inl rfl), .inr (.inr (.inl rfl)), .inr (.inr (.inr (.inl rfl))), .inr (.inr (.inr (.inr (.inl rfl)))), .inr (.inr (.inr (.inr (.inr rfl))))⟩
    nr := ⟨nfr l5.2 (kd_ne kx km (by decide)), nfr l1.2 (kd_ne kg km (by decide)), nfr l6.2 (kd_ne kd' km (by decide)), nfr l3.2 (kd_ne kt km (by simp)), nfr l4.2 (kd_ne kv km (by decide))⟩
    nF := ⟨nF (nfr l7.1 (kd_ne ka km (by decide))) (kd_ne ka kx (by decide)) (kd_ne ka kg (by decide)) (kd_ne ka kd' (by decide)) (kd_ne ka kt (by simp)) (kd_ne ka kv (by decide)),
      nF (nfr l7.2 (kd_ne kc km (by decide))) (kd_ne kc kx (by decide)) (kd_ne kc kg (by decide)) (kd_ne kc kd' (by decide)) (kd_ne kc kt (by simp)) (kd_ne kc kv (by decide)),
      nF hFv (kd_ne kw kx (by decide)) (kd_ne kw kg (by decide)) (kd_ne kw kd' (by decide)) (kd_ne kw kt (by simp)) (kd_ne kw kv (by decide)),
      nF hR.rf (kd_ne kr kx (by decide)) (kd_ne kr kg (by decide)) (kd_ne kr kd' (by decide)) (kd_ne kr kt (by simp)) (kd_ne kr kv (by decide)),
      nF hR.sf sbx sbg sbd sbt sbv, fun hz => by have := hFw _ hz; omega⟩
    ca := far hc.classes, ka := far hc.keep
    low := fun z hz => by
      rcases hz with hz | rfl | rfl | rfl | rfl | rfl
      · exact hR.low z hz
      · exact lt_of_heap hx
      · exact lt_of_heap hN.g
      · exact lt_of_heap hA.dat
      · exact kd_lt kt
      · exact lt_of_heap hN.v }
set_option maxHeartbeats 2000000 in
set_option maxRecDepth 100000 in
theorem store_New (c : Conf) (p : ConfAt) (w : World) (hc : ConfOk w c p) (ht : TabAt w) (hm : mayB c = true) : Does Tryz.prog 11 #[.agg (confL c p).toArray] w (fun v w' => ∃ F Fr S mo, v = .tuple #[stoV S, .int .i64 0] ∧ StoOk F Fr w' S (newSt c) 0 mo ∧ S.c = c ∧ S.R.lap = 0 ∧ (∀ z, F z → w.heap.size ≤ z) ∧ Chg None' w w') := by
  have hmf := may_facts hm
  have hkn := hmf.keep
  have hcn := hmf.n
  have hmay : arMay c.pages c.size = true := by
    have := hmf.size; have := hmf.pages
    refine arMay_iff.2 ⟨by omega, by omega, by omega, by omega, ?_⟩
    have h8 := hm
    unfold mayB at h8
    simp only [Bool.and_eq_true] at h8
    exact (sizedM_iff.1 h8.1.1.1.1.1.1.1).2.2
  refine Does.enter Tryz.func11 rfl Tryz.ntmps11 rfl rfl ?_
  refine Goes.adv hTT 400 rfl ?_
  refine Goes.alloc hTT rfl ?_
  intro b w1 e1 hb hw1 hz1
  refine Goes.adv hTT 400 rfl ?_
  replace hb : w1.heap[b]? = some (.cells (confL c p).toArray 24 (0, 0)) := hb
  refine Goes.loads hTT rfl hb rfl rfl ?_
  refine Goes.call rfl (conf_May c p w1 (hc.chg hw1)) ?_
  rintro _ w2 ⟨rfl, hw2⟩
  refine Goes.adv hTT 400 rfl ?_
  have em : mayM c = 0 := by unfold mayM; rw [if_pos hm]
  rw [em]
  refine Goes.no hTT rfl rfl rfl ?_
  have hb2 := hw2.heap' hb
  have hw02 := hw1.trans hw2
  obtain ⟨kb0, koff, eka, _⟩ := hc.keep 0 (by omega)
  have hC : ∀ w', Chg None' w2 w' → Does Tryz.prog 45 #[.slice p.ka c.keep.length p.kc] w' (fun v w3 => Chg None' w2 w3 ∧ Chg None' w' w3 ∧ ∃ g cap r, v = .slice (some ⟨g, 0, none⟩) c.keep.length cap ∧ w2.heap.size ≤ g ∧ w3.heap[g]? = some (.cells (c.keep.map (Value.int .i64) ++ r).toArray 3 (0, 0)) ∧ c.keep.length ≤ cap) := fun w' hw' =>
    (clone_ints p.ka p.kc c.keep w' (hc.keep.chg (hw02.trans hw')) (by omega) ⟨_, eka⟩).mono fun v w3 ⟨g, cp, r, a1, a2, a3, a4, a5⟩ => ⟨hw'.trans a5, a5, g, cp, r, a1, by have := hw'.size; omega, a3, a4⟩
  have hM : ∀ w', Chg None' w2 w' → Does Tryz.prog 46 #[] w' (fun v w3 => Chg None' w2 w3 ∧ Chg None' w' w3 ∧ ∃ mb, v = .pointer (some ⟨mb, 0, none⟩) ∧ w2.heap.size ≤ mb ∧ MeterAt w3 mb 0 0) := fun w' hw' =>
    (meter_New w').mono fun v w3 ⟨a1, a2, a3, a4⟩ => ⟨hw'.trans a3, a3, w'.heap.size, a1, hw'.size, a2⟩
  refine Goes.drawn (q := 10) None' hTT mixed (by kernel_rfl) rfl ?_
  intro hB
  refine Drawn.loads hTT hB rfl hb2 (by first | exact fun h => h | (intro h; omega) | assumption) rfl rfl ?_
  refine Drawn.loadb hTT hB rfl hb2 (by first | exact fun h => h | (intro h; omega) | assumption) rfl rfl ?_
  refine Drawn.loadb hTT hB rfl hb2 (by first | exact fun h => h | (intro h; omega) | assumption) rfl rfl ?_
  refine Drawn.turn3 hB rfl ?_ ?_ ?_
  all_goals
    intro wa k1
    first
    | have hcq := hC _ k1
      refine Turn.call rfl hcq.fn (fun _ => hcq) ?_
      rintro _ wb q0 ⟨q1, g, cap, r, rfl, hgl, hgb, hgc⟩
      refine Drawn.adv hTT hB rfl ?_
    | have htl0 := (k1).size
      refine Turn.mkmap hTT hB rfl (fun _ => rfl) ?_
      intro tm wb etm htm q1 hzk
      have htl : w2.heap.size ≤ tm := by omega
    | have hvl0 := (k1).size
      refine Turn.make hTT hB rfl rfl rfl (Nat.le_refl _) (show 48 * c.classes.length ≤ 140737488355328 by omega) (by omega) (fun _ => rfl) ?_
      intro vb wb evb hvb q1 hzv
      replace hvb : (wb).heap[vb]? = some (.cells (zeroRow [.pointer none, .int .i64 0, .int .i64 0, .int .i64 0, .int .i64 0, .int .i64 0] c.classes.length).toArray 117 (0, 0)) := hvb
      rw [zero_movers] at hvb
      have hvl : w2.heap.size ≤ vb := by omega
  all_goals first | refine Drawn.turn3 hB rfl ?_ ?_ ?_ | refine Drawn.turn2 hB rfl ?_ ?_
  all_goals
    intro wc a2
    have k2 := (k1.trans q1).trans a2
    first
    | have hcq := hC _ k2
      refine Turn.call rfl hcq.fn (fun _ => hcq) ?_
      rintro _ wd q0 ⟨q2, g, cap, r, rfl, hgl, hgb, hgc⟩
      refine Drawn.adv hTT hB rfl ?_
    | have hmq := hM _ k2
      refine Turn.call rfl hmq.fn (fun _ => hmq) ?_
      rintro _ wd q0 ⟨q2, mb, rfl, hml, hmm⟩
      refine Drawn.adv hTT hB rfl ?_
    | have htl0 := (k2).size
      refine Turn.mkmap hTT hB rfl (fun _ => rfl) ?_
      intro tm wd etm htm q2 hzk
      have htl : w2.heap.size ≤ tm := by omega
    | have hvl0 := (k2).size
      refine Turn.make hTT hB rfl rfl rfl (Nat.le_refl _) (show 48 * c.classes.length ≤ 140737488355328 by omega) (by omega) (fun _ => rfl) ?_
      intro vb wd evb hvb q2 hzv
      replace hvb : (wd).heap[vb]? = some (.cells (zeroRow [.pointer none, .int .i64 0, .int .i64 0, .int .i64 0, .int .i64 0, .int .i64 0] c.classes.length).toArray 117 (0, 0)) := hvb
      rw [zero_movers] at hvb
      have hvl : w2.heap.size ≤ vb := by omega
  all_goals first | refine Drawn.turn2 hB rfl ?_ ?_ | refine Drawn.turn1 hB rfl ?_
  all_goals
    intro we a3
    have k3 := (k2.trans q2).trans a3
    first
    | have hcq := hC _ k3
      refine Turn.call rfl hcq.fn (fun _ => hcq) ?_
      rintro _ wf q0 ⟨q3, g, cap, r, rfl, hgl, hgb, hgc⟩
      refine Drawn.adv hTT hB rfl ?_
    | have hmq := hM _ k3
      refine Turn.call rfl hmq.fn (fun _ => hmq) ?_
      rintro _ wf q0 ⟨q3, mb, rfl, hml, hmm⟩
      refine Drawn.adv hTT hB rfl ?_
    | have htl0 := (k3).size
      refine Turn.mkmap hTT hB rfl (fun _ => rfl) ?_
      intro tm wf etm htm q3 hzk
      have htl : w2.heap.size ≤ tm := by omega
    | have hvl0 := (k3).size
      refine Turn.make hTT hB rfl rfl rfl (Nat.le_refl _) (show 48 * c.classes.length ≤ 140737488355328 by omega) (by omega) (fun _ => rfl) ?_
      intro vb wf evb hvb q3 hzv
      replace hvb : (wf).heap[vb]? = some (.cells (zeroRow [.pointer none, .int .i64 0, .int .i64 0, .int .i64 0, .int .i64 0, .int .i64 0] c.classes.length).toArray 117 (0, 0)) := hvb
      rw [zero_movers] at hvb
      have hvl : w2.heap.size ≤ vb := by omega
  all_goals refine Drawn.turn1 hB rfl ?_
  all_goals
    intro wg a4
    have k4 := (k3.trans q3).trans a4
    first
    | have hmq := hM _ k4
      refine Turn.call rfl hmq.fn (fun _ => hmq) ?_
      rintro _ wh q0 ⟨q4, mb, rfl, hml, hmm⟩
      refine Drawn.adv hTT hB rfl ?_
    | have htl0 := (k4).size
      refine Turn.mkmap hTT hB rfl (fun _ => rfl) ?_
      intro tm wh etm htm q4 hzk
      have htl : w2.heap.size ≤ tm := by omega
    | have hvl0 := (k4).size
      refine Turn.make hTT hB rfl rfl rfl (Nat.le_refl _) (show 48 * c.classes.length ≤ 140737488355328 by omega) (by omega) (fun _ => rfl) ?_
      intro vb wh evb hvb q4 hzv
      replace hvb : (wh).heap[vb]? = some (.cells (zeroRow [.pointer none, .int .i64 0, .int .i64 0, .int .i64 0, .int .i64 0, .int .i64 0] c.classes.length).toArray 117 (0, 0)) := hvb
      rw [zero_movers] at hvb
      have hvl : w2.heap.size ≤ vb := by omega
  all_goals
    refine Drawn.nil hB ?_
    intro wz a5
    refine Goes.adv hTT 400 rfl ?_
    have c4 := a5
    have c3 := (a4.trans q4).trans c4
    have c2 := (a3.trans q3).trans c3
    have c1 := (a2.trans q2).trans c2
    have kz := (k4.trans q4).trans a5
    have hN : NewB c wz g cap r mb tm vb := ⟨by first | exact c1.heap' hgb | exact c2.heap' hgb | exact c3.heap' hgb | exact c4.heap' hgb, hgc, by first | exact hmm.chg c1 | exact hmm.chg c2 | exact hmm.chg c3 | exact hmm.chg c4, by first | exact htm.chg c1 id | exact htm.chg c2 id | exact htm.chg c3 id | exact htm.chg c4 id, by first | exact c1.heap' hvb | exact c2.heap' hvb | exact c3.heap' hvb | exact c4.heap' hvb⟩
    refine Goes.build hTT rfl rfl ?_
    refine Goes.alloc hTT rfl ?_
    intro xb wy exb hxb hwy hzy
    refine Goes.adv hTT 400 rfl ?_
    replace hxb : wy.heap[xb]? = some (.cells (newL c p g cap mb tm vb (.pointer none) (.pointer none) (.pointer none)).toArray 88 (0, 0)) := hxb
    have hNy := hN.grow hwy
    have hby := (kz.trans hwy).heap' hb2
    have hdA : ∀ w', Chg None' wy w' → Does Tryz.prog 47 #[.int .i64 c.pages, .int .i64 c.size, .pointer (some ⟨mb, 0, none⟩)] w' (fun v w3 => Chg (fun z => z = xb) w' w3 ∧ Chg None' wy w3 ∧ ∃ A : Ar, v = .tuple #[.pointer (some ⟨A.ab, 0, none⟩), .int .i64 0] ∧ A.mb = some mb ∧ wy.heap.size ≤ A.ab ∧ wy.heap.size ≤ A.db ∧ wy.heap.size ≤ A.mc ∧ ArOk w3 A ⟨zeros (c.pages * c.size).toNat, 0, 0⟩) := fun w' hw' =>
      (arena_New (some mb) 0 0 c.pages c.size w' (fun b e => by cases e; exact (hNy.grow hw').m) hmay).mono fun v w3 ⟨A, x1, x2, x3, x4, x5, x6, x7⟩ => ⟨x7.mono fun _ _ h => h.elim, hw'.trans x7, A, x1, x2, by have := hw'.size; omega, by have := hw'.size; omega, by have := hw'.size; omega, x6⟩
    refine Goes.drawn (q := 16) (fun z => z = xb) hTT mixed (by kernel_rfl) rfl ?_
    intro hB
    have hbx : ¬ b = xb := by have := lt_of_heap (kz.heap' hb2); omega
    refine Drawn.loadb hTT hB rfl hby (by first | exact fun h => h | (intro h; omega) | assumption) rfl rfl ?_
    refine Drawn.loadb hTT hB rfl hby (by first | exact fun h => h | (intro h; omega) | assumption) rfl rfl ?_
    refine Drawn.turn1 hB rfl ?_
    intro w3 hw3
    refine Turn.loadb hTT hB rfl (hw3.heap' hxb) rfl rfl ?_
    have hdA' := fun w' (hw' : Chg None' w3 w') => hdA w' (hw3.trans hw')
    refine Drawn.callQ hB rfl rfl (hdA') ?_
    rintro _ w4 hs4 ⟨hw4, A, rfl, hAm, hA1, hA2, hA3, hA4⟩
    refine Drawn.adv hTT hB rfl ?_
    refine Drawn.turn1 hB rfl ?_
    intro w5 hw5
    refine Turn.store hTT hB rfl ((hw4.trans hw5).heap' hxb) (by first | (intro h; exact rfl) | (intro h; omega)) rfl rfl rfl ?_
    intro w6 hxb6 hs6 hz6
    refine Drawn.nil hB ?_
    intro w7 hw7
    refine Goes.adv hTT 400 rfl ?_
    replace hxb6 : w6.heap[xb]? = some (.cells (newL c p g cap mb tm vb (.pointer (some ⟨A.ab, 0, none⟩)) (.pointer none) (.pointer none)).toArray 88 (0, 0)) := hxb6
    have s02 := hw02.size
    have szz := kz.size
    have szy := hwy.size
    have s4 := hw4.size
    have s5 := hw5.size
    have s7 := hw7.size
    have lg := lt_of_heap hN.g
    have lm := lt_of_heap hN.m.1
    have lt' := hN.t.lt
    have lv := lt_of_heap hN.v
    have lx := lt_of_heap hxb
    have hw05 : Chg None' w w5 := (((hw02.trans kz).trans hwy).trans hw4).trans hw5
    have hw07 : Chg None' w w7 := (hw05.since hs6 (fun z hz e => by omega)).trans hw7
    have hN7 : NewB c w7 g cap r mb tm vb := ((hNy.grow (hw4.trans hw5)).note hs6 (by omega) (by omega) (by omega) (by omega)).grow hw7
    have hA7 : ArOk w7 A ⟨zeros (c.pages * c.size).toNat, 0, 0⟩ := ((hA4.grow hw5).chg hs6 (fun b' hb' e => by
      rcases hb' with h | h | h | h
      · omega
      · omega
      · omega
      · rw [hAm] at h; have := Option.some.inj h; omega)).grow hw7
    have hb7 := hw7.heap' (hs6.heap ((hw4.trans hw5).heap' hby) hbx)
    have hx7 := hw7.heap' hxb6
    have la := lt_of_heap hA7.obj
    have ld := lt_of_heap hA7.dat
    have lc := lt_of_heap hA7.cap
    have hdR : ∀ w', Chg None' w7 w' → Does Tryz.prog 48 #[.agg (confL c p).toArray, .pointer (some ⟨mb, 0, none⟩)] w' (fun v w3 => Chg (fun z => z = xb) w' w3 ∧ Chg None' w7 w3 ∧ ∃ Fr R, v = .tuple #[rmV R, .int .i64 0] ∧ R.c = c ∧ R.p = p ∧ R.mo = some mb ∧ R.lap = 0 ∧ (R.X = fun z => z = g) ∧ RmSt Fr w3 R (newRm c 0) ∧ ∀ z, Fr z → w7.heap.size ≤ z ∨ z = mb) := fun w' hw' => by
      have hm' := (hN7.grow hw').m
      have far : ∀ {a : Option Addr} {l : List Int}, Rd .i64 w a l → Far (fun z => z = mb) w' a l := fun hr => ⟨hr.chg (hw07.trans hw'), fun hl b1 off s1 e hz => by have := hr.block hl e; omega⟩
      refine (room_New c p (some mb) 0 0 (fun z => z = g) w' (hc.chg (hw07.trans hw')) (ht.grow (hw07.trans hw')) (fun z e => ⟨by have := hw'.size; omega, fun e2 => by have e3 := Option.some.inj e2; exact kd_ne (kd_cells hN.g) (kd_meter hN.m) (by decide) (e.symm.trans e3.symm)⟩) (fun b1 e => by cases e; exact ⟨hm', far hc.classes, far hc.keep⟩) (by decide)).mono fun v w3 ⟨x1, x2⟩ => ?_
      rw [if_pos hm] at x2
      obtain ⟨Fr, R, y1, y2, y3, y4, y5, y6, y7, y8⟩ := x2
      exact ⟨x1.mono fun _ _ h => h.elim, hw'.trans x1, Fr, R, y4, y1, y2, y3, y7, y8, y5, fun z hz => (y6 z hz).imp (fun h => by have := hw'.size; omega) (fun h => (Option.some.inj h).symm)⟩
    refine Goes.drawn (q := 13) (fun z => z = xb) hTT mixed (by kernel_rfl) rfl ?_
    intro hB
    refine Drawn.loads hTT hB rfl hb7 (by first | exact fun h => h | (intro h; omega) | assumption) rfl rfl ?_
    refine Drawn.turn1 hB rfl ?_
    intro w8 hw8
    refine Turn.loadb hTT hB rfl (hw8.heap' hx7) rfl rfl ?_
    have hdR' := fun w' (hw' : Chg None' w8 w') => hdR w' (hw8.trans hw')
    refine Drawn.callQ hB rfl rfl (hdR') ?_
    rintro _ w9 hs9 ⟨hw9, Fr, R, rfl, hRc, hRp, hRm, hRl, hRX, hR9, hFr⟩
    refine Drawn.adv hTT hB rfl ?_
    refine Drawn.turn1 hB rfl ?_
    intro w10 hw10
    refine Turn.store hTT hB rfl ((hw9.trans hw10).heap' hx7) (by first | (intro h; exact rfl) | (intro h; omega)) rfl rfl rfl ?_
    intro w11 hxb11 hs11 hz11
    refine Drawn.nil hB ?_
    intro w12 hw12
    refine Goes.adv hTT 400 rfl ?_
    replace hxb11 : w11.heap[xb]? = some (.cells (newL c p g cap mb tm vb (.pointer (some ⟨A.ab, 0, none⟩)) (rmV R) (.pointer none)).toArray 88 (0, 0)) := hxb11
    have s9 := hw9.size
    have s10 := hw10.size
    have s12 := hw12.size
    have hxF : ¬ Fr xb := fun hz => (hFr xb hz).elim (by omega) (by omega)
    have hw710 := hw9.trans hw10
    have hw010 := hw07.trans hw710
    have hw012 : Chg None' w w12 := (hw010.since hs11 (fun z hz e => by omega)).trans hw12
    have hxp : ∀ {a r2 v2 : Value}, newL c p g cap mb tm vb a r2 v2 = .int .i64 c.size :: (newL c p g cap mb tm vb a r2 v2).tail := rfl
    have hcr : ConfOk w R.c R.p := by rw [hRc, hRp]; exact hc
    have hR12 : RmSt Fr w12 R (newRm c 0) := ((hR9.grow hw10).apart hcr ht (hw710.heap' hx7) (by omega) hxF (by decide) hs11).grow hw12
    have hN12 := ((hN7.grow hw710).note hs11 (by omega) (by omega) (by omega) (by omega)).grow hw12
    have hA12 := ((hA7.grow hw710).chg hs11 (fun b' hb' e => by
      rcases hb' with h | h | h | h
      · omega
      · omega
      · omega
      · rw [hAm] at h; have := Option.some.inj h; omega)).grow hw12
    have hx12 := hw12.heap' hxb11
    have hb12 := hw12.heap' (hs11.heap (hw710.heap' hb7) hbx)
    have hbl : ((zeros (c.pages * c.size).toNat).length : Int) = c.size * c.pages := by
      rw [zeros_length, Int.mul_comm]
      exact Int.toNat_of_nonneg (Int.mul_nonneg (by have := hmf.size; omega) (by have := hmf.pages; omega))
    have hdV : ∀ w', Chg None' w12 w' → Does Tryz.prog 49 #[.agg (confL c p).toArray, .pointer (some ⟨A.ab, 0, none⟩), .pointer (some ⟨mb, 0, none⟩)] w' (fun v w3 => Chg (fun z => z = xb) w' w3 ∧ Chg None' w12 w3 ∧ ∃ vw, v = .tuple #[.pointer (some ⟨vw, 0, none⟩), .int .i64 0] ∧ w12.heap.size ≤ vw ∧ VwOk w3 ⟨vw, c, p, A.ab, some mb⟩) := fun w' hw' => by
      have hvn := view_New c p A ⟨zeros (c.pages * c.size).toNat, 0, 0⟩ w' (hc.chg (hw012.trans hw')) (hA12.grow hw')
      rw [hAm] at hvn
      refine hvn.mono fun v w3 ⟨x1, x2⟩ => ?_
      rw [if_pos ⟨hm, hbl⟩] at x2
      obtain ⟨vw, y1, y2, y3⟩ := x2
      exact ⟨x1.mono fun _ _ h => h.elim, hw'.trans x1, vw, y1, by have := hw'.size; omega, y3⟩
    refine Goes.drawn (q := 17) (fun z => z = xb) hTT mixed (by kernel_rfl) rfl ?_
    intro hB
    refine Drawn.loads hTT hB rfl hb12 (by first | exact fun h => h | (intro h; omega) | assumption) rfl rfl ?_
    refine Drawn.turn2 hB rfl ?_ ?_
    all_goals
      intro w13 hw13
      refine Turn.loadb hTT hB rfl (hw13.heap' hx12) rfl rfl ?_
      refine Drawn.turn1 hB rfl ?_
      intro w14 hw14
      refine Turn.loadb hTT hB rfl ((hw13.trans hw14).heap' hx12) rfl rfl ?_
      have hdV' := fun w' (hw' : Chg None' w14 w') => hdV w' ((hw13.trans hw14).trans hw')
      refine Drawn.callQ hB rfl rfl (hdV') ?_
      rintro _ w15 hs15 ⟨hw15, vw, rfl, hvw, hV⟩
      refine Drawn.adv hTT hB rfl ?_
      refine Drawn.turn1 hB rfl ?_
      intro w16 hw16
      refine Turn.store hTT hB rfl ((hw15.trans hw16).heap' hx12) (by first | (intro h; exact rfl) | (intro h; omega)) rfl rfl rfl ?_
      intro w17 hxb17 hs17 hz17
      refine Drawn.nil hB ?_
      intro w18 hw18
      refine Goes.adv hTT 400 rfl ?_
      have hw1216 := hw15.trans hw16
      have hx18 := hw18.heap' hxb17
      have l12 := lt_of_heap hx12
      have s1216 := hw1216.size
      have hw018 : Chg None' w w18 := ((hw012.trans hw1216).since hs17 (fun z hz e => by omega)).trans hw18
      have hR18 : RmSt Fr w18 R (newRm c 0) := ((hR12.grow hw1216).apart hcr ht (hw1216.heap' hx12) (by omega) hxF (by decide) hs17).grow hw18
      have hN18 := ((hN12.grow hw1216).note hs17 (by omega) (by omega) (by omega) (by omega)).grow hw18
      have hA18 := ((hA12.grow hw1216).chg hs17 (fun b' hb' e => by
        rcases hb' with h | h | h | h
        · omega
        · omega
        · omega
        · rw [hAm] at h; have := Option.some.inj h; omega)).grow hw18
      have hV18 : VwOk w18 ⟨vw, c, p, A.ab, some mb⟩ := ⟨hw18.heap' (hs17.heap (hw16.heap' hV.obj) (by simp only; omega)), hc.chg hw018, hm⟩
      have hFv : ¬ Fr vw := fun hz => by have := hR12.low vw hz; omega
      obtain ⟨F, Fr2, S, mo, eS, hS, hSc, hSl, hSF⟩ := sto_new (w7 := w7) hc ht hw018 hm hx18 hN18 hA18 hAm hR18 hRc hRp hRm hRl hRX hV18 hFr hFv hw07.size (by omega) (by omega) (by omega) (by omega) (by omega) (by omega) (by omega)
      exact Goes.ret2 hTT rfl Tryz.func11 rfl rfl rfl ⟨F, Fr2, S, mo, by rw [eS], hS, hSc, hSl, hSF, hw018⟩
end Go.Proofs.YtnaoiegcobineaaGreatDoor
/-
  Layer 22: a store while other variables are written; a run of it.
-/
namespace Go.Proofs.YtnaoiegcobineaaGreatDoor
open Go.RowKit
/-- Where those values of a store lie that never change. -/
structure Fixed (n : Nat) (S : Sto) : Prop where
  ab : S.A.ab < n
  mc : S.A.mc < n
  vb : S.v.vb < n
  rb : S.R.rb < n
  sb : S.R.sb < n
  tab : 0 < n
  ca : ∀ b off s, S.p.ca = some ⟨b, off, s⟩ → b < n
  ka : ∀ b off s, S.p.ka = some ⟨b, off, s⟩ → b < n
section
variable {F Fr : Nat → Prop} {w w' : World} {S : Sto} {s : StM} {by' : Int} {mo : Mo}
theorem StoOk.fixed (h : StoOk F Fr w S s by' mo) : Fixed w.heap.size S := by
  have hrm := h.room
  have hmf := may_facts hrm.may
  have hrc := h.rc
  rw [hrc] at hmf
  exact ⟨lt_of_heap h.ar.obj, lt_of_heap h.ar.cap, lt_of_heap h.vw.obj, lt_of_heap hrm.obj, World.block_lt_of_cell? w _ (hrm.sl 0 (by have := hmf.n; have := hrm.ok.n; rw [hrc] at this; omega)), World.block_lt_of_cell? w _ (hrm.tab 0 (by decide)),
    fun b off s e => h.ca.1.block (by have := hmf.n; omega) e, fun b off s e => h.ka.1.block (by have := hmf.keep; have := hmf.n; omega) e⟩
/-- A variable that is not the store's is written. -/
theorem StoOk.boxed (h : StoOk F Fr w S s by' mo) {n b t : Nat} (hf : Fixed n S) (hb : n ≤ b) (hF : ¬ F b) (hk : kd w b = some (some t)) (ht : t ≠ 264 ∧ t ≠ 260 ∧ t ≠ 3) (hc : Chg (fun z => z = b) w w') : StoOk F Fr w' S s by' mo := by
  obtain ⟨f1, f2, f3, f4, f5, f6, f7, f8⟩ := hf
  refine h.other hc (fun z e => e ▸ ⟨hF, ⟨by omega, by omega, by omega, by omega, by omega, by omega⟩, fun off s e => by have := f7 _ _ _ e; omega, fun off s e => by have := f8 _ _ _ e; omega, t, hk, ht⟩) ?_
  intro al hal k sz q hq
  obtain ⟨al0, a1, a2, a3, a4⟩ := h.th
  have := a1.uniq hal
  subst this
  by_cases hk' : ∀ (o : Nat) t, s.th[o]? = some (some t) → (o : Int) ≠ k
  · rw [a4 k hk'] at hq; cases hq
  · simp only [Classical.not_forall, Decidable.not_not] at hk'
    obtain ⟨o, t1, g1, g2⟩ := hk'
    obtain ⟨q1, _, b2, _, _, b5⟩ := a3 o t1 g1
    rw [g2, hq] at b2
    have e := thL_inj (Option.some.inj b2)
    rw [e]
    intro b' off s' e' hz
    have := b5 b' off s' e'
    rw [hz, hk] at this
    exact ht.2.2 (Option.some.inj (Option.some.inj this))
end
/-- A store that a law runs. -/
structure Lv (c : Conf) (n0 : Nat) (w0 w : World) (F : Nat → Prop) (S : Sto) (s : StM) : Prop where
  ok : ∃ Fr mo, StoOk F Fr w S s (stBytes s) mo
  inv : s.Ok c
  sc : S.c = c
  fx : Fixed n0 S
  base : ∀ z, F z → w0.heap.size ≤ z
  chg : Chg None' w0 w
def LvTo (c : Conf) (n0 : Nat) (w0 w : World) (F : Nat → Prop) (S : Sto) (s : StM) (w' : World) : Prop := ∃ F', Lv c n0 w0 w' F' S s ∧ (∀ z, F' z → F z ∨ w.heap.size ≤ z) ∧ Chg F w w'
section
variable {c : Conf} {n0 : Nat} {w0 w w' : World} {F : Nat → Prop} {S : Sto} {s s' : StM}
theorem Lv.low (h : Lv c n0 w0 w F S s) : ∀ z, F z → z < w.heap.size := by obtain ⟨_, _, h1⟩ := h.ok; exact h1.low
theorem Lv.grow (h : Lv c n0 w0 w F S s) (hc : Chg None' w w') : Lv c n0 w0 w' F S s := by
  obtain ⟨Fr, mo, h1⟩ := h.ok
  exact { h with ok := ⟨Fr, mo, h1.grow hc⟩, chg := h.chg.trans hc }
theorem Lv.box (h : Lv c n0 w0 w F S s) {b t : Nat} (hb : n0 ≤ b) (hF : ¬ F b) (hk : kd w b = some (some t)) (ht : t ≠ 264 ∧ t ≠ 260 ∧ t ≠ 3) (hc : Chg (fun z => z = b) w w') (h0 : w0.heap.size ≤ b) : Lv c n0 w0 w' F S s := by
  obtain ⟨Fr, mo, h1⟩ := h.ok
  exact { h with ok := ⟨Fr, mo, h1.boxed h.fx hb hF hk ht hc⟩, chg := h.chg.since hc (fun z hz e => by omega) }
theorem Lv.to (h : Lv c n0 w0 w F S s) (ht : StTo F w w' S s' (stBytes s')) (hi : s'.Ok c) : LvTo c n0 w0 w F S s' w' := by
  obtain ⟨F', Fr', mo', h1, h2, h3⟩ := ht
  have hs := h.chg.size
  exact ⟨F', ⟨⟨Fr', mo', h1⟩, hi, h.sc, h.fx, fun z hz => (h2 z hz).elim (h.base z) (fun g => by omega), h.chg.since h3 (fun z hz e => by have := h.base z e; omega)⟩, h2, h3⟩
theorem Lv.self (h : Lv c n0 w0 w F S s) (hc : Chg None' w w') : LvTo c n0 w0 w F S s w' := ⟨F, h.grow hc, fun _ h => .inl h, hc.mono fun _ _ h => h.elim⟩
end
end Go.Proofs.YtnaoiegcobineaaGreatDoor
/-
  Layer 20: a thing is let go, the document's.
-/
namespace Go.Proofs.YtnaoiegcobineaaGreatDoor
open Go.RowKit
theorem Rd.keepI {w w' : World} {a : Option Addr} {l : List Int} {q t : Nat} {c : Array Value} {fz : Nat × Nat} (hr : Rd .i64 w a l) (hq : w.heap[q]? = some (.cells c t fz)) (hc : ∀ x ∈ c.toList, ∀ z, x ≠ .int .i64 z) (hs : Chg (fun b => b = q) w w') : Rd .i64 w' a l := fun j hj => by
  obtain ⟨b, off, e, hcell⟩ := hr j hj
  refine ⟨b, off, e, hs.cell hcell (fun hx => ?_)⟩
  subst hx
  rw [cell_of hq] at hcell
  exact hc _ (Array.mem_toList_iff.2 (Array.mem_of_getElem? hcell)) _ rfl
theorem RpOk.keep {w w' : World} {r : RP} {pl : PlM} (h : RpOk w r pl) {q t : Nat} {c : Array Value} {fz : Nat × Nat} (hq : w.heap[q]? = some (.cells c t fz)) (hc : ∀ x ∈ c.toList, ∀ z, x ≠ .int .i64 z) (hs : Chg (fun b => b = q) w w') : RpOk w' r pl :=
  ⟨⟨⟨h.o.ok.rd.keepI hq hc hs, h.o.ok.len⟩, h.o.cap, h.o.lt.grow hs.size⟩, ⟨⟨h.f.ok.rd.keepI hq hc hs, h.f.ok.len⟩, h.f.cap, h.f.lt.grow hs.size⟩, h.eo, h.ef⟩
end Go.Proofs.YtnaoiegcobineaaGreatDoor
/-
  Layer 22: what the document says of a store.
-/
namespace Go.Proofs.YtnaoiegcobineaaGreatDoor
open Go.RowKit
structure TR where
  size : Int
  q : Plc
def trL (t : TR) : List Value := .int .i64 t.size :: plcL t.q
/-- A row of the document's moves; its arena is an old one, that nobody reads. -/
structure VR where
  is : Bool
  who : Int
  pf : Int
  fa : Int
  pt : Int
  ta : Int
  sa : Option Addr
  sl : Nat
  sc : Nat
  st : Int
  f : Int
  t : Int
  size : Int
  gone : Int
def vrwL (v : VR) : List Value := [.bool v.is, .int .i64 v.who, .int .i64 v.pf, .int .i64 v.fa, .int .i64 v.pt, .int .i64 v.ta, .slice v.sa v.sl v.sc, .int .i64 v.st, .int .i64 v.f, .int .i64 v.t, .int .i64 v.size, .int .i64 v.gone]
structure SR where
  c : Conf
  cp : ConfAt
  keep : List Int
  ka : Option Addr
  kcap : Nat
  ra : RA
  rr : RR
  ts : List TR
  ta : Option Addr
  tcap : Nat
  ms : List VR
  ma : Option Addr
  mcap : Nat
def tRel (x : Option ThM) (t : TR) : Prop := t.size = szT x ∧ ∀ y, x = some y → plcP t.q = y.q
def vRel (x : Option MvM) (v : VR) : Prop := v.is = x.isSome ∧ ∀ m, x = some m → v.who = m.who ∧ v.pf = m.pf ∧ v.fa = m.fa ∧ v.pt = m.pt ∧ v.ta = m.ta ∧ v.f = m.f ∧ v.t = m.t ∧ v.size = m.size ∧ v.gone = m.gone
abbrev rm0 (M : RmM) : RmM := { M with tot := 0 }
structure SrOk (w : World) (r : SR) (s : StM) : Prop where
  conf : ConfOk w r.c r.cp
  kr : Rd .i64 w r.ka r.keep
  ke : r.keep = s.keep
  ra : RaOk w r.ra
  rb : r.ra.bs = s.bs
  rs : r.ra.steps = s.rm.tot
  la : ALt w r.ra.a
  lk : ALt w r.ka
  rr : RrOk w r.rr (rm0 s.rm)
  rc : r.rr.c = r.c
  rp : r.rr.cp = r.cp
  tr : Rows trL 5 w r.ta r.ts
  tl : ALt w r.ta
  tc : r.ts.length ≤ r.tcap
  tn : r.ts.length = s.th.length
  te : ∀ (o : Nat) x t, s.th[o]? = some x → r.ts[o]? = some t → tRel x t
  tq : ∀ t ∈ r.ts, PlcOk w t.q ∧ ALt w t.q.pa
  mr : Rows vrwL 12 w r.ma r.ms
  ml : ALt w r.ma
  mc : r.ms.length ≤ r.mcap
  mn : r.ms.length = s.mv.length
  me : ∀ (k : Nat) x v, s.mv[k]? = some x → r.ms[k]? = some v → vRel x v
structure SrOut (S : Nat → Prop) (r : SR) : Prop where
  k : OutA S r.ka
  ra : OutA S r.ra.a
  rr : RrOut S r.rr
  ta : OutA S r.ta
  tq : ∀ t ∈ r.ts, OutA S t.q.pa
  ma : OutA S r.ma
theorem SrOk.grow {w w' : World} {r : SR} {s : StM} (h : SrOk w r s) (hc : Chg None' w w') : SrOk w' r s :=
  { h with conf := h.conf.chg hc, kr := h.kr.chg hc, ra := h.ra.grow hc, la := h.la.grow hc.size, lk := h.lk.grow hc.size, rr := h.rr.grow hc, tr := h.tr.chg hc, tl := h.tl.grow hc.size, tq := fun t ht => ⟨(h.tq t ht).1.grow hc, (h.tq t ht).2.grow hc.size⟩, mr := h.mr.chg hc, ml := h.ml.grow hc.size }
theorem SrOk.far {w w' : World} {r : SR} {s : StM} {S : Nat → Prop} (h : SrOk w r s) (ho : SrOut S r) (hcf : ConfOk w' r.c r.cp) (hc : Chg S w w') : SrOk w' r s :=
  { h with conf := hcf, kr := h.kr.far ho.k hc, ra := ⟨h.ra.rd.far ho.ra hc, h.ra.len, h.ra.lc, h.ra.rng⟩, la := h.la.grow hc.size, lk := h.lk.grow hc.size, rr := h.rr.far ho.rr hc, tr := h.tr.far ho.ta hc, tl := h.tl.grow hc.size, tq := fun t ht => ⟨⟨(h.tq t ht).1.rd.far (ho.tq t ht) hc, (h.tq t ht).1.len⟩, (h.tq t ht).2.grow hc.size⟩, mr := h.mr.far ho.ma hc, ml := h.ml.grow hc.size }
def SKeep (w : World) (r r' : SR) : Prop := r'.c = r.c ∧ r'.cp = r.cp ∧ ∀ S : Nat → Prop, (∀ z, S z → z < w.heap.size) → SrOut S r → SrOut S r'
theorem SKeep.refl (w : World) (r : SR) : SKeep w r r := ⟨rfl, rfl, fun _ _ h => h⟩
theorem SKeep.trans {w w1 : World} {r r1 r2 : SR} (h : SKeep w r r1) (h' : SKeep w1 r1 r2) (hs : w.heap.size ≤ w1.heap.size) : SKeep w r r2 := ⟨h'.1.trans h.1, h'.2.1.trans h.2.1, fun S hS ho =>
  h'.2.2 S (fun z hz => by have := hS z hz; omega) (h.2.2 S hS ho)⟩
theorem SrOk.out {w : World} {r : SR} {s : StM} {S : Nat → Prop} (h : SrOk w r s) (hs : ∀ z, S z → w.heap.size ≤ z) : SrOut S r := ⟨h.lk.out hs, h.la.out hs, h.rr.out hs, h.tl.out hs, fun t ht => (h.tq t ht).2.out hs, h.ml.out hs⟩
/-- The result's own block is written. -/
theorem SrOk.box {w w2 w' w'' : World} {r r' : SR} {s s' : StM} {qb : Nat} (h : SrOk w r s) (hk : SKeep w2 r r') (h' : SrOk w' r' s') (hw : w.heap.size ≤ qb) (hq : qb < w2.heap.size) (hc : Chg (fun z => z = qb) w' w'') (hcc : Chg None' w w'') : SrOk w'' r' s' := by
  have ho := hk.2.2 (fun z => z = qb) (fun z e => e ▸ hq) (h.out fun z e => e ▸ hw)
  refine h'.far ho ?_ hc
  have := h.conf.chg hcc
  rw [hk.1, hk.2.1]
  exact this
/-- What the document's operation tells. -/
def SrTo (w : World) (r : SR) (s' : StM) (r' : SR) (w' : World) : Prop := SrOk w' r' s' ∧ SKeep w r r' ∧ Chg None' w w'
theorem SrTo.self {w w' : World} {r : SR} {s : StM} (h : SrOk w r s) (hc : Chg None' w w') : SrTo w r s r w' := ⟨h.grow hc, .refl w r, hc⟩
theorem SrTo.trans {w w1 w2 : World} {r r1 r2 : SR} {s1 s2 : StM} (h : SrTo w r s1 r1 w1) (h' : SrTo w1 r1 s2 r2 w2) : SrTo w r s2 r2 w2 := ⟨h'.1, h.2.1.trans h'.2.1 h.2.2.size, h.2.2.trans h'.2.2⟩
end Go.Proofs.YtnaoiegcobineaaGreatDoor
/-
  Layer 22: what the document tells of a store's things.
-/
namespace Go.Proofs.YtnaoiegcobineaaGreatDoor
open Go.RowKit
section
variable {w : World} {r : SR} {s : StM} {pd : Option (Nat × PlcM)}
end
end Go.Proofs.YtnaoiegcobineaaGreatDoor
/-
  Layer 22: the document's moves begin.
-/
namespace Go.Proofs.YtnaoiegcobineaaGreatDoor
open Go.RowKit
end Go.Proofs.YtnaoiegcobineaaGreatDoor
/-
  Layer 22: the document's moves go on.
-/
namespace Go.Proofs.YtnaoiegcobineaaGreatDoor
open Go.RowKit
end Go.Proofs.YtnaoiegcobineaaGreatDoor
/-
  Layer 22: the document's moves are finished; a place is let go.
-/
namespace Go.Proofs.YtnaoiegcobineaaGreatDoor
open Go.RowKit
end Go.Proofs.YtnaoiegcobineaaGreatDoor
/-
  Layer 22: the document lets a place go.
-/
namespace Go.Proofs.YtnaoiegcobineaaGreatDoor
open Go.RowKit
end Go.Proofs.YtnaoiegcobineaaGreatDoor
/-
  Layer 22: what the document says fits.
-/
namespace Go.Proofs.YtnaoiegcobineaaGreatDoor
open Go.RowKit
end Go.Proofs.YtnaoiegcobineaaGreatDoor
/-
  Layer 22: the document's Keep is set.
-/
namespace Go.Proofs.YtnaoiegcobineaaGreatDoor
open Go.RowKit
end Go.Proofs.YtnaoiegcobineaaGreatDoor
/-
  Layer 22: the document ticks.
-/
namespace Go.Proofs.YtnaoiegcobineaaGreatDoor
open Go.RowKit
end Go.Proofs.YtnaoiegcobineaaGreatDoor
/-
  Layer 22: the document counts a store's bytes.
-/
namespace Go.Proofs.YtnaoiegcobineaaGreatDoor
open Go.RowKit
end Go.Proofs.YtnaoiegcobineaaGreatDoor
/-
  Layer 22: the document lays a thing out.
-/
namespace Go.Proofs.YtnaoiegcobineaaGreatDoor
open Go.RowKit
end Go.Proofs.YtnaoiegcobineaaGreatDoor
/-
  Layer 22: the document's things begin and end.
-/
namespace Go.Proofs.YtnaoiegcobineaaGreatDoor
open Go.RowKit
end Go.Proofs.YtnaoiegcobineaaGreatDoor
/-
  Layer 22: the document's things are read and written.
-/
namespace Go.Proofs.YtnaoiegcobineaaGreatDoor
open Go.RowKit
theorem Own.rd8 {base n : Nat} {w : World} {v : Value} {l : List Int} (h : Own base 5 1 w v n (l.map (Value.int .u8))) (hn : l.length = n) : ∃ a cap, v = .slice a n cap ∧ Rd .u8 w a l ∧ ∀ b off s, a = some ⟨b, off, s⟩ → base ≤ b ∧ b < w.heap.size := by
  rcases h.2 with ⟨rfl, h2⟩ | ⟨g, cap, cur, rfl, hg, hh, hcap, hm2, _, hx2⟩
  · subst h2
    have : l = [] := List.length_eq_zero_iff.1 hn
    subst this
    exact ⟨none, 0, rfl, Rd.nil _ _ _, (by intro b off s e; cases e)⟩
  · exact ⟨_, cap, rfl, Rd.of_take hh (by rw [hn]; rw [Nat.mul_one] at hx2; exact hx2), (by intro b off s e; cases e; exact ⟨hg, lt_of_heap hh⟩)⟩
end Go.Proofs.YtnaoiegcobineaaGreatDoor
/-
  Layer 22: the document's things are written.
-/
namespace Go.Proofs.YtnaoiegcobineaaGreatDoor
open Go.RowKit
end Go.Proofs.YtnaoiegcobineaaGreatDoor
/-
  Layer 22: the document's things get another size.
-/
namespace Go.Proofs.YtnaoiegcobineaaGreatDoor
open Go.RowKit
section
variable {c : Conf} {s : StM} {pd : Option (Nat × PlcM)}
end
end Go.Proofs.YtnaoiegcobineaaGreatDoor
/-
  Layer 22: an act on a store, asV plain data, and the document's.
-/
namespace Go.Proofs.YtnaoiegcobineaaGreatDoor
open Go.RowKit
structure Act22 where
  kind : Int
  own : Int
  a : Int
  b : Int
  bs : List Int
  ba : Option Addr
  bc : Nat
structure Act22Ok (w : World) (u : Act22) : Prop where
  kind : 0 ≤ u.kind ∧ u.kind < 256
  a : -9223372036854775808 ≤ u.a ∧ u.a ≤ 9223372036854775807
  b : -9223372036854775808 ≤ u.b ∧ u.b ≤ 9223372036854775807
  rd : Rd .u8 w u.ba u.bs
  rng : InB u.bs
  lc : u.bs.length ≤ u.bc
  len : u.bc ≤ 9223372036854775807
theorem Act22Ok.grow {w w' : World} {u : Act22} (h : Act22Ok w u) (hc : Chg None' w w') : Act22Ok w' u := ⟨h.kind, h.a, h.b, h.rd.chg hc, h.rng, h.lc, h.len⟩
end Go.Proofs.YtnaoiegcobineaaGreatDoor
/-
  Layer 22: the store of a law: what is done to it.
-/
namespace Go.Proofs.YtnaoiegcobineaaGreatDoor
open Go.RowKit
section
variable {c : Conf} {n0 : Nat} {w0 w : World} {F : Nat → Prop} {S : Sto} {s : StM}
theorem Lv.ofE (h : Lv c n0 w0 w F S s) {s' : StM} {e : Int} (hi : s'.Ok c) {P : Program} {k : FuncId} {args : Array Value} (hd : Does P k args w (StE F w S s' e)) : Does P k args w (fun v w' => v = .int .i64 e ∧ LvTo c n0 w0 w F S s' w') :=
  hd.mono fun v w' ⟨e1, ht⟩ => ⟨e1, h.to ht hi⟩
theorem lv_Alloc (h : Lv c n0 w0 w F S s) (o size : Int) : Does Tryz.prog 38 #[stoV S, .int .i64 o, .int .i64 size] w (fun v w' => v = .int .i64 (stAllocE c s o size) ∧ LvTo c n0 w0 w F S (stAlloc c s o size) w') := by
  obtain ⟨Fr, mo, h1⟩ := h.ok
  have hd := store_Alloc h1 (by rw [h.sc]; exact h.inv) o size
  rw [h.sc] at hd
  exact h.ofE (h.inv.alloc o size) hd
theorem lv_Free (h : Lv c n0 w0 w F S s) (o : Int) : Does Tryz.prog 39 #[stoV S, .int .i64 o] w (fun v w' => v = .int .i64 (ownedE s o) ∧ LvTo c n0 w0 w F S (stFree c s o) w') := by
  obtain ⟨Fr, mo, h1⟩ := h.ok
  have hd := store_Free h1 (by rw [h.sc]; exact h.inv) o
  rw [h.sc] at hd
  exact h.ofE (h.inv.free o) hd
theorem lv_Write (h : Lv c n0 w0 w F S s) (o i : Int) (a : Option Addr) (cap : Nat) (l : List Int) (hi : -9223372036854775808 ≤ i ∧ i ≤ 9223372036854775807) (hr : Rd .u8 w a l) (hlc : l.length ≤ cap) (hl : l.length ≤ 9223372036854775807) (hin : InB l) (hout : 0 < l.length → OutA F a) : Does Tryz.prog 41 #[stoV S, .int .i64 o, .int .i64 i, .slice a l.length cap] w (fun v w' => v = .int .i64 (withinE s o i l.length) ∧ LvTo c n0 w0 w F S (stWrite c s o i l) w') := by
  obtain ⟨Fr, mo, h1⟩ := h.ok
  have hd := store_Write h1 (by rw [h.sc]; exact h.inv) o i a cap l hi hr hlc hl hin hout
  rw [h.sc] at hd
  exact h.ofE (h.inv.write o i hin) hd
theorem lv_Read (h : Lv c n0 w0 w F S s) (o i n : Int) (hi : -9223372036854775808 ≤ i ∧ i ≤ 9223372036854775807) (hn : -9223372036854775808 ≤ n ∧ n ≤ 9223372036854775807) : Does Tryz.prog 26 #[stoV S, .int .i64 o, .int .i64 i, .int .i64 n] w
    (fun v w' => ∃ a cap, v = .tuple #[.slice a (stReadB c s o i n).length cap, .int .i64 (withinE s o i n)] ∧ Rd .u8 w' a (stReadB c s o i n) ∧ (∀ b off s', a = some ⟨b, off, s'⟩ → w.heap.size ≤ b ∧ b < w'.heap.size) ∧ LvTo c n0 w0 w F S (stRead c s o i n) w') := by
  obtain ⟨Fr, mo, h1⟩ := h.ok
  have hd := store_Read h1 (by rw [h.sc]; exact h.inv) o i n hi hn
  rw [h.sc] at hd
  refine hd.mono fun v w' ⟨u, e, ho, ht⟩ => ?_
  obtain ⟨a, cap, e2, hr, ha⟩ := ho.rd8 rfl
  exact ⟨a, cap, by rw [e, e2], hr, ha, h.to ht (h.inv.read o i n)⟩
theorem lv_Tick (h : Lv c n0 w0 w F S s) : Does Tryz.prog 37 #[stoV S] w (fun v w' => v = .int .i64 0 ∧ LvTo c n0 w0 w F S (stTick c s) w') := by
  obtain ⟨Fr, mo, h1⟩ := h.ok
  have hd := store_Tick h1 (by rw [h.sc]; exact h.inv)
  rw [h.sc] at hd
  exact h.ofE h.inv.tick hd
theorem lv_Steps (h : Lv c n0 w0 w F S s) : Does Tryz.prog 15 #[stoV S] w (fun v w' => v = .int .i64 (s.rm.tot - S.R.lap) ∧ Lv c n0 w0 w' F (S.relap s.rm.tot) s ∧ Chg F w w') := by
  obtain ⟨Fr, mo, h1⟩ := h.ok
  refine (store_Steps h1).mono fun v w' ⟨e, h2, hc⟩ => ⟨e, ⟨⟨Fr, mo, h2⟩, h.inv, h.sc, ?_, h.base, h.chg.since hc (fun z hz e => by have := h.base z e; have := h.chg.size; omega)⟩, hc⟩
  obtain ⟨f1, f2, f3, f4, f5, f6, f7, f8⟩ := h.fx
  exact ⟨f1, f2, f3, f4, f5, f6, f7, f8⟩
theorem lv_Held (h : Lv c n0 w0 w F S s) : Does Tryz.prog 13 #[stoV S] w (Grow (.int .i64 (heldM s.rm.pl : Nat)) w) := by obtain ⟨Fr, mo, h1⟩ := h.ok; exact store_Held h1
theorem lv_Bytes (h : Lv c n0 w0 w F S s) : Does Tryz.prog 14 #[stoV S] w (Grow (.int .i64 (stBytes s)) w) := by obtain ⟨Fr, mo, h1⟩ := h.ok; exact store_Bytes h1
theorem lv_Open (h : Lv c n0 w0 w F S s) (k : Int) : Does Tryz.prog 28 #[stoV S, .int .i64 k] w (Grow (.int .i64 (rmOpen s.rm k : Nat)) w) := by obtain ⟨Fr, mo, h1⟩ := h.ok; exact store_Open h1 k
theorem lv_Left (h : Lv c n0 w0 w F S s) (k : Int) : Does Tryz.prog 27 #[stoV S, .int .i64 k] w (Grow (.int .i64 (stLeft s k : Nat)) w) := by obtain ⟨Fr, mo, h1⟩ := h.ok; exact store_Left h1 (by rw [h.sc]; exact h.inv) k
theorem lv_Size (h : Lv c n0 w0 w F S s) (o : Int) : Does Tryz.prog 25 #[stoV S, .int .i64 o] w (Grow (.int .i64 (stSize s o)) w) := by obtain ⟨Fr, mo, h1⟩ := h.ok; exact store_Size h1 (by rw [h.sc]; exact h.inv) o
theorem lv_Fits (h : Lv c n0 w0 w F S s) (size : Int) : Does Tryz.prog 16 #[stoV S, .int .i64 size] w (Grow (.int .i64 (stFits c s size)) w) := by
  obtain ⟨Fr, mo, h1⟩ := h.ok
  have := store_Fits h1 (by rw [h.sc]; exact h.inv) size
  rw [h.sc] at this
  exact this
end
theorem newSt_ok {c : Conf} (hm : mayB c = true) (hA : RmAll c (newRm c 0)) : (newSt c).Ok c := by
  have hf := may_facts hm
  have hth : ∀ (o : Nat) t, (newSt c).th[o]? ≠ some (some t) := fun o t e => by
    have := List.mem_of_getElem? e
    simp only [newSt, List.mem_replicate] at this
    cases this.2
  have hmv : ∀ (o : Nat) t, (newSt c).mv[o]? ≠ some (some t) := fun o t e => by
    have := List.mem_of_getElem? e
    simp only [newSt, List.mem_replicate] at this
    cases this.2
  have hmB := hm
  unfold mayB at hmB
  simp only [Bool.and_eq_true, decide_eq_true_eq, withinM, Bool.not_eq_true'] at hmB
  refine ⟨hm, hA, hf.keep, fun x hx => ?_, ?_, zeros_in _, ?_, List.length_replicate, fun o t h => absurd h (hth o t), fun o t h => absurd h (hth o t), fun o t h => absurd h (hth o t), fun o _ t _ h => absurd h (hth o t), fun k m h => absurd h (hmv k m), fun k n a h => absurd ?_ h, (by rintro _ _ ⟨⟩), (by rintro _ _ ⟨⟩)⟩
  · have h1 := hmB.1.1.1.1.2.2
    rw [List.any_eq_false] at h1
    have := h1 x hx
    unfold keepBad withinM at this
    simp at this
    omega
  · show ((zeros _).length : Int) = _
    rw [zeros_length]
    exact Int.toNat_of_nonneg (Int.mul_nonneg (by have := hf.size; omega) (by have := hf.pages; omega))
  · show ((List.replicate c.slots.toNat none).length : Int) = _
    rw [List.length_replicate]
    exact Int.toNat_of_nonneg (by omega)
  · unfold rmOwner
    split
    · rfl
    · rename_i x hx
      unfold rmGet at hx
      split at hx
      · obtain ⟨_, e⟩ := newShs_get hx
        rw [e]
        rfl
      · cases hx
theorem newSt_bytes (c : Conf) : stBytes (newSt c) = 0 := by
  rw [stBytes_eq]
  show ((List.replicate c.slots.toNat (none : Option ThM)).map szT).sum = 0
  generalize c.slots.toNat = n
  induction n with
  | zero => rfl
  | succ n ih => rw [List.replicate_succ, List.map_cons, List.sum_cons, ih]; rfl
theorem lv_New (c : Conf) (p : ConfAt) (w : World) (hc : ConfOk w c p) (ht : TabAt w) (hm : mayB c = true) : Does Tryz.prog 11 #[.agg (confL c p).toArray] w (fun v w' => ∃ F S, v = .tuple #[stoV S, .int .i64 0] ∧ Lv c w'.heap.size w w' F S (newSt c) ∧ S.R.lap = 0 ∧ Chg None' w w') := by
  refine (store_New c p w hc ht hm).mono fun v w' ⟨F, Fr, S, mo, e, h1, h2, h3, h4, h5⟩ => ⟨F, S, e, ?_, h3, h5⟩
  have hr := h1.room
  have hok := hr.ok
  rw [h1.rc, h2] at hok
  exact ⟨⟨Fr, mo, by rw [newSt_bytes]; exact h1⟩, newSt_ok hm ⟨hok, hr.mok, hr.mpos⟩, h2, h1.fixed, h4, h5⟩
end Go.Proofs.YtnaoiegcobineaaGreatDoor
/-
  Layer 22: a small store, and what is done to it.
-/
namespace Go.Proofs.YtnaoiegcobineaaGreatDoor
open Go.RowKit
def smallC22 : Conf := ⟨64, 4, [32], [0], 8, 5, 3, 128⟩
def hello22 : List Int := [104, 101, 108, 108, 111]
def aw22x0 : StM := newSt smallC22
def aw22x1 : StM := stAlloc smallC22 aw22x0 0 20
def aw22x2 : StM := stAlloc smallC22 aw22x1 1 20
def aw22x3 : StM := stAlloc smallC22 aw22x2 2 20
def aw22x4 : StM := stAlloc smallC22 aw22x3 3 20
def aw22x5 : StM := stWrite smallC22 aw22x4 3 0 hello22
def aw22x6 : StM := stFree smallC22 aw22x5 0
def aw22x7 : StM := stFree smallC22 aw22x6 2
def aw22x8 : StM := stTick smallC22 aw22x7
def aw22x9 : StM := stTick smallC22 aw22x8
def aw22x10 : StM := stTick smallC22 aw22x9
def aw22x11 : StM := stRead smallC22 aw22x10 3 0 6
theorem aw22_may : mayB smallC22 = true := by kernel_rfl
theorem aw22_a0 : stAllocE smallC22 aw22x0 0 20 = 0 := by kernel_rfl
theorem aw22_a1 : stAllocE smallC22 aw22x1 1 20 = 0 := by kernel_rfl
theorem aw22_a2 : stAllocE smallC22 aw22x2 2 20 = 0 := by kernel_rfl
theorem aw22_a3 : stAllocE smallC22 aw22x3 3 20 = 0 := by kernel_rfl
theorem aw22_w : withinE aw22x4 3 0 5 = 0 := by kernel_rfl
theorem aw22_f : ownedE aw22x5 0 = 0 := by kernel_rfl
theorem aw22_f2 : ownedE aw22x6 2 = 0 := by kernel_rfl
theorem aw22_t : aw22x7.rm.tot - aw22x6.rm.tot = 14 := by kernel_rfl
theorem aw22_l : stLeft aw22x7 0 = 24 := by kernel_rfl
theorem aw22_r : withinE aw22x10 3 0 6 = 0 := by kernel_rfl
theorem aw22_rb : stReadB smallC22 aw22x10 3 0 6 = [104, 101, 108, 108, 111, 0] := by kernel_rfl
theorem aw22_l2 : stLeft aw22x11 0 = 0 := by kernel_rfl
theorem aw22_h : heldM aw22x11.rm.pl = 1 := by kernel_rfl
theorem aw22_o : rmOpen aw22x11.rm 0 = 0 := by kernel_rfl
theorem aw22_b : stBytes aw22x11 = 40 := by kernel_rfl
theorem aw22_s : stSize aw22x11 3 = 20 := by kernel_rfl
end Go.Proofs.YtnaoiegcobineaaGreatDoor
/-
  Layer 20: the layer answers; of a room that is nil nothing is told.
-/
namespace Go.Proofs.YtnaoiegcobineaaGreatDoor
open Go.RowKit
end Go.Proofs.YtnaoiegcobineaaGreatDoor
/-
  Layer 20: a room of any layout.
-/
namespace Go.Proofs.YtnaoiegcobineaaGreatDoor
open Go.RowKit
theorem rmOpen_new (c : Conf) (tot k : Int) : rmOpen (newRm c tot) k = 0 := by
  unfold rmOpen
  cases hg : rmGet (newRm c tot) k with
  | none => rfl
  | some x =>
    obtain ⟨n, rfl, _, hx⟩ := rmGet_some hg
    obtain ⟨_, rfl⟩ := newShs_get hx
    rfl
theorem rmFits_new {c : Conf} (h : mayB c = true) (tot : Int) : rmFits c (newRm c tot) 1 = 0 := by
  have hf := may_facts h
  have hm := hf.most
  have hn := hf.n
  have hp := hf.pages
  have h3 : classOk c.classes c.size = true := by
    unfold mayB at h
    simp only [Bool.and_eq_true, decide_eq_true_eq] at h
    exact h.1.1.1.1.1.2
  have hpick : pickM c.classes 1 ≠ -1 := by
    unfold pickM
    rw [if_neg (by omega)]
    have hg := classOk_get h3 0 (by omega)
    have : 0 ≤ idx (fun s => decide ((1 : Int) ≤ s)) c.classes := by
      rw [idx_nonneg, List.any_eq_true]
      refine ⟨c.classes[0], List.getElem_mem (by omega), ?_⟩
      rw [getD_at (show 0 < c.classes.length by omega)] at hg
      exact decide_eq_true (by omega)
    omega
  have hfree : (newRm c tot).pl.free.length = c.pages.toNat := by show (List.range c.pages.toNat).length = _; simp
  unfold rmFits rmNeed
  rw [if_neg (by omega), if_neg hpick, rmOpen_new, hfree, if_neg (by omega)]
end Go.Proofs.YtnaoiegcobineaaGreatDoor
/-
  Layer 22: the layer answers; of a store that is nil nothing is told; a new store.
-/
namespace Go.Proofs.YtnaoiegcobineaaGreatDoor
open Go.RowKit
theorem Rd.of22 {k : IntKind} {w : World} {b : Nat} {c : Array Value} {t : TypeId} {fz : Nat × Nat} {zs : List Int} (h : w.heap[b]? = some (.cells c t fz)) (hc : c = (zs.map (Value.int k)).toArray) : Rd k w (some ⟨b, 0, none⟩) zs := fun i hi =>
  ⟨b, 0, rfl, by rw [cell_of h, hc]; simp [hi]⟩
theorem law22_small (w : World) : Does Tryz.prog 43 #[] w (fun v w' => ∃ p, v = .agg (confL smallC22 p).toArray ∧ ConfOk w' smallC22 p ∧ Chg None' w w') := by
  refine Does.enter Tryz.func43 rfl Tryz.ntmps43 rfl rfl ?_
  refine Goes.adv hTT 400 rfl ?_
  refine Goes.alloc hTT rfl ?_
  intro b w1 e1 hb hw1 hz1
  refine Goes.adv hTT 400 rfl ?_
  refine Goes.buildSlice hTT rfl ?_
  intro b2 w2 e2 hb2 hw2 hz2
  refine Goes.adv hTT 400 rfl ?_
  refine Goes.buildSlice hTT rfl ?_
  intro b3 w3 e3 hb3 hw3 hz3
  refine Goes.adv hTT 400 rfl ?_
  refine Goes.build hTT rfl rfl ?_
  refine Goes.store hTT rfl (hw3.heap' (hw2.heap' hb)) rfl rfl ?_
  intro w4 hb4 hw4 hz4
  refine Goes.adv hTT 400 rfl ?_
  have hc : ConfOk w4 smallC22 ⟨some ⟨b2, 0, none⟩, 1, some ⟨b3, 0, none⟩, 1⟩ :=
    ⟨Rd.of22 (hw4.heap (hw3.heap' hb2) (by omega)) rfl, Rd.of22 (hw4.heap hb3 (by omega)) rfl, by decide, by decide, by unfold In64; decide⟩
  exact Goes.ret hTT rfl Tryz.func43 (ResOk.cell rfl rfl rfl hb4 rfl .nil) ⟨⟨some ⟨b2, 0, none⟩, 1, some ⟨b3, 0, none⟩, 1⟩, rfl, hc, ((hw1.trans hw2).trans hw3).since hw4 (fun k hk hk' => by omega)⟩
def awA (k : Nat) : StM := if k = 0 then aw22x0 else if k = 1 then aw22x1 else if k = 2 then aw22x2 else if k = 3 then aw22x3 else aw22x4
theorem awA_next {k : Nat} (h : k < 4) : stAllocE smallC22 (awA k) (k : Nat) 20 = 0 ∧ stAlloc smallC22 (awA k) (k : Nat) 20 = awA (k + 1) := by
  obtain rfl | rfl | rfl | rfl : k = 0 ∨ k = 1 ∨ k = 2 ∨ k = 3 := by omega
  · exact ⟨aw22_a0, rfl⟩
  · exact ⟨aw22_a1, rfl⟩
  · exact ⟨aw22_a2, rfl⟩
  · exact ⟨aw22_a3, rfl⟩
def awT (k : Nat) : StM := if k = 0 then aw22x7 else if k = 1 then aw22x8 else if k = 2 then aw22x9 else aw22x10
theorem awT_next {k : Nat} (h : k < 3) : stTick smallC22 (awT k) = awT (k + 1) := by
  obtain rfl | rfl | rfl : k = 0 ∨ k = 1 ∨ k = 2 := by omega
  · rfl
  · rfl
  · rfl
set_option maxRecDepth 100000 in
theorem law22_awake (w : World) (ht : TabAt w) : Does Tryz.prog 10 #[] w (Grow (.bool true) w) := by
  refine Does.enter Tryz.func10 rfl Tryz.ntmps10 rfl rfl ?_
  refine Goes.adv hTT 400 rfl ?_
  refine Goes.call rfl (law22_small w) ?_
  rintro _ w1 ⟨p, rfl, hc1, hw1⟩
  refine Goes.adv hTT 400 rfl ?_
  refine Goes.call rfl (lv_New smallC22 p w1 hc1 (ht.grow hw1) aw22_may) ?_
  rintro _ w2 ⟨F, S, rfl, h2, hlap, hw2⟩
  refine Goes.adv hTT 400 rfl ?_
  obtain ⟨n0, hn0⟩ : ∃ n0, n0 = w2.heap.size := ⟨_, rfl⟩
  rw [← hn0] at h2
  refine Goes.loop (α := Nat) (fun k => [(1, false, stoV S), (2, false, .int .i64 0), (3, false, .int .i64 k)])
    (fun k w' => k ≤ 4 ∧ ∃ F, Lv smallC22 n0 w1 w' F S (awA k)) (fun k => 4 - k) 0 ⟨rfl, rfl, rfl, trivial⟩ ⟨Nat.zero_le _, F, h2⟩ ?_
  rintro k w3 ⟨hk, F3, h3⟩ ih
  refine Goes.adv hTT 400 rfl ?_
  refine Goes.fork hTT rfl rfl rfl (fun g1 => ?_) (fun g1 => ?_)
  · have g1 := of_decide_eq_true g1
    have hk4 : k < 4 := by omega
    obtain ⟨a1, a2⟩ := awA_next hk4
    refine Goes.call rfl (lv_Alloc h3 (k : Nat) 20) ?_
    rintro _ w4 ⟨rfl, F4, h4, _, _⟩
    refine Goes.adv hTT 400 rfl ?_
    rw [a1]
    rw [a2] at h4
    refine Goes.no hTT rfl rfl rfl ?_
    refine Goes.arith hTT rfl (w64 (by omega)) rfl ?_
    exact ih (k + 1) _ _ ⟨by omega, F4, h4⟩ (by omega) ⟨rfl, rfl, rfl, trivial⟩
  · have g1 := of_decide_eq_false g1
    obtain rfl : k = 4 := by omega
    refine Goes.buildSlice hTT rfl ?_
    intro hb w4 e4 hhb hw4 hz4
    refine Goes.adv hTT 400 rfl ?_
    refine Goes.mark hTT rfl hhb ?_
    intro w5 fz5 hhb5 hs5 hz5
    refine Goes.adv hTT 400 rfl ?_
    rw [show awA 4 = aw22x4 from rfl] at h3
    have hw35 : Chg None' w3 w5 := hw4.since hs5 (fun z hz e => by omega)
    have h5 := h3.grow hw35
    have hbF : ¬ F3 hb := fun hz => by have := h3.low _ hz; omega
    have hT6 := lv_Write h5 3 0 (some ⟨hb, 0, none⟩) 5 hello22 (by decide) (Rd.of22 hhb5 rfl) (by decide) (by decide) (by unfold InB; decide) (fun _ b off s e hz => by cases e; exact hbF hz)
    rw [show withinE aw22x4 3 0 (hello22.length : Nat) = 0 from aw22_w] at hT6
    refine Goes.call rfl (hT6) ?_
    rintro _ w6 ⟨rfl, F6, h6, _, _⟩
    refine Goes.adv hTT 400 rfl ?_
    replace h6 : Lv smallC22 n0 w1 w6 F6 S aw22x5 := h6
    have hT7 := lv_Free h6 0
    rw [aw22_f] at hT7
    refine Goes.call rfl (hT7) ?_
    rintro _ w7 ⟨rfl, F7, h7, _, _⟩
    refine Goes.adv hTT 400 rfl ?_
    replace h7 : Lv smallC22 n0 w1 w7 F7 S aw22x6 := h7
    refine Goes.call rfl (lv_Steps h7) ?_
    rintro _ w8 ⟨rfl, h8, _⟩
    refine Goes.adv hTT 400 rfl ?_
    obtain ⟨S1, eS1⟩ : ∃ S1, S1 = S.relap aw22x6.rm.tot := ⟨_, rfl⟩
    rw [← eS1] at h8
    rw [show stoV S = stoV S1 by rw [eS1]; rfl]
    have hT9 := lv_Free h8 2
    rw [aw22_f2] at hT9
    refine Goes.call rfl (hT9) ?_
    rintro _ w9 ⟨rfl, F9, h9, _, _⟩
    refine Goes.adv hTT 400 rfl ?_
    replace h9 : Lv smallC22 n0 w1 w9 F9 S1 aw22x7 := h9
    refine Goes.call rfl (lv_Steps h9) ?_
    rintro _ w10 ⟨e10, h10, _⟩
    refine Goes.adv hTT 400 rfl ?_
    rw [show S1.R.lap = aw22x6.rm.tot by rw [eS1]; rfl, aw22_t] at e10
    subst e10
    have hT11 := lv_Left h10 0
    rw [aw22_l] at hT11
    refine Goes.call rfl (hT11) ?_
    rintro _ w11 ⟨rfl, hw11⟩
    refine Goes.adv hTT 400 rfl ?_
    have h11 := h10.grow hw11
    obtain ⟨S2, eS2⟩ : ∃ S2, S2 = S1.relap aw22x7.rm.tot := ⟨_, rfl⟩
    rw [← eS2] at h11
    rw [show stoV S1 = stoV S2 by rw [eS2]; rfl]
    refine Goes.loop (α := Nat) (fun k => [(1, false, stoV S2), (2, false, .int .i64 0), (4, false, .int .i64 0), (5, false, .int .i64 0), (6, false, .int .i64 0), (7, false, .int .i64 14), (8, false, .int .i64 24), (9, false, .int .i64 k)])
      (fun k w' => k ≤ 3 ∧ ∃ F, Lv smallC22 n0 w1 w' F S2 (awT k)) (fun k => 3 - k) 0 ⟨rfl, rfl, rfl, rfl, rfl, rfl, rfl, rfl, trivial⟩ ⟨Nat.zero_le _, F9, h11⟩ ?_
    rintro k w12 ⟨hk2, F12, h12⟩ ih2
    refine Goes.adv hTT 400 rfl ?_
    refine Goes.fork hTT rfl rfl rfl (fun g2 => ?_) (fun g2 => ?_)
    · have g2 := of_decide_eq_true g2
      have hk3 : k < 3 := by omega
      refine Goes.call rfl (lv_Tick h12) ?_
      rintro _ w13 ⟨rfl, F13, h13, _, _⟩
      refine Goes.adv hTT 400 rfl ?_
      rw [awT_next hk3] at h13
      refine Goes.arith hTT rfl (w64 (by omega)) rfl ?_
      exact ih2 (k + 1) _ _ ⟨by omega, F13, h13⟩ (by omega) ⟨rfl, rfl, rfl, rfl, rfl, rfl, rfl, rfl, trivial⟩
    · have g2 := of_decide_eq_false g2
      obtain rfl : k = 3 := by omega
      rw [show awT 3 = aw22x10 from rfl] at h12
      have hT13 := lv_Read h12 3 0 6 (by decide) (by decide)
      rw [aw22_r, aw22_rb] at hT13
      refine Goes.call rfl (hT13) ?_
      rintro _ w13 ⟨a13, cap13, rfl, hr13, _, F13, h13, _, _⟩
      refine Goes.adv hTT 400 rfl ?_
      replace h13 : Lv smallC22 n0 w1 w13 F13 S2 aw22x11 := h13
      have hT14 := lv_Left h13 0
      rw [aw22_l2] at hT14
      refine Goes.yes hTT rfl rfl rfl ?_
      refine Goes.yes hTT rfl rfl rfl ?_
      refine Goes.yes hTT rfl rfl rfl ?_
      refine Goes.yes hTT rfl rfl rfl ?_
      refine Goes.yes hTT rfl rfl rfl ?_
      refine Goes.yes hTT rfl rfl rfl ?_
      refine Goes.call rfl (hT14) ?_
      rintro _ w14 ⟨rfl, hw14⟩
      refine Goes.adv hTT 400 rfl ?_
      refine Goes.yes hTT rfl rfl rfl ?_
      have h14 := h13.grow hw14
      have hT15 := lv_Held h14
      rw [aw22_h] at hT15
      refine Goes.call rfl (hT15) ?_
      rintro _ w15 ⟨rfl, hw15⟩
      refine Goes.adv hTT 400 rfl ?_
      refine Goes.yes hTT rfl rfl rfl ?_
      have h15 := h14.grow hw15
      have hT16 := lv_Open h15 0
      rw [aw22_o] at hT16
      refine Goes.call rfl (hT16) ?_
      rintro _ w16 ⟨rfl, hw16⟩
      refine Goes.adv hTT 400 rfl ?_
      refine Goes.yes hTT rfl rfl rfl ?_
      refine Goes.yes hTT rfl rfl rfl ?_
      have h16 := h15.grow hw16
      refine Goes.bstrN hTT ([104, 101, 108, 108, 111, 0]) rfl rfl ((((hr13.chg hw14).chg hw15).chg hw16)) rfl ?_
      refine Goes.streq hTT rfl (rfl) rfl ?_
      refine Goes.yes hTT rfl rfl rfl ?_
      have hT17 := lv_Bytes h16
      rw [aw22_b] at hT17
      refine Goes.call rfl (hT17) ?_
      rintro _ w17 ⟨rfl, hw17⟩
      refine Goes.adv hTT 400 rfl ?_
      refine Goes.yes hTT rfl rfl rfl ?_
      have h17 := h16.grow hw17
      have hT18 := lv_Size h17 3
      rw [aw22_s] at hT18
      refine Goes.call rfl (hT18) ?_
      rintro _ w18 ⟨rfl, hw18⟩
      refine Goes.adv hTT 400 rfl ?_
      exact Goes.ret1 hTT rfl Tryz.func10 rfl rfl ⟨rfl, (hw1.trans h17.chg).trans hw18⟩
set_option maxRecDepth 100000 in
theorem law_StoreNew (c : Conf) (p : ConfAt) (w : World) (ht : TabAt w) (hc : ConfOk w c p) : Does Tryz.prog 3 #[.agg (confL c p).toArray] w (Grow (.bool true) w) := by
  refine Does.enter Tryz.func3 rfl Tryz.ntmps3 rfl rfl ?_
  refine Goes.adv hTT 400 rfl ?_
  refine Goes.alloc hTT rfl ?_
  intro b w1 e1 hb hw1 hz1
  refine Goes.adv hTT 400 rfl ?_
  replace hb : w1.heap[b]? = some (.cells (confL c p).toArray 24 (0, 0)) := hb
  refine Goes.call rfl (law22_awake w1 (ht.grow hw1)) ?_
  rintro _ w2 ⟨rfl, hw2⟩
  refine Goes.adv hTT 400 rfl ?_
  have hb2 := hw2.heap' hb
  have hw02 := hw1.trans hw2
  refine Goes.loadb hTT rfl hb2 rfl rfl ?_
  refine Goes.fork hTT rfl rfl rfl (fun g1 => ?_) (fun g1 => ?_)
  · exact Goes.ret1 hTT rfl Tryz.func3 rfl rfl ⟨rfl, hw02⟩
  refine Goes.loadb hTT rfl hb2 rfl rfl ?_
  refine Goes.fork hTT rfl rfl rfl (fun g2 => ?_) (fun g2 => ?_)
  · exact Goes.ret1 hTT rfl Tryz.func3 rfl rfl ⟨rfl, hw02⟩
  refine Goes.loads hTT rfl hb2 rfl rfl ?_
  cases hm : mayB c with
  | false =>
    refine Goes.call rfl (store_New_no c p w2 (hc.chg hw02) hm) ?_
    rintro _ w3 ⟨rfl, hw3⟩
    refine Goes.adv hTT 400 rfl ?_
    have hb3 := hw3.heap' hb2
    refine Goes.loads hTT rfl hb3 rfl rfl ?_
    refine Goes.call rfl (ref03_May c p w3 (hc.chg (hw02.trans hw3))) ?_
    rintro _ w4 ⟨rfl, hw4⟩
    refine Goes.adv hTT 400 rfl ?_
    rw [show mayM c = 1 by unfold mayM; rw [hm]; rfl]
    refine Goes.yes hTT rfl rfl rfl ?_
    refine Goes.yes hTT rfl rfl rfl ?_
    refine Goes.yes hTT rfl rfl rfl ?_
    exact Goes.ret1 hTT rfl Tryz.func3 rfl rfl ⟨rfl, (hw02.trans hw3).trans hw4⟩
  | true =>
    refine Goes.call rfl (lv_New c p w2 (hc.chg hw02) (ht.grow hw02) hm) ?_
    rintro _ w3 ⟨F, S, rfl, h3, hlap, hw3⟩
    refine Goes.adv hTT 400 rfl ?_
    have hb3 := hw3.heap' hb2
    refine Goes.loads hTT rfl hb3 rfl rfl ?_
    refine Goes.call rfl (ref03_May c p w3 (hc.chg (hw02.trans hw3))) ?_
    rintro _ w4 ⟨rfl, hw4⟩
    refine Goes.adv hTT 400 rfl ?_
    rw [show mayM c = 0 by unfold mayM; rw [hm]; rfl]
    have h4 := h3.grow hw4
    refine Goes.no hTT rfl rfl rfl ?_
    refine Goes.yes hTT rfl rfl rfl ?_
    refine Goes.yes hTT rfl rfl rfl ?_
    have hT5 := lv_Held h4
    rw [show heldM (newSt c).rm.pl = 0 from pgUsed_new _] at hT5
    refine Goes.call rfl (hT5) ?_
    rintro _ w5 ⟨rfl, hw5⟩
    refine Goes.adv hTT 400 rfl ?_
    refine Goes.yes hTT rfl rfl rfl ?_
    have h5 := h4.grow hw5
    have hT6 := lv_Bytes h5
    rw [newSt_bytes] at hT6
    refine Goes.call rfl (hT6) ?_
    rintro _ w6 ⟨rfl, hw6⟩
    refine Goes.adv hTT 400 rfl ?_
    refine Goes.yes hTT rfl rfl rfl ?_
    have h6 := h5.grow hw6
    refine Goes.call rfl (lv_Steps h6) ?_
    rintro _ w7 ⟨e7, h7, hc7⟩
    refine Goes.adv hTT 400 rfl ?_
    rw [hlap] at e7
    replace e7 : _ = Value.int .i64 0 := e7
    subst e7
    refine Goes.yes hTT rfl rfl rfl ?_
    have hT8 := lv_Fits h7 1
    have hmo := (may_facts hm).most
    have hF8 : stFits c (newSt c) 1 = 0 := by
      unfold stFits
      rw [if_neg (by omega), show rmFits c (newSt c).rm 1 = 0 from rmFits_new hm 0]
      split <;> rfl
    rw [hF8] at hT8
    obtain ⟨S1, eS1⟩ : ∃ S1, S1 = S.relap (newSt c).rm.tot := ⟨_, rfl⟩
    rw [← eS1] at hT8
    rw [show stoV S = stoV S1 by rw [eS1]; rfl]
    refine Goes.call rfl (hT8) ?_
    rintro _ w8 ⟨rfl, hw8⟩
    refine Goes.adv hTT 400 rfl ?_
    exact Goes.ret1 hTT rfl Tryz.func3 rfl rfl ⟨rfl, (hw02.trans h7.chg).trans hw8⟩
end Go.Proofs.YtnaoiegcobineaaGreatDoor
