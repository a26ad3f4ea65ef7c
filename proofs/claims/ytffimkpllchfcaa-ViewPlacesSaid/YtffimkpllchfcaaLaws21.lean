/-
  Layer 21: the statements' own small functions.
-/
import Derived.Test.YtffimkpllchfcaaView8
namespace Go.Proofs.Ytffimkpllchfcaa
open Go.RowKit

def smallV : Conf := ⟨64, 4, [32], [2], 8, 4, 3, 512⟩
theorem law21_small (w : World) : Does Try.prog 29 #[] w (fun v w' => ∃ p, v = .agg (confL smallV p).toArray ∧ ConfOk w' smallV p ∧ (∀ b off s, p.ca = some ⟨b, off, s⟩ → w.heap.size ≤ b) ∧ (∀ b off s, p.ka = some ⟨b, off, s⟩ → w.heap.size ≤ b) ∧ Chg None' w w') := by
  refine Does.enter Try.func29 rfl Try.ntmps29 rfl rfl ?_
  refine Goes.adv hTT 400 rfl ?_
  refine Goes.alloc hTT rfl ?_
  intro b w1 e1 hb hw1 hz1
  refine Goes.adv hTT 400 rfl ?_
  refine Goes.buildSlice hTT rfl ?_
  intro b2 w2 e2 hb2 hw2 hz2
  refine Goes.adv hTT 400 rfl ?_
  refine Goes.buildSlice hTT rfl ?_
  intro b3 w3 e3 hb3 hw3 hz3
  refine Goes.adv hTT 400 rfl ?_
  refine Goes.build hTT rfl rfl ?_
  refine Goes.store hTT rfl (hw3.heap' (hw2.heap' hb)) rfl rfl ?_
  intro w4 hb4 hw4 hz4
  refine Goes.adv hTT 400 rfl ?_
  have hc : ConfOk w4 smallV ⟨some ⟨b2, 0, none⟩, 1, some ⟨b3, 0, none⟩, 1⟩ :=
    ⟨Rd.of (hw4.heap (hw3.heap' hb2) (by omega)) rfl, Rd.of (hw4.heap hb3 (by omega)) rfl, by decide, by decide, by unfold In64; decide⟩
  exact Goes.ret hTT rfl Try.func29 (ResOk.cell rfl rfl rfl hb4 rfl .nil) ⟨⟨some ⟨b2, 0, none⟩, 1, some ⟨b3, 0, none⟩, 1⟩, rfl, hc, fun b off s e => by cases e; omega, fun b off s e => by cases e; omega, ((hw1.trans hw2).trans hw3).since hw4 (fun k hk hk' => by omega)⟩
theorem outNil {S : Nat → Prop} : OutA S none := fun _ _ _ e => by cases e
theorem outAt {S : Nat → Prop} {g off m : Nat} {s : Option Nat} (hg : m ≤ g) (hS : ∀ b, S b → b < m) : OutA S (some ⟨g, off, s⟩) := fun b off' s' e hb => by cases e; have := hS _ hb; omega
set_option maxRecDepth 100000 in
theorem law21_awake (w : World) : Does Try.prog 8 #[] w (Grow (.bool true) w) := by
  refine Does.enter Try.func8 rfl Try.ntmps8 rfl rfl ?_
  refine Goes.adv hTT 400 rfl ?_
  refine Goes.call rfl (meter_New w) ?_
  rintro _ w1 ⟨rfl, hm1, hw1, hz1⟩
  refine Goes.adv hTT 400 rfl ?_
  refine Goes.call rfl (arena_New (some w.heap.size) 0 0 4 64 w1 (fun b hb => by cases hb; exact hm1) (by decide)) ?_
  rintro _ w2 ⟨A, rfl, hmb, ha1, ha2, ha3, hA2, hw2⟩
  refine Goes.adv hTT 400 rfl ?_
  have hF := foot_lt hA2
  have hF0 : ∀ z, z < w.heap.size → foot A z → False := fun z hz h => by
    rcases h with h | h
    · omega
    · rw [hmb] at h; cases h; omega
  refine Goes.call rfl (law21_small w2) ?_
  rintro _ w3 ⟨p, rfl, hc3, hpa, hpk, hw3⟩
  refine Goes.adv hTT 400 rfl ?_
  have hz256 : (zeros (4 * 64 : Int).toNat).length = 256 := List.length_replicate
  have hcond : mayB smallV = true ∧ (((⟨zeros (4 * 64 : Int).toNat, 0, 0⟩ : ArV).bs.length : Nat) : Int) = smallV.size * smallV.pages := ⟨by decide, by show (((zeros (4 * 64 : Int).toNat).length : Nat) : Int) = 256; rw [hz256]; rfl⟩
  have hVN : Does Try.prog 11 #[.agg (confL smallV p).toArray, .pointer (some ⟨A.ab, 0, none⟩), ptr A.mb] w3 (fun u w' => Chg None' w3 w' ∧ ∃ vb, u = .tuple #[.pointer (some ⟨vb, 0, none⟩), .int .i64 0] ∧ w3.heap.size ≤ vb ∧ VwOk w' ⟨vb, smallV, p, A.ab, A.mb⟩) :=
    (view_New smallV p A _ w3 hc3 (hA2.grow hw3)).mono fun u w' h => ⟨h.1, by have h2 := h.2; rw [if_pos hcond] at h2; exact h2⟩
  rw [hmb] at hVN
  refine Goes.call rfl (hVN) ?_
  rintro _ w4 ⟨hw4, vb, rfl, hvb, hv4⟩
  refine Goes.adv hTT 400 rfl ?_
  rw [← hmb] at hv4
  have hs23 := hw3.size
  have hs34 := hw4.size
  refine Goes.build hTT rfl rfl ?_
  refine Goes.alloc hTT rfl ?_
  intro b6 w5 e5 hb6 hw5 hz5
  refine Goes.adv hTT 400 rfl ?_
  refine Goes.store hTT rfl hb6 rfl rfl ?_
  intro w6 hb6' hs6 hz6
  refine Goes.adv hTT 400 rfl ?_
  refine Goes.buildSlice hTT rfl ?_
  intro b7s w7 e7 hb7s hw7 hz7
  refine Goes.adv hTT 400 rfl ?_
  refine Goes.build hTT rfl rfl ?_
  refine Goes.alloc hTT rfl ?_
  intro b7 w8 e8 hb7 hw8 hz8
  refine Goes.adv hTT 400 rfl ?_
  refine Goes.store hTT rfl hb7 rfl rfl ?_
  intro w9 hb7' hs9 hz9
  refine Goes.adv hTT 400 rfl ?_
  obtain ⟨q6, hq6⟩ : ∃ q6 : Plc, q6 = ⟨0, 2, 1, none, 0, []⟩ := ⟨_, rfl⟩
  obtain ⟨q7, hq7⟩ : ∃ q7 : Plc, q7 = ⟨-1, 0, 0, some ⟨b7s, 0, none⟩, 2, [3, 0]⟩ := ⟨_, rfl⟩
  have hp6 : plcBox w9 b6 q6 := by subst hq6; exact hs9.heap (hw8.heap' (hw7.heap' hb6')) (by omega)
  have hp7 : plcBox w9 b7 q7 := by subst hq7; exact hb7'
  have hq6ok : ∀ x, PlcOk x q6 := fun x => by subst hq6; exact ⟨Rd.nil _ _ _, by decide⟩
  have hq7ok : PlcOk w9 q7 := by subst hq7; exact ⟨Rd.of (hs9.heap (hw8.heap' hb7s) (by omega)) rfl, by simp⟩
  have hw49 : Chg None' w4 w9 := ((((hw5.since hs6 (fun z hz e => by omega)).trans hw7).trans hw8).since hs9 (fun z hz e => by have := hs6.size; omega))
  have hw29 := (hw3.trans hw4).trans hw49
  have hA9 := hA2.grow hw29
  have hv9 := hv4.grow hw49
  have hc09 := (hw1.trans hw2).trans hw29
  obtain ⟨v, hvv⟩ : ∃ v : Vw, v = ⟨vb, smallV, p, A.ab, A.mb⟩ := ⟨_, rfl⟩
  rw [← hvv] at hv9
  have hvc : v.c = smallV := by rw [hvv]
  have hvvb : vwV v = .pointer (some ⟨vb, 0, none⟩) := by rw [hvv]
  have hPv : ¬ foot A v.vb := fun h => by have := hF _ h; rw [hvv] at this; simp only at this; omega
  have hPc : 0 < v.c.classes.length → OutA (foot A) v.p.ca := fun _ b off s e h => by have := hF _ h; rw [hvv] at e; have := hpa b off s e; omega
  have hPk : 0 < v.c.keep.length → OutA (foot A) v.p.ka := fun _ b off s e h => by have := hF _ h; rw [hvv] at e; have := hpk b off s e; omega
  have hP6 : 0 < q6.pages.length → OutA (foot A) q6.pa := fun _ => by rw [hq6]; exact outNil
  have hP7 : 0 < q7.pages.length → OutA (foot A) q7.pa := fun _ => by rw [hq7]; exact outAt (m := w2.heap.size) (by have := hs6.size; omega) hF
  have hmf : ∀ z, mFoot A z → foot A z := fun z h => .inr h
  have hmb6 : v.mb = A.mb := by rw [hvv]
  have hab6 : v.ab = A.ab := by rw [hvv]
  rw [← hvvb]
  have hmono : ∀ {x y : World}, Chg (foot A) x y → VwOk x v → VwOk y v := fun hc h => h.far hPv hPc hPk hc
  have hfb : ∀ z, w2.heap.size ≤ z → ¬ foot A z := fun z hz h => by have := hF _ h; omega
  have hb6s : w2.heap.size ≤ b6 := by omega
  have hb7s' : w2.heap.size ≤ b7 := by have := hs6.size; omega
  have hz9 : w2.heap.size ≤ w9.heap.size := hw29.size
  -- the first write
  refine Goes.loads hTT rfl hp6 rfl rfl ?_
  refine Goes.buildSlice hTT rfl ?_
  intro c1 w10 ec1 hc1 hw10 hz10
  refine Goes.adv hTT 400 rfl ?_
  refine Goes.mark hTT rfl hc1 ?_
  intro w11 fz11 hc11 hs11 hz11
  refine Goes.adv hTT 400 rfl ?_
  have hw911 : Chg None' w9 w11 := hw10.since hs11 (fun z hz e => by omega)
  have hl256 : ((⟨zeros (4 * 64 : Int).toNat, 0, 0⟩ : ArV).bs.length : Int) = v.c.size * v.c.pages := by rw [hvc]; exact hcond.2
  have hck1 : checkM v.c q6 ((30 : Nat) : Int) (([97, 98] : List Int).length : Nat) = 0 := by rw [hvc, hq6]; decide
  refine Goes.call rfl (view_Write v q6 30 (some ⟨c1, 0, none⟩) 2 [97, 98] A _ w11 (hv9.grow hw911) (hq6ok _) hmb6 hab6 hck1 (by rw [hq6]; decide) hPv hP6 hPc hPk (hA9.grow hw911) hl256 (Rd.of hc11 rfl) (by decide) (by unfold InB; decide) (fun _ => outAt (m := w2.heap.size) (by omega) hF)) ?_
  rintro _ w12 ⟨rfl, hA12, hs12⟩
  refine Goes.adv hTT 400 rfl ?_
  obtain ⟨V1, hV1⟩ : ∃ V1, V1 = vsW q6 A ⟨zeros (4 * 64 : Int).toNat, 0, 0⟩ (partsM v.c q6 ((30 : Nat)) ([97, 98] : List Int).length) [97, 98] (partsM v.c q6 ((30 : Nat)) ([97, 98] : List Int).length).length := ⟨_, rfl⟩
  rw [← hV1] at hA12
  have hs912 : Chg (foot A) w9 w12 := (hw911.mono fun _ _ h => h.elim).trans hs12
  have hv12 := hmono hs912 hv9
  have hp6b : plcBox w12 b6 q6 := hs912.heap hp6 (hfb _ hb6s)
  have hp7b : plcBox w12 b7 q7 := hs912.heap hp7 (hfb _ hb7s')
  have hq7b := hq7ok.far hP7 hs912
  have hz12 : w2.heap.size ≤ w12.heap.size := Nat.le_trans hz9 hs912.size
  -- the second write
  refine Goes.loads hTT rfl hp7b rfl rfl ?_
  refine Goes.buildSlice hTT rfl ?_
  intro c2 w13 ec2 hc2 hw13 hz13
  refine Goes.adv hTT 400 rfl ?_
  refine Goes.mark hTT rfl hc2 ?_
  intro w14 fz14 hc14 hs14 hz14
  refine Goes.adv hTT 400 rfl ?_
  have hw1214 : Chg None' w12 w14 := hw13.since hs14 (fun z hz e => by omega)
  have hl1 : (V1.bs.length : Int) = v.c.size * v.c.pages := by
    rw [hV1, vsW_len (fun p hp => ?_) (parts_total (by rw [hvc]; decide)) (Nat.le_refl _)]
    · exact hl256
    · obtain ⟨i, m, h1, h2⟩ := parts_in (by rw [hvc]; decide) hck1 (by rw [hq6]; decide) p hp
      exact ⟨i, m, h1, by omega⟩
  have hck2 : checkM v.c q7 ((63 : Nat) : Int) (([99, 100] : List Int).length : Nat) = 0 := by rw [hvc, hq7]; rfl
  have hfew7 : q7.pages.length ≤ 4096 := by rw [hq7]; simp
  refine Goes.call rfl (view_Write v q7 63 (some ⟨c2, 0, none⟩) 2 [99, 100] A V1 w14 (hv12.grow hw1214) (hq7b.grow hw1214) hmb6 hab6 hck2 hfew7 hPv hP7 hPc hPk (hA12.grow hw1214) hl1 (Rd.of hc14 rfl) (by decide) (by unfold InB; decide) (fun _ => outAt (m := w2.heap.size) (by omega) hF)) ?_
  rintro _ w15 ⟨rfl, hA15, hs15⟩
  refine Goes.adv hTT 400 rfl ?_
  obtain ⟨V2, hV2⟩ : ∃ V2, V2 = vsW q7 A V1 (partsM v.c q7 ((63 : Nat)) ([99, 100] : List Int).length) [99, 100] (partsM v.c q7 ((63 : Nat)) ([99, 100] : List Int).length).length := ⟨_, rfl⟩
  rw [← hV2] at hA15
  have hs1215 : Chg (foot A) w12 w15 := (hw1214.mono fun _ _ h => h.elim).trans hs15
  have hv15 := hmono hs1215 hv12
  have hp6c : plcBox w15 b6 q6 := hs1215.heap hp6b (hfb _ hb6s)
  have hp7c : plcBox w15 b7 q7 := hs1215.heap hp7b (hfb _ hb7s')
  have hq7c := hq7b.far hP7 hs1215
  have hl2 : (V2.bs.length : Int) = v.c.size * v.c.pages := by
    rw [hV2, vsW_len (fun p hp => ?_) (parts_total (by rw [hvc]; decide)) (Nat.le_refl _)]
    · exact hl1
    · obtain ⟨i, m, h1, h2⟩ := parts_in (by rw [hvc]; decide) hck2 hfew7 p hp
      exact ⟨i, m, h1, by omega⟩
  -- the read
  refine Goes.loads hTT rfl hp7c rfl rfl ?_
  refine Goes.call rfl (view_Read v q7 63 2 A V2 w15 hv15 hq7c hmb6 hab6 hck2 hfew7 (fun h => hPv (hmf _ h)) (fun h => (hP7 h).mono hmf) (fun h => (hPc h).mono hmf) (fun h => (hPk h).mono hmf) hA15 hl2) ?_
  rintro _ w16 ⟨u1, rfl, hA16, hs16, ho16⟩
  refine Goes.adv hTT 400 rfl ?_
  obtain ⟨V3, hV3⟩ : ∃ V3, V3 = vsT q7 A V2 (partsM v.c q7 ((63 : Nat)) 2) (partsM v.c q7 ((63 : Nat)) 2).length := ⟨_, rfl⟩
  rw [← hV3] at hA16
  have hrm : readM V2.bs (partsM v.c q7 ((63 : Nat)) 2) = [99, 100] := by rw [hV2, hV1, hvc, hq6, hq7]; rfl
  rw [hrm] at ho16
  have hs1516 : Chg (foot A) w15 w16 := hs16.mono fun z _ h => hmf z h
  have hv16 := hmono hs1516 hv15
  have hp6d : plcBox w16 b6 q6 := hs1516.heap hp6c (hfb _ hb6s)
  have hp7d : plcBox w16 b7 q7 := hs1516.heap hp7c (hfb _ hb7s')
  have hq7d := hq7c.far hP7 hs1516
  obtain ⟨g, cap, cur, rfl, hg1, hg2, hg3, hg4, hg5⟩ := ho16.form (by decide)
  have hr16 : Rd .u8 w16 (some ⟨g, 0, none⟩) [99, 100] := Rd.of_take hg2 (by simpa using hg5)
  refine Goes.adv hTT 400 rfl ?_
  -- a write that is refused
  refine Goes.loads hTT rfl hp6d rfl rfl ?_
  refine Goes.buildSlice hTT rfl ?_
  intro c3 w17 ec3 hc3b hw17 hz17
  refine Goes.adv hTT 400 rfl ?_
  refine Goes.mark hTT rfl hc3b ?_
  intro w18 fz18 hc18 hs18 hz18
  refine Goes.adv hTT 400 rfl ?_
  have hw1618 : Chg None' w16 w18 := hw17.since hs18 (fun z hz e => by omega)
  have hck3 : checkM v.c q6 31 ((2 : Nat) : Int) = 8 := by rw [hvc, hq6]; decide
  refine Goes.call rfl (view_Write_no v q6 31 (some ⟨c3, 0, none⟩) 2 2 w18 (hv16.grow hw1618) (hq6ok _) (by rw [hq6]; decide) (by rw [hck3]; decide)) ?_
  rintro _ w19 ⟨rfl, hw19⟩
  refine Goes.adv hTT 400 rfl ?_
  rw [hck3]
  have hw1619 := hw1618.trans hw19
  have hat6 : viewAt v.c q6 = 160 := by rw [hvc, hq6]; decide
  have hho6 : viewHolds v.c q6 = 32 := by rw [hvc, hq6]; decide
  have hho7 : viewHolds v.c q7 = 128 := by rw [hvc, hq7]; rfl
  have hat7 : viewAt v.c q7 = -1 := by rw [hvc, hq7]; rfl
  refine Goes.yes hTT rfl rfl rfl ?_
  refine Goes.loads hTT rfl (hw1619.heap' hp6d) rfl rfl ?_
  refine Goes.call rfl (view_At v q6 w19 (hv16.grow hw1619) (hq6ok _)) ?_
  rintro _ w20 ⟨rfl, hw20⟩
  refine Goes.adv hTT 400 rfl ?_
  have hw1620 := hw1619.trans hw20
  rw [hat6]
  refine Goes.yes hTT rfl rfl rfl ?_
  refine Goes.loads hTT rfl (hw1620.heap' hp6d) rfl rfl ?_
  refine Goes.call rfl (view_Holds v q6 w20 (hv16.grow hw1620) (hq6ok _) (by rw [hq6]; decide)) ?_
  rintro _ w21 ⟨rfl, hw21⟩
  refine Goes.adv hTT 400 rfl ?_
  have hw1621 := hw1620.trans hw21
  rw [hho6]
  refine Goes.yes hTT rfl rfl rfl ?_
  refine Goes.loads hTT rfl (hw1621.heap' hp7d) rfl rfl ?_
  refine Goes.call rfl (view_Holds v q7 w21 (hv16.grow hw1621) (hq7d.grow hw1621) (by rw [hq7]; simp)) ?_
  rintro _ w22 ⟨rfl, hw22⟩
  refine Goes.adv hTT 400 rfl ?_
  have hw1622 := hw1621.trans hw22
  rw [hho7]
  refine Goes.yes hTT rfl rfl rfl ?_
  refine Goes.loads hTT rfl (hw1622.heap' hp7d) rfl rfl ?_
  refine Goes.call rfl (view_At v q7 w22 (hv16.grow hw1622) (hq7d.grow hw1622)) ?_
  rintro _ w23 ⟨rfl, hw23⟩
  refine Goes.adv hTT 400 rfl ?_
  have hw1623 := hw1622.trans hw23
  rw [hat7]
  refine Goes.yes hTT rfl rfl rfl ?_
  refine Goes.yes hTT rfl rfl rfl ?_
  refine Goes.yes hTT rfl rfl rfl ?_
  refine Goes.yes hTT rfl rfl rfl ?_
  refine Goes.bstrN hTT ([99, 100]) rfl rfl ((hr16.chg hw1623)) rfl ?_
  refine Goes.streq hTT rfl (rfl) rfl ?_
  refine Goes.yes hTT rfl rfl rfl ?_
  refine Goes.yes hTT rfl rfl rfl ?_
  have hm := (hA16.grow hw1623).met w.heap.size hmb
  have ht : V3.total = 10 := by
    rw [hV3, hV2, hV1, hvc, hq6, hq7]
    obtain ⟨ab, db, mc, mb⟩ := A
    simp only at hmb
    subst hmb
    rfl
  refine Goes.call rfl (meter_Total w.heap.size V3.total V3.lap w23 hm) ?_
  rintro _ _ ⟨rfl, rfl⟩
  refine Goes.adv hTT 400 rfl ?_
  rw [ht]
  exact Goes.ret1 hTT rfl Try.func8 rfl rfl ⟨rfl, ((hc09.since hs912 hF0).since hs1215 hF0).since (hs1516.trans (hw1623.mono fun _ _ h => h.elim)) hF0⟩
end Go.Proofs.Ytffimkpllchfcaa
