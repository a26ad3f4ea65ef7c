/-
  Layer 3: with one thing that may not be, a layout may not be.
-/
import Derived.Test.YteklfgglcbdpnaaLaws3
import Derived.Test.YteklfgglcbdpnaaRule6
namespace Go.Proofs.Yteklfgglcbdpnaa
open Go.RowKit

theorem Own.chg {base t size m : Nat} {S : Nat → Prop} {w w' : World} {v : Value} {xs : List Value} (h : Own base t size w v m xs) (hc : Chg S w w') (hs : ∀ b, some b = v.ownBlock → ¬ S b) : Own base t size w' v m xs := by
  refine ⟨h.1, ?_⟩
  rcases h.2 with h1 | ⟨g, cap, cur, rfl, h2, h3, h4⟩
  · exact .inl h1
  · exact .inr ⟨g, cap, cur, rfl, h2, hc.heap h3 (hs g rfl), h4⟩
theorem Own.form {base t size m : Nat} {w : World} {v : Value} {xs : List Value} (h : Own base t size w v m xs) (hm : 0 < m) : ∃ g cap cur, v = .slice (some ⟨g, 0, none⟩) m cap ∧ base ≤ g ∧ w.heap[g]? = some (.cells cur t (0, 0)) ∧ m ≤ cap ∧ cap ≤ maxLen ∧ cur.toList.take (m * size) = xs := by
  rcases h.2 with ⟨_, h1⟩ | ⟨g, cap, cur, h1, h2, h3, h4, h5, _, h6⟩
  · omega
  · exact ⟨g, cap, cur, h1, h2, h3, h4, h5, h6⟩
theorem Rd.cells {k : IntKind} {w : World} {a : Addr} {zs : List Int} (h : Rd k w (some a) zs) : ∀ i u, (zs.map (Value.int k))[i]? = some u → w.cell? (a.add i) = some u := by
  intro i u hu
  rw [List.getElem?_map, Option.map_eq_some_iff] at hu
  obtain ⟨z, hz, rfl⟩ := hu
  have hi : i < zs.length := (List.getElem?_eq_some_iff.1 hz).1
  obtain ⟨b, off, e, hc⟩ := h i hi
  cases e
  rw [add_off, hc]
  simp [hz]
theorem plain_ints {k : IntKind} {zs : List Int} : ∀ u ∈ zs.map (Value.int k), u.oneCell' = true := by
  intro u hu
  obtain ⟨z, _, rfl⟩ := List.mem_map.1 hu
  rfl
theorem Own.empty {base t size b : Nat} {w : World} (hb : base ≤ b) (h : w.heap[b]? = some (.cells #[] t (0, 0))) : Own base t size w (.slice (some ⟨b, 0, none⟩) 0 0) 0 [] :=
  ⟨by simp, .inr ⟨b, 0, #[], rfl, hb, h, Nat.le_refl _, by decide, by simp, by simp⟩⟩
theorem cells1 {w : World} {b : Nat} {u : Value} {t : TypeId} {fz : Nat × Nat} (h : w.heap[b]? = some (.cells #[u] t fz)) : ∀ i x, [u][i]? = some x → w.cell? ((⟨b, 0, none⟩ : Addr).add i) = some x := by
  intro i x hx
  rw [add_off, cell_of h]
  simpa using hx
theorem mayB_no {c : Conf} (h : mayB c = true → False) : mayB c = false := by cases hh : mayB c; rfl; exact (h hh).elim

theorem Own.since {base t size m : Nat} {w0 w w' : World} {v : Value} {xs : List Value} (h : Own base t size w v m xs) (h0 : Chg None' w0 w) (hb : w0.heap.size ≤ base) (hc : Chg (ownS v) w w') : Chg None' w0 w' :=
  h0.since hc fun b hb' hs => by have := (World.ownsRow.lt h b hs.symm).1; omega
theorem Rd.of_take {k : IntKind} {w : World} {g t : Nat} {fz : Nat × Nat} {cur : Array Value} {zs : List Int} (h : w.heap[g]? = some (.cells cur t fz)) (hc : cur.toList.take zs.length = zs.map (Value.int k)) : Rd k w (some ⟨g, 0, none⟩) zs := fun i hi => by
  refine ⟨g, 0, rfl, ?_⟩
  have h1 : (cur.toList.take zs.length)[i]? = (zs.map (Value.int k))[i]? := by rw [hc]
  rw [List.getElem?_take, if_pos hi] at h1
  rw [cell_of h]
  simp only [Nat.zero_add]
  rw [← Array.getElem?_toList, h1]
  simp [hi]
theorem law_ConfLess (c : Conf) (p : ConfAt) (k : Int) (w : World) (hc : ConfOk w c p) (wk : (Lit.int .u8 k).wf = true) (hcap : c.keep.length ≤ p.kc) : Does Try.prog 6 #[.agg (confL c p).toArray, .int .u8 k] w (Grow (.bool true) w) := by
  have hk : 0 ≤ k ∧ k ≤ 255 := by simp only [Lit.wf, Bool.and_eq_true, decide_eq_true_eq] at wk; exact wk
  refine Does.enter Try.func6 rfl Try.ntmps6 rfl rfl ?_
  refine Goes.adv hTT 400 rfl ?_
  refine Goes.alloc hTT rfl ?_
  intro b w1 e1 hb hw1 hz1
  refine Goes.adv hTT 400 rfl ?_
  refine Goes.call rfl (law03_awake w1) ?_
  rintro _ w2 ⟨rfl, hw2⟩
  refine Goes.adv hTT 400 rfl ?_
  refine Goes.loads hTT rfl (hw2.heap' hb) rfl rfl ?_
  refine Goes.call rfl (ref03_May c p w2 ((hc.chg hw1).chg hw2)) ?_
  rintro _ w3 ⟨rfl, hw3⟩
  refine Goes.adv hTT 400 rfl ?_
  have hw13 := (hw1.trans hw2).trans hw3
  refine Goes.fork hTT rfl rfl rfl (fun h => ?_) (fun h => ?_)
  · exact Goes.ret1 hTT rfl Try.func6 rfl rfl ⟨rfl, hw13⟩
  · have hm := mayB_of_zero h
    have hi := mayB_iff.1 hm
    have hb3 := hw3.heap' (hw2.heap' hb)
    have hc3 := hc.chg hw13
    have hcl := hi.2.2.1
    have hlen := classOk_len hcl
    have hsz := largeM_of hm
    have hle := largeM_le hm
    have hbw : w.heap.size ≤ b := by omega
    refine Goes.div hTT rfl (by omega) (rem_ (by omega)) rfl ?_
    refine Goes.fork hTT rfl rfl rfl (fun h0 => ?_) (fun h0 => ?_)
    · refine Goes.loadb hTT rfl hb3 rfl rfl ?_
      refine Goes.arith hTT rfl (w64 (by omega)) rfl ?_
      refine Goes.store hTT rfl hb3 rfl rfl ?_
      intro w5 hb5 hs5 hz5
      refine Goes.adv hTT 400 rfl ?_
      have hw5 : Chg None' w w5 := hw13.since hs5 (fun x hx hx' => by omega)
      have hc5 : ConfOk w5 { c with size := c.size + 4 } p := ⟨(hc.chg hw5).classes, (hc.chg hw5).keep, hc.lc, hc.lk, by unfold In64; simp only; omega⟩
      have hm5 : mayB { c with size := c.size + 4 } = false := mayB_no (fun h => by have := sizedM_iff.1 (mayB_iff.1 h).1; simp only at this; omega)
      refine Goes.yes hTT rfl rfl rfl ?_
      refine Goes.loads hTT rfl hb5 rfl rfl ?_
      refine Goes.call rfl (conf_May ({ c with size := c.size + 4 }) (p) w5 hc5) ?_
      rintro _ w6 ⟨rfl, hw6⟩
      refine Goes.adv hTT 400 rfl ?_
      exact Goes.ret1 hTT rfl Try.func6 rfl rfl ⟨bool_v (by unfold mayM; rw [hm5]; rfl), hw5.trans hw6⟩
    · refine Goes.fork hTT rfl rfl rfl (fun h1 => ?_) (fun h1 => ?_)
      · refine Goes.store hTT rfl hb3 rfl rfl ?_
        intro w5 hb5 hs5 hz5
        refine Goes.adv hTT 400 rfl ?_
        have hw5 : Chg None' w w5 := hw13.since hs5 (fun x hx hx' => by omega)
        have hc5 : ConfOk w5 { c with pages := 1025 } p := ⟨(hc.chg hw5).classes, (hc.chg hw5).keep, hc.lc, hc.lk, hc.size⟩
        have hm5 : mayB { c with pages := 1025 } = false := mayB_no (fun h => by have := (mayB_iff.1 h).2.1.2; simp only at this; omega)
        refine Goes.yes hTT rfl rfl rfl ?_
        refine Goes.loads hTT rfl hb5 rfl rfl ?_
        refine Goes.call rfl (conf_May ({ c with pages := 1025 }) (p) w5 hc5) ?_
        rintro _ w6 ⟨rfl, hw6⟩
        refine Goes.adv hTT 400 rfl ?_
        exact Goes.ret1 hTT rfl Try.func6 rfl rfl ⟨bool_v (by unfold mayM; rw [hm5]; rfl), hw5.trans hw6⟩
      · refine Goes.fork hTT rfl rfl rfl (fun h2 => ?_) (fun h2 => ?_)
        · obtain ⟨b1, off1, ea, -⟩ := hc3.classes 0 (by omega)
          obtain ⟨ca, cc, ka, kc⟩ := p
          simp only at ea
          subst ea
          have hml : maxLen = 9223372036854775807 := rfl
          refine Goes.drawn (q := 9) hTT mixed (by kernel_rfl) rfl ?_
          intro hB
          refine Drawn.loadb hTT hB rfl hb3 rfl rfl ?_
          refine Drawn.loadb hTT hB rfl hb3 rfl rfl ?_
          refine Drawn.arith hTT hB rfl (w64 (by omega)) rfl ?_
          have hw13' := hw13
          refine Drawn.turn2 hB rfl ?_ ?_
          · intro w4 hw4
            refine Turn.buildSlice hTT hB rfl (fun _ => rfl) ?_
            intro b6 w6 e6 hb6 hw6 hz6
            have hc6 := hw4.trans hw6
            have ho6 : Own w3.heap.size 3 1 w6 (.slice (some ⟨b6, 0, none⟩) 0 0) 0 [] := Own.empty (by have := hw4.size; omega) hb6
            refine Drawn.turn2 hB rfl ?_ ?_
            · intro w7 hw7
              have ho7 := ho6.chg hw7 (fun _ _ h => h)
              have hc7 := hc6.trans hw7
              refine Turn.append (base := w3.heap.size) (xs := []) (news := c.classes.map (Value.int .i64)) hTT hB rfl ho7 hc7.size (Nat.le_refl _) (by simp) (hc3.classes.chg hc7).cells plain_ints (by simp only; omega) (fun _ => rfl) ?_
              intro v8 w8 ho8 hs8 _
              have hc8 := ho7.since hc7 (Nat.le_refl _) hs8
              refine Drawn.turn1 hB rfl ?_
              intro w9 hw9
              refine Turn.buildSlice hTT hB rfl (fun _ => rfl) ?_
              intro b7 w10 e7 hb7 hw10 hz7
              refine Drawn.turn1 hB rfl ?_
              intro w11 hw11
              have hc11 := ((hc8.trans hw9).trans hw10).trans hw11
              have ho11 := ((ho8.chg hw9 (fun _ _ h => h)).chg hw10 (fun _ _ h => h)).chg hw11 (fun _ _ h => h)
              refine Turn.append (base := w3.heap.size) (xs := [] ++ c.classes.map (Value.int .i64)) (news := [.int .i64 (c.size + 8)]) hTT hB rfl ho11 hc11.size (Nat.le_refl _) (by simp) (cells1 (hw11.heap' hb7)) (by simp [Value.oneCell']) (by simp only; omega) (fun _ => rfl) ?_
              intro v12 w12 ho12 hs12 _
              have hc12 := ho11.since hc11 (Nat.le_refl _) hs12
              obtain ⟨g, cap, cur, rfl, hg1, hg2, hg3, hg4, hg5⟩ := ho12.form (by omega)
              refine Drawn.nil hB ?_
              intro w13 hw13
              refine Goes.adv hTT 400 rfl ?_
              refine Goes.store hTT rfl (hw13.heap' (hc12.heap' hb3)) rfl rfl ?_
              intro w5 hb5 hs5 hz5
              refine Goes.adv hTT 400 rfl ?_
              have hc13 := hc12.trans hw13
              have hb3lt := lt_of_heap hb3
              have hw5 : Chg None' w w5 := (hw13'.trans hc13).since hs5 (fun x hx hx' => by omega)
              have hg5' : w5.heap[g]? = some (.cells cur 3 (0, 0)) := hs5.heap (hw13.heap' hg2) (by omega)
              have hel : (c.classes ++ [c.size + 8]).length = 0 + c.classes.length + 1 := by simp
              have hc5 : ConfOk w5 { c with classes := c.classes ++ [c.size + 8] } ⟨some ⟨g, 0, none⟩, cap, ka, kc⟩ := ⟨Rd.of_take hg5' (by rw [hel, ← Nat.mul_one (0 + c.classes.length + 1), hg5]; simp), (hc.chg hw5).keep, by simp only [hel]; omega, hc.lk, hc.size⟩
              have hm5 : mayB { c with classes := c.classes ++ [c.size + 8] } = false := mayB_no (fun h => by
                have h7 := classOk_get (mayB_iff.1 h).2.2.1 c.classes.length (by simp)
                simp at h7
                omega)
              rw [← hel] at hb5
              refine Goes.yes hTT rfl rfl rfl ?_
              refine Goes.loads hTT rfl hb5 rfl rfl ?_
              refine Goes.call rfl (conf_May ({ c with classes := c.classes ++ [c.size + 8] }) (⟨some ⟨g, 0, none⟩, cap, ka, kc⟩) w5 hc5) ?_
              rintro _ w6 ⟨rfl, hw6⟩
              refine Goes.adv hTT 400 rfl ?_
              exact Goes.ret1 hTT rfl Try.func6 rfl rfl ⟨bool_v (by unfold mayM; rw [hm5]; rfl), hw5.trans hw6⟩
            · intro w7 hw7
              refine Turn.buildSlice hTT hB rfl (fun _ => rfl) ?_
              intro b7 w8' e7 hb7 hw8' hz7
              refine Drawn.turn1 hB rfl ?_
              intro w9 hw9
              have ho9 := ((ho6.chg hw7 (fun _ _ h => h)).chg hw8' (fun _ _ h => h)).chg hw9 (fun _ _ h => h)
              have hc9 := ((hc6.trans hw7).trans hw8').trans hw9
              refine Turn.append (base := w3.heap.size) (xs := []) (news := c.classes.map (Value.int .i64)) hTT hB rfl ho9 hc9.size (Nat.le_refl _) (by simp) (hc3.classes.chg hc9).cells plain_ints (by simp only; omega) (fun _ => rfl) ?_
              intro v8 w8 ho8 hs8 _
              have hc8 := ho9.since hc9 (Nat.le_refl _) hs8
              refine Drawn.turn1 hB rfl ?_
              intro w11 hw11
              have hc11 := hc8.trans hw11
              have ho11 := ho8.chg hw11 (fun _ _ h => h)
              have hne : ¬ ownS (.slice (some ⟨b6, 0, none⟩) 0 0) b7 := by
                intro h; have e : some b7 = some b6 := h; have := Option.some.inj e; have := hw7.size; omega
              refine Turn.append (base := w3.heap.size) (xs := [] ++ c.classes.map (Value.int .i64)) (news := [.int .i64 (c.size + 8)]) hTT hB rfl ho11 hc11.size (Nat.le_refl _) (by simp) (cells1 (hw11.heap' (hs8.heap (hw9.heap' hb7) hne))) (by simp [Value.oneCell']) (by simp only; omega) (fun _ => rfl) ?_
              intro v12 w12 ho12 hs12 _
              have hc12 := ho11.since hc11 (Nat.le_refl _) hs12
              obtain ⟨g, cap, cur, rfl, hg1, hg2, hg3, hg4, hg5⟩ := ho12.form (by omega)
              refine Drawn.nil hB ?_
              intro w13 hw13
              refine Goes.adv hTT 400 rfl ?_
              refine Goes.store hTT rfl (hw13.heap' (hc12.heap' hb3)) rfl rfl ?_
              intro w5 hb5 hs5 hz5
              refine Goes.adv hTT 400 rfl ?_
              have hc13 := hc12.trans hw13
              have hb3lt := lt_of_heap hb3
              have hw5 : Chg None' w w5 := (hw13'.trans hc13).since hs5 (fun x hx hx' => by omega)
              have hg5' : w5.heap[g]? = some (.cells cur 3 (0, 0)) := hs5.heap (hw13.heap' hg2) (by omega)
              have hel : (c.classes ++ [c.size + 8]).length = 0 + c.classes.length + 1 := by simp
              have hc5 : ConfOk w5 { c with classes := c.classes ++ [c.size + 8] } ⟨some ⟨g, 0, none⟩, cap, ka, kc⟩ := ⟨Rd.of_take hg5' (by rw [hel, ← Nat.mul_one (0 + c.classes.length + 1), hg5]; simp), (hc.chg hw5).keep, by simp only [hel]; omega, hc.lk, hc.size⟩
              have hm5 : mayB { c with classes := c.classes ++ [c.size + 8] } = false := mayB_no (fun h => by
                have h7 := classOk_get (mayB_iff.1 h).2.2.1 c.classes.length (by simp)
                simp at h7
                omega)
              rw [← hel] at hb5
              refine Goes.yes hTT rfl rfl rfl ?_
              refine Goes.loads hTT rfl hb5 rfl rfl ?_
              refine Goes.call rfl (conf_May ({ c with classes := c.classes ++ [c.size + 8] }) (⟨some ⟨g, 0, none⟩, cap, ka, kc⟩) w5 hc5) ?_
              rintro _ w6 ⟨rfl, hw6⟩
              refine Goes.adv hTT 400 rfl ?_
              exact Goes.ret1 hTT rfl Try.func6 rfl rfl ⟨bool_v (by unfold mayM; rw [hm5]; rfl), hw5.trans hw6⟩
          · intro w4 hw4
            refine Turn.buildSlice hTT hB rfl (fun _ => rfl) ?_
            intro b7 w6 e7 hb7 hw6 hz7
            refine Drawn.turn1 hB rfl ?_
            intro w7 hw7
            refine Turn.buildSlice hTT hB rfl (fun _ => rfl) ?_
            intro b6 w8' e6 hb6 hw8' hz6
            have ho6 : Own w3.heap.size 3 1 w8' (.slice (some ⟨b6, 0, none⟩) 0 0) 0 [] := Own.empty (by have := hw4.size; have := hw6.size; have := hw7.size; omega) hb6
            refine Drawn.turn1 hB rfl ?_
            intro w9 hw9
            have ho9 := ho6.chg hw9 (fun _ _ h => h)
            have hc9 := (((hw4.trans hw6).trans hw7).trans hw8').trans hw9
            refine Turn.append (base := w3.heap.size) (xs := []) (news := c.classes.map (Value.int .i64)) hTT hB rfl ho9 hc9.size (Nat.le_refl _) (by simp) (hc3.classes.chg hc9).cells plain_ints (by simp only; omega) (fun _ => rfl) ?_
            intro v8 w8 ho8 hs8 _
            have hc8 := ho9.since hc9 (Nat.le_refl _) hs8
            refine Drawn.turn1 hB rfl ?_
            intro w11 hw11
            have hc11 := hc8.trans hw11
            have ho11 := ho8.chg hw11 (fun _ _ h => h)
            have hne : ¬ ownS (.slice (some ⟨b6, 0, none⟩) 0 0) b7 := by
              intro h; have e : some b7 = some b6 := h; have := Option.some.inj e; have := lt_of_heap hb7; have := hw7.size; omega
            refine Turn.append (base := w3.heap.size) (xs := [] ++ c.classes.map (Value.int .i64)) (news := [.int .i64 (c.size + 8)]) hTT hB rfl ho11 hc11.size (Nat.le_refl _) (by simp) (cells1 (hw11.heap' (hs8.heap (hw9.heap' (hw8'.heap' (hw7.heap' hb7))) hne))) (by simp [Value.oneCell']) (by simp only; omega) (fun _ => rfl) ?_
            intro v12 w12 ho12 hs12 _
            have hc12 := ho11.since hc11 (Nat.le_refl _) hs12
            obtain ⟨g, cap, cur, rfl, hg1, hg2, hg3, hg4, hg5⟩ := ho12.form (by omega)
            refine Drawn.nil hB ?_
            intro w13 hw13
            refine Goes.adv hTT 400 rfl ?_
            refine Goes.store hTT rfl (hw13.heap' (hc12.heap' hb3)) rfl rfl ?_
            intro w5 hb5 hs5 hz5
            refine Goes.adv hTT 400 rfl ?_
            have hc13 := hc12.trans hw13
            have hb3lt := lt_of_heap hb3
            have hw5 : Chg None' w w5 := (hw13'.trans hc13).since hs5 (fun x hx hx' => by omega)
            have hg5' : w5.heap[g]? = some (.cells cur 3 (0, 0)) := hs5.heap (hw13.heap' hg2) (by omega)
            have hel : (c.classes ++ [c.size + 8]).length = 0 + c.classes.length + 1 := by simp
            have hc5 : ConfOk w5 { c with classes := c.classes ++ [c.size + 8] } ⟨some ⟨g, 0, none⟩, cap, ka, kc⟩ := ⟨Rd.of_take hg5' (by rw [hel, ← Nat.mul_one (0 + c.classes.length + 1), hg5]; simp), (hc.chg hw5).keep, by simp only [hel]; omega, hc.lk, hc.size⟩
            have hm5 : mayB { c with classes := c.classes ++ [c.size + 8] } = false := mayB_no (fun h => by
              have h7 := classOk_get (mayB_iff.1 h).2.2.1 c.classes.length (by simp)
              simp at h7
              omega)
            rw [← hel] at hb5
            refine Goes.yes hTT rfl rfl rfl ?_
            refine Goes.loads hTT rfl hb5 rfl rfl ?_
            refine Goes.call rfl (conf_May ({ c with classes := c.classes ++ [c.size + 8] }) (⟨some ⟨g, 0, none⟩, cap, ka, kc⟩) w5 hc5) ?_
            rintro _ w6 ⟨rfl, hw6⟩
            refine Goes.adv hTT 400 rfl ?_
            exact Goes.ret1 hTT rfl Try.func6 rfl rfl ⟨bool_v (by unfold mayM; rw [hm5]; rfl), hw5.trans hw6⟩
        · refine Goes.fork hTT rfl rfl rfl (fun h3 => ?_) (fun h3 => ?_)
          · refine Goes.loadb hTT rfl hb3 rfl rfl ?_
            have hl1 : 1 ≤ c.keep.length := by omega
            refine Goes.slice hTT rfl (l := 1) (h := c.keep.length) (by first | rfl | omega | simp [loV]) (by first | rfl | omega | simp [hiV]) (by omega) (by omega) rfl ?_
            refine Goes.store hTT rfl hb3 rfl rfl ?_
            intro w5 hb5 hs5 hz5
            refine Goes.adv hTT 400 rfl ?_
            have hw5 : Chg None' w w5 := hw13.since hs5 (fun x hx hx' => by omega)
            have hc5 : ConfOk w5 { c with keep := (c.keep.drop 1).take (c.keep.length - 1) } { p with ka := shiftA p.ka p.kc 1 1, kc := p.kc - 1 } := ⟨(hc.chg hw5).classes, (hc.chg hw5).keep.shift (by omega) hcap, hc.lc, by have := hc.lk; simp only [List.length_take, List.length_drop]; omega, hc.size⟩
            have hm5 : mayB { c with keep := (c.keep.drop 1).take (c.keep.length - 1) } = false := mayB_no (fun h => by have := (mayB_iff.1 h).2.2.2.1; simp only [List.length_take, List.length_drop] at this; omega)
            have hle5 : ((c.keep.drop 1).take (c.keep.length - 1)).length = c.keep.length - 1 := by simp
            rw [← hle5] at hb5
            refine Goes.yes hTT rfl rfl rfl ?_
            refine Goes.loads hTT rfl hb5 rfl rfl ?_
            refine Goes.call rfl (conf_May ({ c with keep := (c.keep.drop 1).take (c.keep.length - 1) }) ({ p with ka := shiftA p.ka p.kc 1 1, kc := p.kc - 1 }) w5 hc5) ?_
            rintro _ w6 ⟨rfl, hw6⟩
            refine Goes.adv hTT 400 rfl ?_
            exact Goes.ret1 hTT rfl Try.func6 rfl rfl ⟨bool_v (by unfold mayM; rw [hm5]; rfl), hw5.trans hw6⟩
          · refine Goes.fork hTT rfl rfl rfl (fun h4 => ?_) (fun h4 => ?_)
            · refine Goes.store hTT rfl hb3 rfl rfl ?_
              intro w5 hb5 hs5 hz5
              refine Goes.adv hTT 400 rfl ?_
              have hw5 : Chg None' w w5 := hw13.since hs5 (fun x hx hx' => by omega)
              have hc5 : ConfOk w5 { c with step := 0 } p := ⟨(hc.chg hw5).classes, (hc.chg hw5).keep, hc.lc, hc.lk, hc.size⟩
              have hm5 : mayB { c with step := 0 } = false := mayB_no (fun h => by have := (mayB_iff.1 h).2.2.2.2.2.1; simp only at this; omega)
              refine Goes.yes hTT rfl rfl rfl ?_
              refine Goes.loads hTT rfl hb5 rfl rfl ?_
              refine Goes.call rfl (conf_May ({ c with step := 0 }) (p) w5 hc5) ?_
              rintro _ w6 ⟨rfl, hw6⟩
              refine Goes.adv hTT 400 rfl ?_
              exact Goes.ret1 hTT rfl Try.func6 rfl rfl ⟨bool_v (by unfold mayM; rw [hm5]; rfl), hw5.trans hw6⟩
            · refine Goes.fork hTT rfl rfl rfl (fun h5 => ?_) (fun h5 => ?_)
              · refine Goes.store hTT rfl hb3 rfl rfl ?_
                intro w5 hb5 hs5 hz5
                refine Goes.adv hTT 400 rfl ?_
                have hw5 : Chg None' w w5 := hw13.since hs5 (fun x hx hx' => by omega)
                have hc5 : ConfOk w5 { c with slots := 4097 } p := ⟨(hc.chg hw5).classes, (hc.chg hw5).keep, hc.lc, hc.lk, hc.size⟩
                have hm5 : mayB { c with slots := 4097 } = false := mayB_no (fun h => by have := (mayB_iff.1 h).2.2.2.2.2.2.1; simp only at this; omega)
                refine Goes.yes hTT rfl rfl rfl ?_
                refine Goes.loads hTT rfl hb5 rfl rfl ?_
                refine Goes.call rfl (conf_May ({ c with slots := 4097 }) (p) w5 hc5) ?_
                rintro _ w6 ⟨rfl, hw6⟩
                refine Goes.adv hTT 400 rfl ?_
                exact Goes.ret1 hTT rfl Try.func6 rfl rfl ⟨bool_v (by unfold mayM; rw [hm5]; rfl), hw5.trans hw6⟩
              · refine Goes.fork hTT rfl rfl rfl (fun h6 => ?_) (fun h6 => ?_)
                · refine Goes.store hTT rfl hb3 rfl rfl ?_
                  intro w5 hb5 hs5 hz5
                  refine Goes.adv hTT 400 rfl ?_
                  have hw5 : Chg None' w w5 := hw13.since hs5 (fun x hx hx' => by omega)
                  have hc5 : ConfOk w5 { c with gens := 0 } p := ⟨(hc.chg hw5).classes, (hc.chg hw5).keep, hc.lc, hc.lk, hc.size⟩
                  have hm5 : mayB { c with gens := 0 } = false := mayB_no (fun h => by have := (mayB_iff.1 h).2.2.2.2.2.2.2.1; simp only at this; omega)
                  refine Goes.yes hTT rfl rfl rfl ?_
                  refine Goes.loads hTT rfl hb5 rfl rfl ?_
                  refine Goes.call rfl (conf_May ({ c with gens := 0 }) (p) w5 hc5) ?_
                  rintro _ w6 ⟨rfl, hw6⟩
                  refine Goes.adv hTT 400 rfl ?_
                  exact Goes.ret1 hTT rfl Try.func6 rfl rfl ⟨bool_v (by unfold mayM; rw [hm5]; rfl), hw5.trans hw6⟩
                · refine Goes.loads hTT rfl hb3 rfl rfl ?_
                  refine Goes.call rfl (conf_Large c p w3) ?_
                  rintro _ w4 ⟨rfl, hw4⟩
                  refine Goes.adv hTT 400 rfl ?_
                  refine Goes.arith hTT rfl (w64 (by omega)) rfl ?_
                  refine Goes.store hTT rfl (hw4.heap' hb3) rfl rfl ?_
                  intro w5 hb5 hs5 hz5
                  refine Goes.adv hTT 400 rfl ?_
                  have hw5 : Chg None' w w5 := (hw13.trans hw4).since hs5 (fun x hx hx' => by omega)
                  have hc5 : ConfOk w5 { c with most := largeM c + 1 } p := ⟨(hc.chg hw5).classes, (hc.chg hw5).keep, hc.lc, hc.lk, hc.size⟩
                  have hm5 : mayB { c with most := largeM c + 1 } = false := mayB_no (fun h => by have := (mayB_iff.1 h).2.2.2.2.2.2.2.2.2; simp only at this; have e : largeM { c with most := largeM c + 1 } = largeM c := rfl; omega)
                  refine Goes.yes hTT rfl rfl rfl ?_
                  refine Goes.loads hTT rfl hb5 rfl rfl ?_
                  refine Goes.call rfl (conf_May ({ c with most := largeM c + 1 }) (p) w5 hc5) ?_
                  rintro _ w6 ⟨rfl, hw6⟩
                  refine Goes.adv hTT 400 rfl ?_
                  exact Goes.ret1 hTT rfl Try.func6 rfl rfl ⟨bool_v (by unfold mayM; rw [hm5]; rfl), hw5.trans hw6⟩
end Go.Proofs.Yteklfgglcbdpnaa
