/-
  Layer 6: whatever uses are made of an arena; each step is counted.
-/
import Derived.Test.YtommemplakcaaaaUse2
namespace Go.Proofs.Ytommemplakcaaaa
open Go.RowKit

theorem Rows.at {α : Type} {cells : α → List Value} {sz : Nat} {w : World} {a : Option Addr} {xs : List α} (h : Rows cells sz w a xs) {i : Nat} (hi : i < xs.length) : ∃ b off, a = some ⟨b, off, none⟩ ∧ ∀ j v, (cells xs[i])[j]? = some v → w.cell? ⟨b, off + i * sz + j, none⟩ = some v :=
  h i xs[i] (List.getElem?_eq_getElem hi)
theorem ref06_Few (a : Option Addr) (cap : Nat) (xs : List Use) (w : World) (hr : Rows useL 6 w a xs) (hl : xs.length ≤ 9223372036854775807) :
    Does Try.prog 32 #[.slice a xs.length cap] w (fun v w' => ∃ b, v = .bool b ∧ (b = true → xs.length ≤ 20 ∧ ∀ x ∈ xs, x.bs.length ≤ 200) ∧ w = w') := by
  refine Does.enter Try.func32 rfl Try.ntmps32 rfl rfl ?_
  refine Goes.adv hTT 400 rfl ?_
  refine Goes.loop (α := Nat) (fun k => [(0, false, .slice a xs.length cap), (3, false, .int .i64 k)])
    (fun k w' => w = w' ∧ k ≤ xs.length ∧ k ≤ 21 ∧ ∀ j (h : j < xs.length), j < k → xs[j].bs.length ≤ 200) (fun k => xs.length - k) 0 ⟨rfl, rfl, trivial⟩ ⟨rfl, by omega, by omega, fun j _ h => by omega⟩ ?_
  rintro k w1 ⟨hw, hk, hk21, hall⟩ ih
  subst hw
  refine Goes.adv hTT 400 rfl ?_
  refine Goes.fork hTT rfl rfl rfl (fun h0 => ?_) (fun h0 => ?_)
  · have g0 := of_decide_eq_true h0
    refine Goes.fork hTT rfl rfl rfl (fun h1 => ?_) (fun h1 => ?_)
    · have g1 := of_decide_eq_true h1
      obtain ⟨b, off, rfl, hc⟩ := hr.at (i := k) (by omega)
      refine Goes.index hTT rfl (j := (k * 6)) (by omega) (by omega) (by first | rfl | omega | (simp; done) | (simp; omega)) rfl ?_
      refine Goes.load hTT rfl (hc 5 _ rfl) rfl ?_
      refine Goes.fork hTT rfl rfl rfl (fun h2 => ?_) (fun h2 => ?_)
      · exact Goes.ret1 hTT rfl Try.func32 rfl rfl ⟨false, rfl, (fun h => by cases h), rfl⟩
      · have g2 := of_decide_eq_false h2
        refine Goes.arith hTT rfl (w64 (by omega)) rfl ?_
        exact ih (k + 1) _ _ ⟨rfl, by omega, by omega, fun j hj hjk => by
          by_cases e : j = k
          · subst e; omega
          · exact hall j hj (by omega)⟩ (by omega) ⟨rfl, rfl, trivial⟩
    · have g1 := of_decide_eq_false h1
      exact Goes.ret1 hTT rfl Try.func32 rfl rfl ⟨_, rfl, (fun h => by have := of_decide_eq_true h; omega), rfl⟩
  · have g0 := of_decide_eq_false h0
    exact Goes.ret1 hTT rfl Try.func32 rfl rfl ⟨_, rfl, (fun h => ⟨by have := of_decide_eq_true h; omega, fun x hx => by
      obtain ⟨j, hj, rfl⟩ := List.mem_iff_getElem.1 hx
      exact hall j hj (by omega)⟩), rfl⟩
theorem sub_le {bs : List Int} {i n : Nat} : (sub bs i n).length ≤ bs.length := by unfold sub; simp; omega
theorem thereB_nat {N : Nat} {a n : Int} (h : thereB N a n = true) : a.toNat + n.toNat ≤ N ∧ n.toNat ≤ N := by
  have := thereB_iff.1 h
  omega
theorem useOut_spec {bs : List Int} {u : Use} (h8 : 8 ≤ bs.length) : (useOut bs u).bs.length = bs.length ∧ (useOut bs u).n ≤ bs.length := by
  unfold useOut
  simp only
  split
  · split
    · rename_i h; have := thereB_nat h; exact ⟨rfl, this.2⟩
    · exact ⟨rfl, Nat.zero_le _⟩
  split
  · split
    · rename_i h
      have := thereB_nat h
      rw [Int.toNat_natCast] at this
      exact ⟨wrB_length (by omega), this.2⟩
    · exact ⟨rfl, Nat.zero_le _⟩
  split
  · split
    · rename_i h
      have := thereB_nat h
      exact ⟨wrB_length (by rw [List.length_replicate]; omega), this.2⟩
    · exact ⟨rfl, Nat.zero_le _⟩
  split
  · split
    · rename_i h
      simp only [Bool.and_eq_true] at h
      have h1 := thereB_nat h.1
      have h2 := thereB_nat h.2
      exact ⟨wrB_length (by rw [sub_length h1.1]; omega), h1.2⟩
    · exact ⟨rfl, Nat.zero_le _⟩
  split
  · exact ⟨rfl, Nat.zero_le _⟩
  · rename_i h
    have ht : thereB bs.length u.at' 8 = true := by
      cases hh : thereB bs.length u.at' 8 with
      | true => rfl
      | false => exfalso; apply h; unfold wordedV; rw [if_pos hh]; decide
    have := thereB_nat ht
    split
    · exact ⟨rfl, by show 1 ≤ bs.length; omega⟩
    · exact ⟨wrB_length (by rw [leB_length]; omega), by show 1 ≤ bs.length; omega⟩
theorem charged_add {t m : Int} (h : 0 ≤ t ∧ 0 ≤ m ∧ t + m ≤ 4611686018427387904) : charged t m = t + m := by unfold charged; split <;> omega
theorem ArV.charge_total {V : ArV} {A : Ar} {b : Nat} {n : Int} (h : A.mb = some b) : (V.charge A n).total = charged V.total n := by unfold ArV.charge; rw [h]
theorem RaOk.rdS {w : World} {r : RA} {S : Nat → Prop} (h : RaOk w r) (hs : ∀ b off s, r.a = some ⟨b, off, s⟩ → ¬ S b) : RdS S .u8 w r.a r.bs := ⟨h.rd, fun b off s e _ => hs b off s e⟩
theorem RaOk.far {w w' : World} {r : RA} {S : Nat → Prop} (h : RaOk w r) (hs : ∀ b off s, r.a = some ⟨b, off, s⟩ → ¬ S b) (hc : Chg S w w') : RaOk w' r :=
  ⟨((h.rdS hs).chg hc).1, h.len, h.lc, h.rng⟩
theorem noFoot {w w' : World} {A : Ar} {V : ArV} {r r' : RA} (hA : ArOk w A V) (hs : w.heap.size ≤ w'.heap.size) (hrf : ∀ b off s, r.a = some ⟨b, off, s⟩ → ¬ foot A b) (h7 : NewA w' r' ∨ r'.a = r.a) : ∀ b off s, r'.a = some ⟨b, off, s⟩ → ¬ foot A b := fun b off s e hb => by
  rcases h7 with ⟨g, hg1, hg2⟩ | h7
  · rw [hg1] at e; cases e; have := hA.foot_lt _ hb; omega
  · rw [h7] at e; exact hrf _ _ _ e hb
abbrev doF (o : Out) (x : RA × Option Addr × Nat) : Value := .tuple #[.agg (raL x.1).toArray, .slice x.2.1 o.told.length x.2.2, .int .u64 o.word, .int .i64 o.err]
def doQ (A : Ar) (r : RA) (o : Out) (x : RA × Option Addr × Nat) (w' : World) : Prop := x.1.bs = o.bs ∧ x.1.steps = r.steps + o.n ∧ RaOk w' x.1 ∧ Rd .u8 w' x.2.1 o.told ∧ (∀ b off s, x.1.a = some ⟨b, off, s⟩ → ¬ foot A b)
theorem law_ArenaUses (n : Int) (a : Option Addr) (cap : Nat) (xs : List Use) (w : World) (hn : 0 ≤ n ∧ n < 256) (hr : Rows useL 6 w a xs) (hl : xs.length ≤ 9223372036854775807) (hx : ∀ x ∈ xs, UseOk w x) :
    Does Try.prog 8 #[.int .u8 n, .slice a xs.length cap] w (Grow (.bool true) w) := by
  refine Does.enter Try.func8 rfl Try.ntmps8 rfl rfl ?_
  refine Goes.adv hTT 400 rfl ?_
  refine Goes.call rfl (law06_awake w) ?_
  rintro _ w1 ⟨rfl, hw1⟩
  refine Goes.adv hTT 400 rfl ?_
  refine Goes.call rfl (ref06_Few a cap xs w1 (hr.chg hw1) hl) ?_
  rintro _ w2 ⟨b0, rfl, hb0, rfl⟩
  refine Goes.adv hTT 400 rfl ?_
  refine Goes.fork hTT rfl rfl rfl (fun hf => ?_) (fun hf => ?_)
  · exact Goes.ret1 hTT rfl Try.func8 rfl rfl ⟨rfl, hw1⟩
  · have hfew := hb0 (by simpa using hf)
    refine Goes.call rfl (meter_New w1) ?_
    rintro _ w3 ⟨rfl, hm3, hw3, hz3⟩
    refine Goes.adv hTT 400 rfl ?_
    refine Goes.arith hTT rfl (w64 (by omega)) rfl ?_
    refine Goes.div hTT rfl (by omega) (rem_ (by omega)) rfl ?_
    refine Goes.arith hTT rfl (w64 (by omega)) rfl ?_
    have hmay : arMay (1 + n % 4) 64 = true := arMay_iff.2 (by omega)
    obtain ⟨N, hN⟩ : ∃ N, N = ((1 + n % 4) * 64).toNat := ⟨_, rfl⟩
    have hNle : 64 ≤ N ∧ N ≤ 256 := by omega
    refine Goes.call rfl (arena_New (some w1.heap.size) 0 0 (1 + n % 4) 64 w3 (fun b hb => by cases hb; exact hm3) hmay) ?_
    rintro _ w4 ⟨A, rfl, hmb, ha1, ha2, ha3, hA4, hw4⟩
    refine Goes.adv hTT 400 rfl ?_
    refine Goes.arith hTT rfl (w64 (by omega)) rfl ?_
    refine Goes.div hTT rfl (by omega) (rem_ (by omega)) rfl ?_
    refine Goes.arith hTT rfl (w64 (by omega)) rfl ?_
    rw [← hN] at hA4
    refine Goes.call rfl (ref06_New (1 + n % 4) 64 w4 hmay) ?_
    rintro _ w5 ⟨rg, rfl, hrg, hR5, hw5⟩
    refine Goes.adv hTT 400 rfl ?_
    rw [← hN] at hR5
    refine Goes.alloc hTT rfl ?_
    intro xb w6 e6 hxb hw6 hz6
    refine Goes.adv hTT 400 rfl ?_
    refine Goes.store hTT rfl hxb rfl rfl ?_
    intro w7 hxb7 hs7 hz7
    refine Goes.adv hTT 400 rfl ?_
    have hw05 := ((hw1.trans hw3).trans hw4).trans hw5
    have hw07 : Chg None' w w7 := (hw05.trans hw6).since hs7 (fun z hz h => by have := hw05.size; omega)
    have hA6 := (hA4.grow hw5).grow hw6
    have hA7 : ArOk w7 A ⟨zeros N, 0, 0⟩ := hA6.chg hs7 (fun b hb e => by
      have h1 := lt_of_heap (hA4.grow hw5).obj
      have h2 := lt_of_heap (hA4.grow hw5).dat
      have h3 := lt_of_heap (hA4.grow hw5).cap
      rcases hb with h | h | h | h
      · omega
      · omega
      · omega
      · rw [hmb] at h; cases h; have := hw3.size; have := hw4.size; have := hw5.size; omega)
    have hR7 : RaOk w7 ⟨some ⟨rg, 0, none⟩, N, zeros N, 0⟩ := RaOk.far (S := fun b => b = xb) (hR5.grow hw6) (fun b off s e h => by cases e; have := lt_of_heap hxb; obtain ⟨b', off', e', hcl⟩ := hR5.rd 0 (by show 0 < (zeros N).length; simp [zeros]; omega); cases e'; have := World.block_lt_of_cell? _ _ hcl; simp only at this; omega) hs7
    have hzN : (zeros N).length = N := List.length_replicate
    have hA4s := hA4.foot_lt
    have hf0 : ∀ z, z < w.heap.size → foot A z → False := fun z hz h => by
      have := hw1.size
      have := hw3.size
      rcases h with h | h
      · omega
      · rw [hmb] at h; cases h; omega
    refine Goes.loop (α := Nat) (fun i => [(1, false, .slice a xs.length cap), (5, false, .bool true), (6, false, .pointer (some ⟨w1.heap.size, 0, none⟩)), (7, false, .pointer (some ⟨A.ab, 0, none⟩)), (8, false, .int .i64 0), (9, false, .pointer (some ⟨xb, 0, none⟩)), (10, false, .int .i64 0), (11, false, .int .i64 i)])
      (fun i w' => i ≤ xs.length ∧ ∃ (V : ArV) (r : RA), ArOk w' A V ∧ RaOk w' r ∧ r.bs = V.bs ∧ r.steps = V.total ∧ V.bs.length = N ∧ 0 ≤ V.total ∧ V.total ≤ i * N ∧ (∀ b off s, r.a = some ⟨b, off, s⟩ → ¬ foot A b) ∧
        w'.heap[xb]? = some (.cells (raL r).toArray 25 (0, 0)) ∧ Chg None' w w') (fun i => xs.length - i) 0 ⟨rfl, rfl, rfl, rfl, rfl, rfl, rfl, rfl, trivial⟩
      ⟨by omega, ⟨zeros N, 0, 0⟩, _, hA7, hR7, rfl, rfl, hzN, by simp, by simp, fun b off s e h => by cases e; have := hA4s _ h; omega, by rw [← hN] at hxb7; exact hxb7, hw07⟩ ?_
    rintro i w8 ⟨hi, V, r, hA8, hR8, hrb, hrs, hVN, ht0, hti, hrf, hxb8, hw08⟩ ih
    have hxf : ¬ foot A xb := by
      intro h
      rcases h with h | h
      · exact blk_ne hA8.dat hxb8 (by decide) h.symm
      · exact blk_ne (hA8.met _ h).1 hxb8 (by decide) rfl
    refine Goes.adv hTT 400 rfl ?_
    refine Goes.fork hTT rfl rfl rfl (fun hc => ?_) (fun hc => ?_)
    · have hlt : i < xs.length := by have := of_decide_eq_true hc; omega
      obtain ⟨ub, uoff, rfl, hcell⟩ := hr.at hlt
      have huok := hx _ (List.getElem_mem hlt)
      have hcell' : ∀ {w'}, Chg None' w w' → ∀ j v, (useL xs[i])[j]? = some v → w'.cell? ⟨ub, uoff + i * 6 + j, none⟩ = some v := fun hc j v hv => below_cell hc.below (hcell j v hv)
      refine Goes.index hTT rfl (j := (i * 6)) (by omega) (by omega) (by first | rfl | omega | (simp; done) | (simp; omega)) rfl ?_
      refine Goes.loadC hTT (useL xs[i]) rfl rfl (hcell' hw08) rfl ?_
      refine Goes.call rfl (law06_do A V xs[i] w8 hA8 (huok.chg hw08)) ?_
      rintro _ w9 ⟨a9, cap9, rfl, hr9, hA9, hs9⟩
      refine Goes.adv hTT 400 rfl ?_
      obtain ⟨o, ho⟩ : ∃ o, o = useOut V.bs xs[i] := ⟨_, rfl⟩
      rw [← ho] at hr9 hA9 ⊢
      have hos := useOut_spec (bs := V.bs) (u := xs[i]) (by omega)
      rw [← ho] at hos
      have hw09 : Chg None' w w9 := hw08.since hs9 hf0
      have hR9 := hR8.far hrf hs9
      have hxb9 := hs9.heap hxb8 hxf
      have hst : StOk r.steps := by
        unfold StOk
        rw [hrs]
        have h1 : (i : Int) * N ≤ 20 * 256 := Int.mul_le_mul (by omega) (by omega) (by omega) (by omega)
        omega
      have h1 : (i : Int) * N ≤ 20 * 256 := Int.mul_le_mul (by omega) (by omega) (by omega) (by omega)
      have hrl : 0 < r.bs.length := by rw [hrb]; omega
      have hlt9 := lt_of_heap hxb9
      refine Goes.drawn (q := 16) None' hTT mixed (by kernel_rfl) rfl ?_
      intro hB
      refine Drawn.loads hTT hB rfl hxb9 (by first | exact fun h => h | (intro h; omega) | assumption) rfl rfl ?_
      refine Drawn.index hTT hB rfl (j := (i * 6)) (by omega) (by omega) (by first | rfl | omega | (simp; done) | (simp; omega)) rfl ?_
      refine Drawn.loadC hTT hB (useL xs[i]) rfl rfl (hcell' hw09) (by first | exact fun h => h | (intro h; omega) | assumption) rfl ?_
      have hd : ∀ w', Chg None' w9 w' → Does Try.prog 34 #[.agg (raL r).toArray, .agg (useL xs[i]).toArray] w' (fun v w2 => Chg None' w' w2 ∧ ∃ x, v = doF o x ∧ doQ A r o x w2) := fun w' hw' =>
        (ref06_Do r xs[i] w' (hR9.grow hw') hst hrl (huok.chg (hw09.trans hw'))).mono fun v w2 ⟨r', a', c', h1, h2, h3, h4, h5, h6, h7⟩ => by
          rw [hrb, ← ho] at h1 h2 h3 h5
          exact ⟨h6, (r', a', c'), h1, h2, h3, h4, h5, noFoot hA8 (Nat.le_trans hs9.size hw'.size) hrf h7⟩
      refine Drawn.callAlloc (doF o) (doQ A r o) hTT hB rfl rfl rfl (fun _ => rfl) rfl (fun _ => rfl) (fun _ => rfl) rfl rfl (fun _ _ => rfl) rfl (fun _ _ => rfl) (hd) (fun x w2 w3 ⟨h1, h2, h3, h4, h5⟩ hc => ⟨h1, h2, h3.grow hc, h4.chg hc, h5⟩) (fun _ h => h.elim) ?_
      rintro yb ⟨r2, a2, c2⟩ w10 hyb hzy hw10 ⟨g1, g2, hR10, hr10, hrf10⟩
      have hw010 := hw09.trans hw10
      have hA10 := hA9.grow hw10
      refine Drawn.turn1 hB rfl ?_
      intro w11 hw11
      refine Turn.store hTT hB rfl (hw11.heap' hzy) (by first | (intro h; exact rfl) | (intro h; omega)) rfl rfl rfl ?_
      intro w12 hyb12 hs12 hz12
      refine Drawn.nil hB ?_
      intro w13 hw13
      refine Goes.adv hTT 400 rfl ?_
      have hw012 : Chg None' w9 w12 := (hw10.trans hw11).since hs12 (fun x hx h => by omega)
      have hw913 := hw012.trans hw13
      refine Goes.loads hTT rfl (hw13.heap' hyb12) rfl rfl ?_
      refine Goes.store hTT rfl (hw913.heap' hxb9) rfl rfl ?_
      intro w14 hxb14 hs14 hz14
      refine Goes.adv hTT 400 rfl ?_
      have hw014 : Chg None' w w14 := (hw09.trans hw913).since hs14 (fun x hx h => by have := hw05.size; omega)
      have hA13 := hA9.grow hw913
      have hA14 : ArOk w14 A { V.charge A o.n with bs := o.bs } := hA13.chg hs14 (fun b hb e => by
        have hx13 := hw913.heap' hxb9
        rcases hb with h | h | h | h
        · exact blk_ne hA13.obj hx13 (by decide) (by omega)
        · exact blk_ne hA13.dat hx13 (by decide) (by omega)
        · exact blk_ne hA13.cap hx13 (by decide) (by omega)
        · exact blk_ne (hA13.met _ h).1 hx13 (by decide) (by omega))
      have hnox : ∀ x ∈ (raL r).toArray.toList, ∀ z, x ≠ Value.int .u8 z := by simp [raL]
      have hR12 : RaOk w12 r2 := RaOk.keep (hR10.grow hw11) (hw11.heap' hzy) (by simp [cellsL]) hs12
      have hR14 : RaOk w14 r2 := RaOk.keep (hR12.grow hw13) (hw913.heap' hxb9) hnox hs14
      have hr12 : Rd .u8 w14 a2 o.told := (((hr10.chg hw11).keepU (hw11.heap' hzy) (by simp [cellsL]) hs12).chg hw13).keepU (hw913.heap' hxb9) hnox hs14
      have hr9' : Rd .u8 w14 a9 o.told := (hr9.1.chg hw913).keepU (hw913.heap' hxb9) hnox hs14
      have htot : r2.steps = (V.charge A o.n).total := by rw [ArV.charge_total hmb, g2, hrs, charged_add (by omega)]
      refine Goes.drawn (q := 22) None' hTT mixed (by kernel_rfl) rfl ?_
      intro hB
      refine Drawn.bstrN hTT hB (o.told) rfl rfl (⟨hr9', fun _ _ _ _ _ h => h⟩) rfl ?_
      refine Drawn.bstrN hTT hB (o.told) rfl rfl (⟨hr12, fun _ _ _ _ _ h => h⟩) rfl ?_
      refine Drawn.streq hTT hB rfl (rfl) rfl ?_
      refine Drawn.no hTT hB rfl rfl rfl ?_
      refine Drawn.no hTT hB rfl (bne_self_eq_false _) rfl ?_
      refine Drawn.no hTT hB rfl (bne_self_eq_false _) rfl ?_
      refine Drawn.call hTT hB rfl (fun w' hw' => (meter_Total w1.heap.size _ _ w' ((hA14.grow hw').met _ hmb)).grow) rfl ?_
      refine Drawn.loadb hTT hB rfl hxb14 (by first | exact fun h => h | (intro h; omega) | assumption) rfl rfl ?_
      refine Drawn.nil hB ?_
      intro w15 hw15
      refine Goes.adv hTT 400 rfl ?_
      refine Goes.no hTT rfl (by rw [htot]; exact bne_self_eq_false _) rfl ?_
      refine Goes.arith hTT rfl (w64 (by omega)) rfl ?_
      exact ih (i + 1) _ _ ⟨by omega, _, r2, hA14.grow hw15, hR14.grow hw15, g1, htot, by simp only; omega, by simp only; rw [← htot, g2, hrs]; omega, by simp only; rw [← htot, g2, hrs]; rw [show ((i + 1 : Nat) : Int) * N = i * N + N from by rw [Int.natCast_add, Int.add_mul]; omega]; omega, hrf10, hw15.heap' hxb14, hw014.trans hw15⟩ (by omega) ⟨rfl, rfl, rfl, rfl, rfl, rfl, rfl, rfl, trivial⟩
    · have hge := of_decide_eq_false hc
      refine Goes.call rfl (arena_Len A V w8 hA8) ?_
      rintro _ _ ⟨rfl, rfl⟩
      refine Goes.adv hTT 400 rfl ?_
      refine Goes.call rfl (arena_Read A V 0 V.bs.length w8 hA8 (by omega)) ?_
      rintro _ w9 ⟨v9, rfl, ho9, hA9, hs9⟩
      refine Goes.adv hTT 400 rfl ?_
      have hw09 : Chg None' w w9 := hw08.since hs9 (fun x hx h => hf0 x hx (.inr h))
      have hall : sub V.bs 0 V.bs.length = V.bs := by unfold Go.Proofs.Ytommemplakcaaaa.sub; rw [List.drop_zero]; exact List.take_length
      rw [hall] at ho9
      obtain ⟨g, cap9, cur, rfl, _, _, _, _, hr9⟩ := ho9.rd
      have hR9 := hR8.far (S := mFoot A) (fun b off s e h => hrf b off s e (.inr h)) hs9
      have hxb9 := hs9.heap hxb8 (fun h => hxf (.inr h))
      refine Goes.yes hTT rfl rfl rfl ?_
      refine Goes.yes hTT rfl rfl rfl ?_
      refine Goes.yes hTT rfl rfl rfl ?_
      refine Goes.bstrN hTT (V.bs) rfl rfl (hr9) rfl ?_
      refine Goes.loadb hTT rfl hxb9 rfl rfl ?_
      refine Goes.bstrN hTT (r.bs) rfl rfl (hR9.rd) rfl ?_
      rw [hrb]
      refine Goes.streq hTT rfl (rfl) rfl ?_
      exact Goes.ret1 hTT rfl Try.func8 rfl rfl ⟨rfl, hw09⟩
end Go.Proofs.Ytommemplakcaaaa
