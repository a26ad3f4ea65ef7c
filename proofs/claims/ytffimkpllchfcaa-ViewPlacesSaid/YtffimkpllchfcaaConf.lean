/-
  Layer 3: how a heap is laid out: what its functions answer, and what the document's functions answer.
-/
import Derived.Test.YtffimkpllchfcaaClass
namespace Go.Proofs.Ytffimkpllchfcaa
open Go.RowKit

/-- A layout. -/
structure Conf where
  size : Int
  pages : Int
  classes : List Int
  keep : List Int
  step : Int
  slots : Int
  gens : Int
  most : Int
/-- Where a layout's lists lie. -/
structure ConfAt where
  ca : Option Addr
  cc : Nat
  ka : Option Addr
  kc : Nat
def confL (c : Conf) (p : ConfAt) : List Value :=
  [.int .i64 c.size, .int .i64 c.pages, .slice p.ca c.classes.length p.cc, .slice p.ka c.keep.length p.kc, .int .i64 c.step, .int .i64 c.slots, .int .i64 c.gens, .int .i64 c.most]
def In64 (x : Int) : Prop := -9223372036854775808 ≤ x ∧ x ≤ 9223372036854775807
structure ConfOk (w : World) (c : Conf) (p : ConfAt) : Prop where
  classes : Rd .i64 w p.ca c.classes
  keep : Rd .i64 w p.ka c.keep
  lc : c.classes.length ≤ 9223372036854775807
  lk : c.keep.length ≤ 9223372036854775807
  size : In64 c.size
theorem ConfOk.chg {w w' : World} {c : Conf} {p : ConfAt} (h : ConfOk w c p) (hw : Chg None' w w') : ConfOk w' c p :=
  ⟨h.classes.chg hw, h.keep.chg hw, h.lc, h.lk, h.size⟩

def sizedM (n : Int) : Bool := decide (64 ≤ n) && decide (n ≤ 4096) && (n % 8 == 0)
def largeM (c : Conf) : Int := if sizedM c.size then c.size * (c.size / 8) else 0
def blocksM (c : Conf) (k : Int) : Int := if 0 ≤ k ∧ k < c.classes.length then whole c.size (c.classes.getD k.toNat 0) else 0
def smallM (c : Conf) : Int := if c.classes.length = 0 then 0 else c.classes.getD (c.classes.length - 1) 0
def withinM (n a b : Int) : Bool := decide (a ≤ n) && decide (n ≤ b)
def keepBad (k : Int) : Bool := !withinM k 0 1024
def mayB (c : Conf) : Bool :=
  sizedM c.size && withinM c.pages 1 1024 && classOk c.classes c.size && (decide (c.keep.length = c.classes.length) && !c.keep.any keepBad) && withinM c.step 1 65536 && withinM c.slots 1 4096 && withinM c.gens 1 1023 && withinM c.most 1 (largeM c)
def mayM (c : Conf) : Int := if mayB c then 0 else 1
theorem sizedM_iff {n : Int} : sizedM n = true ↔ 64 ≤ n ∧ n ≤ 4096 ∧ n % 8 = 0 := by
  unfold sizedM; simp [and_assoc]

theorem conf_within (n a b : Int) (w : World) : Does Try.prog 53 #[.int .i64 n, .int .i64 a, .int .i64 b] w (Same (.bool (withinM n a b)) w) := by
  refine Does.enter Try.func53 rfl Try.ntmps53 rfl rfl ?_
  refine Goes.adv hTT 400 rfl ?_
  refine Goes.fork hTT rfl rfl rfl (fun h => ?_) (fun h => ?_)
  · exact Goes.ret1 hTT rfl Try.func53 rfl rfl ⟨bool_v (by unfold withinM; rw [show decide (a ≤ n) = true from h]; rfl), rfl⟩
  · exact Goes.ret1 hTT rfl Try.func53 rfl rfl ⟨bool_v (by unfold withinM; rw [show decide (a ≤ n) = false from h]; rfl), rfl⟩
theorem conf_sized (n : Int) (w : World) : Does Try.prog 54 #[.int .i64 n] w (Same (.bool (sizedM n)) w) := by
  refine Does.enter Try.func54 rfl Try.ntmps54 rfl rfl ?_
  refine Goes.adv hTT 400 rfl ?_
  refine Goes.call rfl (conf_within n 64 4096 w) ?_
  rintro _ _ ⟨rfl, rfl⟩
  refine Goes.adv hTT 400 rfl ?_
  refine Goes.fork hTT rfl rfl rfl (fun h => ?_) (fun h => ?_)
  · have h' : 0 ≤ n := by unfold withinM at h; simp at h; omega
    refine Goes.div hTT rfl (by omega) (rem_ (by omega)) rfl ?_
    exact Goes.ret1 hTT rfl Try.func54 rfl rfl ⟨bool_v (by unfold sizedM; rw [show (decide (64 ≤ n) && decide (n ≤ 4096)) = true from h]; rfl), rfl⟩
  · exact Goes.ret1 hTT rfl Try.func54 rfl rfl ⟨bool_v (by unfold sizedM; rw [show (decide (64 ≤ n) && decide (n ≤ 4096)) = false from h]; rfl), rfl⟩
theorem conf_Large (c : Conf) (p : ConfAt) (w : World) : Does Try.prog 57 #[.agg (confL c p).toArray] w (Grow (.int .i64 (largeM c)) w) := by
  refine Does.enter Try.func57 rfl Try.ntmps57 rfl rfl ?_
  refine Goes.adv hTT 400 rfl ?_
  refine Goes.alloc hTT rfl ?_
  intro b w1 e1 hb hw1 hz1
  refine Goes.adv hTT 400 rfl ?_
  refine Goes.loadb hTT rfl hb rfl rfl ?_
  refine Goes.call rfl (conf_sized c.size w1) ?_
  rintro _ _ ⟨rfl, rfl⟩
  refine Goes.adv hTT 400 rfl ?_
  refine Goes.fork hTT rfl rfl rfl (fun h => ?_) (fun h => ?_)
  · have h' : sizedM c.size = false := by simpa using h
    exact Goes.ret1 hTT rfl Try.func57 rfl rfl ⟨int_v (by unfold largeM; rw [h']; rfl), hw1⟩
  · have h' : sizedM c.size = true := by simpa using h
    have h2 := sizedM_iff.1 h'
    have h3 : 0 ≤ c.size / 8 ∧ c.size / 8 ≤ 512 := by omega
    have h4 : 0 ≤ c.size * (c.size / 8) := Int.mul_nonneg (by omega) h3.1
    have h5 : c.size * (c.size / 8) ≤ 4096 * 512 := Int.mul_le_mul h2.2.1 h3.2 h3.1 (by omega)
    refine Goes.loadb hTT rfl hb rfl rfl ?_
    refine Goes.loadb hTT rfl hb rfl rfl ?_
    refine Goes.div hTT rfl (by omega) (quo64 (by omega) (by omega)) rfl ?_
    refine Goes.arith hTT rfl (w64 (by omega)) rfl ?_
    exact Goes.ret1 hTT rfl Try.func57 rfl rfl ⟨int_v (by unfold largeM; rw [h']; rfl), hw1⟩
theorem conf_Blocks (c : Conf) (p : ConfAt) (k : Int) (w : World) (hc : ConfOk w c p) : Does Try.prog 61 #[.agg (confL c p).toArray, .int .i64 k] w (Grow (.int .i64 (blocksM c k)) w) := by
  have hl := hc.lc
  have hs := hc.size
  unfold In64 at hs
  refine Does.enter Try.func61 rfl Try.ntmps61 rfl rfl ?_
  refine Goes.adv hTT 400 rfl ?_
  refine Goes.alloc hTT rfl ?_
  intro b w1 e1 hb hw1 hz1
  refine Goes.adv hTT 400 rfl ?_
  refine Goes.fork hTT rfl rfl rfl (fun h => ?_) (fun h => ?_)
  · have h' : k < 0 := of_decide_eq_true h
    exact Goes.ret1 hTT rfl Try.func61 rfl rfl ⟨int_v (by unfold blocksM; rw [if_neg (by omega)]), hw1⟩
  · have h' : ¬ k < 0 := of_decide_eq_false h
    refine Goes.loadb hTT rfl hb rfl rfl ?_
    refine Goes.fork hTT rfl rfl rfl (fun h2 => ?_) (fun h2 => ?_)
    · have h3 := of_decide_eq_true h2
      exact Goes.ret1 hTT rfl Try.func61 rfl rfl ⟨int_v (by unfold blocksM; rw [if_neg (by omega)]), hw1⟩
    · have h3 := of_decide_eq_false h2
      obtain ⟨b1, off, ea, hcell⟩ := (hc.chg hw1).classes k.toNat (by omega)
      obtain ⟨ca, cc, ka, kc⟩ := p
      simp only at ea
      subst ea
      refine Goes.quiet rfl mixed (by kernel_rfl) ?_
      refine Quiet.adv hTT rfl ?_
      refine Quiet.loadb hTT rfl hb rfl rfl ?_
      refine Quiet.loadb hTT rfl hb rfl rfl ?_
      refine Quiet.index hTT rfl (j := k.toNat) (by omega) (by omega) (by first | rfl | omega | (simp; done) | (simp; omega)) rfl ?_
      refine Quiet.load hTT rfl hcell rfl ?_
      refine Quiet.call hTT rfl (fun w' hw' => (unit_Whole c.size (c.classes.getD k.toNat 0) w' hs.2).grow) rfl ?_
      refine Quiet.nil ?_
      intro w2 hw2
      refine Goes.adv hTT 400 rfl ?_
      exact Goes.ret1 hTT rfl Try.func61 rfl rfl ⟨int_v (by unfold blocksM; rw [if_pos (by omega)]), hw1.trans hw2⟩
theorem conf_May1 (k : Int) (w : World) : Does Try.prog 52 #[.int .i64 k] w (Same (.bool (keepBad k)) w) := by
  refine Does.enter Try.func52 rfl Try.ntmps52 rfl rfl ?_
  refine Goes.adv hTT 400 rfl ?_
  refine Goes.call rfl (conf_within k 0 1024 w) ?_
  rintro _ _ ⟨rfl, rfl⟩
  refine Goes.adv hTT 400 rfl ?_
  exact Goes.ret1 hTT rfl Try.func52 rfl rfl ⟨rfl, rfl⟩
theorem conf_May (c : Conf) (p : ConfAt) (w : World) (hc : ConfOk w c p) : Does Try.prog 33 #[.agg (confL c p).toArray] w (Grow (.int .i64 (mayM c)) w) := by
  have hl := hc.lc
  have hlk := hc.lk
  refine Does.enter Try.func33 rfl Try.ntmps33 rfl rfl ?_
  refine Goes.adv hTT 400 rfl ?_
  refine Goes.alloc hTT rfl ?_
  intro b w1 e1 hb hw1 hz1
  refine Goes.adv hTT 400 rfl ?_
  have hc1 := hc.chg hw1
  refine Goes.quietF (q := 41) hTT mixed (by kernel_rfl) rfl rfl rfl rfl ?_
  refine Quiet.adv hTT rfl ?_
  refine Quiet.loadb hTT rfl hb rfl rfl ?_
  refine Quiet.call hTT rfl (fun w' hw' => (conf_sized c.size w').grow) rfl ?_
  refine Quiet.loadb hTT rfl hb rfl rfl ?_
  refine Quiet.call hTT rfl (fun w' hw' => (conf_within c.pages 1 1024 w').grow) rfl ?_
  refine Quiet.loadb hTT rfl hb rfl rfl ?_
  refine Quiet.loadb hTT rfl hb rfl rfl ?_
  refine Quiet.call hTT rfl (fun w' hw' => (class_May p.ca p.cc c.classes c.size w' (hc1.classes.chg hw') hl).grow) rfl ?_
  refine Quiet.loadb hTT rfl hb rfl rfl ?_
  refine Quiet.loadb hTT rfl hb rfl rfl ?_
  have fin : ∀ (kk : Bool), (decide (c.keep.length = c.classes.length) && !c.keep.any keepBad) = kk → 
      ([sizedM c.size, withinM c.pages 1 1024, (classMay c.classes c.size == 0), kk, withinM c.step 1 65536, withinM c.slots 1 4096, withinM c.gens 1 1023, withinM c.most 1 (largeM c)].any fun y => false == y) = !mayB c := by
    intro kk hk
    unfold mayB
    rw [hk]
    have : (classMay c.classes c.size == 0) = classOk c.classes c.size := by unfold classMay; cases classOk c.classes c.size <;> rfl
    rw [this]
    cases sizedM c.size <;> cases withinM c.pages 1 1024 <;> cases classOk c.classes c.size <;> cases kk <;> cases withinM c.step 1 65536 <;> cases withinM c.slots 1 4096 <;> cases withinM c.gens 1 1023 <;> cases withinM c.most 1 (largeM c) <;> rfl
  refine Quiet.fork hTT rfl rfl rfl (fun h => ?_) (fun h => ?_)
  case' refine_1 =>
    refine Quiet.loadb hTT rfl hb rfl rfl ?_
    refine Quiet.call hTT rfl (fun w' hw' => (slices_ContainsFunc_int p.ka p.kc 52 c.keep [] keepBad w' (hc1.keep.chg hw') hlk (fun x _ => conf_May1 x w')).grow) rfl ?_
  all_goals
    refine Quiet.loadb hTT rfl hb rfl rfl ?_
    refine Quiet.call hTT rfl (fun w' hw' => (conf_within c.step 1 65536 w').grow) rfl ?_
    refine Quiet.loadb hTT rfl hb rfl rfl ?_
    refine Quiet.call hTT rfl (fun w' hw' => (conf_within c.slots 1 4096 w').grow) rfl ?_
    refine Quiet.loadb hTT rfl hb rfl rfl ?_
    refine Quiet.call hTT rfl (fun w' hw' => (conf_within c.gens 1 1023 w').grow) rfl ?_
    refine Quiet.loadb hTT rfl hb rfl rfl ?_
    refine Quiet.loads hTT rfl hb rfl rfl ?_
    refine Quiet.call hTT rfl (fun w' hw' => conf_Large c p w') rfl ?_
    refine Quiet.call hTT rfl (fun w' hw' => (conf_within c.most 1 (largeM c) w').grow) rfl ?_
    refine Quiet.build hTT rfl rfl ?_
    refine Quiet.nil ?_
    intro b2 w2 hw2 hb2 hz2
    refine Goes.adv hTT 400 rfl ?_
    refine Goes.store hTT rfl hz2 rfl rfl ?_
    intro w3 hb3 hw3 hz3
    refine Goes.adv hTT 400 rfl ?_
    refine Goes.slice hTT rfl (l := 0) (h := 8) (by first | rfl | omega | simp [loV]) (by first | rfl | omega | simp [hiV]) (by omega) (by omega) rfl ?_
    have hr3 : RdB w3 (some ⟨b2, 0, none⟩) [sizedM c.size, withinM c.pages 1 1024, (classMay c.classes c.size == 0), (decide (c.keep.length = c.classes.length) && !c.keep.any keepBad), withinM c.step 1 65536, withinM c.slots 1 4096, withinM c.gens 1 1023, withinM c.most 1 (largeM c)] := by
      have hkk : (c.keep.length : Int) = c.classes.length ↔ c.keep.length = c.classes.length := by omega
      refine RdB.of hb3 ?_
      simp only [hkk, beq_iff_eq, beq_eq_false_iff_ne, ne_eq] at h
      simp [h]
    refine Goes.call rfl (slices_Contains_bool (some ⟨b2, 0, none⟩) 8 _ false w3 hr3 (by simp)) ?_
    rintro _ _ ⟨rfl, rfl⟩
    refine Goes.adv hTT 400 rfl ?_
    have hf := fin _ rfl
    have hw : Chg None' w w3 := (hw1.trans hw2).since hw3 (fun k hk hk' => by have := hw1.size; subst hk'; omega)
    refine Goes.fork hTT rfl rfl rfl (fun hh => ?_) (fun hh => ?_)
    · exact Goes.ret1 hTT rfl Try.func33 rfl rfl ⟨int_v (by rw [fin _ rfl] at hh; unfold mayM; rw [if_neg (by simpa using hh)]), hw⟩
    · exact Goes.ret1 hTT rfl Try.func33 rfl rfl ⟨int_v (by rw [fin _ rfl] at hh; unfold mayM; rw [if_pos (by simpa using hh)]), hw⟩
end Go.Proofs.Ytffimkpllchfcaa
