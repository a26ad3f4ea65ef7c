/-
  Layer 6: each step is counted.
-/
import Derived.Test.YtommemplakcaaaaLaws6d
namespace Go.Proofs.Ytommemplakcaaaa
open Go.RowKit

def wantN (u : Use) : Int := if u.kind % 6 = 1 then (u.bs.length : Int) else if 3 < u.kind % 6 then 1 else u.n
def OutOk (bs : List Int) (u : Use) (o : Out) : Prop := (o.err ≠ 0 → o.bs = bs ∧ o.n = 0) ∧ (o.err = 0 → (o.n : Int) = wantN u)
theorem OutOk.no {bs : List Int} {u : Use} {e : Int} (h : e ≠ 0) : OutOk bs u (outNo bs e) := ⟨fun _ => ⟨rfl, rfl⟩, fun h' => absurd h' h⟩
theorem OutOk.yes {bs bs' l : List Int} {u : Use} {n : Nat} {x : Int} (h : (n : Int) = wantN u) : OutOk bs u ⟨0, bs', n, l, x⟩ := ⟨fun h => absurd rfl h, fun _ => h⟩
theorem useOut_both (bs : List Int) (u : Use) : OutOk bs u (useOut bs u) := by
  have hn : ∀ {N : Nat} {a n : Int}, thereB N a n = true → (n.toNat : Int) = n := fun h => by have := (thereB_iff.1 h).2.1; omega
  unfold useOut
  simp only
  split
  · rename_i h0
    have hw : wantN u = u.n := by unfold wantN; rw [if_neg (by omega), if_neg (by omega)]
    split
    · rename_i ht; exact OutOk.yes (by rw [hw]; exact hn ht)
    · exact OutOk.no (by decide)
  split
  · rename_i h1
    have hw : wantN u = u.bs.length := by unfold wantN; rw [if_pos h1]
    split
    · exact OutOk.yes hw.symm
    · exact OutOk.no (by decide)
  split
  · rename_i h2
    have hw : wantN u = u.n := by unfold wantN; rw [if_neg (by omega), if_neg (by omega)]
    split
    · rename_i ht; exact OutOk.yes (by rw [hw]; exact hn ht)
    · exact OutOk.no (by decide)
  split
  · rename_i h3
    have hw : wantN u = u.n := by unfold wantN; rw [if_neg (by omega), if_neg (by omega)]
    split
    · rename_i ht; simp only [Bool.and_eq_true] at ht; exact OutOk.yes (by rw [hw]; exact hn ht.1)
    · exact OutOk.no (by decide)
  rename_i h0 h1 h2 h3
  have hw : wantN u = 1 := by unfold wantN; rw [if_neg h1, if_pos (by omega)]
  split
  · rename_i h; exact OutOk.no h
  split
  · exact OutOk.yes hw.symm
  · exact OutOk.yes hw.symm
theorem ArOk.lapped {w w' : World} {A : Ar} {V : ArV} {b : Nat} {l : Int} (h : ArOk w A V) (hmb : A.mb = some b) (hm : MeterAt w' b V.total l) (hc : Chg (fun x => x = b) w w') : ArOk w' A { V with lap := l } := by
  have h0 := (h.met b hmb).1
  exact ⟨hc.heap h.obj (blk_ne h.obj h0 (by decide)), hc.heap h.dat (blk_ne h.dat h0 (by decide)), hc.heap h.cap (blk_ne h.cap h0 (by decide)), fun b' hb' => by rw [hmb] at hb'; cases hb'; exact hm, h.len, h.rng⟩
theorem law_ArenaCharges (u : Use) (a : Option Addr) (cap : Nat) (l : List Int) (w : World) (hu : UseOk w u) (hr : Rd .u8 w a l) (hb : InB l) :
    Does Try.prog 12 #[.agg (useL u).toArray, .slice a l.length cap] w (Grow (.bool true) w) := by
  have hk := hu.kind
  refine Does.enter Try.func12 rfl Try.ntmps12 rfl rfl ?_
  refine Goes.adv hTT 400 rfl ?_
  refine Goes.alloc hTT rfl ?_
  intro ub w1 e1 hub hw1 hz1
  refine Goes.adv hTT 400 rfl ?_
  refine Goes.call rfl (law06_awake w1) ?_
  rintro _ w2 ⟨rfl, hw2⟩
  refine Goes.adv hTT 400 rfl ?_
  have hw02 := hw1.trans hw2
  refine Goes.fork hTT rfl rfl rfl (fun h0 => ?_) (fun h0 => ?_)
  · exact Goes.ret1 hTT rfl Try.func12 rfl rfl ⟨rfl, hw02⟩
  · have hlen : l.length = 128 := by simp at h0; omega
    have hub2 := hw2.heap' hub
    refine Goes.loadb hTT rfl hub2 rfl rfl ?_
    refine Goes.fork hTT rfl rfl rfl (fun h1 => ?_) (fun h1 => ?_)
    · exact Goes.ret1 hTT rfl Try.func12 rfl rfl ⟨rfl, hw02⟩
    · have g1 := of_decide_eq_false h1
      refine Goes.call rfl (meter_New w2) ?_
      rintro _ w3 ⟨rfl, hm3, hw3, hz3⟩
      refine Goes.adv hTT 400 rfl ?_
      refine Goes.call rfl (arena_New (some w2.heap.size) 0 0 2 64 w3 (fun b hb => by cases hb; exact hm3) (by decide)) ?_
      rintro _ w4 ⟨A, rfl, hmb, ha1, ha2, ha3, hA4, hw4⟩
      refine Goes.adv hTT 400 rfl ?_
      have hw04 := (hw02.trans hw3).trans hw4
      have hf0 : ∀ z, z < w.heap.size → foot A z → False := fun z hz h => by
        have := hw02.size
        have := hw3.size
        rcases h with h | h
        · omega
        · rw [hmb] at h; cases h; omega
      have hz : (zeros (2 * 64 : Int).toNat).length = 128 := rfl
      refine Goes.call rfl (arena_Write A _ 0 a cap l w4 hA4 (hr.chg hw04) hb (by simp only; omega)) ?_
      rintro _ w5 ⟨rfl, hA5, hs5⟩
      refine Goes.adv hTT 400 rfl ?_
      have hw05 : Chg None' w w5 := hw04.since hs5 hf0
      have hA5' : ArOk w5 A ⟨l, 128, 0⟩ := by
        have h := hA5
        simp only [wrB_full (show (zeros (2 * 64 : Int).toNat).length = l.length by rw [hz, hlen])] at h
        have e : (ArV.charge ⟨zeros (2 * 64 : Int).toNat, 0, 0⟩ A l.length) = ⟨zeros (2 * 64 : Int).toNat, 128, 0⟩ := by unfold ArV.charge; rw [hmb]; simp only [hlen]; rfl
        rw [e] at h
        exact h
      refine Goes.call rfl (meter_Lap w2.heap.size 128 0 w5 (hA5'.met _ hmb)) ?_
      rintro _ w6 ⟨rfl, hm6, hs6⟩
      refine Goes.adv hTT 400 rfl ?_
      have hA6 := hA5'.lapped hmb hm6 hs6
      have hw06 : Chg None' w w6 := hw05.since hs6 (fun z hz h => by have := hw02.size; omega)
      have hub6 := hs6.heap (hs5.heap (hw4.heap' (hw3.heap' hub2)) (fun h => by have := lt_of_heap hub2; rcases h with h | h; have := hw3.size; omega; rw [hmb] at h; cases h; omega)) (by have := lt_of_heap hub2; omega)
      refine Goes.loads hTT rfl hub6 rfl rfl ?_
      refine Goes.call rfl (law06_do A ⟨l, 128, 128⟩ u w6 hA6 (hu.chg hw06)) ?_
      rintro _ w7 ⟨a7, cap7, rfl, hr7, hA7, hs7⟩
      refine Goes.adv hTT 400 rfl ?_
      have hw07 : Chg None' w w7 := hw06.since hs7 hf0
      obtain ⟨o, ho⟩ : ∃ o, o = useOut l u := ⟨_, rfl⟩
      have ho' : useOut (ArV.mk l 128 128).bs u = o := ho.symm
      rw [ho'] at hr7 hA7 ⊢
      have hos := useOut_spec (bs := l) (u := u) (by omega)
      rw [← ho] at hos
      have hV7 : ArV.charge ⟨l, 128, 128⟩ A o.n = ⟨l, 128 + o.n, 128⟩ := by unfold ArV.charge; rw [hmb]; simp only; rw [charged_add (by omega)]
      rw [hV7] at hA7
      have hm7 := hA7.met _ hmb
      simp only at hm7
      refine Goes.call rfl (meter_Lap w2.heap.size (128 + o.n) 128 w7 hm7) ?_
      rintro _ w8 ⟨rfl, hm8, hs8⟩
      refine Goes.adv hTT 400 rfl ?_
      have hA8 := hA7.lapped hmb hm8 hs8
      have hw08 : Chg None' w w8 := hw07.since hs8 (fun z hz h => by have := hw02.size; omega)
      rw [show (128 : Int) + o.n - 128 = o.n by omega]
      have hol : o.bs.length = 128 := by omega
      refine Goes.call rfl (arena_Read A _ 0 128 w8 hA8 (by simp only; omega)) ?_
      rintro _ w9 ⟨v9, rfl, ho9, hA9, hs9⟩
      refine Goes.adv hTT 400 rfl ?_
      have hw09 : Chg None' w w9 := hw08.since hs9 (fun x hx h => hf0 x hx (.inr h))
      have hall : sub o.bs 0 128 = o.bs := by unfold Go.Proofs.Ytommemplakcaaaa.sub; rw [List.drop_zero, ← hol]; exact List.take_length
      simp only [hall] at ho9
      obtain ⟨g, cap9, cur, rfl, _, _, _, _, hr9⟩ := ho9.rd
      refine Goes.fork hTT rfl rfl rfl (fun h2 => ?_) (fun h2 => ?_)
      · have hne : o.err ≠ 0 := by simpa using h2
        have hno := (useOut_both l u).1 (by rw [← ho]; exact hne)
        rw [← ho] at hno
        refine Goes.yes hTT rfl rfl rfl ?_
        refine Goes.yes hTT rfl (by rw [hno.2]; rfl) rfl ?_
        refine Goes.bstrN hTT (o.bs) rfl rfl (hr9) rfl ?_
        refine Goes.bstrN hTT (l) rfl rfl (hr.chg hw09) rfl ?_
        rw [hno.1]
        refine Goes.streq hTT rfl (rfl) rfl ?_
        exact Goes.ret1 hTT rfl Try.func12 rfl rfl ⟨rfl, hw09⟩
      · have he : o.err = 0 := by simpa using h2
        have hok := (useOut_both l u).2 (by rw [← ho]; exact he)
        rw [← ho] at hok
        unfold wantN at hok
        have hub9 := (hs9.mono (fun b _ hb => Or.inr hb)).heap ((hs8.heap (hs7.heap hub6 (fun h => by have := lt_of_heap hub2; rcases h with h | h; have := hw3.size; omega; rw [hmb] at h; cases h; omega)) (by have := lt_of_heap hub2; omega))) (show ¬ foot A ub from (fun h => by have := lt_of_heap hub2; rcases h with h | h; have := hw3.size; omega; rw [hmb] at h; cases h; omega))
        refine Goes.loadb hTT rfl hub9 rfl rfl ?_
        refine Goes.loadb hTT rfl hub9 rfl rfl ?_
        refine Goes.div hTT rfl (by omega) (rem_ (by omega)) rfl ?_
        refine Goes.fork hTT rfl rfl rfl (fun h3 => ?_) (fun h3 => ?_)
        · have g3 : u.kind % 6 = 1 := by simpa using h3
          refine Goes.loadb hTT rfl hub9 rfl rfl ?_
          refine Goes.loadb hTT rfl hub9 rfl rfl ?_
          refine Goes.div hTT rfl (by omega) (rem_ (by omega)) rfl ?_
          refine Goes.no hTT rfl (decide_eq_false (by omega)) rfl ?_
          refine Goes.yes hTT rfl rfl rfl ?_
          exact Goes.ret1 hTT rfl Try.func12 rfl rfl ⟨bool_v (by rw [hok, if_pos g3]; exact beq_self_eq_true _), hw09⟩
        · have g3 : ¬ u.kind % 6 = 1 := by simpa using h3
          refine Goes.loadb hTT rfl hub9 rfl rfl ?_
          refine Goes.div hTT rfl (by omega) (rem_ (by omega)) rfl ?_
          refine Goes.fork hTT rfl rfl rfl (fun h4 => ?_) (fun h4 => ?_)
          · have g4 : 3 < u.kind % 6 := of_decide_eq_true h4
            refine Goes.yes hTT rfl rfl rfl ?_
            exact Goes.ret1 hTT rfl Try.func12 rfl rfl ⟨bool_v (by rw [hok, if_neg g3, if_pos g4]; rfl), hw09⟩
          · have g4 : ¬ 3 < u.kind % 6 := of_decide_eq_false h4
            refine Goes.yes hTT rfl rfl rfl ?_
            exact Goes.ret1 hTT rfl Try.func12 rfl rfl ⟨bool_v (by rw [hok, if_neg g3, if_neg g4]; exact beq_self_eq_true _), hw09⟩
end Go.Proofs.Ytommemplakcaaaa
