/-
  Layer 6: what was told is the caller's own.
-/
import Derived.Test.YtommemplakcaaaaLaws6b
namespace Go.Proofs.Ytommemplakcaaaa
open Go.RowKit

theorem law_ArenaOwn (a : Option Addr) (cap : Nat) (l : List Int) (t : Int) (w : World) (hr : Rd .u8 w a l) (hb : InB l) (ht : 0 ≤ t ∧ t < 256) :
    Does Try.prog 9 #[.slice a l.length cap, .int .u8 t] w (Grow (.bool true) w) := by
  refine Does.enter Try.func9 rfl Try.ntmps9 rfl rfl ?_
  refine Goes.adv hTT 400 rfl ?_
  refine Goes.call rfl (law06_awake w) ?_
  rintro _ w2 ⟨rfl, hw02⟩
  refine Goes.adv hTT 400 rfl ?_
  refine Goes.fork hTT rfl rfl rfl (fun h0 => ?_) (fun h0 => ?_)
  · exact Goes.ret1 hTT rfl Try.func9 rfl rfl ⟨rfl, hw02⟩
  · have hlen : l.length = 64 := by simp at h0; omega
    obtain ⟨k, hk⟩ := Int.eq_ofNat_of_zero_le (show 0 ≤ t % 64 by omega)
    have hk64 : k < 64 := by omega
    refine Goes.call rfl (arena_New none 0 0 1 64 w2 (fun b hb => by cases hb) (by decide)) ?_
    rintro _ w3 ⟨A, rfl, hmb, ha1, ha2, ha3, hA3, hw3⟩
    refine Goes.adv hTT 400 rfl ?_
    have hf := foot_new (w := w) (A := A) (by have := hw02.size; omega) (fun b hb => by rw [hmb] at hb; cases hb)
    have hw03 := hw02.trans hw3
    have hz : (zeros (1 * 64 : Int).toNat).length = 64 := rfl
    refine Goes.call rfl (arena_Write A _ 0 a cap l w3 hA3 (hr.chg hw03) hb (by simp only; omega)) ?_
    rintro _ w4 ⟨rfl, hA4, hs4⟩
    refine Goes.adv hTT 400 rfl ?_
    have hw04 : Chg None' w w4 := hw03.since hs4 (fun x hx h => hf x hx h)
    rw [ArV.charge_none hmb] at hA4
    have hA4' : ArOk w4 A ⟨l, 0, 0⟩ := by
      have h := hA4
      simp only [wrB_full (show (zeros (1 * 64 : Int).toNat).length = l.length by rw [hz, hlen])] at h
      exact h
    refine Goes.call rfl (arena_Read A _ 0 64 w4 hA4' (by simp only; omega)) ?_
    rintro _ w6 ⟨v6, rfl, ho6, hA6, hs6⟩
    refine Goes.adv hTT 400 rfl ?_
    have hw06 : Chg None' w w6 := hw04.since hs6 (fun x hx h => hf x hx (.inr h))
    rw [ArV.charge_none hmb] at hA6
    have hall : sub l 0 64 = l := by unfold Go.Proofs.Ytommemplakcaaaa.sub; rw [List.drop_zero, ← hlen]; exact List.take_length
    simp only [hall] at ho6
    obtain ⟨g, cap6, cur, rfl, hg1, hg2, hg3, hg4, hr6⟩ := ho6.rd
    obtain ⟨g6, off6, e6, hc6⟩ := hr6.at (by omega)
    cases e6
    refine Goes.arith hTT rfl (w64 (by omega)) rfl ?_
    refine Goes.div hTT rfl (by omega) (rem_ (by omega)) rfl ?_
    rw [hk]
    refine Goes.no hTT rfl (by simp; omega) rfl ?_
    refine Goes.index hTT rfl (j := k) (by omega) (by omega) (by first | rfl | omega | (simp; done) | (simp; omega)) rfl ?_
    refine Goes.load hTT rfl (hc6 k (by omega)) rfl ?_
    refine Goes.arith hTT rfl rfl rfl ?_
    refine Goes.index hTT rfl (j := k) (by omega) (by omega) (by first | rfl | omega | (simp; done) | (simp; omega)) rfl ?_
    have hcl : 64 ≤ cur.toList.length := by
      have h := congrArg List.length hg4
      rw [List.length_take, List.length_map] at h
      omega
    refine Goes.store hTT rfl (show w6.heap[g]? = some (.cells cur.toList.toArray 5 (0, 0)) from hg2) (setV_one _ _ _ (by omega)) rfl ?_
    intro w7 hd7 hs7 hz7
    refine Goes.adv hTT 400 rfl ?_
    have hlt : ∀ b, b = A.ab ∨ b = A.db ∨ b = A.mc ∨ A.mb = some b → ¬ b = g := by
      intro b hb' he
      subst he
      have h1 := lt_of_heap hA4'.obj
      have h2 := lt_of_heap hA4'.dat
      have h3 := lt_of_heap hA4'.cap
      rcases hb' with h | h | h | h
      · omega
      · omega
      · omega
      · rw [hmb] at h; cases h
    have hA7 := hA6.chg hs7 hlt
    have hw07 : Chg None' w w7 := hw06.since hs7 (fun x hx h => by have := hw04.size; omega)
    refine Goes.call rfl (arena_Read A _ 0 64 w7 hA7 (by simp only; omega)) ?_
    rintro _ w8 ⟨v8, rfl, ho8, hA8, hs8⟩
    refine Goes.adv hTT 400 rfl ?_
    have hw08 : Chg None' w w8 := hw07.since hs8 (fun x hx h => hf x hx (.inr h))
    simp only [hall] at ho8
    obtain ⟨g8, cap8, cur8, rfl, _, _, _, _, hr8⟩ := ho8.rd
    obtain ⟨b1, off1, rfl, _⟩ := (hr.chg hw08).at (by omega)
    refine Goes.call rfl (arena_Read_nil 0 0 w8) ?_
    rintro _ _ ⟨rfl, rfl⟩
    refine Goes.adv hTT 400 rfl ?_
    refine Goes.call rfl (arena_Load_nil 0 w8) ?_
    rintro _ _ ⟨rfl, rfl⟩
    refine Goes.adv hTT 400 rfl ?_
    refine Goes.yes hTT rfl rfl rfl ?_
    refine Goes.yes hTT rfl rfl rfl ?_
    refine Goes.yes hTT rfl rfl rfl ?_
    refine Goes.bstr hTT l rfl rfl hr8 rfl ?_
    refine Goes.bstr hTT l rfl rfl (hr.chg hw08) rfl ?_
    refine Goes.streq hTT rfl rfl rfl ?_
    refine Goes.call rfl (arena_Len_nil w8) ?_
    rintro _ _ ⟨rfl, rfl⟩
    refine Goes.adv hTT 400 rfl ?_
    refine Goes.yes hTT rfl rfl rfl ?_
    refine Goes.yes hTT rfl rfl rfl ?_
    refine Goes.yes hTT rfl rfl rfl ?_
    refine Goes.call rfl (arena_Write_nil 0 none 0 0 w8) ?_
    rintro _ _ ⟨rfl, rfl⟩
    refine Goes.adv hTT 400 rfl ?_
    refine Goes.yes hTT rfl rfl rfl ?_
    refine Goes.call rfl (arena_Fill_nil 0 0 0 w8) ?_
    rintro _ _ ⟨rfl, rfl⟩
    refine Goes.adv hTT 400 rfl ?_
    refine Goes.yes hTT rfl rfl rfl ?_
    refine Goes.call rfl (arena_Copy_nil 0 0 0 w8) ?_
    rintro _ _ ⟨rfl, rfl⟩
    refine Goes.adv hTT 400 rfl ?_
    refine Goes.yes hTT rfl rfl rfl ?_
    refine Goes.call rfl (arena_Store_nil 0 0 w8) ?_
    rintro _ _ ⟨rfl, rfl⟩
    refine Goes.adv hTT 400 rfl ?_
    exact Goes.ret1 hTT rfl Try.func9 rfl rfl ⟨rfl, hw08⟩
end Go.Proofs.Ytommemplakcaaaa
