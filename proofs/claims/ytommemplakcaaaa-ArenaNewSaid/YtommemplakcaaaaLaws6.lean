/-
  Layer 6: the statements' own functions answer true.
-/
import Derived.Test.YtommemplakcaaaaRef6
namespace Go.Proofs.Ytommemplakcaaaa
open Go.RowKit

theorem law_ArenaNew (p s : Int) (w : World) : Does Try.prog 3 #[.int .i64 p, .int .i64 s] w (Grow (.bool true) w) := by
  refine Does.enter Try.func3 rfl Try.ntmps3 rfl rfl ?_
  refine Goes.adv hTT 400 rfl ?_
  refine Goes.call rfl (law06_awake w) ?_
  rintro _ w1 ⟨rfl, hw1⟩
  refine Goes.adv hTT 400 rfl ?_
  cases hm : arMay p s with
  | false =>
    refine Goes.call rfl (ref06_New_no p s w1 hm) ?_
    rintro _ w2 ⟨rfl, hw2⟩
    refine Goes.adv hTT 400 rfl ?_
    refine Goes.alloc hTT rfl ?_
    intro b3 w3 e3 hb3 hw3 hz3
    refine Goes.adv hTT 400 rfl ?_
    refine Goes.store hTT rfl hb3 rfl rfl ?_
    intro w4 hb4 hs4 hz4
    refine Goes.adv hTT 400 rfl ?_
    have hc4 : Chg None' w w4 := ((hw1.trans hw2).trans hw3).since hs4 (fun x hx h => by have := hw1.size; have := hw2.size; omega)
    refine Goes.call rfl (arena_New_no none p s w4 hm) ?_
    rintro _ w5 ⟨rfl, hw5⟩
    refine Goes.adv hTT 400 rfl ?_
    refine Goes.yes hTT rfl rfl rfl ?_
    refine Goes.yes hTT rfl rfl rfl ?_
    refine Goes.yes hTT rfl rfl rfl ?_
    exact Goes.ret1 hTT rfl Try.func3 rfl rfl ⟨rfl, hc4.trans hw5⟩
  | true =>
    have g := arMay_iff.1 hm
    have h0 : 0 ≤ p * s := Int.mul_nonneg (by omega) (by omega)
    have h1 : p * s ≤ 1024 * 4096 := Int.mul_le_mul (by omega) (by omega) (by omega) (by omega)
    have hlen : (zeros (p * s).toNat).length = (p * s).toNat := List.length_replicate
    refine Goes.call rfl (ref06_New p s w1 hm) ?_
    rintro _ w2 ⟨b, rfl, hb, hr2, hw2⟩
    refine Goes.adv hTT 400 rfl ?_
    refine Goes.alloc hTT rfl ?_
    intro b3 w3 e3 hb3 hw3 hz3
    refine Goes.adv hTT 400 rfl ?_
    refine Goes.store hTT rfl hb3 rfl rfl ?_
    intro w4 hb4 hs4 hz4
    refine Goes.adv hTT 400 rfl ?_
    have hc4 : Chg None' w w4 := ((hw1.trans hw2).trans hw3).since hs4 (fun x hx h => by have := hw1.size; have := hw2.size; omega)
    refine Goes.call rfl (arena_New none 0 0 p s w4 (fun b hb => by cases hb) hm) ?_
    rintro _ w5 ⟨A, rfl, hmb, ha1, ha2, ha3, hA, hw5⟩
    refine Goes.adv hTT 400 rfl ?_
    refine Goes.no hTT rfl rfl rfl ?_
    refine Goes.quiet mixed (by kernel_rfl) ?_
    refine Quiet.adv hTT rfl ?_
    refine Quiet.yes hTT rfl rfl rfl ?_
    refine Quiet.yes hTT rfl rfl rfl ?_
    refine Quiet.call hTT rfl (fun w' hw' => (arena_Len A _ w' (hA.grow hw')).grow) rfl ?_
    refine Quiet.loadb hTT rfl (hw5.heap' hb4) rfl rfl ?_
    refine Quiet.yes hTT rfl (by simp) rfl ?_
    refine Quiet.call hTT rfl (fun w' hw' => (arena_Len A _ w' (hA.grow hw')).grow) rfl ?_
    refine Quiet.arith hTT rfl (w64 (by omega)) rfl ?_
    refine Quiet.nil ?_
    intro w6 hw6
    refine Goes.adv hTT 400 rfl ?_
    exact Goes.ret1 hTT rfl Try.func3 rfl rfl ⟨bool_v (by simp only [hlen]; simp; omega), (hc4.trans hw5).trans hw6⟩
end Go.Proofs.Ytommemplakcaaaa
