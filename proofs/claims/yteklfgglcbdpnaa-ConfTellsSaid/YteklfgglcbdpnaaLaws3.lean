/-
  Layer 3: the statements' own functions answer true.
-/
import Derived.Test.YteklfgglcbdpnaaRef3
namespace Go.Proofs.Yteklfgglcbdpnaa
open Go.RowKit

theorem law_ConfMay (c : Conf) (p : ConfAt) (w : World) (hc : ConfOk w c p) : Does Try.prog 3 #[.agg (confL c p).toArray] w (Grow (.bool true) w) := by
  refine Does.enter Try.func3 rfl Try.ntmps3 rfl rfl ?_
  refine Goes.adv hTT 400 rfl ?_
  refine Goes.alloc hTT rfl ?_
  intro b w1 e1 hb hw1 hz1
  refine Goes.adv hTT 400 rfl ?_
  refine Goes.call rfl (law03_awake w1) ?_
  rintro _ w2 ⟨rfl, hw2⟩
  refine Goes.adv hTT 400 rfl ?_
  refine Goes.loads hTT rfl (hw2.heap' hb) rfl rfl ?_
  refine Goes.call rfl (law03_few c p w2) ?_
  rintro _ w3 ⟨rfl, hw3⟩
  refine Goes.adv hTT 400 rfl ?_
  have hw13 := (hw1.trans hw2).trans hw3
  refine Goes.fork hTT rfl rfl rfl (fun h => ?_) (fun h => ?_)
  · exact Goes.ret1 hTT rfl Try.func3 rfl rfl ⟨rfl, hw13⟩
  · refine Goes.quiet mixed (by kernel_rfl) ?_
    refine Quiet.adv hTT rfl ?_
    refine Quiet.yes hTT rfl rfl rfl ?_
    refine Quiet.loads hTT rfl (hw3.heap' (hw2.heap' hb)) rfl rfl ?_
    refine Quiet.call hTT rfl (fun w' hw' => conf_May c p w' ((hc.chg hw13).chg hw')) rfl ?_
    refine Quiet.loads hTT rfl (hw3.heap' (hw2.heap' hb)) rfl rfl ?_
    refine Quiet.call hTT rfl (fun w' hw' => ref03_May c p w' ((hc.chg hw13).chg hw')) rfl ?_
    refine Quiet.nil ?_
    intro w4 hw4
    refine Goes.adv hTT 400 rfl ?_
    exact Goes.ret1 hTT rfl Try.func3 rfl rfl ⟨bool_v (by simp), hw13.trans hw4⟩
theorem law_ConfTells (c : Conf) (p : ConfAt) (k : Int) (w : World) (hc : ConfOk w c p) : Does Try.prog 4 #[.agg (confL c p).toArray, .int .i64 k] w (Grow (.bool true) w) := by
  refine Does.enter Try.func4 rfl Try.ntmps4 rfl rfl ?_
  refine Goes.adv hTT 400 rfl ?_
  refine Goes.alloc hTT rfl ?_
  intro b w1 e1 hb hw1 hz1
  refine Goes.adv hTT 400 rfl ?_
  refine Goes.call rfl (law03_awake w1) ?_
  rintro _ w2 ⟨rfl, hw2⟩
  refine Goes.adv hTT 400 rfl ?_
  refine Goes.loads hTT rfl (hw2.heap' hb) rfl rfl ?_
  refine Goes.call rfl (law03_few c p w2) ?_
  rintro _ w3 ⟨rfl, hw3⟩
  refine Goes.adv hTT 400 rfl ?_
  have hw13 := (hw1.trans hw2).trans hw3
  refine Goes.fork hTT rfl rfl rfl (fun h => ?_) (fun h => ?_)
  · exact Goes.ret1 hTT rfl Try.func4 rfl rfl ⟨rfl, hw13⟩
  · have hb3 := hw3.heap' (hw2.heap' hb)
    refine Goes.quiet mixed (by kernel_rfl) ?_
    refine Quiet.adv hTT rfl ?_
    refine Quiet.yes hTT rfl rfl rfl ?_
    refine Quiet.loads hTT rfl hb3 rfl rfl ?_
    refine Quiet.call hTT rfl (fun w' hw' => conf_Blocks c p k w' ((hc.chg hw13).chg hw')) rfl ?_
    refine Quiet.loads hTT rfl hb3 rfl rfl ?_
    refine Quiet.call hTT rfl (fun w' hw' => ref03_Blocks c p k w' ((hc.chg hw13).chg hw')) rfl ?_
    refine Quiet.yes hTT rfl (by simp) rfl ?_
    refine Quiet.loads hTT rfl hb3 rfl rfl ?_
    refine Quiet.call hTT rfl (fun w' hw' => conf_Small c p w' ((hc.chg hw13).chg hw')) rfl ?_
    refine Quiet.loads hTT rfl hb3 rfl rfl ?_
    refine Quiet.call hTT rfl (fun w' hw' => ref03_Small c p w' ((hc.chg hw13).chg hw')) rfl ?_
    refine Quiet.yes hTT rfl (by simp) rfl ?_
    refine Quiet.loads hTT rfl hb3 rfl rfl ?_
    refine Quiet.call hTT rfl (fun w' hw' => conf_Large c p w') rfl ?_
    refine Quiet.loads hTT rfl hb3 rfl rfl ?_
    refine Quiet.call hTT rfl (fun w' hw' => ref03_Large c p w') rfl ?_
    refine Quiet.nil ?_
    intro w4 hw4
    refine Goes.adv hTT 400 rfl ?_
    exact Goes.ret1 hTT rfl Try.func4 rfl rfl ⟨bool_v (by simp), hw13.trans hw4⟩
end Go.Proofs.Yteklfgglcbdpnaa
