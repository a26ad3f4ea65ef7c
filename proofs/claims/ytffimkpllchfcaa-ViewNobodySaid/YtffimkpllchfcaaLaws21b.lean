/-
  Layer 21: of a view that is nil nothing is told.
-/
import Derived.Test.YtffimkpllchfcaaLaws21
namespace Go.Proofs.Ytffimkpllchfcaa
open Go.RowKit

theorem law_ViewNobody (q : Plc) (at' : Int) (w : World) : Does Try.prog 7 #[.agg (plL q).toArray, .int .i64 at'] w (Grow (.bool true) w) := by
  refine Does.enter Try.func7 rfl Try.ntmps7 rfl rfl ?_
  refine Goes.adv hTT 400 rfl ?_
  refine Goes.alloc hTT rfl ?_
  intro qb w1 e1 hqb hw1 hz1
  refine Goes.adv hTT 400 rfl ?_
  replace hqb : plcBox w1 qb q := hqb
  refine Goes.call rfl (law21_awake w1) ?_
  rintro _ w2 ⟨rfl, hw2⟩
  refine Goes.adv hTT 400 rfl ?_
  have h2 := hw1.trans hw2
  refine Goes.loads hTT rfl (hw2.heap' hqb) rfl rfl ?_
  refine Goes.call rfl (view_Read_nil q at' 0 w2) ?_
  rintro _ w3 ⟨rfl, hw3⟩
  refine Goes.adv hTT 400 rfl ?_
  have h3 := hw2.trans hw3
  refine Goes.yes hTT rfl rfl rfl ?_
  refine Goes.yes hTT rfl rfl rfl ?_
  refine Goes.loads hTT rfl (h3.heap' hqb) rfl rfl ?_
  refine Goes.call rfl (view_Holds_nil q w3) ?_
  rintro _ w4 ⟨rfl, hw4⟩
  refine Goes.adv hTT 400 rfl ?_
  have h4 := h3.trans hw4
  refine Goes.yes hTT rfl rfl rfl ?_
  refine Goes.loads hTT rfl (h4.heap' hqb) rfl rfl ?_
  refine Goes.call rfl (view_At_nil q w4) ?_
  rintro _ w5 ⟨rfl, hw5⟩
  refine Goes.adv hTT 400 rfl ?_
  have h5 := h4.trans hw5
  refine Goes.yes hTT rfl rfl rfl ?_
  refine Goes.loads hTT rfl (h5.heap' hqb) rfl rfl ?_
  refine Goes.call rfl (view_Write_nil q at' none 0 0 w5) ?_
  rintro _ w6 ⟨rfl, hw6⟩
  refine Goes.adv hTT 400 rfl ?_
  have h6 := h5.trans hw6
  refine Goes.yes hTT rfl rfl rfl ?_
  refine Goes.loads hTT rfl (h6.heap' hqb) rfl rfl ?_
  refine Goes.call rfl (view_Zero_nil q at' 0 w6) ?_
  rintro _ w7 ⟨rfl, hw7⟩
  refine Goes.adv hTT 400 rfl ?_
  exact Goes.ret1 hTT rfl Try.func7 rfl rfl ⟨rfl, hw1.trans (h6.trans hw7)⟩
end Go.Proofs.Ytffimkpllchfcaa
