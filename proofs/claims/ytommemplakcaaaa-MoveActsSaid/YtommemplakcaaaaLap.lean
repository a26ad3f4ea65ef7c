/-
  Layer 5: a lap.
-/
import Derived.Test.YtommemplakcaaaaMeter
import Derived.Test.YtommemplakcaaaaRule8
namespace Go.Proofs.Ytommemplakcaaaa
open Go.RowKit

theorem meter_Lap1 (b cb : Nat) (total lap : Int) (w : World) (h : MeterAt w b total lap) (hc : w.heap[cb]? = some (.cells #[.pointer (some ⟨b, 0, none⟩)] 54 (0, 0))) :
    DoesD Try.prog 57 #[.pointer (some ⟨cb, 0, none⟩)] w (fun _ w' => MeterAt w' b total total ∧ Chg (fun x => x = b) w w') := by
  obtain ⟨hb, h1, h2, h3⟩ := h
  refine DoesD.enter Try.func57 rfl Try.ntmps57 rfl rfl ?_
  refine Goes.adv hTT 400 rfl ?_
  refine Goes.drawn (q := 5) None' hTT mixed (by kernel_rfl) rfl ?_
  intro hB
  refine Drawn.load hTT hB rfl (cell_nth (off := 0) hc rfl) (by first | exact fun h => h | (intro h; omega) | assumption) rfl ?_
  refine Drawn.load hTT hB rfl (cell_nth (off := 0) hc rfl) (by first | exact fun h => h | (intro h; omega) | assumption) rfl ?_
  refine Drawn.loadb hTT hB rfl hb (by first | exact fun h => h | (intro h; omega) | assumption) rfl rfl ?_
  refine Drawn.nil hB ?_
  intro w1 hw1
  refine Goes.adv hTT 400 rfl ?_
  refine Goes.store hTT rfl (hw1.heap' hb) rfl rfl ?_
  intro w2 hb2 hs2 hz2
  refine Goes.adv hTT 400 rfl ?_
  exact Goes.ret0 hTT rfl Try.func57 rfl ⟨⟨hb2, by omega, by omega, h3⟩, (hw1.mono fun _ _ h => h.elim).trans hs2⟩
theorem meter_Lap (b : Nat) (total lap : Int) (w : World) (h : MeterAt w b total lap) : Does Try.prog 38 #[.pointer (some ⟨b, 0, none⟩)] w (fun v w' => v = .int .i64 (total - lap) ∧ MeterAt w' b total total ∧ Chg (fun x => x = b) w w') := by
  have h' := h
  obtain ⟨hb, h1, h2, h3⟩ := h
  refine Does.enter Try.func38 rfl Try.ntmps38 rfl rfl ?_
  refine Goes.adv hTT 400 rfl ?_
  refine Goes.alloc hTT rfl ?_
  intro cb w1 e1 hcb hw1 hz1
  refine Goes.adv hTT 400 rfl ?_
  refine Goes.loadb hTT rfl hcb rfl rfl ?_
  refine Goes.defer rfl ?_
  refine Goes.adv hTT 400 rfl ?_
  refine Goes.quiet mixed (by kernel_rfl) ?_
  refine Quiet.adv hTT rfl ?_
  refine Quiet.loadb hTT rfl hcb rfl rfl ?_
  refine Quiet.loadb hTT rfl (hw1.heap' hb) rfl rfl ?_
  refine Quiet.loadb hTT rfl hcb rfl rfl ?_
  refine Quiet.loadb hTT rfl (hw1.heap' hb) rfl rfl ?_
  refine Quiet.arith hTT rfl (w64 (by omega)) rfl ?_
  refine Quiet.nil ?_
  intro w2 hw2
  refine Goes.adv hTT 400 rfl ?_
  have hd := meter_Lap1 b cb total lap w2 ((h'.chg hw1).chg hw2) (hw2.heap' hcb)
  refine Goes.ret1D hTT rfl Try.func38 rfl rfl rfl (invoke_dfr (args := []) (captured := [.pointer (some ⟨cb, 0, none⟩)]) hd.fn) ⟨hd.fn, ?_⟩
  have hc := hd.calls
  intro c cs hu
  obtain ⟨en, u', w', fr, ⟨h7, v, h8, h9, h10⟩, hrest⟩ := hc c cs hu
  exact ⟨en, u', w', fr, ⟨h7, v, h8, rfl, h9, ((hw1.trans hw2).mono fun _ _ h => h.elim).trans h10⟩, hrest⟩
end Go.Proofs.Ytommemplakcaaaa
