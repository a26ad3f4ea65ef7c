/-
  Layer 5: the meter.
-/
import Derived.Test.YtffimkpllchfcaaPost
import Derived.Test.YtffimkpllchfcaaRule6
namespace Go.Proofs.Ytffimkpllchfcaa
open Go.RowKit

/-- A meter's block. -/
def MeterAt (w : World) (b : Nat) (total lap : Int) : Prop := w.heap[b]? = some (.cells #[.int .i64 total, .int .i64 lap] 83 (0, 0)) ∧ 0 ≤ lap ∧ lap ≤ total ∧ total ≤ 4611686018427387904
def charged (total n : Int) : Int := if n < 1 then total else total + min n (4611686018427387904 - total)
theorem charged_le {total n : Int} (h : 0 ≤ total ∧ total ≤ 4611686018427387904) : total ≤ charged total n ∧ charged total n ≤ 4611686018427387904 := by
  unfold charged; split <;> omega
/-- A meter, or none. -/
abbrev ptr (b : Option Nat) : Value := .pointer (b.map fun b => ⟨b, 0, none⟩)

theorem meter_New (w : World) : Does Try.prog 22 #[] w (fun v w' => v = .pointer (some ⟨w.heap.size, 0, none⟩) ∧ MeterAt w' w.heap.size 0 0 ∧ Chg None' w w' ∧ w'.heap.size = w.heap.size + 1) := by
  refine Does.enter Try.func22 rfl Try.ntmps22 rfl rfl ?_
  refine Goes.adv hTT 400 rfl ?_
  refine Goes.build hTT rfl rfl ?_
  refine Goes.alloc hTT rfl ?_
  intro b w1 e1 hb hw1 hz1
  refine Goes.adv hTT 400 rfl ?_
  subst e1
  exact Goes.ret1 hTT rfl Try.func22 rfl rfl ⟨rfl, ⟨hb, by omega, by omega, by omega⟩, hw1, hz1⟩
theorem meter_Total (b : Nat) (total lap : Int) (w : World) (h : MeterAt w b total lap) : Does Try.prog 25 #[.pointer (some ⟨b, 0, none⟩)] w (Same (.int .i64 total) w) := by
  obtain ⟨hb, _⟩ := h
  refine Does.enter Try.func25 rfl Try.ntmps25 rfl rfl ?_
  refine Goes.adv hTT 400 rfl ?_
  refine Goes.loadb hTT rfl hb rfl rfl ?_
  exact Goes.ret1 hTT rfl Try.func25 rfl rfl ⟨rfl, rfl⟩
theorem meter_room (b : Nat) (total lap : Int) (w : World) (h : MeterAt w b total lap) : Does Try.prog 51 #[.pointer (some ⟨b, 0, none⟩)] w (Same (.int .i64 (4611686018427387904 - total)) w) := by
  obtain ⟨hb, h1, h2, h3⟩ := h
  refine Does.enter Try.func51 rfl Try.ntmps51 rfl rfl ?_
  refine Goes.adv hTT 400 rfl ?_
  refine Goes.loadb hTT rfl hb rfl rfl ?_
  refine Goes.arith hTT rfl (w64 (by omega)) rfl ?_
  exact Goes.ret1 hTT rfl Try.func51 rfl rfl ⟨rfl, rfl⟩
theorem MeterAt.chg {w w' : World} {b : Nat} {total lap : Int} (h : MeterAt w b total lap) (hc : Chg None' w w') : MeterAt w' b total lap := ⟨hc.heap' h.1, h.2⟩
theorem meter_Charge (b : Nat) (total lap n : Int) (w : World) (h : MeterAt w b total lap) : Does Try.prog 32 #[.pointer (some ⟨b, 0, none⟩), .int .i64 n] w (fun _ w' => MeterAt w' b (charged total n) lap ∧ Chg (fun x => x = b) w w') := by
  have h' := h
  obtain ⟨hb, h1, h2, h3⟩ := h
  refine Does.enter Try.func32 rfl Try.ntmps32 rfl rfl ?_
  refine Goes.adv hTT 400 rfl ?_
  refine Goes.fork hTT rfl rfl rfl (fun h0 => ?_) (fun h0 => ?_)
  · exact Goes.ret0 hTT rfl Try.func32 rfl ⟨by unfold charged; rw [if_pos (of_decide_eq_true h0)]; exact h', Chg.refl _ _⟩
  · have h0' := of_decide_eq_false h0
    refine Goes.drawn (q := 9) None' hTT mixed (by kernel_rfl) rfl ?_
    intro hB
    refine Drawn.loadb hTT hB rfl hb (by first | exact fun h => h | (intro h; omega) | assumption) rfl rfl ?_
    refine Drawn.call hTT hB rfl (fun w' hw' => (meter_room b total lap w' ((show MeterAt w b total lap from h').chg hw')).grow) rfl ?_
    refine Drawn.arith hTT hB rfl (w64 (by omega)) rfl ?_
    refine Drawn.nil hB ?_
    intro w1 hw1
    refine Goes.adv hTT 400 rfl ?_
    refine Goes.store hTT rfl (hw1.heap' hb) rfl rfl ?_
    intro w2 hb2 hw2 hz2
    refine Goes.adv hTT 400 rfl ?_
    have e : total + (if 4611686018427387904 - total < n then 4611686018427387904 - total else n) = charged total n := by unfold charged; rw [if_neg h0']; split <;> omega
    rw [e] at hb2
    have := charged_le (n := n) ⟨by omega, h3⟩
    exact Goes.ret0 hTT rfl Try.func32 rfl ⟨⟨hb2, h1, by omega, by omega⟩, (Chg.refl _ w).trans ((hw1.mono (fun _ _ h => h.elim)).trans hw2)⟩
theorem meter_Charge0 (n : Int) (w : World) : Does Try.prog 32 #[.pointer none, .int .i64 n] w (fun _ w' => w = w') := by
  refine Does.enter Try.func32 rfl Try.ntmps32 rfl rfl ?_
  refine Goes.adv hTT 400 rfl ?_
  exact Goes.ret0 hTT rfl Try.func32 rfl rfl
end Go.Proofs.Ytffimkpllchfcaa
