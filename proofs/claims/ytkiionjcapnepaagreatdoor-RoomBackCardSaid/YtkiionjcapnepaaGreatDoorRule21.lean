/-
  A call and a new variable, in either order: what the call leaves has nothing of the variable.
-/
import Derived.Test.YtkiionjcapnepaaGreatDoorRule9
namespace Go.Proofs.YtkiionjcapnepaaGreatDoor
open Go.RowKit
section
variable {P : Program} {T : Tab} {ops : Array Oper} {f : FuncId} {R : Aim} {k : List Item} {q n : Nat} {ds : List Deferred} {s s' : List Item} {w w0 : World} {e e' : Env} {U : List Nat} {S : Nat → Prop}
theorem Drawn.callAllocG {β : Type} (F : β → Value) (Q : β → World → Prop) (G : β → Nat → Prop) (hT : TabOk P T) (hB : drawB ops q = true) {i j ic ia fk dc da t : Nat} {as l : List Value} {U2 U3 : List Nat} {e2 : β → Env} {e3 : Nat → β → Env} (hU : freeL ops q U U = [i, j]) (hp : callFirst ops i j = (ic, ia))
    (hc : atTurn (callOf e) n ops e ic = some ((fk, as), dc)) (hc' : ∀ b, atTurn (callOf ((da, false, .pointer (some ⟨b, 0, none⟩)) :: e)) n ops ((da, false, .pointer (some ⟨b, 0, none⟩)) :: e) ic = some ((fk, as), dc))
    (ha : atTurn (allocOf T e) n ops e ia = some ((l, t), da)) (had : ∀ x, advD T n ops q (rmN ic U) (rmN ic U) ((dc, false, F x) :: e) = (U2, e2 x))
    (ha' : ∀ x, atTurn (allocOf T (e2 x)) n ops (e2 x) ia = some ((l, t), da)) (hfa : freeL ops q U2 U2 = [ia]) (hfc : freeL ops q (rmN ia U) (rmN ia U) = [ic])
    (had' : ∀ b x, advD T n ops q (rmN ic (rmN ia U)) (rmN ic (rmN ia U)) ((dc, false, F x) :: (da, false, .pointer (some ⟨b, 0, none⟩)) :: e) = (U3, e3 b x)) (h23 : rmN ia U2 = U3) (hsub : ∀ b x, lhsE [] ((da, false, .pointer (some ⟨b, 0, none⟩)) :: e2 x) (e3 b x) = rhsE [] ((da, false, .pointer (some ⟨b, 0, none⟩)) :: e2 x))
    (hd : ∀ w', Chg None' w w' → Does P fk as.toArray w' (fun v w2 => Chg S w' w2 ∧ ∃ x, v = F x ∧ Q x w2 ∧ ∀ b, w.heap.size ≤ b → (b < w'.heap.size ∨ w2.heap.size ≤ b) → G x b)) (hQ : ∀ x w2 w3, Q x w2 → Chg None' w2 w3 → Q x w3) (hS : ∀ b, S b → b < w.heap.size)
    (hg : ∀ b x w1, w.heap.size ≤ b → w1.heap[b]? = some (.cells l.toArray t (0, 0)) → Chg S w w1 → Q x w1 → G x b → Drawn P f R n ds k ops q S U3 ((da, false, .pointer (some ⟨b, 0, none⟩)) :: e2 x) w0 w1) : Drawn P f R n ds k ops q S U e w0 w := by
  have hk := (hd w (Chg.refl _ _)).fn
  have hij : (i = ic ∧ j = ia) ∨ (i = ia ∧ j = ic) := by
    rcases callFirst_or ops i j with h | h <;> rw [hp] at h <;> simp only [Prod.mk.injEq] at h
    · exact .inl ⟨h.1.symm, h.2.symm⟩
    · exact .inr ⟨h.2.symm, h.1.symm⟩
  have hcall : ∀ w', Chg None' w w' → Turn P f R n ds k ops q S U ic e w0 w' := fun w' hw' => by
    refine Turn.call (Post := fun v w2 => Chg S w w2 ∧ ∃ x, v = F x ∧ Q x w2 ∧ ∀ b, w.heap.size ≤ b → (b < w'.heap.size ∨ w2.heap.size ≤ b) → G x b) hc hk (fun h0 => (hd w' hw').mono fun v w2 ⟨g1, g2⟩ => ⟨h0.trans g1, (hw'.mono fun _ _ h => h.elim).trans g1, g2⟩) fun v w1 _ ⟨hc1, x, hv, hq1, hG⟩ => ?_
    subst hv
    refine Drawn.adv hT hB (had x) ?_
    refine Drawn.turn1 hB hfa fun w2 hw2 => ?_
    refine Turn.alloc0 hT (ha' x) fun b w3 hb hz hw3 _ => ?_
    rw [h23]
    have hc2 := hc1.up hw2
    exact hg b x w3 (by rw [hb]; exact hc2.size) hz (hc2.up hw3) (hQ _ _ _ hq1 (hw2.trans hw3)) (hG b (by rw [hb]; exact hc2.size) (.inr (by rw [hb]; exact hw2.size)))
  have halloc : ∀ w', Chg None' w w' → Turn P f R n ds k ops q S U ia e w0 w' := fun w' hw' => by
    refine Turn.alloc0 hT ha fun b w1 hb hz hw1 _ => ?_
    refine Drawn.turn1 hB hfc fun w2 hw2 => ?_
    refine Turn.call (Post := fun v w3 => Chg S w w3 ∧ (∃ x, v = F x ∧ Q x w3 ∧ G x b) ∧ w3.heap[b]? = some (.cells l.toArray t (0, 0))) (hc' b) hk (fun h0 => (hd w2 ((hw'.trans hw1).trans hw2)).mono fun v w3 ⟨g1, x, g2, g4, g5⟩ =>
      ⟨h0.trans g1, (((hw'.trans hw1).trans hw2).mono fun _ _ h => h.elim).trans g1, ⟨x, g2, g4, g5 b (by rw [hb]; exact hw'.size) (.inl (by have := lt_of_heap (hw2.heap' hz); exact this))⟩, g1.heap (hw2.heap' hz) (fun hs => by have := hS b hs; have := hw'.size; omega)⟩) fun v w3 _ ⟨g1, ⟨x, hv, g2, g4⟩, g3⟩ => ?_
    subst hv
    refine Drawn.adv hT hB (had' b x) ?_
    exact Drawn.subst (hsub b x) (hg b x w3 (by rw [hb]; exact hw'.size) g3 g1 g2 g4)
  refine Drawn.turn2 hB hU ?_ ?_
  · intro w' hw'
    rcases hij with ⟨rfl, rfl⟩ | ⟨rfl, rfl⟩
    · exact hcall w' hw'
    · exact halloc w' hw'
  · intro w' hw'
    rcases hij with ⟨rfl, rfl⟩ | ⟨rfl, rfl⟩
    · exact halloc w' hw'
    · exact hcall w' hw'
end
end Go.Proofs.YtkiionjcapnepaaGreatDoor
