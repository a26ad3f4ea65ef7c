/-
  != of two structs.
-/
import Derived.Test.YtkiionjcapnepaaGreatDoorRule15
namespace Go.Proofs.YtkiionjcapnepaaGreatDoor
open Go.RowKit
section
variable {P : Program} {T : Tab} {ops : Array Oper} {f : FuncId} {R : Aim} {k : List Item} {n q : Nat} {ds : List Deferred} {s s' : List Item} {w w0 : World} {e : Env} {U : List Nat} {S : Nat → Prop}
def aggneOf (e : Env) (o : Oper) : Option (TypeId × Array Value × Array Value) :=
  match o.op with
  | .binOp .neq t x y _ => match ev e x, ev e y with
    | some (.agg a), some (.agg b) => some (t, a, b)
    | _, _ => none
  | _ => none
theorem aggneOf_run {t : TypeId} {a b : Array Value} {r : Bool} {o : Oper} (h : aggneOf e o = some (t, a, b)) (hg : P.eqGuardType P.depth t = false) (hq : (Op.equalIn 10000 t (.agg a) (.agg b)).run P w = .ok r w) (act : Act) (hf : Fits n act e) : (execOp act.eval o).run P w = .ok (.value (.bool (!r))) w := by
  unfold aggneOf at h
  split at h
  · rename_i t1 x y t' hop
    split at h
    · rename_i a1 b1 hx hy
      cases h
      simp only [execOp, hop, hf.ev hx, hf.ev hy]
      refine (run_bind_ok (x := (.bool (!r) : Value)) (w' := w) ?_).trans rfl
      refine (run_bind_ok (run_eqGuard_agg w _ _ _ _ _ _ hg)).trans ?_
      rw [run_neq_struct, hq]
      rfl
    · cases h
  · cases h
theorem Goes.aggne (hT : TabOk P T) {t : TypeId} {a b : Array Value} {r : Bool} {d : Nat} {s2 : List Item} {e2 : Env} (h : atHead (aggneOf e) n s e = some ((t, a, b), d, s')) (hg : P.eqGuardType P.depth t = false) (hq : (Op.equalIn 10000 t (.agg a) (.agg b)).run P w = .ok r w)
    (ha : Go.Proofs.YtkiionjcapnepaaGreatDoor.adv T n 400 s' ((d, false, .bool (!r)) :: e) = (s2, e2)) (hG : Goes P f R n ds s2 e2 w) : Goes P f R n ds s e w :=
  Goes.val h (fun _ ho a hf => aggneOf_run ho hg hq a hf) (Goes.adv hT 400 ha hG)
theorem Drawn.aggne (hT : TabOk P T) (hB : drawB ops q = true) {t : TypeId} {a b : Array Value} {r : Bool} {d i : Nat} {U2 : List Nat} {e2 : Env} (h : findD (aggneOf e) n ops q U e U = some ((t, a, b), d, i)) (hg : P.eqGuardType P.depth t = false) (hq : ∀ w', (Op.equalIn 10000 t (.agg a) (.agg b)).run P w' = .ok r w')
    (ha : advD T n ops q (rmN i U) (rmN i U) ((d, false, .bool (!r)) :: e) = (U2, e2)) (hG : Drawn P f R n ds k ops q S U2 e2 w0 w) : Drawn P f R n ds k ops q S U e w0 w :=
  Drawn.val hT hB h (fun _ ho a w' _ hf => aggneOf_run ho hg (hq w') a hf) ha hG
end
end Go.Proofs.YtkiionjcapnepaaGreatDoor
