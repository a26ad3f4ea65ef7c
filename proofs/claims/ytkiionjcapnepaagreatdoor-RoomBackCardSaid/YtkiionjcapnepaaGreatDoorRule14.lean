/-
  == of two structs.
-/
import Derived.Test.YtkiionjcapnepaaGreatDoorRule13
import Derived.Laws.StructEq
namespace Go.Proofs.YtkiionjcapnepaaGreatDoor
open Go.RowKit
section
variable {P : Program} {T : Tab} {ops : Array Oper} {f : FuncId} {R : Aim} {k : List Item} {n : Nat} {ds : List Deferred} {s s' : List Item} {w : World} {e : Env}
def aggeqOf (e : Env) (o : Oper) : Option (TypeId × Array Value × Array Value) :=
  match o.op with
  | .binOp .eql t x y _ => match ev e x, ev e y with
    | some (.agg a), some (.agg b) => some (t, a, b)
    | _, _ => none
  | _ => none
theorem aggeqOf_run {t : TypeId} {a b : Array Value} {r : Bool} {o : Oper} (h : aggeqOf e o = some (t, a, b)) (hg : P.eqGuardType P.depth t = false) (hq : (Op.equalIn 10000 t (.agg a) (.agg b)).run P w = .ok r w) (act : Act) (hf : Fits n act e) : (execOp act.eval o).run P w = .ok (.value (.bool r)) w := by
  unfold aggeqOf at h
  split at h
  · rename_i t1 x y t' hop
    split at h
    · rename_i a1 b1 hx hy
      cases h
      simp only [execOp, hop, hf.ev hx, hf.ev hy]
      refine (run_bind_ok (x := (.bool r : Value)) (w' := w) ?_).trans rfl
      refine (run_bind_ok (run_eqGuard_agg w _ _ _ _ _ _ hg)).trans ?_
      rw [run_eql_struct, hq]
      rfl
    · cases h
  · cases h
theorem Goes.aggeq (hT : TabOk P T) {t : TypeId} {a b : Array Value} {r : Bool} {d : Nat} {s2 : List Item} {e2 : Env} (h : atHead (aggeqOf e) n s e = some ((t, a, b), d, s')) (hg : P.eqGuardType P.depth t = false) (hq : (Op.equalIn 10000 t (.agg a) (.agg b)).run P w = .ok r w)
    (ha : Go.Proofs.YtkiionjcapnepaaGreatDoor.adv T n 400 s' ((d, false, .bool r) :: e) = (s2, e2)) (hG : Goes P f R n ds s2 e2 w) : Goes P f R n ds s e w :=
  Goes.val h (fun _ ho a hf => aggeqOf_run ho hg hq a hf) (Goes.adv hT 400 ha hG)
end
end Go.Proofs.YtkiionjcapnepaaGreatDoor
