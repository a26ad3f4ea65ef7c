/-
  No cell of these rows narrows 'for every input' (looked for: loops, veiled, ifaces, maps, wideKeys, modest, calm, conditions, laid).
  DERIVED. THE GIVEN ROWS OF THIS SEAT. 10 by the template 'for every input the law returns true; each argument reads behind the call as it read before'; 0 by the template 'total and deterministic' (their statements: YtommemplakcaaaaTotals.lean).
  GIVEN WITH THE SEED: the statements are not yours to turn. If you find one false, say at which input.
  Laid BY PROGRAM, IN A SANDBOX (cutbox-rows.mjs): the forced cells as the released guide's own fill.sh prints them over the translation 4dbd604ecd4fd42a… (all of the seat's roots in one cut). By AI agents, Wed Nov 11 2026. No macro, syntax, notation, axiom, sorry.
-/
import Derived.Test.YtommemplakcaaaaChecked
import GoSem.Claim
import GoSem.ClaimJoined
import GoSem.ClaimMapViews
import Derived.JoinedTies
import Derived.KernelRfl
namespace Go.Proofs.Ytommemplakcaaaa
/- THE CELL 'sum', in the pinned program and in every row, IS THE sha256 OF THE DUMP (.gsa) THAT YtommemplakcaaaaProg.lean LOADS. Nothing in Lean hashes anything: it is a label: what it is worth is what the hold of that sum in a sandbox is worth. -/
noncomputable def Try.pinned : Pinned := { name := "ytommemplakcaaaa", sum := "4dbd604ecd4fd42ae12ab262aecca8882c3add7a9298623688bd4b5b19b3a296", checked := Try.checked }
namespace Rows
def none {H : Type} : Left H := { results := [], args := [] }

/-- 'almerylaw06.ArenaNew': WHATEVER THE INPUT: true; the input reads as it did. -/
def arenaNewSpec : ChangeSpec := { name := "arenaNew", fn := fun _ => fun
  | [d1, d2] => { results := [.lit (.bool true)], args := [d1, d2] }
  | _ => none }
def arenaNewRow : OpenClaim := { program := "ytommemplakcaaaa", sum := "4dbd604ecd4fd42ae12ab262aecca8882c3add7a9298623688bd4b5b19b3a296", func := "almery/almerylaw06.ArenaNew", spec := "arenaNew", unfollowed := true, recurses := true, apart := false }
def ArenaNewSaid : Prop := arenaNewRow.holds Try.pinned (OpenSpec.ofChange arenaNewSpec)

/-- ITS FALSE NEIGHBOUR: 'it returns false'. Refute it at one input. -/
def arenaNewWrong : ChangeSpec := { name := "arenaNew", fn := fun _ => fun
  | [d1, d2] => { results := [.lit (.bool false)], args := [d1, d2] }
  | _ => none }
def ArenaNewWrongFalsely : Prop := arenaNewRow.holds Try.pinned (OpenSpec.ofChange arenaNewWrong)

/-- 'almerylaw06.ArenaCopies': WHATEVER THE INPUT: true; the input reads as it did. -/
def arenaCopiesSpec : ChangeSpec := { name := "arenaCopies", fn := fun _ => fun
  | [d1, d2, d3] => { results := [.lit (.bool true)], args := [d1, d2, d3] }
  | _ => none }
def arenaCopiesRow : OpenClaim := { program := "ytommemplakcaaaa", sum := "4dbd604ecd4fd42ae12ab262aecca8882c3add7a9298623688bd4b5b19b3a296", func := "almery/almerylaw06.ArenaCopies", spec := "arenaCopies", unfollowed := true, recurses := true, apart := false }
def ArenaCopiesSaid : Prop := arenaCopiesRow.holds Try.pinned (OpenSpec.ofChange arenaCopiesSpec)

/-- ITS FALSE NEIGHBOUR: 'it returns false'. Refute it at one input. -/
def arenaCopiesWrong : ChangeSpec := { name := "arenaCopies", fn := fun _ => fun
  | [d1, d2, d3] => { results := [.lit (.bool false)], args := [d1, d2, d3] }
  | _ => none }
def ArenaCopiesWrongFalsely : Prop := arenaCopiesRow.holds Try.pinned (OpenSpec.ofChange arenaCopiesWrong)

/-- 'almerylaw15.MoveAlike': WHATEVER THE INPUT: true; the input reads as it did. -/
def moveAlikeSpec : ChangeSpec := { name := "moveAlike", fn := fun _ => fun
  | [d1, d2, d3] => { results := [.lit (.bool true)], args := [d1, d2, d3] }
  | _ => none }
def moveAlikeRow : OpenClaim := { program := "ytommemplakcaaaa", sum := "4dbd604ecd4fd42ae12ab262aecca8882c3add7a9298623688bd4b5b19b3a296", func := "almery/almerylaw15.MoveAlike", spec := "moveAlike", unfollowed := true, recurses := true, apart := false }
def MoveAlikeSaid : Prop := moveAlikeRow.holds Try.pinned (OpenSpec.ofChange moveAlikeSpec)

/-- ITS FALSE NEIGHBOUR: 'it returns false'. Refute it at one input. -/
def moveAlikeWrong : ChangeSpec := { name := "moveAlike", fn := fun _ => fun
  | [d1, d2, d3] => { results := [.lit (.bool false)], args := [d1, d2, d3] }
  | _ => none }
def MoveAlikeWrongFalsely : Prop := moveAlikeRow.holds Try.pinned (OpenSpec.ofChange moveAlikeWrong)

/-- 'almerylaw15.MoveNobody': WHATEVER THE INPUT: true; the input reads as it did. -/
def moveNobodySpec : ChangeSpec := { name := "moveNobody", fn := fun _ => fun
  | [d] => { results := [.lit (.bool true)], args := [d] }
  | _ => none }
def moveNobodyRow : OpenClaim := { program := "ytommemplakcaaaa", sum := "4dbd604ecd4fd42ae12ab262aecca8882c3add7a9298623688bd4b5b19b3a296", func := "almery/almerylaw15.MoveNobody", spec := "moveNobody", unfollowed := true, recurses := true, apart := false }
def MoveNobodySaid : Prop := moveNobodyRow.holds Try.pinned (OpenSpec.ofChange moveNobodySpec)

/-- ITS FALSE NEIGHBOUR: 'it returns false'. Refute it at one input. -/
def moveNobodyWrong : ChangeSpec := { name := "moveNobody", fn := fun _ => fun
  | [d] => { results := [.lit (.bool false)], args := [d] }
  | _ => none }
def MoveNobodyWrongFalsely : Prop := moveNobodyRow.holds Try.pinned (OpenSpec.ofChange moveNobodyWrong)

/-- 'almerylaw15.MoveActs': WHATEVER THE INPUT: true; the input reads as it did. -/
def moveActsSpec : ChangeSpec := { name := "moveActs", fn := fun _ => fun
  | [d1, d2, d3] => { results := [.lit (.bool true)], args := [d1, d2, d3] }
  | _ => none }
def moveActsRow : OpenClaim := { program := "ytommemplakcaaaa", sum := "4dbd604ecd4fd42ae12ab262aecca8882c3add7a9298623688bd4b5b19b3a296", func := "almery/almerylaw15.MoveActs", spec := "moveActs", unfollowed := true, recurses := true, apart := false }
def MoveActsSaid : Prop := moveActsRow.holds Try.pinned (OpenSpec.ofChange moveActsSpec)

/-- ITS FALSE NEIGHBOUR: 'it returns false'. Refute it at one input. -/
def moveActsWrong : ChangeSpec := { name := "moveActs", fn := fun _ => fun
  | [d1, d2, d3] => { results := [.lit (.bool false)], args := [d1, d2, d3] }
  | _ => none }
def MoveActsWrongFalsely : Prop := moveActsRow.holds Try.pinned (OpenSpec.ofChange moveActsWrong)

/-- 'almerylaw06.ArenaUses': WHATEVER THE INPUT: true; the input reads as it did. -/
def arenaUsesSpec : ChangeSpec := { name := "arenaUses", fn := fun _ => fun
  | [d1, d2] => { results := [.lit (.bool true)], args := [d1, d2] }
  | _ => none }
def arenaUsesRow : OpenClaim := { program := "ytommemplakcaaaa", sum := "4dbd604ecd4fd42ae12ab262aecca8882c3add7a9298623688bd4b5b19b3a296", func := "almery/almerylaw06.ArenaUses", spec := "arenaUses", unfollowed := true, recurses := true, apart := false }
def ArenaUsesSaid : Prop := arenaUsesRow.holds Try.pinned (OpenSpec.ofChange arenaUsesSpec)

/-- ITS FALSE NEIGHBOUR: 'it returns false'. Refute it at one input. -/
def arenaUsesWrong : ChangeSpec := { name := "arenaUses", fn := fun _ => fun
  | [d1, d2] => { results := [.lit (.bool false)], args := [d1, d2] }
  | _ => none }
def ArenaUsesWrongFalsely : Prop := arenaUsesRow.holds Try.pinned (OpenSpec.ofChange arenaUsesWrong)

/-- 'almerylaw06.ArenaOwn': WHATEVER THE INPUT: true; the input reads as it did. -/
def arenaOwnSpec : ChangeSpec := { name := "arenaOwn", fn := fun _ => fun
  | [d1, d2] => { results := [.lit (.bool true)], args := [d1, d2] }
  | _ => none }
def arenaOwnRow : OpenClaim := { program := "ytommemplakcaaaa", sum := "4dbd604ecd4fd42ae12ab262aecca8882c3add7a9298623688bd4b5b19b3a296", func := "almery/almerylaw06.ArenaOwn", spec := "arenaOwn", unfollowed := true, recurses := true, apart := false }
def ArenaOwnSaid : Prop := arenaOwnRow.holds Try.pinned (OpenSpec.ofChange arenaOwnSpec)

/-- ITS FALSE NEIGHBOUR: 'it returns false'. Refute it at one input. -/
def arenaOwnWrong : ChangeSpec := { name := "arenaOwn", fn := fun _ => fun
  | [d1, d2] => { results := [.lit (.bool false)], args := [d1, d2] }
  | _ => none }
def ArenaOwnWrongFalsely : Prop := arenaOwnRow.holds Try.pinned (OpenSpec.ofChange arenaOwnWrong)

/-- 'almerylaw15.MoveSteps': WHATEVER THE INPUT: true; the input reads as it did. -/
def moveStepsSpec : ChangeSpec := { name := "moveSteps", fn := fun _ => fun
  | [d1, d2] => { results := [.lit (.bool true)], args := [d1, d2] }
  | _ => none }
def moveStepsRow : OpenClaim := { program := "ytommemplakcaaaa", sum := "4dbd604ecd4fd42ae12ab262aecca8882c3add7a9298623688bd4b5b19b3a296", func := "almery/almerylaw15.MoveSteps", spec := "moveSteps", unfollowed := true, recurses := true, apart := false }
def MoveStepsSaid : Prop := moveStepsRow.holds Try.pinned (OpenSpec.ofChange moveStepsSpec)

/-- ITS FALSE NEIGHBOUR: 'it returns false'. Refute it at one input. -/
def moveStepsWrong : ChangeSpec := { name := "moveSteps", fn := fun _ => fun
  | [d1, d2] => { results := [.lit (.bool false)], args := [d1, d2] }
  | _ => none }
def MoveStepsWrongFalsely : Prop := moveStepsRow.holds Try.pinned (OpenSpec.ofChange moveStepsWrong)

/-- 'almerylaw15.MoveWrote': WHATEVER THE INPUT: true; the input reads as it did. -/
def moveWroteSpec : ChangeSpec := { name := "moveWrote", fn := fun _ => fun
  | [d1, d2, d3] => { results := [.lit (.bool true)], args := [d1, d2, d3] }
  | _ => none }
def moveWroteRow : OpenClaim := { program := "ytommemplakcaaaa", sum := "4dbd604ecd4fd42ae12ab262aecca8882c3add7a9298623688bd4b5b19b3a296", func := "almery/almerylaw15.MoveWrote", spec := "moveWrote", unfollowed := true, recurses := true, apart := false }
def MoveWroteSaid : Prop := moveWroteRow.holds Try.pinned (OpenSpec.ofChange moveWroteSpec)

/-- ITS FALSE NEIGHBOUR: 'it returns false'. Refute it at one input. -/
def moveWroteWrong : ChangeSpec := { name := "moveWrote", fn := fun _ => fun
  | [d1, d2, d3] => { results := [.lit (.bool false)], args := [d1, d2, d3] }
  | _ => none }
def MoveWroteWrongFalsely : Prop := moveWroteRow.holds Try.pinned (OpenSpec.ofChange moveWroteWrong)

/-- 'almerylaw06.ArenaCharges': WHATEVER THE INPUT: true; the input reads as it did. -/
def arenaChargesSpec : ChangeSpec := { name := "arenaCharges", fn := fun _ => fun
  | [d1, d2] => { results := [.lit (.bool true)], args := [d1, d2] }
  | _ => none }
def arenaChargesRow : OpenClaim := { program := "ytommemplakcaaaa", sum := "4dbd604ecd4fd42ae12ab262aecca8882c3add7a9298623688bd4b5b19b3a296", func := "almery/almerylaw06.ArenaCharges", spec := "arenaCharges", unfollowed := true, recurses := true, apart := false }
def ArenaChargesSaid : Prop := arenaChargesRow.holds Try.pinned (OpenSpec.ofChange arenaChargesSpec)

/-- ITS FALSE NEIGHBOUR: 'it returns false'. Refute it at one input. -/
def arenaChargesWrong : ChangeSpec := { name := "arenaCharges", fn := fun _ => fun
  | [d1, d2] => { results := [.lit (.bool false)], args := [d1, d2] }
  | _ => none }
def ArenaChargesWrongFalsely : Prop := arenaChargesRow.holds Try.pinned (OpenSpec.ofChange arenaChargesWrong)

/- THE SECOND FORM. 'bulk': how many values and letters a reading holds, each counted each time it is reached (what is shared counts as often as it is met; a slice's spare places count too). A statement '..UptoSaid' is the law's where the arguments, and the package variables that the reading takes, are together of bulk at most 1048576: NARROWER than '..Said'. Prove '..Said' where nothing that the law and all that it calls make is longer than what came in: it says more and counts as full. Else prove '..UptoSaid'. A law counts once. -/
mutual
def uptoBulk {H : Type} : DataW H → Nat
  | .lit (.string bytes) => bytes.length + 1
  | .lit _ => 1
  | .nil => 1
  | .ptr d => uptoBulk d + 1
  | .slice elems spare => uptoBulkAll elems + uptoBulkAll spare + 1
  | .agg parts => uptoBulkAll parts + 1
  | .iface _ d => uptoBulk d + 1
  | .map entries => uptoBulkEntries entries + 1
  | .held _ => 1
def uptoBulkAll {H : Type} : List (DataW H) → Nat
  | [] => 0
  | d :: r => uptoBulk d + uptoBulkAll r
def uptoBulkEntries {H : Type} : List (Lit × DataW H) → Nat
  | [] => 0
  | x :: r => uptoBulkEntry x + uptoBulkEntries r
def uptoBulkEntry {H : Type} : Lit × DataW H → Nat
  | (.string bytes, d) => bytes.length + uptoBulk d + 1
  | (_, d) => uptoBulk d + 1
 end
def uptoSmall : (H : Type) → List (DataW H) → Bool := fun _ ds => decide (uptoBulkAll ds ≤ 1048576)
def OpenSpec.upto (s : _root_.Go.ChangeSpec) : _root_.Go.OpenSpec := { _root_.Go.OpenSpec.ofChange s with cond := some uptoSmall }

/-- 'almerylaw06.ArenaNew', WHERE WHAT IT READS IS OF BULK AT MOST 1048576: true; the input reads as it did. -/
def arenaNewUptoRow : OpenClaim := { program := "ytommemplakcaaaa", sum := "4dbd604ecd4fd42ae12ab262aecca8882c3add7a9298623688bd4b5b19b3a296", func := "almery/almerylaw06.ArenaNew", spec := "arenaNew", unfollowed := true, recurses := true, apart := false, narrowed := true }
def ArenaNewUptoSaid : Prop := arenaNewUptoRow.holds Try.pinned (OpenSpec.upto arenaNewSpec)

/-- 'almerylaw06.ArenaCopies', WHERE WHAT IT READS IS OF BULK AT MOST 1048576: true; the input reads as it did. -/
def arenaCopiesUptoRow : OpenClaim := { program := "ytommemplakcaaaa", sum := "4dbd604ecd4fd42ae12ab262aecca8882c3add7a9298623688bd4b5b19b3a296", func := "almery/almerylaw06.ArenaCopies", spec := "arenaCopies", unfollowed := true, recurses := true, apart := false, narrowed := true }
def ArenaCopiesUptoSaid : Prop := arenaCopiesUptoRow.holds Try.pinned (OpenSpec.upto arenaCopiesSpec)

/-- 'almerylaw15.MoveAlike', WHERE WHAT IT READS IS OF BULK AT MOST 1048576: true; the input reads as it did. -/
def moveAlikeUptoRow : OpenClaim := { program := "ytommemplakcaaaa", sum := "4dbd604ecd4fd42ae12ab262aecca8882c3add7a9298623688bd4b5b19b3a296", func := "almery/almerylaw15.MoveAlike", spec := "moveAlike", unfollowed := true, recurses := true, apart := false, narrowed := true }
def MoveAlikeUptoSaid : Prop := moveAlikeUptoRow.holds Try.pinned (OpenSpec.upto moveAlikeSpec)

/-- 'almerylaw15.MoveNobody', WHERE WHAT IT READS IS OF BULK AT MOST 1048576: true; the input reads as it did. -/
def moveNobodyUptoRow : OpenClaim := { program := "ytommemplakcaaaa", sum := "4dbd604ecd4fd42ae12ab262aecca8882c3add7a9298623688bd4b5b19b3a296", func := "almery/almerylaw15.MoveNobody", spec := "moveNobody", unfollowed := true, recurses := true, apart := false, narrowed := true }
def MoveNobodyUptoSaid : Prop := moveNobodyUptoRow.holds Try.pinned (OpenSpec.upto moveNobodySpec)

/-- 'almerylaw15.MoveActs', WHERE WHAT IT READS IS OF BULK AT MOST 1048576: true; the input reads as it did. -/
def moveActsUptoRow : OpenClaim := { program := "ytommemplakcaaaa", sum := "4dbd604ecd4fd42ae12ab262aecca8882c3add7a9298623688bd4b5b19b3a296", func := "almery/almerylaw15.MoveActs", spec := "moveActs", unfollowed := true, recurses := true, apart := false, narrowed := true }
def MoveActsUptoSaid : Prop := moveActsUptoRow.holds Try.pinned (OpenSpec.upto moveActsSpec)

/-- 'almerylaw06.ArenaUses', WHERE WHAT IT READS IS OF BULK AT MOST 1048576: true; the input reads as it did. -/
def arenaUsesUptoRow : OpenClaim := { program := "ytommemplakcaaaa", sum := "4dbd604ecd4fd42ae12ab262aecca8882c3add7a9298623688bd4b5b19b3a296", func := "almery/almerylaw06.ArenaUses", spec := "arenaUses", unfollowed := true, recurses := true, apart := false, narrowed := true }
def ArenaUsesUptoSaid : Prop := arenaUsesUptoRow.holds Try.pinned (OpenSpec.upto arenaUsesSpec)

/-- 'almerylaw06.ArenaOwn', WHERE WHAT IT READS IS OF BULK AT MOST 1048576: true; the input reads as it did. -/
def arenaOwnUptoRow : OpenClaim := { program := "ytommemplakcaaaa", sum := "4dbd604ecd4fd42ae12ab262aecca8882c3add7a9298623688bd4b5b19b3a296", func := "almery/almerylaw06.ArenaOwn", spec := "arenaOwn", unfollowed := true, recurses := true, apart := false, narrowed := true }
def ArenaOwnUptoSaid : Prop := arenaOwnUptoRow.holds Try.pinned (OpenSpec.upto arenaOwnSpec)

/-- 'almerylaw15.MoveSteps', WHERE WHAT IT READS IS OF BULK AT MOST 1048576: true; the input reads as it did. -/
def moveStepsUptoRow : OpenClaim := { program := "ytommemplakcaaaa", sum := "4dbd604ecd4fd42ae12ab262aecca8882c3add7a9298623688bd4b5b19b3a296", func := "almery/almerylaw15.MoveSteps", spec := "moveSteps", unfollowed := true, recurses := true, apart := false, narrowed := true }
def MoveStepsUptoSaid : Prop := moveStepsUptoRow.holds Try.pinned (OpenSpec.upto moveStepsSpec)

/-- 'almerylaw15.MoveWrote', WHERE WHAT IT READS IS OF BULK AT MOST 1048576: true; the input reads as it did. -/
def moveWroteUptoRow : OpenClaim := { program := "ytommemplakcaaaa", sum := "4dbd604ecd4fd42ae12ab262aecca8882c3add7a9298623688bd4b5b19b3a296", func := "almery/almerylaw15.MoveWrote", spec := "moveWrote", unfollowed := true, recurses := true, apart := false, narrowed := true }
def MoveWroteUptoSaid : Prop := moveWroteUptoRow.holds Try.pinned (OpenSpec.upto moveWroteSpec)

/-- 'almerylaw06.ArenaCharges', WHERE WHAT IT READS IS OF BULK AT MOST 1048576: true; the input reads as it did. -/
def arenaChargesUptoRow : OpenClaim := { program := "ytommemplakcaaaa", sum := "4dbd604ecd4fd42ae12ab262aecca8882c3add7a9298623688bd4b5b19b3a296", func := "almery/almerylaw06.ArenaCharges", spec := "arenaCharges", unfollowed := true, recurses := true, apart := false, narrowed := true }
def ArenaChargesUptoSaid : Prop := arenaChargesUptoRow.holds Try.pinned (OpenSpec.upto arenaChargesSpec)

end Rows
end Go.Proofs.Ytommemplakcaaaa
