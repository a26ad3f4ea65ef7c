/-
  No cell of these rows narrows 'for every input' (looked for: loops, veiled, ifaces, maps, wideKeys, modest, calm, conditions, laid).
  DERIVED. THE GIVEN ROWS OF THIS SEAT. 5 by the template 'for every input the law returns true; each argument reads behind the call as it read before'; 0 by the template 'total and deterministic' (their statements: YtffimkpllchfcaaTotals.lean).
  GIVEN WITH THE SEED: the statements are not yours to turn. If you find one false, say at which input.
  Laid BY PROGRAM, IN A SANDBOX (cutbox-rows.mjs): the forced cells as the released guide's own fill.sh prints them over the translation aaea4ff3fb50f8b8… (all of the seat's roots in one cut). By AI agents, Wed Nov 11 2026. No macro, syntax, notation, axiom, sorry.
-/
import Derived.Test.YtffimkpllchfcaaChecked
import GoSem.Claim
import GoSem.ClaimJoined
import GoSem.ClaimMapViews
import Derived.JoinedTies
import Derived.KernelRfl
namespace Go.Proofs.Ytffimkpllchfcaa
/- THE CELL 'sum', in the pinned program and in every row, IS THE sha256 OF THE DUMP (.gsa) THAT YtffimkpllchfcaaProg.lean LOADS. Nothing in Lean hashes anything: it is a label: what it is worth is what the hold of that sum in a sandbox is worth. -/
noncomputable def Try.pinned : Pinned := { name := "ytffimkpllchfcaa", sum := "aaea4ff3fb50f8b844b19425c842c33398b48ead753252eb527e871816480fb3", checked := Try.checked }
namespace Rows
def none {H : Type} : Left H := { results := [], args := [] }

/-- 'almerylaw21.ViewPlaces': WHATEVER THE INPUT: true; the input reads as it did. -/
def viewPlacesSpec : ChangeSpec := { name := "viewPlaces", fn := fun _ => fun
  | [d1, d2] => { results := [.lit (.bool true)], args := [d1, d2] }
  | _ => none }
def viewPlacesRow : OpenClaim := { program := "ytffimkpllchfcaa", sum := "aaea4ff3fb50f8b844b19425c842c33398b48ead753252eb527e871816480fb3", func := "almery/almerylaw21.ViewPlaces", spec := "viewPlaces", unfollowed := true, recurses := true, apart := false }
def ViewPlacesSaid : Prop := viewPlacesRow.holds Try.pinned (OpenSpec.ofChange viewPlacesSpec)

/-- ITS FALSE NEIGHBOUR: 'it returns false'. Refute it at one input. -/
def viewPlacesWrong : ChangeSpec := { name := "viewPlaces", fn := fun _ => fun
  | [d1, d2] => { results := [.lit (.bool false)], args := [d1, d2] }
  | _ => none }
def ViewPlacesWrongFalsely : Prop := viewPlacesRow.holds Try.pinned (OpenSpec.ofChange viewPlacesWrong)

/-- 'almerylaw21.ViewNew': WHATEVER THE INPUT: true; the input reads as it did. -/
def viewNewSpec : ChangeSpec := { name := "viewNew", fn := fun _ => fun
  | [d1, d2, d3] => { results := [.lit (.bool true)], args := [d1, d2, d3] }
  | _ => none }
def viewNewRow : OpenClaim := { program := "ytffimkpllchfcaa", sum := "aaea4ff3fb50f8b844b19425c842c33398b48ead753252eb527e871816480fb3", func := "almery/almerylaw21.ViewNew", spec := "viewNew", unfollowed := true, recurses := true, apart := false }
def ViewNewSaid : Prop := viewNewRow.holds Try.pinned (OpenSpec.ofChange viewNewSpec)

/-- ITS FALSE NEIGHBOUR: 'it returns false'. Refute it at one input. -/
def viewNewWrong : ChangeSpec := { name := "viewNew", fn := fun _ => fun
  | [d1, d2, d3] => { results := [.lit (.bool false)], args := [d1, d2, d3] }
  | _ => none }
def ViewNewWrongFalsely : Prop := viewNewRow.holds Try.pinned (OpenSpec.ofChange viewNewWrong)

/-- 'almerylaw21.ViewBack': WHATEVER THE INPUT: true; the input reads as it did. -/
def viewBackSpec : ChangeSpec := { name := "viewBack", fn := fun _ => fun
  | [d1, d2, d3] => { results := [.lit (.bool true)], args := [d1, d2, d3] }
  | _ => none }
def viewBackRow : OpenClaim := { program := "ytffimkpllchfcaa", sum := "aaea4ff3fb50f8b844b19425c842c33398b48ead753252eb527e871816480fb3", func := "almery/almerylaw21.ViewBack", spec := "viewBack", unfollowed := true, recurses := true, apart := false }
def ViewBackSaid : Prop := viewBackRow.holds Try.pinned (OpenSpec.ofChange viewBackSpec)

/-- ITS FALSE NEIGHBOUR: 'it returns false'. Refute it at one input. -/
def viewBackWrong : ChangeSpec := { name := "viewBack", fn := fun _ => fun
  | [d1, d2, d3] => { results := [.lit (.bool false)], args := [d1, d2, d3] }
  | _ => none }
def ViewBackWrongFalsely : Prop := viewBackRow.holds Try.pinned (OpenSpec.ofChange viewBackWrong)

/-- 'almerylaw21.ViewActs': WHATEVER THE INPUT: true; the input reads as it did. -/
def viewActsSpec : ChangeSpec := { name := "viewActs", fn := fun _ => fun
  | [d1, d2] => { results := [.lit (.bool true)], args := [d1, d2] }
  | _ => none }
def viewActsRow : OpenClaim := { program := "ytffimkpllchfcaa", sum := "aaea4ff3fb50f8b844b19425c842c33398b48ead753252eb527e871816480fb3", func := "almery/almerylaw21.ViewActs", spec := "viewActs", unfollowed := true, recurses := true, apart := false }
def ViewActsSaid : Prop := viewActsRow.holds Try.pinned (OpenSpec.ofChange viewActsSpec)

/-- ITS FALSE NEIGHBOUR: 'it returns false'. Refute it at one input. -/
def viewActsWrong : ChangeSpec := { name := "viewActs", fn := fun _ => fun
  | [d1, d2] => { results := [.lit (.bool false)], args := [d1, d2] }
  | _ => none }
def ViewActsWrongFalsely : Prop := viewActsRow.holds Try.pinned (OpenSpec.ofChange viewActsWrong)

/-- 'almerylaw21.ViewNobody': WHATEVER THE INPUT: true; the input reads as it did. -/
def viewNobodySpec : ChangeSpec := { name := "viewNobody", fn := fun _ => fun
  | [d1, d2] => { results := [.lit (.bool true)], args := [d1, d2] }
  | _ => none }
def viewNobodyRow : OpenClaim := { program := "ytffimkpllchfcaa", sum := "aaea4ff3fb50f8b844b19425c842c33398b48ead753252eb527e871816480fb3", func := "almery/almerylaw21.ViewNobody", spec := "viewNobody", unfollowed := true, recurses := true, apart := false }
def ViewNobodySaid : Prop := viewNobodyRow.holds Try.pinned (OpenSpec.ofChange viewNobodySpec)

/-- ITS FALSE NEIGHBOUR: 'it returns false'. Refute it at one input. -/
def viewNobodyWrong : ChangeSpec := { name := "viewNobody", fn := fun _ => fun
  | [d1, d2] => { results := [.lit (.bool false)], args := [d1, d2] }
  | _ => none }
def ViewNobodyWrongFalsely : Prop := viewNobodyRow.holds Try.pinned (OpenSpec.ofChange viewNobodyWrong)

/- THE SECOND FORM. 'bulk': how many values and letters a reading holds, each counted each time it is reached (what is shared counts as often as it is met; a slice's spare places count too). A statement '..UptoSaid' is the law's where the arguments, and the package variables that the reading takes, are together of bulk at most 1048576: NARROWER than '..Said'. Prove '..Said' where nothing that the law and all that it calls make is longer than what came in: it says more and counts as full. Else prove '..UptoSaid'. A law counts once. -/
mutual
def uptoBulk {H : Type} : DataW H → Nat
  | .lit (.string bytes) => bytes.length + 1
  | .lit _ => 1
  | .nil => 1
  | .ptr d => uptoBulk d + 1
  | .slice elems spare => uptoBulkAll elems + uptoBulkAll spare + 1
  | .agg parts => uptoBulkAll parts + 1
  | .iface _ d => uptoBulk d + 1
  | .map entries => uptoBulkEntries entries + 1
  | .held _ => 1
def uptoBulkAll {H : Type} : List (DataW H) → Nat
  | [] => 0
  | d :: r => uptoBulk d + uptoBulkAll r
def uptoBulkEntries {H : Type} : List (Lit × DataW H) → Nat
  | [] => 0
  | x :: r => uptoBulkEntry x + uptoBulkEntries r
def uptoBulkEntry {H : Type} : Lit × DataW H → Nat
  | (.string bytes, d) => bytes.length + uptoBulk d + 1
  | (_, d) => uptoBulk d + 1
 end
def uptoSmall : (H : Type) → List (DataW H) → Bool := fun _ ds => decide (uptoBulkAll ds ≤ 1048576)
def OpenSpec.upto (s : _root_.Go.ChangeSpec) : _root_.Go.OpenSpec := { _root_.Go.OpenSpec.ofChange s with cond := some uptoSmall }

/-- 'almerylaw21.ViewPlaces', WHERE WHAT IT READS IS OF BULK AT MOST 1048576: true; the input reads as it did. -/
def viewPlacesUptoRow : OpenClaim := { program := "ytffimkpllchfcaa", sum := "aaea4ff3fb50f8b844b19425c842c33398b48ead753252eb527e871816480fb3", func := "almery/almerylaw21.ViewPlaces", spec := "viewPlaces", unfollowed := true, recurses := true, apart := false, narrowed := true }
def ViewPlacesUptoSaid : Prop := viewPlacesUptoRow.holds Try.pinned (OpenSpec.upto viewPlacesSpec)

/-- 'almerylaw21.ViewNew', WHERE WHAT IT READS IS OF BULK AT MOST 1048576: true; the input reads as it did. -/
def viewNewUptoRow : OpenClaim := { program := "ytffimkpllchfcaa", sum := "aaea4ff3fb50f8b844b19425c842c33398b48ead753252eb527e871816480fb3", func := "almery/almerylaw21.ViewNew", spec := "viewNew", unfollowed := true, recurses := true, apart := false, narrowed := true }
def ViewNewUptoSaid : Prop := viewNewUptoRow.holds Try.pinned (OpenSpec.upto viewNewSpec)

/-- 'almerylaw21.ViewBack', WHERE WHAT IT READS IS OF BULK AT MOST 1048576: true; the input reads as it did. -/
def viewBackUptoRow : OpenClaim := { program := "ytffimkpllchfcaa", sum := "aaea4ff3fb50f8b844b19425c842c33398b48ead753252eb527e871816480fb3", func := "almery/almerylaw21.ViewBack", spec := "viewBack", unfollowed := true, recurses := true, apart := false, narrowed := true }
def ViewBackUptoSaid : Prop := viewBackUptoRow.holds Try.pinned (OpenSpec.upto viewBackSpec)

/-- 'almerylaw21.ViewActs', WHERE WHAT IT READS IS OF BULK AT MOST 1048576: true; the input reads as it did. -/
def viewActsUptoRow : OpenClaim := { program := "ytffimkpllchfcaa", sum := "aaea4ff3fb50f8b844b19425c842c33398b48ead753252eb527e871816480fb3", func := "almery/almerylaw21.ViewActs", spec := "viewActs", unfollowed := true, recurses := true, apart := false, narrowed := true }
def ViewActsUptoSaid : Prop := viewActsUptoRow.holds Try.pinned (OpenSpec.upto viewActsSpec)

/-- 'almerylaw21.ViewNobody', WHERE WHAT IT READS IS OF BULK AT MOST 1048576: true; the input reads as it did. -/
def viewNobodyUptoRow : OpenClaim := { program := "ytffimkpllchfcaa", sum := "aaea4ff3fb50f8b844b19425c842c33398b48ead753252eb527e871816480fb3", func := "almery/almerylaw21.ViewNobody", spec := "viewNobody", unfollowed := true, recurses := true, apart := false, narrowed := true }
def ViewNobodyUptoSaid : Prop := viewNobodyUptoRow.holds Try.pinned (OpenSpec.upto viewNobodySpec)

end Rows
end Go.Proofs.Ytffimkpllchfcaa
