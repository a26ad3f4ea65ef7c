/-
  No cell of these rows narrows 'for every input' (looked for: loops, veiled, ifaces, maps, wideKeys, modest, calm, conditions, laid).
  DERIVED. THE GIVEN ROWS OF THIS SEAT. 5 by the template 'for every input the law returns true; each argument reads behind the call as it read before'; 0 by the template 'total and deterministic' (their statements: YteklfgglcbdpnaaTotals.lean).
  GIVEN WITH THE SEED: the statements are not yours to turn. If you find one false, say at which input.
  Laid BY PROGRAM, IN A SANDBOX (cutbox-rows.mjs): the forced cells as the released guide's own fill.sh prints them over the translation aae9776cb38b0356… (all of the seat's roots in one cut). By AI agents, Wed Nov 11 2026. No macro, syntax, notation, axiom, sorry.
-/
import Derived.Test.YteklfgglcbdpnaaChecked
import GoSem.Claim
import GoSem.ClaimJoined
import GoSem.ClaimMapViews
import Derived.JoinedTies
import Derived.KernelRfl
namespace Go.Proofs.Yteklfgglcbdpnaa
/- THE CELL 'sum', in the pinned program and in every row, IS THE sha256 OF THE DUMP (.gsa) THAT YteklfgglcbdpnaaProg.lean LOADS. Nothing in Lean hashes anything: it is a label: what it is worth is what the hold of that sum in a sandbox is worth. -/
noncomputable def Try.pinned : Pinned := { name := "yteklfgglcbdpnaa", sum := "aae9776cb38b0356638f28a87397bdd030733a2e09aef2a784307791603a715a", checked := Try.checked }
namespace Rows
def none {H : Type} : Left H := { results := [], args := [] }

/-- 'almerylaw03.ConfMay': WHATEVER THE INPUT: true; the input reads as it did. -/
def confMaySpec : ChangeSpec := { name := "confMay", fn := fun _ => fun
  | [d] => { results := [.lit (.bool true)], args := [d] }
  | _ => none }
def confMayRow : OpenClaim := { program := "yteklfgglcbdpnaa", sum := "aae9776cb38b0356638f28a87397bdd030733a2e09aef2a784307791603a715a", func := "almery/almerylaw03.ConfMay", spec := "confMay", unfollowed := true, recurses := true, apart := false }
def ConfMaySaid : Prop := confMayRow.holds Try.pinned (OpenSpec.ofChange confMaySpec)

/-- ITS FALSE NEIGHBOUR: 'it returns false'. Refute it at one input. -/
def confMayWrong : ChangeSpec := { name := "confMay", fn := fun _ => fun
  | [d] => { results := [.lit (.bool false)], args := [d] }
  | _ => none }
def ConfMayWrongFalsely : Prop := confMayRow.holds Try.pinned (OpenSpec.ofChange confMayWrong)

/-- 'almerylaw03.ConfTells': WHATEVER THE INPUT: true; the input reads as it did. -/
def confTellsSpec : ChangeSpec := { name := "confTells", fn := fun _ => fun
  | [d1, d2] => { results := [.lit (.bool true)], args := [d1, d2] }
  | _ => none }
def confTellsRow : OpenClaim := { program := "yteklfgglcbdpnaa", sum := "aae9776cb38b0356638f28a87397bdd030733a2e09aef2a784307791603a715a", func := "almery/almerylaw03.ConfTells", spec := "confTells", unfollowed := true, recurses := true, apart := false }
def ConfTellsSaid : Prop := confTellsRow.holds Try.pinned (OpenSpec.ofChange confTellsSpec)

/-- ITS FALSE NEIGHBOUR: 'it returns false'. Refute it at one input. -/
def confTellsWrong : ChangeSpec := { name := "confTells", fn := fun _ => fun
  | [d1, d2] => { results := [.lit (.bool false)], args := [d1, d2] }
  | _ => none }
def ConfTellsWrongFalsely : Prop := confTellsRow.holds Try.pinned (OpenSpec.ofChange confTellsWrong)

/-- 'almerylaw03.ConfBlocks': WHATEVER THE INPUT: true; the input reads as it did. -/
def confBlocksSpec : ChangeSpec := { name := "confBlocks", fn := fun _ => fun
  | [d1, d2] => { results := [.lit (.bool true)], args := [d1, d2] }
  | _ => none }
def confBlocksRow : OpenClaim := { program := "yteklfgglcbdpnaa", sum := "aae9776cb38b0356638f28a87397bdd030733a2e09aef2a784307791603a715a", func := "almery/almerylaw03.ConfBlocks", spec := "confBlocks", unfollowed := true, recurses := true, apart := false }
def ConfBlocksSaid : Prop := confBlocksRow.holds Try.pinned (OpenSpec.ofChange confBlocksSpec)

/-- ITS FALSE NEIGHBOUR: 'it returns false'. Refute it at one input. -/
def confBlocksWrong : ChangeSpec := { name := "confBlocks", fn := fun _ => fun
  | [d1, d2] => { results := [.lit (.bool false)], args := [d1, d2] }
  | _ => none }
def ConfBlocksWrongFalsely : Prop := confBlocksRow.holds Try.pinned (OpenSpec.ofChange confBlocksWrong)

/-- 'almerylaw03.ConfLess': WHATEVER THE INPUT: true; the input reads as it did. -/
def confLessSpec : ChangeSpec := { name := "confLess", fn := fun _ => fun
  | [d1, d2] => { results := [.lit (.bool true)], args := [d1, d2] }
  | _ => none }
def confLessRow : OpenClaim := { program := "yteklfgglcbdpnaa", sum := "aae9776cb38b0356638f28a87397bdd030733a2e09aef2a784307791603a715a", func := "almery/almerylaw03.ConfLess", spec := "confLess", unfollowed := true, recurses := true, apart := false }
def ConfLessSaid : Prop := confLessRow.holds Try.pinned (OpenSpec.ofChange confLessSpec)

/-- ITS FALSE NEIGHBOUR: 'it returns false'. Refute it at one input. -/
def confLessWrong : ChangeSpec := { name := "confLess", fn := fun _ => fun
  | [d1, d2] => { results := [.lit (.bool false)], args := [d1, d2] }
  | _ => none }
def ConfLessWrongFalsely : Prop := confLessRow.holds Try.pinned (OpenSpec.ofChange confLessWrong)

/-- 'almerylaw03.ConfMost': WHATEVER THE INPUT: true; the input reads as it did. -/
def confMostSpec : ChangeSpec := { name := "confMost", fn := fun _ => fun
  | [d] => { results := [.lit (.bool true)], args := [d] }
  | _ => none }
def confMostRow : OpenClaim := { program := "yteklfgglcbdpnaa", sum := "aae9776cb38b0356638f28a87397bdd030733a2e09aef2a784307791603a715a", func := "almery/almerylaw03.ConfMost", spec := "confMost", unfollowed := true, recurses := true, apart := false }
def ConfMostSaid : Prop := confMostRow.holds Try.pinned (OpenSpec.ofChange confMostSpec)

/-- ITS FALSE NEIGHBOUR: 'it returns false'. Refute it at one input. -/
def confMostWrong : ChangeSpec := { name := "confMost", fn := fun _ => fun
  | [d] => { results := [.lit (.bool false)], args := [d] }
  | _ => none }
def ConfMostWrongFalsely : Prop := confMostRow.holds Try.pinned (OpenSpec.ofChange confMostWrong)

/- THE SECOND FORM. 'bulk': how many values and letters a reading holds, each counted each time it is reached (what is shared counts as often as it is met; a slice's spare places count too). A statement '..UptoSaid' is the law's where the arguments, and the package variables that the reading takes, are together of bulk at most 1048576: NARROWER than '..Said'. Prove '..Said' where nothing that the law and all that it calls make is longer than what came in: it says more and counts as full. Else prove '..UptoSaid'. A law counts once. -/
mutual
def uptoBulk {H : Type} : DataW H → Nat
  | .lit (.string bytes) => bytes.length + 1
  | .lit _ => 1
  | .nil => 1
  | .ptr d => uptoBulk d + 1
  | .slice elems spare => uptoBulkAll elems + uptoBulkAll spare + 1
  | .agg parts => uptoBulkAll parts + 1
  | .iface _ d => uptoBulk d + 1
  | .map entries => uptoBulkEntries entries + 1
  | .held _ => 1
def uptoBulkAll {H : Type} : List (DataW H) → Nat
  | [] => 0
  | d :: r => uptoBulk d + uptoBulkAll r
def uptoBulkEntries {H : Type} : List (Lit × DataW H) → Nat
  | [] => 0
  | x :: r => uptoBulkEntry x + uptoBulkEntries r
def uptoBulkEntry {H : Type} : Lit × DataW H → Nat
  | (.string bytes, d) => bytes.length + uptoBulk d + 1
  | (_, d) => uptoBulk d + 1
 end
def uptoSmall : (H : Type) → List (DataW H) → Bool := fun _ ds => decide (uptoBulkAll ds ≤ 1048576)
def OpenSpec.upto (s : _root_.Go.ChangeSpec) : _root_.Go.OpenSpec := { _root_.Go.OpenSpec.ofChange s with cond := some uptoSmall }

/-- 'almerylaw03.ConfMay', WHERE WHAT IT READS IS OF BULK AT MOST 1048576: true; the input reads as it did. -/
def confMayUptoRow : OpenClaim := { program := "yteklfgglcbdpnaa", sum := "aae9776cb38b0356638f28a87397bdd030733a2e09aef2a784307791603a715a", func := "almery/almerylaw03.ConfMay", spec := "confMay", unfollowed := true, recurses := true, apart := false, narrowed := true }
def ConfMayUptoSaid : Prop := confMayUptoRow.holds Try.pinned (OpenSpec.upto confMaySpec)

/-- 'almerylaw03.ConfTells', WHERE WHAT IT READS IS OF BULK AT MOST 1048576: true; the input reads as it did. -/
def confTellsUptoRow : OpenClaim := { program := "yteklfgglcbdpnaa", sum := "aae9776cb38b0356638f28a87397bdd030733a2e09aef2a784307791603a715a", func := "almery/almerylaw03.ConfTells", spec := "confTells", unfollowed := true, recurses := true, apart := false, narrowed := true }
def ConfTellsUptoSaid : Prop := confTellsUptoRow.holds Try.pinned (OpenSpec.upto confTellsSpec)

/-- 'almerylaw03.ConfBlocks', WHERE WHAT IT READS IS OF BULK AT MOST 1048576: true; the input reads as it did. -/
def confBlocksUptoRow : OpenClaim := { program := "yteklfgglcbdpnaa", sum := "aae9776cb38b0356638f28a87397bdd030733a2e09aef2a784307791603a715a", func := "almery/almerylaw03.ConfBlocks", spec := "confBlocks", unfollowed := true, recurses := true, apart := false, narrowed := true }
def ConfBlocksUptoSaid : Prop := confBlocksUptoRow.holds Try.pinned (OpenSpec.upto confBlocksSpec)

/-- 'almerylaw03.ConfLess', WHERE WHAT IT READS IS OF BULK AT MOST 1048576: true; the input reads as it did. -/
def confLessUptoRow : OpenClaim := { program := "yteklfgglcbdpnaa", sum := "aae9776cb38b0356638f28a87397bdd030733a2e09aef2a784307791603a715a", func := "almery/almerylaw03.ConfLess", spec := "confLess", unfollowed := true, recurses := true, apart := false, narrowed := true }
def ConfLessUptoSaid : Prop := confLessUptoRow.holds Try.pinned (OpenSpec.upto confLessSpec)

/-- 'almerylaw03.ConfMost', WHERE WHAT IT READS IS OF BULK AT MOST 1048576: true; the input reads as it did. -/
def confMostUptoRow : OpenClaim := { program := "yteklfgglcbdpnaa", sum := "aae9776cb38b0356638f28a87397bdd030733a2e09aef2a784307791603a715a", func := "almery/almerylaw03.ConfMost", spec := "confMost", unfollowed := true, recurses := true, apart := false, narrowed := true }
def ConfMostUptoSaid : Prop := confMostUptoRow.holds Try.pinned (OpenSpec.upto confMostSpec)

end Rows
end Go.Proofs.Yteklfgglcbdpnaa
