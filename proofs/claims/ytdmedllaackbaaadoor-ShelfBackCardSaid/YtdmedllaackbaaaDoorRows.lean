/-
  NARROWER THAN 'FOR EVERY INPUT', by the rows' own cells (each row's printed sentence says how): ShelfNew: laid · ShelfPages: laid · ShelfMoves: laid · ShelfNobody: laid · ShelfActs: laid · ShelfBack: laid.
  DERIVED. THE GIVEN ROWS OF THIS SEAT. 6 by the template 'for every input the law returns true; each argument reads behind the call as it read before'; 0 by the template 'total and deterministic' (their statements: YtdmedllaackbaaaDoorTotals.lean).
  GIVEN WITH THE SEED: the statements are not yours to turn. If you find one false, say at which input.
  Laid BY PROGRAM, IN A SANDBOX (cutbox-rows.mjs): the forced cells as the released guide's own fill.sh prints them over the translation f16bbf0b6946d3f3… (all of the seat's roots in one cut). By AI agents, Wed Nov 11 2026. No macro, syntax, notation, axiom, sorry.
-/
import Derived.Test.YtdmedllaackbaaaDoorChecked
import GoSem.Claim
import GoSem.ClaimJoined
import GoSem.ClaimMapViews
import Derived.JoinedTies
import Derived.KernelRfl
namespace Go.Proofs.YtdmedllaackbaaaDoor
/- THE CELL 'sum', in the pinned program and in every row, IS THE sha256 OF THE DUMP (.gsa) THAT YtdmedllaackbaaaDoorProg.lean LOADS. Nothing in Lean hashes anything: it is a label: what it is worth is what the hold of that sum in a sandbox is worth. -/
noncomputable def Tryd.pinned : Pinned := { name := "ytdmedllaackbaaadoor", sum := "f16bbf0b6946d3f32f491acd11be01987e085bb1150f0da327c7f59210f9a3fa", checked := Tryd.checked }
namespace Rows
def none {H : Type} : Left H := { results := [], args := [] }

/- WHAT THE LISTED PACKAGE-LEVEL VARIABLES READ AS WHEN THE CALL BEGINS. Each datum BY PROGRAM (the guide's laid-datum.mjs) off the statement by which the dump's own 'gosem.cut.vars' lays the variable. In a bare row this is a premise. The card (YtdmedllaackbaaaDoorCards.lean) ties it to the program's text. -/
def laid_math_bits_deBruijn64tab {H : Type} : DataW H := .agg [.lit (.int .u8 0), .lit (.int .u8 1), .lit (.int .u8 56), .lit (.int .u8 2), .lit (.int .u8 57), .lit (.int .u8 49), .lit (.int .u8 28), .lit (.int .u8 3), .lit (.int .u8 61), .lit (.int .u8 58), .lit (.int .u8 42), .lit (.int .u8 50), .lit (.int .u8 38), .lit (.int .u8 29), .lit (.int .u8 17), .lit (.int .u8 4), .lit (.int .u8 62), .lit (.int .u8 47), .lit (.int .u8 59), .lit (.int .u8 36), .lit (.int .u8 45), .lit (.int .u8 43), .lit (.int .u8 51), .lit (.int .u8 22), .lit (.int .u8 53), .lit (.int .u8 39), .lit (.int .u8 33), .lit (.int .u8 30), .lit (.int .u8 24), .lit (.int .u8 18), .lit (.int .u8 12), .lit (.int .u8 5), .lit (.int .u8 63), .lit (.int .u8 55), .lit (.int .u8 48), .lit (.int .u8 27), .lit (.int .u8 60), .lit (.int .u8 41), .lit (.int .u8 37), .lit (.int .u8 16), .lit (.int .u8 46), .lit (.int .u8 35), .lit (.int .u8 44), .lit (.int .u8 21), .lit (.int .u8 52), .lit (.int .u8 32), .lit (.int .u8 23), .lit (.int .u8 11), .lit (.int .u8 54), .lit (.int .u8 26), .lit (.int .u8 40), .lit (.int .u8 15), .lit (.int .u8 34), .lit (.int .u8 20), .lit (.int .u8 31), .lit (.int .u8 10), .lit (.int .u8 25), .lit (.int .u8 14), .lit (.int .u8 19), .lit (.int .u8 9), .lit (.int .u8 13), .lit (.int .u8 8), .lit (.int .u8 7), .lit (.int .u8 6)]

/-- 'almerylaw13.ShelfNew': WHATEVER THE INPUT: true; the input reads as it did. -/
def shelfNewSpec : ChangeSpec := { name := "shelfNew", fn := fun _ => fun
  | [d1, d2] => { results := [.lit (.bool true)], args := [d1, d2] }
  | _ => none }
def shelfNewRow : OpenClaim := { program := "ytdmedllaackbaaadoor", sum := "f16bbf0b6946d3f32f491acd11be01987e085bb1150f0da327c7f59210f9a3fa", func := "almery/almerylaw13.ShelfNew", spec := "shelfNew", unfollowed := true, recurses := true, named := ["math/bits.deBruijn64tab"], apart := false, laid := [("math/bits.deBruijn64tab", laid_math_bits_deBruijn64tab)] }
def ShelfNewSaid : Prop := shelfNewRow.holds Tryd.pinned (OpenSpec.ofChange shelfNewSpec)

/-- ITS FALSE NEIGHBOUR: 'it returns false'. Refute it at one input. -/
def shelfNewWrong : ChangeSpec := { name := "shelfNew", fn := fun _ => fun
  | [d1, d2] => { results := [.lit (.bool false)], args := [d1, d2] }
  | _ => none }
def ShelfNewWrongFalsely : Prop := shelfNewRow.holds Tryd.pinned (OpenSpec.ofChange shelfNewWrong)

/-- 'almerylaw13.ShelfPages': WHATEVER THE INPUT: true; the input reads as it did. -/
def shelfPagesSpec : ChangeSpec := { name := "shelfPages", fn := fun _ => fun
  | [d1, d2] => { results := [.lit (.bool true)], args := [d1, d2] }
  | _ => none }
def shelfPagesRow : OpenClaim := { program := "ytdmedllaackbaaadoor", sum := "f16bbf0b6946d3f32f491acd11be01987e085bb1150f0da327c7f59210f9a3fa", func := "almery/almerylaw13.ShelfPages", spec := "shelfPages", unfollowed := true, recurses := true, named := ["math/bits.deBruijn64tab"], apart := false, laid := [("math/bits.deBruijn64tab", laid_math_bits_deBruijn64tab)] }
def ShelfPagesSaid : Prop := shelfPagesRow.holds Tryd.pinned (OpenSpec.ofChange shelfPagesSpec)

/-- ITS FALSE NEIGHBOUR: 'it returns false'. Refute it at one input. -/
def shelfPagesWrong : ChangeSpec := { name := "shelfPages", fn := fun _ => fun
  | [d1, d2] => { results := [.lit (.bool false)], args := [d1, d2] }
  | _ => none }
def ShelfPagesWrongFalsely : Prop := shelfPagesRow.holds Tryd.pinned (OpenSpec.ofChange shelfPagesWrong)

/-- 'almerylaw13.ShelfMoves': WHATEVER THE INPUT: true; the input reads as it did. -/
def shelfMovesSpec : ChangeSpec := { name := "shelfMoves", fn := fun _ => fun
  | [d1, d2] => { results := [.lit (.bool true)], args := [d1, d2] }
  | _ => none }
def shelfMovesRow : OpenClaim := { program := "ytdmedllaackbaaadoor", sum := "f16bbf0b6946d3f32f491acd11be01987e085bb1150f0da327c7f59210f9a3fa", func := "almery/almerylaw13.ShelfMoves", spec := "shelfMoves", unfollowed := true, recurses := true, named := ["math/bits.deBruijn64tab"], apart := false, laid := [("math/bits.deBruijn64tab", laid_math_bits_deBruijn64tab)] }
def ShelfMovesSaid : Prop := shelfMovesRow.holds Tryd.pinned (OpenSpec.ofChange shelfMovesSpec)

/-- ITS FALSE NEIGHBOUR: 'it returns false'. Refute it at one input. -/
def shelfMovesWrong : ChangeSpec := { name := "shelfMoves", fn := fun _ => fun
  | [d1, d2] => { results := [.lit (.bool false)], args := [d1, d2] }
  | _ => none }
def ShelfMovesWrongFalsely : Prop := shelfMovesRow.holds Tryd.pinned (OpenSpec.ofChange shelfMovesWrong)

/-- 'almerylaw13.ShelfNobody': WHATEVER THE INPUT: true; the input reads as it did. -/
def shelfNobodySpec : ChangeSpec := { name := "shelfNobody", fn := fun _ => fun
  | [d1, d2] => { results := [.lit (.bool true)], args := [d1, d2] }
  | _ => none }
def shelfNobodyRow : OpenClaim := { program := "ytdmedllaackbaaadoor", sum := "f16bbf0b6946d3f32f491acd11be01987e085bb1150f0da327c7f59210f9a3fa", func := "almery/almerylaw13.ShelfNobody", spec := "shelfNobody", unfollowed := true, recurses := true, named := ["math/bits.deBruijn64tab"], apart := false, laid := [("math/bits.deBruijn64tab", laid_math_bits_deBruijn64tab)] }
def ShelfNobodySaid : Prop := shelfNobodyRow.holds Tryd.pinned (OpenSpec.ofChange shelfNobodySpec)

/-- ITS FALSE NEIGHBOUR: 'it returns false'. Refute it at one input. -/
def shelfNobodyWrong : ChangeSpec := { name := "shelfNobody", fn := fun _ => fun
  | [d1, d2] => { results := [.lit (.bool false)], args := [d1, d2] }
  | _ => none }
def ShelfNobodyWrongFalsely : Prop := shelfNobodyRow.holds Tryd.pinned (OpenSpec.ofChange shelfNobodyWrong)

/-- 'almerylaw13.ShelfActs': WHATEVER THE INPUT: true; the input reads as it did. -/
def shelfActsSpec : ChangeSpec := { name := "shelfActs", fn := fun _ => fun
  | [d1, d2] => { results := [.lit (.bool true)], args := [d1, d2] }
  | _ => none }
def shelfActsRow : OpenClaim := { program := "ytdmedllaackbaaadoor", sum := "f16bbf0b6946d3f32f491acd11be01987e085bb1150f0da327c7f59210f9a3fa", func := "almery/almerylaw13.ShelfActs", spec := "shelfActs", unfollowed := true, recurses := true, named := ["math/bits.deBruijn64tab"], apart := false, laid := [("math/bits.deBruijn64tab", laid_math_bits_deBruijn64tab)] }
def ShelfActsSaid : Prop := shelfActsRow.holds Tryd.pinned (OpenSpec.ofChange shelfActsSpec)

/-- ITS FALSE NEIGHBOUR: 'it returns false'. Refute it at one input. -/
def shelfActsWrong : ChangeSpec := { name := "shelfActs", fn := fun _ => fun
  | [d1, d2] => { results := [.lit (.bool false)], args := [d1, d2] }
  | _ => none }
def ShelfActsWrongFalsely : Prop := shelfActsRow.holds Tryd.pinned (OpenSpec.ofChange shelfActsWrong)

/-- 'almerylaw13.ShelfBack': WHATEVER THE INPUT: true; the input reads as it did. -/
def shelfBackSpec : ChangeSpec := { name := "shelfBack", fn := fun _ => fun
  | [d1, d2] => { results := [.lit (.bool true)], args := [d1, d2] }
  | _ => none }
def shelfBackRow : OpenClaim := { program := "ytdmedllaackbaaadoor", sum := "f16bbf0b6946d3f32f491acd11be01987e085bb1150f0da327c7f59210f9a3fa", func := "almery/almerylaw13.ShelfBack", spec := "shelfBack", unfollowed := true, recurses := true, named := ["math/bits.deBruijn64tab"], apart := false, laid := [("math/bits.deBruijn64tab", laid_math_bits_deBruijn64tab)] }
def ShelfBackSaid : Prop := shelfBackRow.holds Tryd.pinned (OpenSpec.ofChange shelfBackSpec)

/-- ITS FALSE NEIGHBOUR: 'it returns false'. Refute it at one input. -/
def shelfBackWrong : ChangeSpec := { name := "shelfBack", fn := fun _ => fun
  | [d1, d2] => { results := [.lit (.bool false)], args := [d1, d2] }
  | _ => none }
def ShelfBackWrongFalsely : Prop := shelfBackRow.holds Tryd.pinned (OpenSpec.ofChange shelfBackWrong)

/- THE SECOND FORM. 'bulk': how many values and letters a reading holds, each counted each time it is reached (what is shared counts as often as it is met; a slice's spare places count too). A statement '..UptoSaid' is the law's where the arguments, and the package variables that the reading takes, are together of bulk at most 1048576: NARROWER than '..Said'. Prove '..Said' where nothing that the law and all that it calls make is longer than what came in: it says more and counts as full. Else prove '..UptoSaid'. A law counts once. -/
mutual
def uptoBulk {H : Type} : DataW H → Nat
  | .lit (.string bytes) => bytes.length + 1
  | .lit _ => 1
  | .nil => 1
  | .ptr d => uptoBulk d + 1
  | .slice elems spare => uptoBulkAll elems + uptoBulkAll spare + 1
  | .agg parts => uptoBulkAll parts + 1
  | .iface _ d => uptoBulk d + 1
  | .map entries => uptoBulkEntries entries + 1
  | .held _ => 1
def uptoBulkAll {H : Type} : List (DataW H) → Nat
  | [] => 0
  | d :: r => uptoBulk d + uptoBulkAll r
def uptoBulkEntries {H : Type} : List (Lit × DataW H) → Nat
  | [] => 0
  | x :: r => uptoBulkEntry x + uptoBulkEntries r
def uptoBulkEntry {H : Type} : Lit × DataW H → Nat
  | (.string bytes, d) => bytes.length + uptoBulk d + 1
  | (_, d) => uptoBulk d + 1
 end
def uptoSmall : (H : Type) → List (DataW H) → Bool := fun _ ds => decide (uptoBulkAll ds ≤ 1048576)
def OpenSpec.upto (s : _root_.Go.ChangeSpec) : _root_.Go.OpenSpec := { _root_.Go.OpenSpec.ofChange s with cond := some uptoSmall }

/-- 'almerylaw13.ShelfNew', WHERE WHAT IT READS IS OF BULK AT MOST 1048576: true; the input reads as it did. -/
def shelfNewUptoRow : OpenClaim := { program := "ytdmedllaackbaaadoor", sum := "f16bbf0b6946d3f32f491acd11be01987e085bb1150f0da327c7f59210f9a3fa", func := "almery/almerylaw13.ShelfNew", spec := "shelfNew", unfollowed := true, recurses := true, named := ["math/bits.deBruijn64tab"], apart := false, laid := [("math/bits.deBruijn64tab", laid_math_bits_deBruijn64tab)], narrowed := true }
def ShelfNewUptoSaid : Prop := shelfNewUptoRow.holds Tryd.pinned (OpenSpec.upto shelfNewSpec)

/-- 'almerylaw13.ShelfPages', WHERE WHAT IT READS IS OF BULK AT MOST 1048576: true; the input reads as it did. -/
def shelfPagesUptoRow : OpenClaim := { program := "ytdmedllaackbaaadoor", sum := "f16bbf0b6946d3f32f491acd11be01987e085bb1150f0da327c7f59210f9a3fa", func := "almery/almerylaw13.ShelfPages", spec := "shelfPages", unfollowed := true, recurses := true, named := ["math/bits.deBruijn64tab"], apart := false, laid := [("math/bits.deBruijn64tab", laid_math_bits_deBruijn64tab)], narrowed := true }
def ShelfPagesUptoSaid : Prop := shelfPagesUptoRow.holds Tryd.pinned (OpenSpec.upto shelfPagesSpec)

/-- 'almerylaw13.ShelfMoves', WHERE WHAT IT READS IS OF BULK AT MOST 1048576: true; the input reads as it did. -/
def shelfMovesUptoRow : OpenClaim := { program := "ytdmedllaackbaaadoor", sum := "f16bbf0b6946d3f32f491acd11be01987e085bb1150f0da327c7f59210f9a3fa", func := "almery/almerylaw13.ShelfMoves", spec := "shelfMoves", unfollowed := true, recurses := true, named := ["math/bits.deBruijn64tab"], apart := false, laid := [("math/bits.deBruijn64tab", laid_math_bits_deBruijn64tab)], narrowed := true }
def ShelfMovesUptoSaid : Prop := shelfMovesUptoRow.holds Tryd.pinned (OpenSpec.upto shelfMovesSpec)

/-- 'almerylaw13.ShelfNobody', WHERE WHAT IT READS IS OF BULK AT MOST 1048576: true; the input reads as it did. -/
def shelfNobodyUptoRow : OpenClaim := { program := "ytdmedllaackbaaadoor", sum := "f16bbf0b6946d3f32f491acd11be01987e085bb1150f0da327c7f59210f9a3fa", func := "almery/almerylaw13.ShelfNobody", spec := "shelfNobody", unfollowed := true, recurses := true, named := ["math/bits.deBruijn64tab"], apart := false, laid := [("math/bits.deBruijn64tab", laid_math_bits_deBruijn64tab)], narrowed := true }
def ShelfNobodyUptoSaid : Prop := shelfNobodyUptoRow.holds Tryd.pinned (OpenSpec.upto shelfNobodySpec)

/-- 'almerylaw13.ShelfActs', WHERE WHAT IT READS IS OF BULK AT MOST 1048576: true; the input reads as it did. -/
def shelfActsUptoRow : OpenClaim := { program := "ytdmedllaackbaaadoor", sum := "f16bbf0b6946d3f32f491acd11be01987e085bb1150f0da327c7f59210f9a3fa", func := "almery/almerylaw13.ShelfActs", spec := "shelfActs", unfollowed := true, recurses := true, named := ["math/bits.deBruijn64tab"], apart := false, laid := [("math/bits.deBruijn64tab", laid_math_bits_deBruijn64tab)], narrowed := true }
def ShelfActsUptoSaid : Prop := shelfActsUptoRow.holds Tryd.pinned (OpenSpec.upto shelfActsSpec)

/-- 'almerylaw13.ShelfBack', WHERE WHAT IT READS IS OF BULK AT MOST 1048576: true; the input reads as it did. -/
def shelfBackUptoRow : OpenClaim := { program := "ytdmedllaackbaaadoor", sum := "f16bbf0b6946d3f32f491acd11be01987e085bb1150f0da327c7f59210f9a3fa", func := "almery/almerylaw13.ShelfBack", spec := "shelfBack", unfollowed := true, recurses := true, named := ["math/bits.deBruijn64tab"], apart := false, laid := [("math/bits.deBruijn64tab", laid_math_bits_deBruijn64tab)], narrowed := true }
def ShelfBackUptoSaid : Prop := shelfBackUptoRow.holds Tryd.pinned (OpenSpec.upto shelfBackSpec)

end Rows
end Go.Proofs.YtdmedllaackbaaaDoor
