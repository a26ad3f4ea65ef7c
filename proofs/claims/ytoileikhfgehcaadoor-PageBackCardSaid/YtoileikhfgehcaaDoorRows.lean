/-
  NARROWER THAN 'FOR EVERY INPUT', by the rows' own cells (each row's printed sentence says how): BitsActs: laid · BitsNew: laid · BitsFill: laid · BitsBetween: laid · BitsNobody: laid · PageNew: laid · PageFill: laid · PageActs: laid · PageBack: laid · PageNobody: laid.
  DERIVED. THE GIVEN ROWS OF THIS SEAT. 10 by the template 'for every input the law returns true; each argument reads behind the call as it read before'; 0 by the template 'total and deterministic' (their statements: YtoileikhfgehcaaDoorTotals.lean).
  GIVEN WITH THE SEED: the statements are not yours to turn. If you find one false, say at which input.
  Laid BY PROGRAM, IN A SANDBOX (cutbox-rows.mjs): the forced cells as the released guide's own fill.sh prints them over the translation 2ab4253ff644602c… (all of the seat's roots in one cut). By AI agents, Wed Nov 11 2026. No macro, syntax, notation, axiom, sorry.
-/
import Derived.Test.YtoileikhfgehcaaDoorChecked
import GoSem.Claim
import GoSem.ClaimJoined
import GoSem.ClaimMapViews
import Derived.JoinedTies
import Derived.KernelRfl
namespace Go.Proofs.YtoileikhfgehcaaDoor
/- THE CELL 'sum', in the pinned program and in every row, IS THE sha256 OF THE DUMP (.gsa) THAT YtoileikhfgehcaaDoorProg.lean LOADS. Nothing in Lean hashes anything: it is a label: what it is worth is what the hold of that sum in a sandbox is worth. -/
noncomputable def Tryd.pinned : Pinned := { name := "ytoileikhfgehcaadoor", sum := "2ab4253ff644602c17f2e01848cd0d64b8a13f17565c150b3da811a1a1fbda9b", checked := Tryd.checked }
namespace Rows
def none {H : Type} : Left H := { results := [], args := [] }

/- WHAT THE LISTED PACKAGE-LEVEL VARIABLES READ AS WHEN THE CALL BEGINS. Each datum BY PROGRAM (the guide's laid-datum.mjs) off the statement by which the dump's own 'gosem.cut.vars' lays the variable. In a bare row this is a premise. The card (YtoileikhfgehcaaDoorCards.lean) ties it to the program's text. -/
def laid_math_bits_deBruijn64tab {H : Type} : DataW H := .agg [.lit (.int .u8 0), .lit (.int .u8 1), .lit (.int .u8 56), .lit (.int .u8 2), .lit (.int .u8 57), .lit (.int .u8 49), .lit (.int .u8 28), .lit (.int .u8 3), .lit (.int .u8 61), .lit (.int .u8 58), .lit (.int .u8 42), .lit (.int .u8 50), .lit (.int .u8 38), .lit (.int .u8 29), .lit (.int .u8 17), .lit (.int .u8 4), .lit (.int .u8 62), .lit (.int .u8 47), .lit (.int .u8 59), .lit (.int .u8 36), .lit (.int .u8 45), .lit (.int .u8 43), .lit (.int .u8 51), .lit (.int .u8 22), .lit (.int .u8 53), .lit (.int .u8 39), .lit (.int .u8 33), .lit (.int .u8 30), .lit (.int .u8 24), .lit (.int .u8 18), .lit (.int .u8 12), .lit (.int .u8 5), .lit (.int .u8 63), .lit (.int .u8 55), .lit (.int .u8 48), .lit (.int .u8 27), .lit (.int .u8 60), .lit (.int .u8 41), .lit (.int .u8 37), .lit (.int .u8 16), .lit (.int .u8 46), .lit (.int .u8 35), .lit (.int .u8 44), .lit (.int .u8 21), .lit (.int .u8 52), .lit (.int .u8 32), .lit (.int .u8 23), .lit (.int .u8 11), .lit (.int .u8 54), .lit (.int .u8 26), .lit (.int .u8 40), .lit (.int .u8 15), .lit (.int .u8 34), .lit (.int .u8 20), .lit (.int .u8 31), .lit (.int .u8 10), .lit (.int .u8 25), .lit (.int .u8 14), .lit (.int .u8 19), .lit (.int .u8 9), .lit (.int .u8 13), .lit (.int .u8 8), .lit (.int .u8 7), .lit (.int .u8 6)]

/-- 'almerylaw11.BitsActs': WHATEVER THE INPUT: true; the input reads as it did. -/
def bitsActsSpec : ChangeSpec := { name := "bitsActs", fn := fun _ => fun
  | [d1, d2] => { results := [.lit (.bool true)], args := [d1, d2] }
  | _ => none }
def bitsActsRow : OpenClaim := { program := "ytoileikhfgehcaadoor", sum := "2ab4253ff644602c17f2e01848cd0d64b8a13f17565c150b3da811a1a1fbda9b", func := "almery/almerylaw11.BitsActs", spec := "bitsActs", named := ["math/bits.deBruijn64tab"], apart := false, laid := [("math/bits.deBruijn64tab", laid_math_bits_deBruijn64tab)] }
def BitsActsSaid : Prop := bitsActsRow.holds Tryd.pinned (OpenSpec.ofChange bitsActsSpec)

/-- ITS FALSE NEIGHBOUR: 'it returns false'. Refute it at one input. -/
def bitsActsWrong : ChangeSpec := { name := "bitsActs", fn := fun _ => fun
  | [d1, d2] => { results := [.lit (.bool false)], args := [d1, d2] }
  | _ => none }
def BitsActsWrongFalsely : Prop := bitsActsRow.holds Tryd.pinned (OpenSpec.ofChange bitsActsWrong)

/-- 'almerylaw11.BitsNew': WHATEVER THE INPUT: true; the input reads as it did. -/
def bitsNewSpec : ChangeSpec := { name := "bitsNew", fn := fun _ => fun
  | [d] => { results := [.lit (.bool true)], args := [d] }
  | _ => none }
def bitsNewRow : OpenClaim := { program := "ytoileikhfgehcaadoor", sum := "2ab4253ff644602c17f2e01848cd0d64b8a13f17565c150b3da811a1a1fbda9b", func := "almery/almerylaw11.BitsNew", spec := "bitsNew", named := ["math/bits.deBruijn64tab"], apart := false, laid := [("math/bits.deBruijn64tab", laid_math_bits_deBruijn64tab)] }
def BitsNewSaid : Prop := bitsNewRow.holds Tryd.pinned (OpenSpec.ofChange bitsNewSpec)

/-- ITS FALSE NEIGHBOUR: 'it returns false'. Refute it at one input. -/
def bitsNewWrong : ChangeSpec := { name := "bitsNew", fn := fun _ => fun
  | [d] => { results := [.lit (.bool false)], args := [d] }
  | _ => none }
def BitsNewWrongFalsely : Prop := bitsNewRow.holds Tryd.pinned (OpenSpec.ofChange bitsNewWrong)

/-- 'almerylaw11.BitsFill': WHATEVER THE INPUT: true; the input reads as it did. -/
def bitsFillSpec : ChangeSpec := { name := "bitsFill", fn := fun _ => fun
  | [d] => { results := [.lit (.bool true)], args := [d] }
  | _ => none }
def bitsFillRow : OpenClaim := { program := "ytoileikhfgehcaadoor", sum := "2ab4253ff644602c17f2e01848cd0d64b8a13f17565c150b3da811a1a1fbda9b", func := "almery/almerylaw11.BitsFill", spec := "bitsFill", named := ["math/bits.deBruijn64tab"], apart := false, laid := [("math/bits.deBruijn64tab", laid_math_bits_deBruijn64tab)] }
def BitsFillSaid : Prop := bitsFillRow.holds Tryd.pinned (OpenSpec.ofChange bitsFillSpec)

/-- ITS FALSE NEIGHBOUR: 'it returns false'. Refute it at one input. -/
def bitsFillWrong : ChangeSpec := { name := "bitsFill", fn := fun _ => fun
  | [d] => { results := [.lit (.bool false)], args := [d] }
  | _ => none }
def BitsFillWrongFalsely : Prop := bitsFillRow.holds Tryd.pinned (OpenSpec.ofChange bitsFillWrong)

/-- 'almerylaw11.BitsBetween': WHATEVER THE INPUT: true; the input reads as it did. -/
def bitsBetweenSpec : ChangeSpec := { name := "bitsBetween", fn := fun _ => fun
  | [d1, d2] => { results := [.lit (.bool true)], args := [d1, d2] }
  | _ => none }
def bitsBetweenRow : OpenClaim := { program := "ytoileikhfgehcaadoor", sum := "2ab4253ff644602c17f2e01848cd0d64b8a13f17565c150b3da811a1a1fbda9b", func := "almery/almerylaw11.BitsBetween", spec := "bitsBetween", named := ["math/bits.deBruijn64tab"], apart := false, laid := [("math/bits.deBruijn64tab", laid_math_bits_deBruijn64tab)] }
def BitsBetweenSaid : Prop := bitsBetweenRow.holds Tryd.pinned (OpenSpec.ofChange bitsBetweenSpec)

/-- ITS FALSE NEIGHBOUR: 'it returns false'. Refute it at one input. -/
def bitsBetweenWrong : ChangeSpec := { name := "bitsBetween", fn := fun _ => fun
  | [d1, d2] => { results := [.lit (.bool false)], args := [d1, d2] }
  | _ => none }
def BitsBetweenWrongFalsely : Prop := bitsBetweenRow.holds Tryd.pinned (OpenSpec.ofChange bitsBetweenWrong)

/-- 'almerylaw11.BitsNobody': WHATEVER THE INPUT: true; the input reads as it did. -/
def bitsNobodySpec : ChangeSpec := { name := "bitsNobody", fn := fun _ => fun
  | [d] => { results := [.lit (.bool true)], args := [d] }
  | _ => none }
def bitsNobodyRow : OpenClaim := { program := "ytoileikhfgehcaadoor", sum := "2ab4253ff644602c17f2e01848cd0d64b8a13f17565c150b3da811a1a1fbda9b", func := "almery/almerylaw11.BitsNobody", spec := "bitsNobody", named := ["math/bits.deBruijn64tab"], apart := false, laid := [("math/bits.deBruijn64tab", laid_math_bits_deBruijn64tab)] }
def BitsNobodySaid : Prop := bitsNobodyRow.holds Tryd.pinned (OpenSpec.ofChange bitsNobodySpec)

/-- ITS FALSE NEIGHBOUR: 'it returns false'. Refute it at one input. -/
def bitsNobodyWrong : ChangeSpec := { name := "bitsNobody", fn := fun _ => fun
  | [d] => { results := [.lit (.bool false)], args := [d] }
  | _ => none }
def BitsNobodyWrongFalsely : Prop := bitsNobodyRow.holds Tryd.pinned (OpenSpec.ofChange bitsNobodyWrong)

/-- 'almerylaw12.PageNew': WHATEVER THE INPUT: true; the input reads as it did. -/
def pageNewSpec : ChangeSpec := { name := "pageNew", fn := fun _ => fun
  | [d] => { results := [.lit (.bool true)], args := [d] }
  | _ => none }
def pageNewRow : OpenClaim := { program := "ytoileikhfgehcaadoor", sum := "2ab4253ff644602c17f2e01848cd0d64b8a13f17565c150b3da811a1a1fbda9b", func := "almery/almerylaw12.PageNew", spec := "pageNew", named := ["math/bits.deBruijn64tab"], apart := false, laid := [("math/bits.deBruijn64tab", laid_math_bits_deBruijn64tab)] }
def PageNewSaid : Prop := pageNewRow.holds Tryd.pinned (OpenSpec.ofChange pageNewSpec)

/-- ITS FALSE NEIGHBOUR: 'it returns false'. Refute it at one input. -/
def pageNewWrong : ChangeSpec := { name := "pageNew", fn := fun _ => fun
  | [d] => { results := [.lit (.bool false)], args := [d] }
  | _ => none }
def PageNewWrongFalsely : Prop := pageNewRow.holds Tryd.pinned (OpenSpec.ofChange pageNewWrong)

/-- 'almerylaw12.PageFill': WHATEVER THE INPUT: true; the input reads as it did. -/
def pageFillSpec : ChangeSpec := { name := "pageFill", fn := fun _ => fun
  | [d] => { results := [.lit (.bool true)], args := [d] }
  | _ => none }
def pageFillRow : OpenClaim := { program := "ytoileikhfgehcaadoor", sum := "2ab4253ff644602c17f2e01848cd0d64b8a13f17565c150b3da811a1a1fbda9b", func := "almery/almerylaw12.PageFill", spec := "pageFill", named := ["math/bits.deBruijn64tab"], apart := false, laid := [("math/bits.deBruijn64tab", laid_math_bits_deBruijn64tab)] }
def PageFillSaid : Prop := pageFillRow.holds Tryd.pinned (OpenSpec.ofChange pageFillSpec)

/-- ITS FALSE NEIGHBOUR: 'it returns false'. Refute it at one input. -/
def pageFillWrong : ChangeSpec := { name := "pageFill", fn := fun _ => fun
  | [d] => { results := [.lit (.bool false)], args := [d] }
  | _ => none }
def PageFillWrongFalsely : Prop := pageFillRow.holds Tryd.pinned (OpenSpec.ofChange pageFillWrong)

/-- 'almerylaw12.PageActs': WHATEVER THE INPUT: true; the input reads as it did. -/
def pageActsSpec : ChangeSpec := { name := "pageActs", fn := fun _ => fun
  | [d1, d2] => { results := [.lit (.bool true)], args := [d1, d2] }
  | _ => none }
def pageActsRow : OpenClaim := { program := "ytoileikhfgehcaadoor", sum := "2ab4253ff644602c17f2e01848cd0d64b8a13f17565c150b3da811a1a1fbda9b", func := "almery/almerylaw12.PageActs", spec := "pageActs", named := ["math/bits.deBruijn64tab"], apart := false, laid := [("math/bits.deBruijn64tab", laid_math_bits_deBruijn64tab)] }
def PageActsSaid : Prop := pageActsRow.holds Tryd.pinned (OpenSpec.ofChange pageActsSpec)

/-- ITS FALSE NEIGHBOUR: 'it returns false'. Refute it at one input. -/
def pageActsWrong : ChangeSpec := { name := "pageActs", fn := fun _ => fun
  | [d1, d2] => { results := [.lit (.bool false)], args := [d1, d2] }
  | _ => none }
def PageActsWrongFalsely : Prop := pageActsRow.holds Tryd.pinned (OpenSpec.ofChange pageActsWrong)

/-- 'almerylaw12.PageBack': WHATEVER THE INPUT: true; the input reads as it did. -/
def pageBackSpec : ChangeSpec := { name := "pageBack", fn := fun _ => fun
  | [d1, d2, d3] => { results := [.lit (.bool true)], args := [d1, d2, d3] }
  | _ => none }
def pageBackRow : OpenClaim := { program := "ytoileikhfgehcaadoor", sum := "2ab4253ff644602c17f2e01848cd0d64b8a13f17565c150b3da811a1a1fbda9b", func := "almery/almerylaw12.PageBack", spec := "pageBack", named := ["math/bits.deBruijn64tab"], apart := false, laid := [("math/bits.deBruijn64tab", laid_math_bits_deBruijn64tab)] }
def PageBackSaid : Prop := pageBackRow.holds Tryd.pinned (OpenSpec.ofChange pageBackSpec)

/-- ITS FALSE NEIGHBOUR: 'it returns false'. Refute it at one input. -/
def pageBackWrong : ChangeSpec := { name := "pageBack", fn := fun _ => fun
  | [d1, d2, d3] => { results := [.lit (.bool false)], args := [d1, d2, d3] }
  | _ => none }
def PageBackWrongFalsely : Prop := pageBackRow.holds Tryd.pinned (OpenSpec.ofChange pageBackWrong)

/-- 'almerylaw12.PageNobody': WHATEVER THE INPUT: true; the input reads as it did. -/
def pageNobodySpec : ChangeSpec := { name := "pageNobody", fn := fun _ => fun
  | [d] => { results := [.lit (.bool true)], args := [d] }
  | _ => none }
def pageNobodyRow : OpenClaim := { program := "ytoileikhfgehcaadoor", sum := "2ab4253ff644602c17f2e01848cd0d64b8a13f17565c150b3da811a1a1fbda9b", func := "almery/almerylaw12.PageNobody", spec := "pageNobody", named := ["math/bits.deBruijn64tab"], apart := false, laid := [("math/bits.deBruijn64tab", laid_math_bits_deBruijn64tab)] }
def PageNobodySaid : Prop := pageNobodyRow.holds Tryd.pinned (OpenSpec.ofChange pageNobodySpec)

/-- ITS FALSE NEIGHBOUR: 'it returns false'. Refute it at one input. -/
def pageNobodyWrong : ChangeSpec := { name := "pageNobody", fn := fun _ => fun
  | [d] => { results := [.lit (.bool false)], args := [d] }
  | _ => none }
def PageNobodyWrongFalsely : Prop := pageNobodyRow.holds Tryd.pinned (OpenSpec.ofChange pageNobodyWrong)

/- THE SECOND FORM. 'bulk': how many values and letters a reading holds, each counted each time it is reached (what is shared counts as often as it is met; a slice's spare places count too). A statement '..UptoSaid' is the law's where the arguments, and the package variables that the reading takes, are together of bulk at most 1048576: NARROWER than '..Said'. Prove '..Said' where nothing that the law and all that it calls make is longer than what came in: it says more and counts as full. Else prove '..UptoSaid'. A law counts once. -/
mutual
def uptoBulk {H : Type} : DataW H → Nat
  | .lit (.string bytes) => bytes.length + 1
  | .lit _ => 1
  | .nil => 1
  | .ptr d => uptoBulk d + 1
  | .slice elems spare => uptoBulkAll elems + uptoBulkAll spare + 1
  | .agg parts => uptoBulkAll parts + 1
  | .iface _ d => uptoBulk d + 1
  | .map entries => uptoBulkEntries entries + 1
  | .held _ => 1
def uptoBulkAll {H : Type} : List (DataW H) → Nat
  | [] => 0
  | d :: r => uptoBulk d + uptoBulkAll r
def uptoBulkEntries {H : Type} : List (Lit × DataW H) → Nat
  | [] => 0
  | x :: r => uptoBulkEntry x + uptoBulkEntries r
def uptoBulkEntry {H : Type} : Lit × DataW H → Nat
  | (.string bytes, d) => bytes.length + uptoBulk d + 1
  | (_, d) => uptoBulk d + 1
 end
def uptoSmall : (H : Type) → List (DataW H) → Bool := fun _ ds => decide (uptoBulkAll ds ≤ 1048576)
def OpenSpec.upto (s : _root_.Go.ChangeSpec) : _root_.Go.OpenSpec := { _root_.Go.OpenSpec.ofChange s with cond := some uptoSmall }

/-- 'almerylaw11.BitsActs', WHERE WHAT IT READS IS OF BULK AT MOST 1048576: true; the input reads as it did. -/
def bitsActsUptoRow : OpenClaim := { program := "ytoileikhfgehcaadoor", sum := "2ab4253ff644602c17f2e01848cd0d64b8a13f17565c150b3da811a1a1fbda9b", func := "almery/almerylaw11.BitsActs", spec := "bitsActs", named := ["math/bits.deBruijn64tab"], apart := false, laid := [("math/bits.deBruijn64tab", laid_math_bits_deBruijn64tab)], narrowed := true }
def BitsActsUptoSaid : Prop := bitsActsUptoRow.holds Tryd.pinned (OpenSpec.upto bitsActsSpec)

/-- 'almerylaw11.BitsNew', WHERE WHAT IT READS IS OF BULK AT MOST 1048576: true; the input reads as it did. -/
def bitsNewUptoRow : OpenClaim := { program := "ytoileikhfgehcaadoor", sum := "2ab4253ff644602c17f2e01848cd0d64b8a13f17565c150b3da811a1a1fbda9b", func := "almery/almerylaw11.BitsNew", spec := "bitsNew", named := ["math/bits.deBruijn64tab"], apart := false, laid := [("math/bits.deBruijn64tab", laid_math_bits_deBruijn64tab)], narrowed := true }
def BitsNewUptoSaid : Prop := bitsNewUptoRow.holds Tryd.pinned (OpenSpec.upto bitsNewSpec)

/-- 'almerylaw11.BitsFill', WHERE WHAT IT READS IS OF BULK AT MOST 1048576: true; the input reads as it did. -/
def bitsFillUptoRow : OpenClaim := { program := "ytoileikhfgehcaadoor", sum := "2ab4253ff644602c17f2e01848cd0d64b8a13f17565c150b3da811a1a1fbda9b", func := "almery/almerylaw11.BitsFill", spec := "bitsFill", named := ["math/bits.deBruijn64tab"], apart := false, laid := [("math/bits.deBruijn64tab", laid_math_bits_deBruijn64tab)], narrowed := true }
def BitsFillUptoSaid : Prop := bitsFillUptoRow.holds Tryd.pinned (OpenSpec.upto bitsFillSpec)

/-- 'almerylaw11.BitsBetween', WHERE WHAT IT READS IS OF BULK AT MOST 1048576: true; the input reads as it did. -/
def bitsBetweenUptoRow : OpenClaim := { program := "ytoileikhfgehcaadoor", sum := "2ab4253ff644602c17f2e01848cd0d64b8a13f17565c150b3da811a1a1fbda9b", func := "almery/almerylaw11.BitsBetween", spec := "bitsBetween", named := ["math/bits.deBruijn64tab"], apart := false, laid := [("math/bits.deBruijn64tab", laid_math_bits_deBruijn64tab)], narrowed := true }
def BitsBetweenUptoSaid : Prop := bitsBetweenUptoRow.holds Tryd.pinned (OpenSpec.upto bitsBetweenSpec)

/-- 'almerylaw11.BitsNobody', WHERE WHAT IT READS IS OF BULK AT MOST 1048576: true; the input reads as it did. -/
def bitsNobodyUptoRow : OpenClaim := { program := "ytoileikhfgehcaadoor", sum := "2ab4253ff644602c17f2e01848cd0d64b8a13f17565c150b3da811a1a1fbda9b", func := "almery/almerylaw11.BitsNobody", spec := "bitsNobody", named := ["math/bits.deBruijn64tab"], apart := false, laid := [("math/bits.deBruijn64tab", laid_math_bits_deBruijn64tab)], narrowed := true }
def BitsNobodyUptoSaid : Prop := bitsNobodyUptoRow.holds Tryd.pinned (OpenSpec.upto bitsNobodySpec)

/-- 'almerylaw12.PageNew', WHERE WHAT IT READS IS OF BULK AT MOST 1048576: true; the input reads as it did. -/
def pageNewUptoRow : OpenClaim := { program := "ytoileikhfgehcaadoor", sum := "2ab4253ff644602c17f2e01848cd0d64b8a13f17565c150b3da811a1a1fbda9b", func := "almery/almerylaw12.PageNew", spec := "pageNew", named := ["math/bits.deBruijn64tab"], apart := false, laid := [("math/bits.deBruijn64tab", laid_math_bits_deBruijn64tab)], narrowed := true }
def PageNewUptoSaid : Prop := pageNewUptoRow.holds Tryd.pinned (OpenSpec.upto pageNewSpec)

/-- 'almerylaw12.PageFill', WHERE WHAT IT READS IS OF BULK AT MOST 1048576: true; the input reads as it did. -/
def pageFillUptoRow : OpenClaim := { program := "ytoileikhfgehcaadoor", sum := "2ab4253ff644602c17f2e01848cd0d64b8a13f17565c150b3da811a1a1fbda9b", func := "almery/almerylaw12.PageFill", spec := "pageFill", named := ["math/bits.deBruijn64tab"], apart := false, laid := [("math/bits.deBruijn64tab", laid_math_bits_deBruijn64tab)], narrowed := true }
def PageFillUptoSaid : Prop := pageFillUptoRow.holds Tryd.pinned (OpenSpec.upto pageFillSpec)

/-- 'almerylaw12.PageActs', WHERE WHAT IT READS IS OF BULK AT MOST 1048576: true; the input reads as it did. -/
def pageActsUptoRow : OpenClaim := { program := "ytoileikhfgehcaadoor", sum := "2ab4253ff644602c17f2e01848cd0d64b8a13f17565c150b3da811a1a1fbda9b", func := "almery/almerylaw12.PageActs", spec := "pageActs", named := ["math/bits.deBruijn64tab"], apart := false, laid := [("math/bits.deBruijn64tab", laid_math_bits_deBruijn64tab)], narrowed := true }
def PageActsUptoSaid : Prop := pageActsUptoRow.holds Tryd.pinned (OpenSpec.upto pageActsSpec)

/-- 'almerylaw12.PageBack', WHERE WHAT IT READS IS OF BULK AT MOST 1048576: true; the input reads as it did. -/
def pageBackUptoRow : OpenClaim := { program := "ytoileikhfgehcaadoor", sum := "2ab4253ff644602c17f2e01848cd0d64b8a13f17565c150b3da811a1a1fbda9b", func := "almery/almerylaw12.PageBack", spec := "pageBack", named := ["math/bits.deBruijn64tab"], apart := false, laid := [("math/bits.deBruijn64tab", laid_math_bits_deBruijn64tab)], narrowed := true }
def PageBackUptoSaid : Prop := pageBackUptoRow.holds Tryd.pinned (OpenSpec.upto pageBackSpec)

/-- 'almerylaw12.PageNobody', WHERE WHAT IT READS IS OF BULK AT MOST 1048576: true; the input reads as it did. -/
def pageNobodyUptoRow : OpenClaim := { program := "ytoileikhfgehcaadoor", sum := "2ab4253ff644602c17f2e01848cd0d64b8a13f17565c150b3da811a1a1fbda9b", func := "almery/almerylaw12.PageNobody", spec := "pageNobody", named := ["math/bits.deBruijn64tab"], apart := false, laid := [("math/bits.deBruijn64tab", laid_math_bits_deBruijn64tab)], narrowed := true }
def PageNobodyUptoSaid : Prop := pageNobodyUptoRow.holds Tryd.pinned (OpenSpec.upto pageNobodySpec)

end Rows
end Go.Proofs.YtoileikhfgehcaaDoor
