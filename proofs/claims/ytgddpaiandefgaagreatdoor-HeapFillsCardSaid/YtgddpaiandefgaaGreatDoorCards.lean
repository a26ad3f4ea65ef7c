/-
  DERIVED. GIVEN WITH THE SEED: THE CARDS: each row of YtgddpaiandefgaaGreatDoorRows.lean that lists a variable, with what it lists TIED to the program's text (the seventh form; the later family's looks); each row that meets fmt, with fmt's text TOLD by the authors' own Lean function (tested against real Go, not proved from fmt's source: count such statements apart). THE CARD IS WHAT COUNTS. Prove the row's statement (the work); the ties are given (YtgddpaiandefgaaGreatDoorTie.lean); close each card by the builder's one call (the guide's Derived/Test/ToyasCard.lean, 'card_holds'). Laid BY PROGRAM, IN A SANDBOX (cutbox-door.mjs). By AI agents, Wed Nov 11 2026. No macro, syntax, notation, axiom, sorry.
-/
import Derived.Test.YtgddpaiandefgaaGreatDoorRows
import GoSem.ClaimSeven
namespace Go.Proofs.YtgddpaiandefgaaGreatDoor
namespace Rows

/-- THE TIED CARD OF 'almerylaw23.HeapNew'. -/
def heapNewCard : Claim7 := { stood := { row := heapNewRow, standIns := [], harness := (true, "52373ce68270dbe41684df7828100c14aab112f77eca4667c9bedb0a8e16b527"), looks := false }, kinds := [], alts := [], laidByText := true, laidKinds := [.data], laidTests := true, laidLooks := .later }
def HeapNewCardSaid : Prop := Claim7.holds Tryz.pinned (.plain (OpenSpec.ofChange heapNewSpec)) heapNewCard

/-- THE TIED CARD OF 'almerylaw23.HeapSteps'. -/
def heapStepsCard : Claim7 := { stood := { row := heapStepsRow, standIns := [], harness := (true, "52373ce68270dbe41684df7828100c14aab112f77eca4667c9bedb0a8e16b527"), looks := false }, kinds := [], alts := [], laidByText := true, laidKinds := [.data], laidTests := true, laidLooks := .later }
def HeapStepsCardSaid : Prop := Claim7.holds Tryz.pinned (.plain (OpenSpec.ofChange heapStepsSpec)) heapStepsCard

/-- THE TIED CARD OF 'almerylaw23.HeapFills'. -/
def heapFillsCard : Claim7 := { stood := { row := heapFillsRow, standIns := [], harness := (true, "52373ce68270dbe41684df7828100c14aab112f77eca4667c9bedb0a8e16b527"), looks := false }, kinds := [], alts := [], laidByText := true, laidKinds := [.data], laidTests := true, laidLooks := .later }
def HeapFillsCardSaid : Prop := Claim7.holds Tryz.pinned (.plain (OpenSpec.ofChange heapFillsSpec)) heapFillsCard

/-- THE TIED CARD OF 'almerylaw23.HeapRuns'. -/
def heapRunsCard : Claim7 := { stood := { row := heapRunsRow, standIns := [], harness := (true, "52373ce68270dbe41684df7828100c14aab112f77eca4667c9bedb0a8e16b527"), looks := false }, kinds := [], alts := [], laidByText := true, laidKinds := [.data], laidTests := true, laidLooks := .later }
def HeapRunsCardSaid : Prop := Claim7.holds Tryz.pinned (.plain (OpenSpec.ofChange heapRunsSpec)) heapRunsCard

/-- THE TIED CARD OF 'almerylaw23.HeapRefuses'. -/
def heapRefusesCard : Claim7 := { stood := { row := heapRefusesRow, standIns := [], harness := (true, "52373ce68270dbe41684df7828100c14aab112f77eca4667c9bedb0a8e16b527"), looks := false }, kinds := [], alts := [], laidByText := true, laidKinds := [.data], laidTests := true, laidLooks := .later }
def HeapRefusesCardSaid : Prop := Claim7.holds Tryz.pinned (.plain (OpenSpec.ofChange heapRefusesSpec)) heapRefusesCard

/-- THE TIED CARD OF 'almerylaw23.HeapNobody'. -/
def heapNobodyCard : Claim7 := { stood := { row := heapNobodyRow, standIns := [], harness := (true, "52373ce68270dbe41684df7828100c14aab112f77eca4667c9bedb0a8e16b527"), looks := false }, kinds := [], alts := [], laidByText := true, laidKinds := [.data], laidTests := true, laidLooks := .later }
def HeapNobodyCardSaid : Prop := Claim7.holds Tryz.pinned (.plain (OpenSpec.ofChange heapNobodySpec)) heapNobodyCard

/-- THE SECOND FORM's CARD OF 'almerylaw23.HeapNew'. -/
def heapNewUptoCard : Claim7 := { stood := { row := heapNewUptoRow, standIns := [], harness := (true, "52373ce68270dbe41684df7828100c14aab112f77eca4667c9bedb0a8e16b527"), looks := false }, kinds := [], alts := [], laidByText := true, laidKinds := [.data], laidTests := true, laidLooks := .later }
def HeapNewUptoCardSaid : Prop := Claim7.holds Tryz.pinned (.plain (OpenSpec.upto heapNewSpec)) heapNewUptoCard

/-- THE SECOND FORM's CARD OF 'almerylaw23.HeapSteps'. -/
def heapStepsUptoCard : Claim7 := { stood := { row := heapStepsUptoRow, standIns := [], harness := (true, "52373ce68270dbe41684df7828100c14aab112f77eca4667c9bedb0a8e16b527"), looks := false }, kinds := [], alts := [], laidByText := true, laidKinds := [.data], laidTests := true, laidLooks := .later }
def HeapStepsUptoCardSaid : Prop := Claim7.holds Tryz.pinned (.plain (OpenSpec.upto heapStepsSpec)) heapStepsUptoCard

/-- THE SECOND FORM's CARD OF 'almerylaw23.HeapFills'. -/
def heapFillsUptoCard : Claim7 := { stood := { row := heapFillsUptoRow, standIns := [], harness := (true, "52373ce68270dbe41684df7828100c14aab112f77eca4667c9bedb0a8e16b527"), looks := false }, kinds := [], alts := [], laidByText := true, laidKinds := [.data], laidTests := true, laidLooks := .later }
def HeapFillsUptoCardSaid : Prop := Claim7.holds Tryz.pinned (.plain (OpenSpec.upto heapFillsSpec)) heapFillsUptoCard

/-- THE SECOND FORM's CARD OF 'almerylaw23.HeapRuns'. -/
def heapRunsUptoCard : Claim7 := { stood := { row := heapRunsUptoRow, standIns := [], harness := (true, "52373ce68270dbe41684df7828100c14aab112f77eca4667c9bedb0a8e16b527"), looks := false }, kinds := [], alts := [], laidByText := true, laidKinds := [.data], laidTests := true, laidLooks := .later }
def HeapRunsUptoCardSaid : Prop := Claim7.holds Tryz.pinned (.plain (OpenSpec.upto heapRunsSpec)) heapRunsUptoCard

/-- THE SECOND FORM's CARD OF 'almerylaw23.HeapRefuses'. -/
def heapRefusesUptoCard : Claim7 := { stood := { row := heapRefusesUptoRow, standIns := [], harness := (true, "52373ce68270dbe41684df7828100c14aab112f77eca4667c9bedb0a8e16b527"), looks := false }, kinds := [], alts := [], laidByText := true, laidKinds := [.data], laidTests := true, laidLooks := .later }
def HeapRefusesUptoCardSaid : Prop := Claim7.holds Tryz.pinned (.plain (OpenSpec.upto heapRefusesSpec)) heapRefusesUptoCard

/-- THE SECOND FORM's CARD OF 'almerylaw23.HeapNobody'. -/
def heapNobodyUptoCard : Claim7 := { stood := { row := heapNobodyUptoRow, standIns := [], harness := (true, "52373ce68270dbe41684df7828100c14aab112f77eca4667c9bedb0a8e16b527"), looks := false }, kinds := [], alts := [], laidByText := true, laidKinds := [.data], laidTests := true, laidLooks := .later }
def HeapNobodyUptoCardSaid : Prop := Claim7.holds Tryz.pinned (.plain (OpenSpec.upto heapNobodySpec)) heapNobodyUptoCard
end Rows
end Go.Proofs.YtgddpaiandefgaaGreatDoor
