/-
  DERIVED. GIVEN WITH THE SEED: THE CARDS: each row of YtdeihcnepljjaaaGreatDoorRows.lean that lists a variable, with what it lists TIED to the program's text (the seventh form; the later family's looks); each row that meets fmt, with fmt's text TOLD by the authors' own Lean function (tested against real Go, not proved from fmt's source: count such statements apart). THE CARD IS WHAT COUNTS. Prove the row's statement (the work); the ties are given (YtdeihcnepljjaaaGreatDoorTie.lean); close each card by the builder's one call (the guide's Derived/Test/ToyasCard.lean, 'card_holds'). Laid BY PROGRAM, IN A SANDBOX (cutbox-door.mjs). By AI agents, Wed Nov 11 2026. No macro, syntax, notation, axiom, sorry.
-/
import Derived.Test.YtdeihcnepljjaaaGreatDoorRows
import GoSem.ClaimSeven
namespace Go.Proofs.YtdeihcnepljjaaaGreatDoor
namespace Rows

/-- THE TIED CARD OF 'almerylaw23.HeapSteps'. -/
def heapStepsCard : Claim7 := { stood := { row := heapStepsRow, standIns := [], harness := (true, "3c832c4d94f3a9f9a753dae55c9cb4431bcc97ec3f8b838c10fb96e221c8b8ac"), looks := false }, kinds := [], alts := [], laidByText := true, laidKinds := [.data], laidTests := true, laidLooks := .later }
def HeapStepsCardSaid : Prop := Claim7.holds Tryz.pinned (.plain (OpenSpec.ofChange heapStepsSpec)) heapStepsCard

/-- THE TIED CARD OF 'almerylaw23.HeapRuns'. -/
def heapRunsCard : Claim7 := { stood := { row := heapRunsRow, standIns := [], harness := (true, "3c832c4d94f3a9f9a753dae55c9cb4431bcc97ec3f8b838c10fb96e221c8b8ac"), looks := false }, kinds := [], alts := [], laidByText := true, laidKinds := [.data], laidTests := true, laidLooks := .later }
def HeapRunsCardSaid : Prop := Claim7.holds Tryz.pinned (.plain (OpenSpec.ofChange heapRunsSpec)) heapRunsCard

/-- THE TIED CARD OF 'almerylaw23.HeapRefuses'. -/
def heapRefusesCard : Claim7 := { stood := { row := heapRefusesRow, standIns := [], harness := (true, "3c832c4d94f3a9f9a753dae55c9cb4431bcc97ec3f8b838c10fb96e221c8b8ac"), looks := false }, kinds := [], alts := [], laidByText := true, laidKinds := [.data], laidTests := true, laidLooks := .later }
def HeapRefusesCardSaid : Prop := Claim7.holds Tryz.pinned (.plain (OpenSpec.ofChange heapRefusesSpec)) heapRefusesCard

/-- THE SECOND FORM's CARD OF 'almerylaw23.HeapSteps'. -/
def heapStepsUptoCard : Claim7 := { stood := { row := heapStepsUptoRow, standIns := [], harness := (true, "3c832c4d94f3a9f9a753dae55c9cb4431bcc97ec3f8b838c10fb96e221c8b8ac"), looks := false }, kinds := [], alts := [], laidByText := true, laidKinds := [.data], laidTests := true, laidLooks := .later }
def HeapStepsUptoCardSaid : Prop := Claim7.holds Tryz.pinned (.plain (OpenSpec.upto heapStepsSpec)) heapStepsUptoCard

/-- THE SECOND FORM's CARD OF 'almerylaw23.HeapRuns'. -/
def heapRunsUptoCard : Claim7 := { stood := { row := heapRunsUptoRow, standIns := [], harness := (true, "3c832c4d94f3a9f9a753dae55c9cb4431bcc97ec3f8b838c10fb96e221c8b8ac"), looks := false }, kinds := [], alts := [], laidByText := true, laidKinds := [.data], laidTests := true, laidLooks := .later }
def HeapRunsUptoCardSaid : Prop := Claim7.holds Tryz.pinned (.plain (OpenSpec.upto heapRunsSpec)) heapRunsUptoCard

/-- THE SECOND FORM's CARD OF 'almerylaw23.HeapRefuses'. -/
def heapRefusesUptoCard : Claim7 := { stood := { row := heapRefusesUptoRow, standIns := [], harness := (true, "3c832c4d94f3a9f9a753dae55c9cb4431bcc97ec3f8b838c10fb96e221c8b8ac"), looks := false }, kinds := [], alts := [], laidByText := true, laidKinds := [.data], laidTests := true, laidLooks := .later }
def HeapRefusesUptoCardSaid : Prop := Claim7.holds Tryz.pinned (.plain (OpenSpec.upto heapRefusesSpec)) heapRefusesUptoCard
end Rows
end Go.Proofs.YtdeihcnepljjaaaGreatDoor
