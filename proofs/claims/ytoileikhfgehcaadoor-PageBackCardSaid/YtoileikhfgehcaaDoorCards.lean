/-
  DERIVED. GIVEN WITH THE SEED: THE CARDS: each row of YtoileikhfgehcaaDoorRows.lean that lists a variable, with what it lists TIED to the program's text (the seventh form; the later family's looks); each row that meets fmt, with fmt's text TOLD by the authors' own Lean function (tested against real Go, not proved from fmt's source: count such statements apart). THE CARD IS WHAT COUNTS. Prove the row's statement (the work); the ties are given (YtoileikhfgehcaaDoorTie.lean); close each card by the builder's one call (the guide's Derived/Test/ToyasCard.lean, 'card_holds'). Laid BY PROGRAM, IN A SANDBOX (cutbox-door.mjs). By AI agents, Wed Nov 11 2026. No macro, syntax, notation, axiom, sorry.
-/
import Derived.Test.YtoileikhfgehcaaDoorRows
import GoSem.ClaimSeven
namespace Go.Proofs.YtoileikhfgehcaaDoor
namespace Rows

/-- THE TIED CARD OF 'almerylaw11.BitsActs'. -/
def bitsActsCard : Claim7 := { stood := { row := bitsActsRow, standIns := [], harness := (true, "49e01b5c58514faa0ed59988e1bcef05d3858e86c81dfe0fd377e8554a6e673b"), looks := false }, kinds := [], alts := [], laidByText := true, laidKinds := [.data], laidTests := true, laidLooks := .later }
def BitsActsCardSaid : Prop := Claim7.holds Tryd.pinned (.plain (OpenSpec.ofChange bitsActsSpec)) bitsActsCard

/-- THE TIED CARD OF 'almerylaw11.BitsNew'. -/
def bitsNewCard : Claim7 := { stood := { row := bitsNewRow, standIns := [], harness := (true, "49e01b5c58514faa0ed59988e1bcef05d3858e86c81dfe0fd377e8554a6e673b"), looks := false }, kinds := [], alts := [], laidByText := true, laidKinds := [.data], laidTests := true, laidLooks := .later }
def BitsNewCardSaid : Prop := Claim7.holds Tryd.pinned (.plain (OpenSpec.ofChange bitsNewSpec)) bitsNewCard

/-- THE TIED CARD OF 'almerylaw11.BitsFill'. -/
def bitsFillCard : Claim7 := { stood := { row := bitsFillRow, standIns := [], harness := (true, "49e01b5c58514faa0ed59988e1bcef05d3858e86c81dfe0fd377e8554a6e673b"), looks := false }, kinds := [], alts := [], laidByText := true, laidKinds := [.data], laidTests := true, laidLooks := .later }
def BitsFillCardSaid : Prop := Claim7.holds Tryd.pinned (.plain (OpenSpec.ofChange bitsFillSpec)) bitsFillCard

/-- THE TIED CARD OF 'almerylaw11.BitsBetween'. -/
def bitsBetweenCard : Claim7 := { stood := { row := bitsBetweenRow, standIns := [], harness := (true, "49e01b5c58514faa0ed59988e1bcef05d3858e86c81dfe0fd377e8554a6e673b"), looks := false }, kinds := [], alts := [], laidByText := true, laidKinds := [.data], laidTests := true, laidLooks := .later }
def BitsBetweenCardSaid : Prop := Claim7.holds Tryd.pinned (.plain (OpenSpec.ofChange bitsBetweenSpec)) bitsBetweenCard

/-- THE TIED CARD OF 'almerylaw11.BitsNobody'. -/
def bitsNobodyCard : Claim7 := { stood := { row := bitsNobodyRow, standIns := [], harness := (true, "49e01b5c58514faa0ed59988e1bcef05d3858e86c81dfe0fd377e8554a6e673b"), looks := false }, kinds := [], alts := [], laidByText := true, laidKinds := [.data], laidTests := true, laidLooks := .later }
def BitsNobodyCardSaid : Prop := Claim7.holds Tryd.pinned (.plain (OpenSpec.ofChange bitsNobodySpec)) bitsNobodyCard

/-- THE TIED CARD OF 'almerylaw12.PageNew'. -/
def pageNewCard : Claim7 := { stood := { row := pageNewRow, standIns := [], harness := (true, "49e01b5c58514faa0ed59988e1bcef05d3858e86c81dfe0fd377e8554a6e673b"), looks := false }, kinds := [], alts := [], laidByText := true, laidKinds := [.data], laidTests := true, laidLooks := .later }
def PageNewCardSaid : Prop := Claim7.holds Tryd.pinned (.plain (OpenSpec.ofChange pageNewSpec)) pageNewCard

/-- THE TIED CARD OF 'almerylaw12.PageFill'. -/
def pageFillCard : Claim7 := { stood := { row := pageFillRow, standIns := [], harness := (true, "49e01b5c58514faa0ed59988e1bcef05d3858e86c81dfe0fd377e8554a6e673b"), looks := false }, kinds := [], alts := [], laidByText := true, laidKinds := [.data], laidTests := true, laidLooks := .later }
def PageFillCardSaid : Prop := Claim7.holds Tryd.pinned (.plain (OpenSpec.ofChange pageFillSpec)) pageFillCard

/-- THE TIED CARD OF 'almerylaw12.PageActs'. -/
def pageActsCard : Claim7 := { stood := { row := pageActsRow, standIns := [], harness := (true, "49e01b5c58514faa0ed59988e1bcef05d3858e86c81dfe0fd377e8554a6e673b"), looks := false }, kinds := [], alts := [], laidByText := true, laidKinds := [.data], laidTests := true, laidLooks := .later }
def PageActsCardSaid : Prop := Claim7.holds Tryd.pinned (.plain (OpenSpec.ofChange pageActsSpec)) pageActsCard

/-- THE TIED CARD OF 'almerylaw12.PageBack'. -/
def pageBackCard : Claim7 := { stood := { row := pageBackRow, standIns := [], harness := (true, "49e01b5c58514faa0ed59988e1bcef05d3858e86c81dfe0fd377e8554a6e673b"), looks := false }, kinds := [], alts := [], laidByText := true, laidKinds := [.data], laidTests := true, laidLooks := .later }
def PageBackCardSaid : Prop := Claim7.holds Tryd.pinned (.plain (OpenSpec.ofChange pageBackSpec)) pageBackCard

/-- THE TIED CARD OF 'almerylaw12.PageNobody'. -/
def pageNobodyCard : Claim7 := { stood := { row := pageNobodyRow, standIns := [], harness := (true, "49e01b5c58514faa0ed59988e1bcef05d3858e86c81dfe0fd377e8554a6e673b"), looks := false }, kinds := [], alts := [], laidByText := true, laidKinds := [.data], laidTests := true, laidLooks := .later }
def PageNobodyCardSaid : Prop := Claim7.holds Tryd.pinned (.plain (OpenSpec.ofChange pageNobodySpec)) pageNobodyCard

/-- THE SECOND FORM's CARD OF 'almerylaw11.BitsActs'. -/
def bitsActsUptoCard : Claim7 := { stood := { row := bitsActsUptoRow, standIns := [], harness := (true, "49e01b5c58514faa0ed59988e1bcef05d3858e86c81dfe0fd377e8554a6e673b"), looks := false }, kinds := [], alts := [], laidByText := true, laidKinds := [.data], laidTests := true, laidLooks := .later }
def BitsActsUptoCardSaid : Prop := Claim7.holds Tryd.pinned (.plain (OpenSpec.upto bitsActsSpec)) bitsActsUptoCard

/-- THE SECOND FORM's CARD OF 'almerylaw11.BitsNew'. -/
def bitsNewUptoCard : Claim7 := { stood := { row := bitsNewUptoRow, standIns := [], harness := (true, "49e01b5c58514faa0ed59988e1bcef05d3858e86c81dfe0fd377e8554a6e673b"), looks := false }, kinds := [], alts := [], laidByText := true, laidKinds := [.data], laidTests := true, laidLooks := .later }
def BitsNewUptoCardSaid : Prop := Claim7.holds Tryd.pinned (.plain (OpenSpec.upto bitsNewSpec)) bitsNewUptoCard

/-- THE SECOND FORM's CARD OF 'almerylaw11.BitsFill'. -/
def bitsFillUptoCard : Claim7 := { stood := { row := bitsFillUptoRow, standIns := [], harness := (true, "49e01b5c58514faa0ed59988e1bcef05d3858e86c81dfe0fd377e8554a6e673b"), looks := false }, kinds := [], alts := [], laidByText := true, laidKinds := [.data], laidTests := true, laidLooks := .later }
def BitsFillUptoCardSaid : Prop := Claim7.holds Tryd.pinned (.plain (OpenSpec.upto bitsFillSpec)) bitsFillUptoCard

/-- THE SECOND FORM's CARD OF 'almerylaw11.BitsBetween'. -/
def bitsBetweenUptoCard : Claim7 := { stood := { row := bitsBetweenUptoRow, standIns := [], harness := (true, "49e01b5c58514faa0ed59988e1bcef05d3858e86c81dfe0fd377e8554a6e673b"), looks := false }, kinds := [], alts := [], laidByText := true, laidKinds := [.data], laidTests := true, laidLooks := .later }
def BitsBetweenUptoCardSaid : Prop := Claim7.holds Tryd.pinned (.plain (OpenSpec.upto bitsBetweenSpec)) bitsBetweenUptoCard

/-- THE SECOND FORM's CARD OF 'almerylaw11.BitsNobody'. -/
def bitsNobodyUptoCard : Claim7 := { stood := { row := bitsNobodyUptoRow, standIns := [], harness := (true, "49e01b5c58514faa0ed59988e1bcef05d3858e86c81dfe0fd377e8554a6e673b"), looks := false }, kinds := [], alts := [], laidByText := true, laidKinds := [.data], laidTests := true, laidLooks := .later }
def BitsNobodyUptoCardSaid : Prop := Claim7.holds Tryd.pinned (.plain (OpenSpec.upto bitsNobodySpec)) bitsNobodyUptoCard

/-- THE SECOND FORM's CARD OF 'almerylaw12.PageNew'. -/
def pageNewUptoCard : Claim7 := { stood := { row := pageNewUptoRow, standIns := [], harness := (true, "49e01b5c58514faa0ed59988e1bcef05d3858e86c81dfe0fd377e8554a6e673b"), looks := false }, kinds := [], alts := [], laidByText := true, laidKinds := [.data], laidTests := true, laidLooks := .later }
def PageNewUptoCardSaid : Prop := Claim7.holds Tryd.pinned (.plain (OpenSpec.upto pageNewSpec)) pageNewUptoCard

/-- THE SECOND FORM's CARD OF 'almerylaw12.PageFill'. -/
def pageFillUptoCard : Claim7 := { stood := { row := pageFillUptoRow, standIns := [], harness := (true, "49e01b5c58514faa0ed59988e1bcef05d3858e86c81dfe0fd377e8554a6e673b"), looks := false }, kinds := [], alts := [], laidByText := true, laidKinds := [.data], laidTests := true, laidLooks := .later }
def PageFillUptoCardSaid : Prop := Claim7.holds Tryd.pinned (.plain (OpenSpec.upto pageFillSpec)) pageFillUptoCard

/-- THE SECOND FORM's CARD OF 'almerylaw12.PageActs'. -/
def pageActsUptoCard : Claim7 := { stood := { row := pageActsUptoRow, standIns := [], harness := (true, "49e01b5c58514faa0ed59988e1bcef05d3858e86c81dfe0fd377e8554a6e673b"), looks := false }, kinds := [], alts := [], laidByText := true, laidKinds := [.data], laidTests := true, laidLooks := .later }
def PageActsUptoCardSaid : Prop := Claim7.holds Tryd.pinned (.plain (OpenSpec.upto pageActsSpec)) pageActsUptoCard

/-- THE SECOND FORM's CARD OF 'almerylaw12.PageBack'. -/
def pageBackUptoCard : Claim7 := { stood := { row := pageBackUptoRow, standIns := [], harness := (true, "49e01b5c58514faa0ed59988e1bcef05d3858e86c81dfe0fd377e8554a6e673b"), looks := false }, kinds := [], alts := [], laidByText := true, laidKinds := [.data], laidTests := true, laidLooks := .later }
def PageBackUptoCardSaid : Prop := Claim7.holds Tryd.pinned (.plain (OpenSpec.upto pageBackSpec)) pageBackUptoCard

/-- THE SECOND FORM's CARD OF 'almerylaw12.PageNobody'. -/
def pageNobodyUptoCard : Claim7 := { stood := { row := pageNobodyUptoRow, standIns := [], harness := (true, "49e01b5c58514faa0ed59988e1bcef05d3858e86c81dfe0fd377e8554a6e673b"), looks := false }, kinds := [], alts := [], laidByText := true, laidKinds := [.data], laidTests := true, laidLooks := .later }
def PageNobodyUptoCardSaid : Prop := Claim7.holds Tryd.pinned (.plain (OpenSpec.upto pageNobodySpec)) pageNobodyUptoCard
end Rows
end Go.Proofs.YtoileikhfgehcaaDoor
