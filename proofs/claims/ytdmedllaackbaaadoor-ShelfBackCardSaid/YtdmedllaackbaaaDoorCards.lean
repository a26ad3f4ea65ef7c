/-
  DERIVED. GIVEN WITH THE SEED: THE CARDS: each row of YtdmedllaackbaaaDoorRows.lean that lists a variable, with what it lists TIED to the program's text (the seventh form; the later family's looks); each row that meets fmt, with fmt's text TOLD by the authors' own Lean function (tested against real Go, not proved from fmt's source: count such statements apart). THE CARD IS WHAT COUNTS. Prove the row's statement (the work); the ties are given (YtdmedllaackbaaaDoorTie.lean); close each card by the builder's one call (the guide's Derived/Test/ToyasCard.lean, 'card_holds'). Laid BY PROGRAM, IN A SANDBOX (cutbox-door.mjs). By AI agents, Wed Nov 11 2026. No macro, syntax, notation, axiom, sorry.
-/
import Derived.Test.YtdmedllaackbaaaDoorRows
import GoSem.ClaimSeven
namespace Go.Proofs.YtdmedllaackbaaaDoor
namespace Rows

/-- THE TIED CARD OF 'almerylaw13.ShelfNew'. -/
def shelfNewCard : Claim7 := { stood := { row := shelfNewRow, standIns := [], harness := (true, "f585f4f5b2726bdc56e565ee45b864b3f24fb8f1de28abf913c991a5e8dd4594"), looks := false }, kinds := [], alts := [], laidByText := true, laidKinds := [.data], laidTests := true, laidLooks := .later }
def ShelfNewCardSaid : Prop := Claim7.holds Tryd.pinned (.plain (OpenSpec.ofChange shelfNewSpec)) shelfNewCard

/-- THE TIED CARD OF 'almerylaw13.ShelfPages'. -/
def shelfPagesCard : Claim7 := { stood := { row := shelfPagesRow, standIns := [], harness := (true, "f585f4f5b2726bdc56e565ee45b864b3f24fb8f1de28abf913c991a5e8dd4594"), looks := false }, kinds := [], alts := [], laidByText := true, laidKinds := [.data], laidTests := true, laidLooks := .later }
def ShelfPagesCardSaid : Prop := Claim7.holds Tryd.pinned (.plain (OpenSpec.ofChange shelfPagesSpec)) shelfPagesCard

/-- THE TIED CARD OF 'almerylaw13.ShelfMoves'. -/
def shelfMovesCard : Claim7 := { stood := { row := shelfMovesRow, standIns := [], harness := (true, "f585f4f5b2726bdc56e565ee45b864b3f24fb8f1de28abf913c991a5e8dd4594"), looks := false }, kinds := [], alts := [], laidByText := true, laidKinds := [.data], laidTests := true, laidLooks := .later }
def ShelfMovesCardSaid : Prop := Claim7.holds Tryd.pinned (.plain (OpenSpec.ofChange shelfMovesSpec)) shelfMovesCard

/-- THE TIED CARD OF 'almerylaw13.ShelfNobody'. -/
def shelfNobodyCard : Claim7 := { stood := { row := shelfNobodyRow, standIns := [], harness := (true, "f585f4f5b2726bdc56e565ee45b864b3f24fb8f1de28abf913c991a5e8dd4594"), looks := false }, kinds := [], alts := [], laidByText := true, laidKinds := [.data], laidTests := true, laidLooks := .later }
def ShelfNobodyCardSaid : Prop := Claim7.holds Tryd.pinned (.plain (OpenSpec.ofChange shelfNobodySpec)) shelfNobodyCard

/-- THE TIED CARD OF 'almerylaw13.ShelfActs'. -/
def shelfActsCard : Claim7 := { stood := { row := shelfActsRow, standIns := [], harness := (true, "f585f4f5b2726bdc56e565ee45b864b3f24fb8f1de28abf913c991a5e8dd4594"), looks := false }, kinds := [], alts := [], laidByText := true, laidKinds := [.data], laidTests := true, laidLooks := .later }
def ShelfActsCardSaid : Prop := Claim7.holds Tryd.pinned (.plain (OpenSpec.ofChange shelfActsSpec)) shelfActsCard

/-- THE TIED CARD OF 'almerylaw13.ShelfBack'. -/
def shelfBackCard : Claim7 := { stood := { row := shelfBackRow, standIns := [], harness := (true, "f585f4f5b2726bdc56e565ee45b864b3f24fb8f1de28abf913c991a5e8dd4594"), looks := false }, kinds := [], alts := [], laidByText := true, laidKinds := [.data], laidTests := true, laidLooks := .later }
def ShelfBackCardSaid : Prop := Claim7.holds Tryd.pinned (.plain (OpenSpec.ofChange shelfBackSpec)) shelfBackCard

/-- THE SECOND FORM's CARD OF 'almerylaw13.ShelfNew'. -/
def shelfNewUptoCard : Claim7 := { stood := { row := shelfNewUptoRow, standIns := [], harness := (true, "f585f4f5b2726bdc56e565ee45b864b3f24fb8f1de28abf913c991a5e8dd4594"), looks := false }, kinds := [], alts := [], laidByText := true, laidKinds := [.data], laidTests := true, laidLooks := .later }
def ShelfNewUptoCardSaid : Prop := Claim7.holds Tryd.pinned (.plain (OpenSpec.upto shelfNewSpec)) shelfNewUptoCard

/-- THE SECOND FORM's CARD OF 'almerylaw13.ShelfPages'. -/
def shelfPagesUptoCard : Claim7 := { stood := { row := shelfPagesUptoRow, standIns := [], harness := (true, "f585f4f5b2726bdc56e565ee45b864b3f24fb8f1de28abf913c991a5e8dd4594"), looks := false }, kinds := [], alts := [], laidByText := true, laidKinds := [.data], laidTests := true, laidLooks := .later }
def ShelfPagesUptoCardSaid : Prop := Claim7.holds Tryd.pinned (.plain (OpenSpec.upto shelfPagesSpec)) shelfPagesUptoCard

/-- THE SECOND FORM's CARD OF 'almerylaw13.ShelfMoves'. -/
def shelfMovesUptoCard : Claim7 := { stood := { row := shelfMovesUptoRow, standIns := [], harness := (true, "f585f4f5b2726bdc56e565ee45b864b3f24fb8f1de28abf913c991a5e8dd4594"), looks := false }, kinds := [], alts := [], laidByText := true, laidKinds := [.data], laidTests := true, laidLooks := .later }
def ShelfMovesUptoCardSaid : Prop := Claim7.holds Tryd.pinned (.plain (OpenSpec.upto shelfMovesSpec)) shelfMovesUptoCard

/-- THE SECOND FORM's CARD OF 'almerylaw13.ShelfNobody'. -/
def shelfNobodyUptoCard : Claim7 := { stood := { row := shelfNobodyUptoRow, standIns := [], harness := (true, "f585f4f5b2726bdc56e565ee45b864b3f24fb8f1de28abf913c991a5e8dd4594"), looks := false }, kinds := [], alts := [], laidByText := true, laidKinds := [.data], laidTests := true, laidLooks := .later }
def ShelfNobodyUptoCardSaid : Prop := Claim7.holds Tryd.pinned (.plain (OpenSpec.upto shelfNobodySpec)) shelfNobodyUptoCard

/-- THE SECOND FORM's CARD OF 'almerylaw13.ShelfActs'. -/
def shelfActsUptoCard : Claim7 := { stood := { row := shelfActsUptoRow, standIns := [], harness := (true, "f585f4f5b2726bdc56e565ee45b864b3f24fb8f1de28abf913c991a5e8dd4594"), looks := false }, kinds := [], alts := [], laidByText := true, laidKinds := [.data], laidTests := true, laidLooks := .later }
def ShelfActsUptoCardSaid : Prop := Claim7.holds Tryd.pinned (.plain (OpenSpec.upto shelfActsSpec)) shelfActsUptoCard

/-- THE SECOND FORM's CARD OF 'almerylaw13.ShelfBack'. -/
def shelfBackUptoCard : Claim7 := { stood := { row := shelfBackUptoRow, standIns := [], harness := (true, "f585f4f5b2726bdc56e565ee45b864b3f24fb8f1de28abf913c991a5e8dd4594"), looks := false }, kinds := [], alts := [], laidByText := true, laidKinds := [.data], laidTests := true, laidLooks := .later }
def ShelfBackUptoCardSaid : Prop := Claim7.holds Tryd.pinned (.plain (OpenSpec.upto shelfBackSpec)) shelfBackUptoCard
end Rows
end Go.Proofs.YtdmedllaackbaaaDoor
