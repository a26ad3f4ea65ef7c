/-
  DERIVED. GIVEN WITH THE SEED: THE CARDS: each row of YtkiionjcapnepaaDoorRows.lean that lists a variable, with what it lists TIED to the program's text (the seventh form; the later family's looks); each row that meets fmt, with fmt's text TOLD by the authors' own Lean function (tested against real Go, not proved from fmt's source: count such statements apart). THE CARD IS WHAT COUNTS. Prove the row's statement (the work); the ties are given (YtkiionjcapnepaaDoorTie.lean); close each card by the builder's one call (the guide's Derived/Test/ToyasCard.lean, 'card_holds'). Laid BY PROGRAM, IN A SANDBOX (cutbox-door.mjs). By AI agents, Wed Nov 11 2026. No macro, syntax, notation, axiom, sorry.
-/
import Derived.Test.YtkiionjcapnepaaDoorRows
import GoSem.ClaimSeven
namespace Go.Proofs.YtkiionjcapnepaaDoor
namespace Rows

/-- THE TIED CARD OF 'almerylaw20.RoomNew'. -/
def roomNewCard : Claim7 := { stood := { row := roomNewRow, standIns := [], harness := (true, "7cc145929a1778561b4656f30b1ebd142d072ae22f280e76d835005a31cffafe"), looks := false }, kinds := [], alts := [], laidByText := true, laidKinds := [.data], laidTests := true, laidLooks := .later }
def RoomNewCardSaid : Prop := Claim7.holds Tryd.pinned (.plain (OpenSpec.ofChange roomNewSpec)) roomNewCard

/-- THE TIED CARD OF 'almerylaw20.RoomNobody'. -/
def roomNobodyCard : Claim7 := { stood := { row := roomNobodyRow, standIns := [], harness := (true, "7cc145929a1778561b4656f30b1ebd142d072ae22f280e76d835005a31cffafe"), looks := false }, kinds := [], alts := [], laidByText := true, laidKinds := [.data], laidTests := true, laidLooks := .later }
def RoomNobodyCardSaid : Prop := Claim7.holds Tryd.pinned (.plain (OpenSpec.ofChange roomNobodySpec)) roomNobodyCard

/-- THE SECOND FORM's CARD OF 'almerylaw20.RoomNew'. -/
def roomNewUptoCard : Claim7 := { stood := { row := roomNewUptoRow, standIns := [], harness := (true, "7cc145929a1778561b4656f30b1ebd142d072ae22f280e76d835005a31cffafe"), looks := false }, kinds := [], alts := [], laidByText := true, laidKinds := [.data], laidTests := true, laidLooks := .later }
def RoomNewUptoCardSaid : Prop := Claim7.holds Tryd.pinned (.plain (OpenSpec.upto roomNewSpec)) roomNewUptoCard

/-- THE SECOND FORM's CARD OF 'almerylaw20.RoomNobody'. -/
def roomNobodyUptoCard : Claim7 := { stood := { row := roomNobodyUptoRow, standIns := [], harness := (true, "7cc145929a1778561b4656f30b1ebd142d072ae22f280e76d835005a31cffafe"), looks := false }, kinds := [], alts := [], laidByText := true, laidKinds := [.data], laidTests := true, laidLooks := .later }
def RoomNobodyUptoCardSaid : Prop := Claim7.holds Tryd.pinned (.plain (OpenSpec.upto roomNobodySpec)) roomNobodyUptoCard
end Rows
end Go.Proofs.YtkiionjcapnepaaDoor
