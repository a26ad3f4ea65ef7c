/-
  DERIVED. GIVEN WITH THE SEED: THE CARDS: each row of YtkiionjcapnepaaGreatDoorRows.lean that lists a variable, with what it lists TIED to the program's text (the seventh form; the later family's looks); each row that meets fmt, with fmt's text TOLD by the authors' own Lean function (tested against real Go, not proved from fmt's source: count such statements apart). THE CARD IS WHAT COUNTS. Prove the row's statement (the work); the ties are given (YtkiionjcapnepaaGreatDoorTie.lean); close each card by the builder's one call (the guide's Derived/Test/ToyasCard.lean, 'card_holds'). Laid BY PROGRAM, IN A SANDBOX (cutbox-door.mjs). By AI agents, Wed Nov 11 2026. No macro, syntax, notation, axiom, sorry.
-/
import Derived.Test.YtkiionjcapnepaaGreatDoorRows
import GoSem.ClaimSeven
namespace Go.Proofs.YtkiionjcapnepaaGreatDoor
namespace Rows

/-- THE TIED CARD OF 'almerylaw20.RoomHeld'. -/
def roomHeldCard : Claim7 := { stood := { row := roomHeldRow, standIns := [], harness := (true, "ff5393bdc2b32425e57818bc4d740188f30332ad650329d53be4046d13220517"), looks := false }, kinds := [], alts := [], laidByText := true, laidKinds := [.data], laidTests := true, laidLooks := .later }
def RoomHeldCardSaid : Prop := Claim7.holds Tryz.pinned (.plain (OpenSpec.ofChange roomHeldSpec)) roomHeldCard

/-- THE TIED CARD OF 'almerylaw20.RoomBack'. -/
def roomBackCard : Claim7 := { stood := { row := roomBackRow, standIns := [], harness := (true, "ff5393bdc2b32425e57818bc4d740188f30332ad650329d53be4046d13220517"), looks := false }, kinds := [], alts := [], laidByText := true, laidKinds := [.data], laidTests := true, laidLooks := .later }
def RoomBackCardSaid : Prop := Claim7.holds Tryz.pinned (.plain (OpenSpec.ofChange roomBackSpec)) roomBackCard

/-- THE TIED CARD OF 'almerylaw20.RoomActs'. -/
def roomActsCard : Claim7 := { stood := { row := roomActsRow, standIns := [], harness := (true, "ff5393bdc2b32425e57818bc4d740188f30332ad650329d53be4046d13220517"), looks := false }, kinds := [], alts := [], laidByText := true, laidKinds := [.data], laidTests := true, laidLooks := .later }
def RoomActsCardSaid : Prop := Claim7.holds Tryz.pinned (.plain (OpenSpec.ofChange roomActsSpec)) roomActsCard

/-- THE TIED CARD OF 'almerylaw20.RoomFits'. -/
def roomFitsCard : Claim7 := { stood := { row := roomFitsRow, standIns := [], harness := (true, "ff5393bdc2b32425e57818bc4d740188f30332ad650329d53be4046d13220517"), looks := false }, kinds := [], alts := [], laidByText := true, laidKinds := [.data], laidTests := true, laidLooks := .later }
def RoomFitsCardSaid : Prop := Claim7.holds Tryz.pinned (.plain (OpenSpec.ofChange roomFitsSpec)) roomFitsCard

/-- THE SECOND FORM's CARD OF 'almerylaw20.RoomHeld'. -/
def roomHeldUptoCard : Claim7 := { stood := { row := roomHeldUptoRow, standIns := [], harness := (true, "ff5393bdc2b32425e57818bc4d740188f30332ad650329d53be4046d13220517"), looks := false }, kinds := [], alts := [], laidByText := true, laidKinds := [.data], laidTests := true, laidLooks := .later }
def RoomHeldUptoCardSaid : Prop := Claim7.holds Tryz.pinned (.plain (OpenSpec.upto roomHeldSpec)) roomHeldUptoCard

/-- THE SECOND FORM's CARD OF 'almerylaw20.RoomBack'. -/
def roomBackUptoCard : Claim7 := { stood := { row := roomBackUptoRow, standIns := [], harness := (true, "ff5393bdc2b32425e57818bc4d740188f30332ad650329d53be4046d13220517"), looks := false }, kinds := [], alts := [], laidByText := true, laidKinds := [.data], laidTests := true, laidLooks := .later }
def RoomBackUptoCardSaid : Prop := Claim7.holds Tryz.pinned (.plain (OpenSpec.upto roomBackSpec)) roomBackUptoCard

/-- THE SECOND FORM's CARD OF 'almerylaw20.RoomActs'. -/
def roomActsUptoCard : Claim7 := { stood := { row := roomActsUptoRow, standIns := [], harness := (true, "ff5393bdc2b32425e57818bc4d740188f30332ad650329d53be4046d13220517"), looks := false }, kinds := [], alts := [], laidByText := true, laidKinds := [.data], laidTests := true, laidLooks := .later }
def RoomActsUptoCardSaid : Prop := Claim7.holds Tryz.pinned (.plain (OpenSpec.upto roomActsSpec)) roomActsUptoCard

/-- THE SECOND FORM's CARD OF 'almerylaw20.RoomFits'. -/
def roomFitsUptoCard : Claim7 := { stood := { row := roomFitsUptoRow, standIns := [], harness := (true, "ff5393bdc2b32425e57818bc4d740188f30332ad650329d53be4046d13220517"), looks := false }, kinds := [], alts := [], laidByText := true, laidKinds := [.data], laidTests := true, laidLooks := .later }
def RoomFitsUptoCardSaid : Prop := Claim7.holds Tryz.pinned (.plain (OpenSpec.upto roomFitsSpec)) roomFitsUptoCard
end Rows
end Go.Proofs.YtkiionjcapnepaaGreatDoor
