/-
  DERIVED. GIVEN WITH THE SEED: THE CARDS: each row of YtohjeeapehmkcaaGreatDoorRows.lean that lists a variable, with what it lists TIED to the program's text (the seventh form; the later family's looks); each row that meets fmt, with fmt's text TOLD by the authors' own Lean function (tested against real Go, not proved from fmt's source: count such statements apart). THE CARD IS WHAT COUNTS. Prove the row's statement (the work); the ties are given (YtohjeeapehmkcaaGreatDoorTie.lean); close each card by the builder's one call (the guide's Derived/Test/ToyasCard.lean, 'card_holds'). Laid BY PROGRAM, IN A SANDBOX (cutbox-door.mjs). By AI agents, Wed Nov 11 2026. No macro, syntax, notation, axiom, sorry.
-/
import Derived.Test.YtohjeeapehmkcaaGreatDoorRows
import GoSem.ClaimSeven
namespace Go.Proofs.YtohjeeapehmkcaaGreatDoor
namespace Rows

/-- THE TIED CARD OF 'almerylaw22.StoreActs'. -/
def storeActsCard : Claim7 := { stood := { row := storeActsRow, standIns := [], harness := (true, "d21c5672b201a5315bba5e644b37ea6e71dea9d9f5bcdfe633bfbe3d777d65fd"), looks := false }, kinds := [], alts := [], laidByText := true, laidKinds := [.data], laidTests := true, laidLooks := .later }
def StoreActsCardSaid : Prop := Claim7.holds Tryz.pinned (.plain (OpenSpec.ofChange storeActsSpec)) storeActsCard

/-- THE TIED CARD OF 'almerylaw22.StoreBound'. -/
def storeBoundCard : Claim7 := { stood := { row := storeBoundRow, standIns := [], harness := (true, "d21c5672b201a5315bba5e644b37ea6e71dea9d9f5bcdfe633bfbe3d777d65fd"), looks := false }, kinds := [], alts := [], laidByText := true, laidKinds := [.data], laidTests := true, laidLooks := .later }
def StoreBoundCardSaid : Prop := Claim7.holds Tryz.pinned (.plain (OpenSpec.ofChange storeBoundSpec)) storeBoundCard

/-- THE TIED CARD OF 'almerylaw22.StoreTight'. -/
def storeTightCard : Claim7 := { stood := { row := storeTightRow, standIns := [], harness := (true, "d21c5672b201a5315bba5e644b37ea6e71dea9d9f5bcdfe633bfbe3d777d65fd"), looks := false }, kinds := [], alts := [], laidByText := true, laidKinds := [.data], laidTests := true, laidLooks := .later }
def StoreTightCardSaid : Prop := Claim7.holds Tryz.pinned (.plain (OpenSpec.ofChange storeTightSpec)) storeTightCard

/-- THE TIED CARD OF 'almerylaw22.StoreTicks'. -/
def storeTicksCard : Claim7 := { stood := { row := storeTicksRow, standIns := [], harness := (true, "d21c5672b201a5315bba5e644b37ea6e71dea9d9f5bcdfe633bfbe3d777d65fd"), looks := false }, kinds := [], alts := [], laidByText := true, laidKinds := [.data], laidTests := true, laidLooks := .later }
def StoreTicksCardSaid : Prop := Claim7.holds Tryz.pinned (.plain (OpenSpec.ofChange storeTicksSpec)) storeTicksCard

/-- THE SECOND FORM's CARD OF 'almerylaw22.StoreActs'. -/
def storeActsUptoCard : Claim7 := { stood := { row := storeActsUptoRow, standIns := [], harness := (true, "d21c5672b201a5315bba5e644b37ea6e71dea9d9f5bcdfe633bfbe3d777d65fd"), looks := false }, kinds := [], alts := [], laidByText := true, laidKinds := [.data], laidTests := true, laidLooks := .later }
def StoreActsUptoCardSaid : Prop := Claim7.holds Tryz.pinned (.plain (OpenSpec.upto storeActsSpec)) storeActsUptoCard

/-- THE SECOND FORM's CARD OF 'almerylaw22.StoreBound'. -/
def storeBoundUptoCard : Claim7 := { stood := { row := storeBoundUptoRow, standIns := [], harness := (true, "d21c5672b201a5315bba5e644b37ea6e71dea9d9f5bcdfe633bfbe3d777d65fd"), looks := false }, kinds := [], alts := [], laidByText := true, laidKinds := [.data], laidTests := true, laidLooks := .later }
def StoreBoundUptoCardSaid : Prop := Claim7.holds Tryz.pinned (.plain (OpenSpec.upto storeBoundSpec)) storeBoundUptoCard

/-- THE SECOND FORM's CARD OF 'almerylaw22.StoreTight'. -/
def storeTightUptoCard : Claim7 := { stood := { row := storeTightUptoRow, standIns := [], harness := (true, "d21c5672b201a5315bba5e644b37ea6e71dea9d9f5bcdfe633bfbe3d777d65fd"), looks := false }, kinds := [], alts := [], laidByText := true, laidKinds := [.data], laidTests := true, laidLooks := .later }
def StoreTightUptoCardSaid : Prop := Claim7.holds Tryz.pinned (.plain (OpenSpec.upto storeTightSpec)) storeTightUptoCard

/-- THE SECOND FORM's CARD OF 'almerylaw22.StoreTicks'. -/
def storeTicksUptoCard : Claim7 := { stood := { row := storeTicksUptoRow, standIns := [], harness := (true, "d21c5672b201a5315bba5e644b37ea6e71dea9d9f5bcdfe633bfbe3d777d65fd"), looks := false }, kinds := [], alts := [], laidByText := true, laidKinds := [.data], laidTests := true, laidLooks := .later }
def StoreTicksUptoCardSaid : Prop := Claim7.holds Tryz.pinned (.plain (OpenSpec.upto storeTicksSpec)) storeTicksUptoCard
end Rows
end Go.Proofs.YtohjeeapehmkcaaGreatDoor
