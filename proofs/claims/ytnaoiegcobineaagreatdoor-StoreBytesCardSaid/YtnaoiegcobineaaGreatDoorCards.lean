/-
  DERIVED. GIVEN WITH THE SEED: THE CARDS: each row of YtnaoiegcobineaaGreatDoorRows.lean that lists a variable, with what it lists TIED to the program's text (the seventh form; the later family's looks); each row that meets fmt, with fmt's text TOLD by the authors' own Lean function (tested against real Go, not proved from fmt's source: count such statements apart). THE CARD IS WHAT COUNTS. Prove the row's statement (the work); the ties are given (YtnaoiegcobineaaGreatDoorTie.lean); close each card by the builder's one call (the guide's Derived/Test/ToyasCard.lean, 'card_holds'). Laid BY PROGRAM, IN A SANDBOX (cutbox-door.mjs). By AI agents, Wed Nov 11 2026. No macro, syntax, notation, axiom, sorry.
-/
import Derived.Test.YtnaoiegcobineaaGreatDoorRows
import GoSem.ClaimSeven
namespace Go.Proofs.YtnaoiegcobineaaGreatDoor
namespace Rows

/-- THE TIED CARD OF 'almerylaw22.StoreNew'. -/
def storeNewCard : Claim7 := { stood := { row := storeNewRow, standIns := [], harness := (true, "98999c2c96768c92b9d55f8d5352e9c415582960ee200debe625cbcb3ba5c8b1"), looks := false }, kinds := [], alts := [], laidByText := true, laidKinds := [.data], laidTests := true, laidLooks := .later }
def StoreNewCardSaid : Prop := Claim7.holds Tryz.pinned (.plain (OpenSpec.ofChange storeNewSpec)) storeNewCard

/-- THE TIED CARD OF 'almerylaw22.StoreActs'. -/
def storeActsCard : Claim7 := { stood := { row := storeActsRow, standIns := [], harness := (true, "98999c2c96768c92b9d55f8d5352e9c415582960ee200debe625cbcb3ba5c8b1"), looks := false }, kinds := [], alts := [], laidByText := true, laidKinds := [.data], laidTests := true, laidLooks := .later }
def StoreActsCardSaid : Prop := Claim7.holds Tryz.pinned (.plain (OpenSpec.ofChange storeActsSpec)) storeActsCard

/-- THE TIED CARD OF 'almerylaw22.StoreBytes'. -/
def storeBytesCard : Claim7 := { stood := { row := storeBytesRow, standIns := [], harness := (true, "98999c2c96768c92b9d55f8d5352e9c415582960ee200debe625cbcb3ba5c8b1"), looks := false }, kinds := [], alts := [], laidByText := true, laidKinds := [.data], laidTests := true, laidLooks := .later }
def StoreBytesCardSaid : Prop := Claim7.holds Tryz.pinned (.plain (OpenSpec.ofChange storeBytesSpec)) storeBytesCard

/-- THE TIED CARD OF 'almerylaw22.StoreBound'. -/
def storeBoundCard : Claim7 := { stood := { row := storeBoundRow, standIns := [], harness := (true, "98999c2c96768c92b9d55f8d5352e9c415582960ee200debe625cbcb3ba5c8b1"), looks := false }, kinds := [], alts := [], laidByText := true, laidKinds := [.data], laidTests := true, laidLooks := .later }
def StoreBoundCardSaid : Prop := Claim7.holds Tryz.pinned (.plain (OpenSpec.ofChange storeBoundSpec)) storeBoundCard

/-- THE TIED CARD OF 'almerylaw22.StoreTight'. -/
def storeTightCard : Claim7 := { stood := { row := storeTightRow, standIns := [], harness := (true, "98999c2c96768c92b9d55f8d5352e9c415582960ee200debe625cbcb3ba5c8b1"), looks := false }, kinds := [], alts := [], laidByText := true, laidKinds := [.data], laidTests := true, laidLooks := .later }
def StoreTightCardSaid : Prop := Claim7.holds Tryz.pinned (.plain (OpenSpec.ofChange storeTightSpec)) storeTightCard

/-- THE TIED CARD OF 'almerylaw22.StoreTicks'. -/
def storeTicksCard : Claim7 := { stood := { row := storeTicksRow, standIns := [], harness := (true, "98999c2c96768c92b9d55f8d5352e9c415582960ee200debe625cbcb3ba5c8b1"), looks := false }, kinds := [], alts := [], laidByText := true, laidKinds := [.data], laidTests := true, laidLooks := .later }
def StoreTicksCardSaid : Prop := Claim7.holds Tryz.pinned (.plain (OpenSpec.ofChange storeTicksSpec)) storeTicksCard

/-- THE TIED CARD OF 'almerylaw22.StoreNobody'. -/
def storeNobodyCard : Claim7 := { stood := { row := storeNobodyRow, standIns := [], harness := (true, "98999c2c96768c92b9d55f8d5352e9c415582960ee200debe625cbcb3ba5c8b1"), looks := false }, kinds := [], alts := [], laidByText := true, laidKinds := [.data], laidTests := true, laidLooks := .later }
def StoreNobodyCardSaid : Prop := Claim7.holds Tryz.pinned (.plain (OpenSpec.ofChange storeNobodySpec)) storeNobodyCard

/-- THE SECOND FORM's CARD OF 'almerylaw22.StoreNew'. -/
def storeNewUptoCard : Claim7 := { stood := { row := storeNewUptoRow, standIns := [], harness := (true, "98999c2c96768c92b9d55f8d5352e9c415582960ee200debe625cbcb3ba5c8b1"), looks := false }, kinds := [], alts := [], laidByText := true, laidKinds := [.data], laidTests := true, laidLooks := .later }
def StoreNewUptoCardSaid : Prop := Claim7.holds Tryz.pinned (.plain (OpenSpec.upto storeNewSpec)) storeNewUptoCard

/-- THE SECOND FORM's CARD OF 'almerylaw22.StoreActs'. -/
def storeActsUptoCard : Claim7 := { stood := { row := storeActsUptoRow, standIns := [], harness := (true, "98999c2c96768c92b9d55f8d5352e9c415582960ee200debe625cbcb3ba5c8b1"), looks := false }, kinds := [], alts := [], laidByText := true, laidKinds := [.data], laidTests := true, laidLooks := .later }
def StoreActsUptoCardSaid : Prop := Claim7.holds Tryz.pinned (.plain (OpenSpec.upto storeActsSpec)) storeActsUptoCard

/-- THE SECOND FORM's CARD OF 'almerylaw22.StoreBytes'. -/
def storeBytesUptoCard : Claim7 := { stood := { row := storeBytesUptoRow, standIns := [], harness := (true, "98999c2c96768c92b9d55f8d5352e9c415582960ee200debe625cbcb3ba5c8b1"), looks := false }, kinds := [], alts := [], laidByText := true, laidKinds := [.data], laidTests := true, laidLooks := .later }
def StoreBytesUptoCardSaid : Prop := Claim7.holds Tryz.pinned (.plain (OpenSpec.upto storeBytesSpec)) storeBytesUptoCard

/-- THE SECOND FORM's CARD OF 'almerylaw22.StoreBound'. -/
def storeBoundUptoCard : Claim7 := { stood := { row := storeBoundUptoRow, standIns := [], harness := (true, "98999c2c96768c92b9d55f8d5352e9c415582960ee200debe625cbcb3ba5c8b1"), looks := false }, kinds := [], alts := [], laidByText := true, laidKinds := [.data], laidTests := true, laidLooks := .later }
def StoreBoundUptoCardSaid : Prop := Claim7.holds Tryz.pinned (.plain (OpenSpec.upto storeBoundSpec)) storeBoundUptoCard

/-- THE SECOND FORM's CARD OF 'almerylaw22.StoreTight'. -/
def storeTightUptoCard : Claim7 := { stood := { row := storeTightUptoRow, standIns := [], harness := (true, "98999c2c96768c92b9d55f8d5352e9c415582960ee200debe625cbcb3ba5c8b1"), looks := false }, kinds := [], alts := [], laidByText := true, laidKinds := [.data], laidTests := true, laidLooks := .later }
def StoreTightUptoCardSaid : Prop := Claim7.holds Tryz.pinned (.plain (OpenSpec.upto storeTightSpec)) storeTightUptoCard

/-- THE SECOND FORM's CARD OF 'almerylaw22.StoreTicks'. -/
def storeTicksUptoCard : Claim7 := { stood := { row := storeTicksUptoRow, standIns := [], harness := (true, "98999c2c96768c92b9d55f8d5352e9c415582960ee200debe625cbcb3ba5c8b1"), looks := false }, kinds := [], alts := [], laidByText := true, laidKinds := [.data], laidTests := true, laidLooks := .later }
def StoreTicksUptoCardSaid : Prop := Claim7.holds Tryz.pinned (.plain (OpenSpec.upto storeTicksSpec)) storeTicksUptoCard

/-- THE SECOND FORM's CARD OF 'almerylaw22.StoreNobody'. -/
def storeNobodyUptoCard : Claim7 := { stood := { row := storeNobodyUptoRow, standIns := [], harness := (true, "98999c2c96768c92b9d55f8d5352e9c415582960ee200debe625cbcb3ba5c8b1"), looks := false }, kinds := [], alts := [], laidByText := true, laidKinds := [.data], laidTests := true, laidLooks := .later }
def StoreNobodyUptoCardSaid : Prop := Claim7.holds Tryz.pinned (.plain (OpenSpec.upto storeNobodySpec)) storeNobodyUptoCard
end Rows
end Go.Proofs.YtnaoiegcobineaaGreatDoor
