/-
  DERIVED. GIVEN WITH THE SEED: THE CARDS: each row of YtkemhdkbildlfaaGreatDoorRows.lean that lists a variable, with what it lists TIED to the program's text (the seventh form; the later family's looks); each row that meets fmt, with fmt's text TOLD by the authors' own Lean function (tested against real Go, not proved from fmt's source: count such statements apart). THE CARD IS WHAT COUNTS. Prove the row's statement (the work); the ties are given (YtkemhdkbildlfaaGreatDoorTie.lean); close each card by the builder's one call (the guide's Derived/Test/ToyasCard.lean, 'card_holds'). Laid BY PROGRAM, IN A SANDBOX (cutbox-door.mjs). By AI agents, Wed Nov 11 2026. No macro, syntax, notation, axiom, sorry.
-/
import Derived.Test.YtkemhdkbildlfaaGreatDoorRows
import GoSem.ClaimSeven
namespace Go.Proofs.YtkemhdkbildlfaaGreatDoor
namespace Rows

/-- THE TIED CARD OF 'fathomlinelaw6.BoxHalves'. -/
def boxHalvesCard : Claim7 := { stood := { row := boxHalvesRow, standIns := [], harness := (true, "b5058f6177e9da0fe82b75aa01a0b93f58e6025ac3e5bfc22ce61e6d7726e8d3"), looks := false }, kinds := [], alts := [], laidByText := true, laidKinds := [.data], laidTests := true, laidLooks := .later }
def BoxHalvesCardSaid : Prop := Claim7.holds Tryz.pinned (.plain (OpenSpec.ofChange boxHalvesSpec)) boxHalvesCard

/-- THE TIED CARD OF 'fathomlinelaw6.BoxParts'. -/
def boxPartsCard : Claim7 := { stood := { row := boxPartsRow, standIns := [], harness := (true, "b5058f6177e9da0fe82b75aa01a0b93f58e6025ac3e5bfc22ce61e6d7726e8d3"), looks := false }, kinds := [], alts := [], laidByText := true, laidKinds := [.data], laidTests := true, laidLooks := .later }
def BoxPartsCardSaid : Prop := Claim7.holds Tryz.pinned (.plain (OpenSpec.ofChange boxPartsSpec)) boxPartsCard

/-- THE TIED CARD OF 'fathomlinelaw6.BoxDrawn'. -/
def boxDrawnCard : Claim7 := { stood := { row := boxDrawnRow, standIns := [], harness := (true, "b5058f6177e9da0fe82b75aa01a0b93f58e6025ac3e5bfc22ce61e6d7726e8d3"), looks := false }, kinds := [], alts := [], laidByText := true, laidKinds := [.data], laidTests := true, laidLooks := .later }
def BoxDrawnCardSaid : Prop := Claim7.holds Tryz.pinned (.plain (OpenSpec.ofChange boxDrawnSpec)) boxDrawnCard

/-- THE TIED CARD OF 'fathomlinelaw6.BoxFour'. -/
def boxFourCard : Claim7 := { stood := { row := boxFourRow, standIns := [], harness := (true, "b5058f6177e9da0fe82b75aa01a0b93f58e6025ac3e5bfc22ce61e6d7726e8d3"), looks := false }, kinds := [], alts := [], laidByText := true, laidKinds := [.data], laidTests := true, laidLooks := .later }
def BoxFourCardSaid : Prop := Claim7.holds Tryz.pinned (.plain (OpenSpec.ofChange boxFourSpec)) boxFourCard

/-- THE TIED CARD OF 'fathomlinelaw6.BoxHolds'. -/
def boxHoldsCard : Claim7 := { stood := { row := boxHoldsRow, standIns := [], harness := (true, "b5058f6177e9da0fe82b75aa01a0b93f58e6025ac3e5bfc22ce61e6d7726e8d3"), looks := false }, kinds := [], alts := [], laidByText := true, laidKinds := [.data], laidTests := true, laidLooks := .later }
def BoxHoldsCardSaid : Prop := Claim7.holds Tryz.pinned (.plain (OpenSpec.ofChange boxHoldsSpec)) boxHoldsCard

/-- THE SECOND FORM's CARD OF 'fathomlinelaw6.BoxHalves'. -/
def boxHalvesUptoCard : Claim7 := { stood := { row := boxHalvesUptoRow, standIns := [], harness := (true, "b5058f6177e9da0fe82b75aa01a0b93f58e6025ac3e5bfc22ce61e6d7726e8d3"), looks := false }, kinds := [], alts := [], laidByText := true, laidKinds := [.data], laidTests := true, laidLooks := .later }
def BoxHalvesUptoCardSaid : Prop := Claim7.holds Tryz.pinned (.plain (OpenSpec.upto boxHalvesSpec)) boxHalvesUptoCard

/-- THE SECOND FORM's CARD OF 'fathomlinelaw6.BoxParts'. -/
def boxPartsUptoCard : Claim7 := { stood := { row := boxPartsUptoRow, standIns := [], harness := (true, "b5058f6177e9da0fe82b75aa01a0b93f58e6025ac3e5bfc22ce61e6d7726e8d3"), looks := false }, kinds := [], alts := [], laidByText := true, laidKinds := [.data], laidTests := true, laidLooks := .later }
def BoxPartsUptoCardSaid : Prop := Claim7.holds Tryz.pinned (.plain (OpenSpec.upto boxPartsSpec)) boxPartsUptoCard

/-- THE SECOND FORM's CARD OF 'fathomlinelaw6.BoxDrawn'. -/
def boxDrawnUptoCard : Claim7 := { stood := { row := boxDrawnUptoRow, standIns := [], harness := (true, "b5058f6177e9da0fe82b75aa01a0b93f58e6025ac3e5bfc22ce61e6d7726e8d3"), looks := false }, kinds := [], alts := [], laidByText := true, laidKinds := [.data], laidTests := true, laidLooks := .later }
def BoxDrawnUptoCardSaid : Prop := Claim7.holds Tryz.pinned (.plain (OpenSpec.upto boxDrawnSpec)) boxDrawnUptoCard

/-- THE SECOND FORM's CARD OF 'fathomlinelaw6.BoxFour'. -/
def boxFourUptoCard : Claim7 := { stood := { row := boxFourUptoRow, standIns := [], harness := (true, "b5058f6177e9da0fe82b75aa01a0b93f58e6025ac3e5bfc22ce61e6d7726e8d3"), looks := false }, kinds := [], alts := [], laidByText := true, laidKinds := [.data], laidTests := true, laidLooks := .later }
def BoxFourUptoCardSaid : Prop := Claim7.holds Tryz.pinned (.plain (OpenSpec.upto boxFourSpec)) boxFourUptoCard

/-- THE SECOND FORM's CARD OF 'fathomlinelaw6.BoxHolds'. -/
def boxHoldsUptoCard : Claim7 := { stood := { row := boxHoldsUptoRow, standIns := [], harness := (true, "b5058f6177e9da0fe82b75aa01a0b93f58e6025ac3e5bfc22ce61e6d7726e8d3"), looks := false }, kinds := [], alts := [], laidByText := true, laidKinds := [.data], laidTests := true, laidLooks := .later }
def BoxHoldsUptoCardSaid : Prop := Claim7.holds Tryz.pinned (.plain (OpenSpec.upto boxHoldsSpec)) boxHoldsUptoCard
end Rows
end Go.Proofs.YtkemhdkbildlfaaGreatDoor
