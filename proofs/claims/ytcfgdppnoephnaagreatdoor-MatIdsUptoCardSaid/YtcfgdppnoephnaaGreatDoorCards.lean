/-
  DERIVED. GIVEN WITH THE SEED: THE CARDS: each row of YtcfgdppnoephnaaGreatDoorRows.lean that lists a variable, with what it lists TIED to the program's text (the seventh form; the later family's looks); each row that meets fmt, with fmt's text TOLD by the authors' own Lean function (tested against real Go, not proved from fmt's source: count such statements apart). THE CARD IS WHAT COUNTS. Prove the row's statement (the work); the ties are given (YtcfgdppnoephnaaGreatDoorTie.lean); close each card by the builder's one call (the guide's Derived/Test/ToyasCard.lean, 'card_holds'). Laid BY PROGRAM, IN A SANDBOX (cutbox-door.mjs). By AI agents, Wed Nov 11 2026. No macro, syntax, notation, axiom, sorry.
-/
import Derived.Test.YtcfgdppnoephnaaGreatDoorRows
import GoSem.ClaimSeven
namespace Go.Proofs.YtcfgdppnoephnaaGreatDoor
namespace Rows

/-- THE TIED CARD OF 'fathomlinelaw6.BoxHalves'. -/
def boxHalvesCard : Claim7 := { stood := { row := boxHalvesRow, standIns := [], harness := (true, "f61539ee3a8dda58a350ccdedd4808562a265725b1c2041bd3b12443e9d7b6ee"), looks := false }, kinds := [], alts := [], laidByText := true, laidKinds := [.data], laidTests := true, laidLooks := .later }
def BoxHalvesCardSaid : Prop := Claim7.holds Tryz.pinned (.plain (OpenSpec.ofChange boxHalvesSpec)) boxHalvesCard

/-- THE TIED CARD OF 'fathomlinelaw6.BoxHolds'. -/
def boxHoldsCard : Claim7 := { stood := { row := boxHoldsRow, standIns := [], harness := (true, "f61539ee3a8dda58a350ccdedd4808562a265725b1c2041bd3b12443e9d7b6ee"), looks := false }, kinds := [], alts := [], laidByText := true, laidKinds := [.data], laidTests := true, laidLooks := .later }
def BoxHoldsCardSaid : Prop := Claim7.holds Tryz.pinned (.plain (OpenSpec.ofChange boxHoldsSpec)) boxHoldsCard

/-- THE TIED CARD OF 'fathomlinelaw7.MatParts'. -/
def matPartsCard : Claim7 := { stood := { row := matPartsRow, standIns := [], harness := (true, "f61539ee3a8dda58a350ccdedd4808562a265725b1c2041bd3b12443e9d7b6ee"), looks := false }, kinds := [], alts := [], laidByText := true, laidKinds := [.data], laidTests := true, laidLooks := .later }
def MatPartsCardSaid : Prop := Claim7.holds Tryz.pinned (.plain (OpenSpec.ofChange matPartsSpec)) matPartsCard

/-- THE TIED CARD OF 'fathomlinelaw7.MatDrawn'. -/
def matDrawnCard : Claim7 := { stood := { row := matDrawnRow, standIns := [], harness := (true, "f61539ee3a8dda58a350ccdedd4808562a265725b1c2041bd3b12443e9d7b6ee"), looks := false }, kinds := [], alts := [], laidByText := true, laidKinds := [.data], laidTests := true, laidLooks := .later }
def MatDrawnCardSaid : Prop := Claim7.holds Tryz.pinned (.plain (OpenSpec.ofChange matDrawnSpec)) matDrawnCard

/-- THE TIED CARD OF 'fathomlinelaw7.MatHolds'. -/
def matHoldsCard : Claim7 := { stood := { row := matHoldsRow, standIns := [], harness := (true, "f61539ee3a8dda58a350ccdedd4808562a265725b1c2041bd3b12443e9d7b6ee"), looks := false }, kinds := [], alts := [], laidByText := true, laidKinds := [.data], laidTests := true, laidLooks := .later }
def MatHoldsCardSaid : Prop := Claim7.holds Tryz.pinned (.plain (OpenSpec.ofChange matHoldsSpec)) matHoldsCard

/-- THE TIED CARD OF 'fathomlinelaw7.MatIds'. -/
def matIdsCard : Claim7 := { stood := { row := matIdsRow, standIns := [], harness := (true, "f61539ee3a8dda58a350ccdedd4808562a265725b1c2041bd3b12443e9d7b6ee"), looks := false }, kinds := [], alts := [], laidByText := true, laidKinds := [.data], laidTests := true, laidLooks := .later }
def MatIdsCardSaid : Prop := Claim7.holds Tryz.pinned (.plain (OpenSpec.ofChange matIdsSpec)) matIdsCard

/-- THE TIED CARD OF 'fathomlinelaw11.FieldAny'. -/
def fieldAnyCard : Claim7 := { stood := { row := fieldAnyRow, standIns := [], harness := (true, "f61539ee3a8dda58a350ccdedd4808562a265725b1c2041bd3b12443e9d7b6ee"), looks := false }, kinds := [], alts := [], laidByText := true, laidKinds := [.data], laidTests := true, laidLooks := .later }
def FieldAnyCardSaid : Prop := Claim7.holds Tryz.pinned (.plain (OpenSpec.ofChange fieldAnySpec)) fieldAnyCard

/-- THE TIED CARD OF 'fathomlinelaw11.FieldDrawn'. -/
def fieldDrawnCard : Claim7 := { stood := { row := fieldDrawnRow, standIns := [], harness := (true, "f61539ee3a8dda58a350ccdedd4808562a265725b1c2041bd3b12443e9d7b6ee"), looks := false }, kinds := [], alts := [], laidByText := true, laidKinds := [.data], laidTests := true, laidLooks := .later }
def FieldDrawnCardSaid : Prop := Claim7.holds Tryz.pinned (.plain (OpenSpec.ofChange fieldDrawnSpec)) fieldDrawnCard

/-- THE TIED CARD OF 'fathomlinelaw11.FieldChains'. -/
def fieldChainsCard : Claim7 := { stood := { row := fieldChainsRow, standIns := [], harness := (true, "f61539ee3a8dda58a350ccdedd4808562a265725b1c2041bd3b12443e9d7b6ee"), looks := false }, kinds := [], alts := [], laidByText := true, laidKinds := [.data], laidTests := true, laidLooks := .later }
def FieldChainsCardSaid : Prop := Claim7.holds Tryz.pinned (.plain (OpenSpec.ofChange fieldChainsSpec)) fieldChainsCard

/-- THE TIED CARD OF 'fathomlinelaw11.FieldHolds'. -/
def fieldHoldsCard : Claim7 := { stood := { row := fieldHoldsRow, standIns := [], harness := (true, "f61539ee3a8dda58a350ccdedd4808562a265725b1c2041bd3b12443e9d7b6ee"), looks := false }, kinds := [], alts := [], laidByText := true, laidKinds := [.data], laidTests := true, laidLooks := .later }
def FieldHoldsCardSaid : Prop := Claim7.holds Tryz.pinned (.plain (OpenSpec.ofChange fieldHoldsSpec)) fieldHoldsCard

/-- THE SECOND FORM's CARD OF 'fathomlinelaw6.BoxHalves'. -/
def boxHalvesUptoCard : Claim7 := { stood := { row := boxHalvesUptoRow, standIns := [], harness := (true, "f61539ee3a8dda58a350ccdedd4808562a265725b1c2041bd3b12443e9d7b6ee"), looks := false }, kinds := [], alts := [], laidByText := true, laidKinds := [.data], laidTests := true, laidLooks := .later }
def BoxHalvesUptoCardSaid : Prop := Claim7.holds Tryz.pinned (.plain (OpenSpec.upto boxHalvesSpec)) boxHalvesUptoCard

/-- THE SECOND FORM's CARD OF 'fathomlinelaw6.BoxHolds'. -/
def boxHoldsUptoCard : Claim7 := { stood := { row := boxHoldsUptoRow, standIns := [], harness := (true, "f61539ee3a8dda58a350ccdedd4808562a265725b1c2041bd3b12443e9d7b6ee"), looks := false }, kinds := [], alts := [], laidByText := true, laidKinds := [.data], laidTests := true, laidLooks := .later }
def BoxHoldsUptoCardSaid : Prop := Claim7.holds Tryz.pinned (.plain (OpenSpec.upto boxHoldsSpec)) boxHoldsUptoCard

/-- THE SECOND FORM's CARD OF 'fathomlinelaw7.MatParts'. -/
def matPartsUptoCard : Claim7 := { stood := { row := matPartsUptoRow, standIns := [], harness := (true, "f61539ee3a8dda58a350ccdedd4808562a265725b1c2041bd3b12443e9d7b6ee"), looks := false }, kinds := [], alts := [], laidByText := true, laidKinds := [.data], laidTests := true, laidLooks := .later }
def MatPartsUptoCardSaid : Prop := Claim7.holds Tryz.pinned (.plain (OpenSpec.upto matPartsSpec)) matPartsUptoCard

/-- THE SECOND FORM's CARD OF 'fathomlinelaw7.MatDrawn'. -/
def matDrawnUptoCard : Claim7 := { stood := { row := matDrawnUptoRow, standIns := [], harness := (true, "f61539ee3a8dda58a350ccdedd4808562a265725b1c2041bd3b12443e9d7b6ee"), looks := false }, kinds := [], alts := [], laidByText := true, laidKinds := [.data], laidTests := true, laidLooks := .later }
def MatDrawnUptoCardSaid : Prop := Claim7.holds Tryz.pinned (.plain (OpenSpec.upto matDrawnSpec)) matDrawnUptoCard

/-- THE SECOND FORM's CARD OF 'fathomlinelaw7.MatHolds'. -/
def matHoldsUptoCard : Claim7 := { stood := { row := matHoldsUptoRow, standIns := [], harness := (true, "f61539ee3a8dda58a350ccdedd4808562a265725b1c2041bd3b12443e9d7b6ee"), looks := false }, kinds := [], alts := [], laidByText := true, laidKinds := [.data], laidTests := true, laidLooks := .later }
def MatHoldsUptoCardSaid : Prop := Claim7.holds Tryz.pinned (.plain (OpenSpec.upto matHoldsSpec)) matHoldsUptoCard

/-- THE SECOND FORM's CARD OF 'fathomlinelaw7.MatIds'. -/
def matIdsUptoCard : Claim7 := { stood := { row := matIdsUptoRow, standIns := [], harness := (true, "f61539ee3a8dda58a350ccdedd4808562a265725b1c2041bd3b12443e9d7b6ee"), looks := false }, kinds := [], alts := [], laidByText := true, laidKinds := [.data], laidTests := true, laidLooks := .later }
def MatIdsUptoCardSaid : Prop := Claim7.holds Tryz.pinned (.plain (OpenSpec.upto matIdsSpec)) matIdsUptoCard

/-- THE SECOND FORM's CARD OF 'fathomlinelaw11.FieldAny'. -/
def fieldAnyUptoCard : Claim7 := { stood := { row := fieldAnyUptoRow, standIns := [], harness := (true, "f61539ee3a8dda58a350ccdedd4808562a265725b1c2041bd3b12443e9d7b6ee"), looks := false }, kinds := [], alts := [], laidByText := true, laidKinds := [.data], laidTests := true, laidLooks := .later }
def FieldAnyUptoCardSaid : Prop := Claim7.holds Tryz.pinned (.plain (OpenSpec.upto fieldAnySpec)) fieldAnyUptoCard

/-- THE SECOND FORM's CARD OF 'fathomlinelaw11.FieldDrawn'. -/
def fieldDrawnUptoCard : Claim7 := { stood := { row := fieldDrawnUptoRow, standIns := [], harness := (true, "f61539ee3a8dda58a350ccdedd4808562a265725b1c2041bd3b12443e9d7b6ee"), looks := false }, kinds := [], alts := [], laidByText := true, laidKinds := [.data], laidTests := true, laidLooks := .later }
def FieldDrawnUptoCardSaid : Prop := Claim7.holds Tryz.pinned (.plain (OpenSpec.upto fieldDrawnSpec)) fieldDrawnUptoCard

/-- THE SECOND FORM's CARD OF 'fathomlinelaw11.FieldChains'. -/
def fieldChainsUptoCard : Claim7 := { stood := { row := fieldChainsUptoRow, standIns := [], harness := (true, "f61539ee3a8dda58a350ccdedd4808562a265725b1c2041bd3b12443e9d7b6ee"), looks := false }, kinds := [], alts := [], laidByText := true, laidKinds := [.data], laidTests := true, laidLooks := .later }
def FieldChainsUptoCardSaid : Prop := Claim7.holds Tryz.pinned (.plain (OpenSpec.upto fieldChainsSpec)) fieldChainsUptoCard

/-- THE SECOND FORM's CARD OF 'fathomlinelaw11.FieldHolds'. -/
def fieldHoldsUptoCard : Claim7 := { stood := { row := fieldHoldsUptoRow, standIns := [], harness := (true, "f61539ee3a8dda58a350ccdedd4808562a265725b1c2041bd3b12443e9d7b6ee"), looks := false }, kinds := [], alts := [], laidByText := true, laidKinds := [.data], laidTests := true, laidLooks := .later }
def FieldHoldsUptoCardSaid : Prop := Claim7.holds Tryz.pinned (.plain (OpenSpec.upto fieldHoldsSpec)) fieldHoldsUptoCard
end Rows
end Go.Proofs.YtcfgdppnoephnaaGreatDoor
