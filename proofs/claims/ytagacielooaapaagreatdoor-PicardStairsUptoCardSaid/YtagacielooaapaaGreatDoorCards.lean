/-
  DERIVED. GIVEN WITH THE SEED: THE CARDS: each row of YtagacielooaapaaGreatDoorRows.lean that lists a variable, with what it lists TIED to the program's text (the seventh form; the later family's looks); each row that meets fmt, with fmt's text TOLD by the authors' own Lean function (tested against real Go, not proved from fmt's source: count such statements apart). THE CARD IS WHAT COUNTS. Prove the row's statement (the work); the ties are given (YtagacielooaapaaGreatDoorTie.lean); close each card by the builder's one call (the guide's Derived/Test/ToyasCard.lean, 'card_holds'). Laid BY PROGRAM, IN A SANDBOX (cutbox-door.mjs). By AI agents, Wed Nov 11 2026. No macro, syntax, notation, axiom, sorry.
-/
import Derived.Test.YtagacielooaapaaGreatDoorRows
import GoSem.ClaimSeven
namespace Go.Proofs.YtagacielooaapaaGreatDoor
namespace Rows

/-- THE TIED CARD OF 'fathomlinelaw17.PicardStairs'. -/
def picardStairsCard : Claim7 := { stood := { row := picardStairsRow, standIns := [], harness := (true, "2ba25b5861e177095d3e3bfb0702a9d2598b87acf234f362e9d0799c2e545e85"), looks := false }, kinds := [], alts := [], laidByText := true, laidKinds := [.data], laidTests := true, laidLooks := .later }
def PicardStairsCardSaid : Prop := Claim7.holds Tryz.pinned (.plain (OpenSpec.ofChange picardStairsSpec)) picardStairsCard

/-- THE TIED CARD OF 'fathomlinelaw15.FlowAny'. -/
def flowAnyCard : Claim7 := { stood := { row := flowAnyRow, standIns := [], harness := (true, "2ba25b5861e177095d3e3bfb0702a9d2598b87acf234f362e9d0799c2e545e85"), looks := false }, kinds := [], alts := [], laidByText := true, laidKinds := [.data], laidTests := true, laidLooks := .later }
def FlowAnyCardSaid : Prop := Claim7.holds Tryz.pinned (.plain (OpenSpec.ofChange flowAnySpec)) flowAnyCard

/-- THE TIED CARD OF 'fathomlinelaw15.FlowDrawn'. -/
def flowDrawnCard : Claim7 := { stood := { row := flowDrawnRow, standIns := [], harness := (true, "2ba25b5861e177095d3e3bfb0702a9d2598b87acf234f362e9d0799c2e545e85"), looks := false }, kinds := [], alts := [], laidByText := true, laidKinds := [.data], laidTests := true, laidLooks := .later }
def FlowDrawnCardSaid : Prop := Claim7.holds Tryz.pinned (.plain (OpenSpec.ofChange flowDrawnSpec)) flowDrawnCard

/-- THE TIED CARD OF 'fathomlinelaw15.FlowHolds'. -/
def flowHoldsCard : Claim7 := { stood := { row := flowHoldsRow, standIns := [], harness := (true, "2ba25b5861e177095d3e3bfb0702a9d2598b87acf234f362e9d0799c2e545e85"), looks := false }, kinds := [], alts := [], laidByText := true, laidKinds := [.data], laidTests := true, laidLooks := .later }
def FlowHoldsCardSaid : Prop := Claim7.holds Tryz.pinned (.plain (OpenSpec.ofChange flowHoldsSpec)) flowHoldsCard

/-- THE TIED CARD OF 'fathomlinelaw15.FlowStairs'. -/
def flowStairsCard : Claim7 := { stood := { row := flowStairsRow, standIns := [], harness := (true, "2ba25b5861e177095d3e3bfb0702a9d2598b87acf234f362e9d0799c2e545e85"), looks := false }, kinds := [], alts := [], laidByText := true, laidKinds := [.data], laidTests := true, laidLooks := .later }
def FlowStairsCardSaid : Prop := Claim7.holds Tryz.pinned (.plain (OpenSpec.ofChange flowStairsSpec)) flowStairsCard

/-- THE TIED CARD OF 'fathomlinelaw15.FlowLess'. -/
def flowLessCard : Claim7 := { stood := { row := flowLessRow, standIns := [], harness := (true, "2ba25b5861e177095d3e3bfb0702a9d2598b87acf234f362e9d0799c2e545e85"), looks := false }, kinds := [], alts := [], laidByText := true, laidKinds := [.data], laidTests := true, laidLooks := .later }
def FlowLessCardSaid : Prop := Claim7.holds Tryz.pinned (.plain (OpenSpec.ofChange flowLessSpec)) flowLessCard

/-- THE TIED CARD OF 'fathomlinelaw16.VaryAny'. -/
def varyAnyCard : Claim7 := { stood := { row := varyAnyRow, standIns := [], harness := (true, "2ba25b5861e177095d3e3bfb0702a9d2598b87acf234f362e9d0799c2e545e85"), looks := false }, kinds := [], alts := [], laidByText := true, laidKinds := [.data], laidTests := true, laidLooks := .later }
def VaryAnyCardSaid : Prop := Claim7.holds Tryz.pinned (.plain (OpenSpec.ofChange varyAnySpec)) varyAnyCard

/-- THE TIED CARD OF 'fathomlinelaw16.VaryDrawn'. -/
def varyDrawnCard : Claim7 := { stood := { row := varyDrawnRow, standIns := [], harness := (true, "2ba25b5861e177095d3e3bfb0702a9d2598b87acf234f362e9d0799c2e545e85"), looks := false }, kinds := [], alts := [], laidByText := true, laidKinds := [.data], laidTests := true, laidLooks := .later }
def VaryDrawnCardSaid : Prop := Claim7.holds Tryz.pinned (.plain (OpenSpec.ofChange varyDrawnSpec)) varyDrawnCard

/-- THE TIED CARD OF 'fathomlinelaw16.VarySums'. -/
def varySumsCard : Claim7 := { stood := { row := varySumsRow, standIns := [], harness := (true, "2ba25b5861e177095d3e3bfb0702a9d2598b87acf234f362e9d0799c2e545e85"), looks := false }, kinds := [], alts := [], laidByText := true, laidKinds := [.data], laidTests := true, laidLooks := .later }
def VarySumsCardSaid : Prop := Claim7.holds Tryz.pinned (.plain (OpenSpec.ofChange varySumsSpec)) varySumsCard

/-- THE TIED CARD OF 'fathomlinelaw16.VaryHolds'. -/
def varyHoldsCard : Claim7 := { stood := { row := varyHoldsRow, standIns := [], harness := (true, "2ba25b5861e177095d3e3bfb0702a9d2598b87acf234f362e9d0799c2e545e85"), looks := false }, kinds := [], alts := [], laidByText := true, laidKinds := [.data], laidTests := true, laidLooks := .later }
def VaryHoldsCardSaid : Prop := Claim7.holds Tryz.pinned (.plain (OpenSpec.ofChange varyHoldsSpec)) varyHoldsCard

/-- THE TIED CARD OF 'fathomlinelaw16.VarySlopes'. -/
def varySlopesCard : Claim7 := { stood := { row := varySlopesRow, standIns := [], harness := (true, "2ba25b5861e177095d3e3bfb0702a9d2598b87acf234f362e9d0799c2e545e85"), looks := false }, kinds := [], alts := [], laidByText := true, laidKinds := [.data], laidTests := true, laidLooks := .later }
def VarySlopesCardSaid : Prop := Claim7.holds Tryz.pinned (.plain (OpenSpec.ofChange varySlopesSpec)) varySlopesCard

/-- THE SECOND FORM's CARD OF 'fathomlinelaw17.PicardStairs'. -/
def picardStairsUptoCard : Claim7 := { stood := { row := picardStairsUptoRow, standIns := [], harness := (true, "2ba25b5861e177095d3e3bfb0702a9d2598b87acf234f362e9d0799c2e545e85"), looks := false }, kinds := [], alts := [], laidByText := true, laidKinds := [.data], laidTests := true, laidLooks := .later }
def PicardStairsUptoCardSaid : Prop := Claim7.holds Tryz.pinned (.plain (OpenSpec.upto picardStairsSpec)) picardStairsUptoCard

/-- THE SECOND FORM's CARD OF 'fathomlinelaw15.FlowAny'. -/
def flowAnyUptoCard : Claim7 := { stood := { row := flowAnyUptoRow, standIns := [], harness := (true, "2ba25b5861e177095d3e3bfb0702a9d2598b87acf234f362e9d0799c2e545e85"), looks := false }, kinds := [], alts := [], laidByText := true, laidKinds := [.data], laidTests := true, laidLooks := .later }
def FlowAnyUptoCardSaid : Prop := Claim7.holds Tryz.pinned (.plain (OpenSpec.upto flowAnySpec)) flowAnyUptoCard

/-- THE SECOND FORM's CARD OF 'fathomlinelaw15.FlowDrawn'. -/
def flowDrawnUptoCard : Claim7 := { stood := { row := flowDrawnUptoRow, standIns := [], harness := (true, "2ba25b5861e177095d3e3bfb0702a9d2598b87acf234f362e9d0799c2e545e85"), looks := false }, kinds := [], alts := [], laidByText := true, laidKinds := [.data], laidTests := true, laidLooks := .later }
def FlowDrawnUptoCardSaid : Prop := Claim7.holds Tryz.pinned (.plain (OpenSpec.upto flowDrawnSpec)) flowDrawnUptoCard

/-- THE SECOND FORM's CARD OF 'fathomlinelaw15.FlowHolds'. -/
def flowHoldsUptoCard : Claim7 := { stood := { row := flowHoldsUptoRow, standIns := [], harness := (true, "2ba25b5861e177095d3e3bfb0702a9d2598b87acf234f362e9d0799c2e545e85"), looks := false }, kinds := [], alts := [], laidByText := true, laidKinds := [.data], laidTests := true, laidLooks := .later }
def FlowHoldsUptoCardSaid : Prop := Claim7.holds Tryz.pinned (.plain (OpenSpec.upto flowHoldsSpec)) flowHoldsUptoCard

/-- THE SECOND FORM's CARD OF 'fathomlinelaw15.FlowStairs'. -/
def flowStairsUptoCard : Claim7 := { stood := { row := flowStairsUptoRow, standIns := [], harness := (true, "2ba25b5861e177095d3e3bfb0702a9d2598b87acf234f362e9d0799c2e545e85"), looks := false }, kinds := [], alts := [], laidByText := true, laidKinds := [.data], laidTests := true, laidLooks := .later }
def FlowStairsUptoCardSaid : Prop := Claim7.holds Tryz.pinned (.plain (OpenSpec.upto flowStairsSpec)) flowStairsUptoCard

/-- THE SECOND FORM's CARD OF 'fathomlinelaw15.FlowLess'. -/
def flowLessUptoCard : Claim7 := { stood := { row := flowLessUptoRow, standIns := [], harness := (true, "2ba25b5861e177095d3e3bfb0702a9d2598b87acf234f362e9d0799c2e545e85"), looks := false }, kinds := [], alts := [], laidByText := true, laidKinds := [.data], laidTests := true, laidLooks := .later }
def FlowLessUptoCardSaid : Prop := Claim7.holds Tryz.pinned (.plain (OpenSpec.upto flowLessSpec)) flowLessUptoCard

/-- THE SECOND FORM's CARD OF 'fathomlinelaw16.VaryAny'. -/
def varyAnyUptoCard : Claim7 := { stood := { row := varyAnyUptoRow, standIns := [], harness := (true, "2ba25b5861e177095d3e3bfb0702a9d2598b87acf234f362e9d0799c2e545e85"), looks := false }, kinds := [], alts := [], laidByText := true, laidKinds := [.data], laidTests := true, laidLooks := .later }
def VaryAnyUptoCardSaid : Prop := Claim7.holds Tryz.pinned (.plain (OpenSpec.upto varyAnySpec)) varyAnyUptoCard

/-- THE SECOND FORM's CARD OF 'fathomlinelaw16.VaryDrawn'. -/
def varyDrawnUptoCard : Claim7 := { stood := { row := varyDrawnUptoRow, standIns := [], harness := (true, "2ba25b5861e177095d3e3bfb0702a9d2598b87acf234f362e9d0799c2e545e85"), looks := false }, kinds := [], alts := [], laidByText := true, laidKinds := [.data], laidTests := true, laidLooks := .later }
def VaryDrawnUptoCardSaid : Prop := Claim7.holds Tryz.pinned (.plain (OpenSpec.upto varyDrawnSpec)) varyDrawnUptoCard

/-- THE SECOND FORM's CARD OF 'fathomlinelaw16.VarySums'. -/
def varySumsUptoCard : Claim7 := { stood := { row := varySumsUptoRow, standIns := [], harness := (true, "2ba25b5861e177095d3e3bfb0702a9d2598b87acf234f362e9d0799c2e545e85"), looks := false }, kinds := [], alts := [], laidByText := true, laidKinds := [.data], laidTests := true, laidLooks := .later }
def VarySumsUptoCardSaid : Prop := Claim7.holds Tryz.pinned (.plain (OpenSpec.upto varySumsSpec)) varySumsUptoCard

/-- THE SECOND FORM's CARD OF 'fathomlinelaw16.VaryHolds'. -/
def varyHoldsUptoCard : Claim7 := { stood := { row := varyHoldsUptoRow, standIns := [], harness := (true, "2ba25b5861e177095d3e3bfb0702a9d2598b87acf234f362e9d0799c2e545e85"), looks := false }, kinds := [], alts := [], laidByText := true, laidKinds := [.data], laidTests := true, laidLooks := .later }
def VaryHoldsUptoCardSaid : Prop := Claim7.holds Tryz.pinned (.plain (OpenSpec.upto varyHoldsSpec)) varyHoldsUptoCard

/-- THE SECOND FORM's CARD OF 'fathomlinelaw16.VarySlopes'. -/
def varySlopesUptoCard : Claim7 := { stood := { row := varySlopesUptoRow, standIns := [], harness := (true, "2ba25b5861e177095d3e3bfb0702a9d2598b87acf234f362e9d0799c2e545e85"), looks := false }, kinds := [], alts := [], laidByText := true, laidKinds := [.data], laidTests := true, laidLooks := .later }
def VarySlopesUptoCardSaid : Prop := Claim7.holds Tryz.pinned (.plain (OpenSpec.upto varySlopesSpec)) varySlopesUptoCard
end Rows
end Go.Proofs.YtagacielooaapaaGreatDoor
