/-
  DERIVED. GIVEN WITH THE SEED: THE CARDS: each row of YthllcnigcnoghaaGreatDoorRows.lean that lists a variable, with what it lists TIED to the program's text (the seventh form; the later family's looks); each row that meets fmt, with fmt's text TOLD by the authors' own Lean function (tested against real Go, not proved from fmt's source: count such statements apart). THE CARD IS WHAT COUNTS. Prove the row's statement (the work); the ties are given (YthllcnigcnoghaaGreatDoorTie.lean); close each card by the builder's one call (the guide's Derived/Test/ToyasCard.lean, 'card_holds'). Laid BY PROGRAM, IN A SANDBOX (cutbox-door.mjs). By AI agents, Wed Nov 11 2026. No macro, syntax, notation, axiom, sorry.
-/
import Derived.Test.YthllcnigcnoghaaGreatDoorRows
import GoSem.ClaimSeven
namespace Go.Proofs.YthllcnigcnoghaaGreatDoor
namespace Rows

/-- THE TIED CARD OF 'fathomlinelaw17.PicardAny'. -/
def picardAnyCard : Claim7 := { stood := { row := picardAnyRow, standIns := [], harness := (true, "218608038811084f1a835fbf61971160c924fc0d6abb3e100c700e025cb5b355"), looks := false }, kinds := [], alts := [], laidByText := true, laidKinds := [.data], laidTests := true, laidLooks := .later }
def PicardAnyCardSaid : Prop := Claim7.holds Tryz.pinned (.plain (OpenSpec.ofChange picardAnySpec)) picardAnyCard

/-- THE TIED CARD OF 'fathomlinelaw17.PicardDrawn'. -/
def picardDrawnCard : Claim7 := { stood := { row := picardDrawnRow, standIns := [], harness := (true, "218608038811084f1a835fbf61971160c924fc0d6abb3e100c700e025cb5b355"), looks := false }, kinds := [], alts := [], laidByText := true, laidKinds := [.data], laidTests := true, laidLooks := .later }
def PicardDrawnCardSaid : Prop := Claim7.holds Tryz.pinned (.plain (OpenSpec.ofChange picardDrawnSpec)) picardDrawnCard

/-- THE TIED CARD OF 'fathomlinelaw17.PicardSure'. -/
def picardSureCard : Claim7 := { stood := { row := picardSureRow, standIns := [], harness := (true, "218608038811084f1a835fbf61971160c924fc0d6abb3e100c700e025cb5b355"), looks := false }, kinds := [], alts := [], laidByText := true, laidKinds := [.data], laidTests := true, laidLooks := .later }
def PicardSureCardSaid : Prop := Claim7.holds Tryz.pinned (.plain (OpenSpec.ofChange picardSureSpec)) picardSureCard

/-- THE TIED CARD OF 'fathomlinelaw17.PicardStairs'. -/
def picardStairsCard : Claim7 := { stood := { row := picardStairsRow, standIns := [], harness := (true, "218608038811084f1a835fbf61971160c924fc0d6abb3e100c700e025cb5b355"), looks := false }, kinds := [], alts := [], laidByText := true, laidKinds := [.data], laidTests := true, laidLooks := .later }
def PicardStairsCardSaid : Prop := Claim7.holds Tryz.pinned (.plain (OpenSpec.ofChange picardStairsSpec)) picardStairsCard

/-- THE TIED CARD OF 'fathomlinelaw17.PicardFinds'. -/
def picardFindsCard : Claim7 := { stood := { row := picardFindsRow, standIns := [], harness := (true, "218608038811084f1a835fbf61971160c924fc0d6abb3e100c700e025cb5b355"), looks := false }, kinds := [], alts := [], laidByText := true, laidKinds := [.data], laidTests := true, laidLooks := .later }
def PicardFindsCardSaid : Prop := Claim7.holds Tryz.pinned (.plain (OpenSpec.ofChange picardFindsSpec)) picardFindsCard

/-- THE TIED CARD OF 'fathomlinelaw15.FlowAny'. -/
def flowAnyCard : Claim7 := { stood := { row := flowAnyRow, standIns := [], harness := (true, "218608038811084f1a835fbf61971160c924fc0d6abb3e100c700e025cb5b355"), looks := false }, kinds := [], alts := [], laidByText := true, laidKinds := [.data], laidTests := true, laidLooks := .later }
def FlowAnyCardSaid : Prop := Claim7.holds Tryz.pinned (.plain (OpenSpec.ofChange flowAnySpec)) flowAnyCard

/-- THE TIED CARD OF 'fathomlinelaw15.FlowDrawn'. -/
def flowDrawnCard : Claim7 := { stood := { row := flowDrawnRow, standIns := [], harness := (true, "218608038811084f1a835fbf61971160c924fc0d6abb3e100c700e025cb5b355"), looks := false }, kinds := [], alts := [], laidByText := true, laidKinds := [.data], laidTests := true, laidLooks := .later }
def FlowDrawnCardSaid : Prop := Claim7.holds Tryz.pinned (.plain (OpenSpec.ofChange flowDrawnSpec)) flowDrawnCard

/-- THE SECOND FORM's CARD OF 'fathomlinelaw17.PicardAny'. -/
def picardAnyUptoCard : Claim7 := { stood := { row := picardAnyUptoRow, standIns := [], harness := (true, "218608038811084f1a835fbf61971160c924fc0d6abb3e100c700e025cb5b355"), looks := false }, kinds := [], alts := [], laidByText := true, laidKinds := [.data], laidTests := true, laidLooks := .later }
def PicardAnyUptoCardSaid : Prop := Claim7.holds Tryz.pinned (.plain (OpenSpec.upto picardAnySpec)) picardAnyUptoCard

/-- THE SECOND FORM's CARD OF 'fathomlinelaw17.PicardDrawn'. -/
def picardDrawnUptoCard : Claim7 := { stood := { row := picardDrawnUptoRow, standIns := [], harness := (true, "218608038811084f1a835fbf61971160c924fc0d6abb3e100c700e025cb5b355"), looks := false }, kinds := [], alts := [], laidByText := true, laidKinds := [.data], laidTests := true, laidLooks := .later }
def PicardDrawnUptoCardSaid : Prop := Claim7.holds Tryz.pinned (.plain (OpenSpec.upto picardDrawnSpec)) picardDrawnUptoCard

/-- THE SECOND FORM's CARD OF 'fathomlinelaw17.PicardSure'. -/
def picardSureUptoCard : Claim7 := { stood := { row := picardSureUptoRow, standIns := [], harness := (true, "218608038811084f1a835fbf61971160c924fc0d6abb3e100c700e025cb5b355"), looks := false }, kinds := [], alts := [], laidByText := true, laidKinds := [.data], laidTests := true, laidLooks := .later }
def PicardSureUptoCardSaid : Prop := Claim7.holds Tryz.pinned (.plain (OpenSpec.upto picardSureSpec)) picardSureUptoCard

/-- THE SECOND FORM's CARD OF 'fathomlinelaw17.PicardStairs'. -/
def picardStairsUptoCard : Claim7 := { stood := { row := picardStairsUptoRow, standIns := [], harness := (true, "218608038811084f1a835fbf61971160c924fc0d6abb3e100c700e025cb5b355"), looks := false }, kinds := [], alts := [], laidByText := true, laidKinds := [.data], laidTests := true, laidLooks := .later }
def PicardStairsUptoCardSaid : Prop := Claim7.holds Tryz.pinned (.plain (OpenSpec.upto picardStairsSpec)) picardStairsUptoCard

/-- THE SECOND FORM's CARD OF 'fathomlinelaw17.PicardFinds'. -/
def picardFindsUptoCard : Claim7 := { stood := { row := picardFindsUptoRow, standIns := [], harness := (true, "218608038811084f1a835fbf61971160c924fc0d6abb3e100c700e025cb5b355"), looks := false }, kinds := [], alts := [], laidByText := true, laidKinds := [.data], laidTests := true, laidLooks := .later }
def PicardFindsUptoCardSaid : Prop := Claim7.holds Tryz.pinned (.plain (OpenSpec.upto picardFindsSpec)) picardFindsUptoCard

/-- THE SECOND FORM's CARD OF 'fathomlinelaw15.FlowAny'. -/
def flowAnyUptoCard : Claim7 := { stood := { row := flowAnyUptoRow, standIns := [], harness := (true, "218608038811084f1a835fbf61971160c924fc0d6abb3e100c700e025cb5b355"), looks := false }, kinds := [], alts := [], laidByText := true, laidKinds := [.data], laidTests := true, laidLooks := .later }
def FlowAnyUptoCardSaid : Prop := Claim7.holds Tryz.pinned (.plain (OpenSpec.upto flowAnySpec)) flowAnyUptoCard

/-- THE SECOND FORM's CARD OF 'fathomlinelaw15.FlowDrawn'. -/
def flowDrawnUptoCard : Claim7 := { stood := { row := flowDrawnUptoRow, standIns := [], harness := (true, "218608038811084f1a835fbf61971160c924fc0d6abb3e100c700e025cb5b355"), looks := false }, kinds := [], alts := [], laidByText := true, laidKinds := [.data], laidTests := true, laidLooks := .later }
def FlowDrawnUptoCardSaid : Prop := Claim7.holds Tryz.pinned (.plain (OpenSpec.upto flowDrawnSpec)) flowDrawnUptoCard
end Rows
end Go.Proofs.YthllcnigcnoghaaGreatDoor
