/-
  DERIVED. GIVEN WITH THE SEED: THE CARDS: each row of YtldalepagmhnmaaGreatDoorRows.lean that lists a variable, with what it lists TIED to the program's text (the seventh form; the later family's looks); each row that meets fmt, with fmt's text TOLD by the authors' own Lean function (tested against real Go, not proved from fmt's source: count such statements apart). THE CARD IS WHAT COUNTS. Prove the row's statement (the work); the ties are given (YtldalepagmhnmaaGreatDoorTie.lean); close each card by the builder's one call (the guide's Derived/Test/ToyasCard.lean, 'card_holds'). Laid BY PROGRAM, IN A SANDBOX (cutbox-door.mjs). By AI agents, Wed Nov 11 2026. No macro, syntax, notation, axiom, sorry.
-/
import Derived.Test.YtldalepagmhnmaaGreatDoorRows
import GoSem.ClaimSeven
namespace Go.Proofs.YtldalepagmhnmaaGreatDoor
namespace Rows

/-- THE TIED CARD OF 'fathomlinelaw16.VaryDrawn'. -/
def varyDrawnCard : Claim7 := { stood := { row := varyDrawnRow, standIns := [], harness := (true, "b9eb8601b1bf26d2b245b2b934f00a961a9e8840472a8dd39cc8a36fb802422f"), looks := false }, kinds := [], alts := [], laidByText := true, laidKinds := [.data], laidTests := true, laidLooks := .later }
def VaryDrawnCardSaid : Prop := Claim7.holds Tryz.pinned (.plain (OpenSpec.ofChange varyDrawnSpec)) varyDrawnCard

/-- THE TIED CARD OF 'fathomlinelaw16.VaryHolds'. -/
def varyHoldsCard : Claim7 := { stood := { row := varyHoldsRow, standIns := [], harness := (true, "b9eb8601b1bf26d2b245b2b934f00a961a9e8840472a8dd39cc8a36fb802422f"), looks := false }, kinds := [], alts := [], laidByText := true, laidKinds := [.data], laidTests := true, laidLooks := .later }
def VaryHoldsCardSaid : Prop := Claim7.holds Tryz.pinned (.plain (OpenSpec.ofChange varyHoldsSpec)) varyHoldsCard

/-- THE TIED CARD OF 'fathomlinelaw16.VarySlopes'. -/
def varySlopesCard : Claim7 := { stood := { row := varySlopesRow, standIns := [], harness := (true, "b9eb8601b1bf26d2b245b2b934f00a961a9e8840472a8dd39cc8a36fb802422f"), looks := false }, kinds := [], alts := [], laidByText := true, laidKinds := [.data], laidTests := true, laidLooks := .later }
def VarySlopesCardSaid : Prop := Claim7.holds Tryz.pinned (.plain (OpenSpec.ofChange varySlopesSpec)) varySlopesCard

/-- THE TIED CARD OF 'fathomlinelaw18.FrameAny'. -/
def frameAnyCard : Claim7 := { stood := { row := frameAnyRow, standIns := [], harness := (true, "b9eb8601b1bf26d2b245b2b934f00a961a9e8840472a8dd39cc8a36fb802422f"), looks := false }, kinds := [], alts := [], laidByText := true, laidKinds := [.data], laidTests := true, laidLooks := .later }
def FrameAnyCardSaid : Prop := Claim7.holds Tryz.pinned (.plain (OpenSpec.ofChange frameAnySpec)) frameAnyCard

/-- THE TIED CARD OF 'fathomlinelaw18.FrameDrawn'. -/
def frameDrawnCard : Claim7 := { stood := { row := frameDrawnRow, standIns := [], harness := (true, "b9eb8601b1bf26d2b245b2b934f00a961a9e8840472a8dd39cc8a36fb802422f"), looks := false }, kinds := [], alts := [], laidByText := true, laidKinds := [.data], laidTests := true, laidLooks := .later }
def FrameDrawnCardSaid : Prop := Claim7.holds Tryz.pinned (.plain (OpenSpec.ofChange frameDrawnSpec)) frameDrawnCard

/-- THE TIED CARD OF 'fathomlinelaw18.FrameTurns'. -/
def frameTurnsCard : Claim7 := { stood := { row := frameTurnsRow, standIns := [], harness := (true, "b9eb8601b1bf26d2b245b2b934f00a961a9e8840472a8dd39cc8a36fb802422f"), looks := false }, kinds := [], alts := [], laidByText := true, laidKinds := [.data], laidTests := true, laidLooks := .later }
def FrameTurnsCardSaid : Prop := Claim7.holds Tryz.pinned (.plain (OpenSpec.ofChange frameTurnsSpec)) frameTurnsCard

/-- THE TIED CARD OF 'fathomlinelaw18.FrameStill'. -/
def frameStillCard : Claim7 := { stood := { row := frameStillRow, standIns := [], harness := (true, "b9eb8601b1bf26d2b245b2b934f00a961a9e8840472a8dd39cc8a36fb802422f"), looks := false }, kinds := [], alts := [], laidByText := true, laidKinds := [.data], laidTests := true, laidLooks := .later }
def FrameStillCardSaid : Prop := Claim7.holds Tryz.pinned (.plain (OpenSpec.ofChange frameStillSpec)) frameStillCard

/-- THE TIED CARD OF 'fathomlinelaw18.FrameHolds'. -/
def frameHoldsCard : Claim7 := { stood := { row := frameHoldsRow, standIns := [], harness := (true, "b9eb8601b1bf26d2b245b2b934f00a961a9e8840472a8dd39cc8a36fb802422f"), looks := false }, kinds := [], alts := [], laidByText := true, laidKinds := [.data], laidTests := true, laidLooks := .later }
def FrameHoldsCardSaid : Prop := Claim7.holds Tryz.pinned (.plain (OpenSpec.ofChange frameHoldsSpec)) frameHoldsCard

/-- THE SECOND FORM's CARD OF 'fathomlinelaw16.VaryDrawn'. -/
def varyDrawnUptoCard : Claim7 := { stood := { row := varyDrawnUptoRow, standIns := [], harness := (true, "b9eb8601b1bf26d2b245b2b934f00a961a9e8840472a8dd39cc8a36fb802422f"), looks := false }, kinds := [], alts := [], laidByText := true, laidKinds := [.data], laidTests := true, laidLooks := .later }
def VaryDrawnUptoCardSaid : Prop := Claim7.holds Tryz.pinned (.plain (OpenSpec.upto varyDrawnSpec)) varyDrawnUptoCard

/-- THE SECOND FORM's CARD OF 'fathomlinelaw16.VaryHolds'. -/
def varyHoldsUptoCard : Claim7 := { stood := { row := varyHoldsUptoRow, standIns := [], harness := (true, "b9eb8601b1bf26d2b245b2b934f00a961a9e8840472a8dd39cc8a36fb802422f"), looks := false }, kinds := [], alts := [], laidByText := true, laidKinds := [.data], laidTests := true, laidLooks := .later }
def VaryHoldsUptoCardSaid : Prop := Claim7.holds Tryz.pinned (.plain (OpenSpec.upto varyHoldsSpec)) varyHoldsUptoCard

/-- THE SECOND FORM's CARD OF 'fathomlinelaw16.VarySlopes'. -/
def varySlopesUptoCard : Claim7 := { stood := { row := varySlopesUptoRow, standIns := [], harness := (true, "b9eb8601b1bf26d2b245b2b934f00a961a9e8840472a8dd39cc8a36fb802422f"), looks := false }, kinds := [], alts := [], laidByText := true, laidKinds := [.data], laidTests := true, laidLooks := .later }
def VarySlopesUptoCardSaid : Prop := Claim7.holds Tryz.pinned (.plain (OpenSpec.upto varySlopesSpec)) varySlopesUptoCard

/-- THE SECOND FORM's CARD OF 'fathomlinelaw18.FrameAny'. -/
def frameAnyUptoCard : Claim7 := { stood := { row := frameAnyUptoRow, standIns := [], harness := (true, "b9eb8601b1bf26d2b245b2b934f00a961a9e8840472a8dd39cc8a36fb802422f"), looks := false }, kinds := [], alts := [], laidByText := true, laidKinds := [.data], laidTests := true, laidLooks := .later }
def FrameAnyUptoCardSaid : Prop := Claim7.holds Tryz.pinned (.plain (OpenSpec.upto frameAnySpec)) frameAnyUptoCard

/-- THE SECOND FORM's CARD OF 'fathomlinelaw18.FrameDrawn'. -/
def frameDrawnUptoCard : Claim7 := { stood := { row := frameDrawnUptoRow, standIns := [], harness := (true, "b9eb8601b1bf26d2b245b2b934f00a961a9e8840472a8dd39cc8a36fb802422f"), looks := false }, kinds := [], alts := [], laidByText := true, laidKinds := [.data], laidTests := true, laidLooks := .later }
def FrameDrawnUptoCardSaid : Prop := Claim7.holds Tryz.pinned (.plain (OpenSpec.upto frameDrawnSpec)) frameDrawnUptoCard

/-- THE SECOND FORM's CARD OF 'fathomlinelaw18.FrameTurns'. -/
def frameTurnsUptoCard : Claim7 := { stood := { row := frameTurnsUptoRow, standIns := [], harness := (true, "b9eb8601b1bf26d2b245b2b934f00a961a9e8840472a8dd39cc8a36fb802422f"), looks := false }, kinds := [], alts := [], laidByText := true, laidKinds := [.data], laidTests := true, laidLooks := .later }
def FrameTurnsUptoCardSaid : Prop := Claim7.holds Tryz.pinned (.plain (OpenSpec.upto frameTurnsSpec)) frameTurnsUptoCard

/-- THE SECOND FORM's CARD OF 'fathomlinelaw18.FrameStill'. -/
def frameStillUptoCard : Claim7 := { stood := { row := frameStillUptoRow, standIns := [], harness := (true, "b9eb8601b1bf26d2b245b2b934f00a961a9e8840472a8dd39cc8a36fb802422f"), looks := false }, kinds := [], alts := [], laidByText := true, laidKinds := [.data], laidTests := true, laidLooks := .later }
def FrameStillUptoCardSaid : Prop := Claim7.holds Tryz.pinned (.plain (OpenSpec.upto frameStillSpec)) frameStillUptoCard

/-- THE SECOND FORM's CARD OF 'fathomlinelaw18.FrameHolds'. -/
def frameHoldsUptoCard : Claim7 := { stood := { row := frameHoldsUptoRow, standIns := [], harness := (true, "b9eb8601b1bf26d2b245b2b934f00a961a9e8840472a8dd39cc8a36fb802422f"), looks := false }, kinds := [], alts := [], laidByText := true, laidKinds := [.data], laidTests := true, laidLooks := .later }
def FrameHoldsUptoCardSaid : Prop := Claim7.holds Tryz.pinned (.plain (OpenSpec.upto frameHoldsSpec)) frameHoldsUptoCard
end Rows
end Go.Proofs.YtldalepagmhnmaaGreatDoor
