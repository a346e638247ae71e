/-
  DERIVED. GIVEN WITH THE SEED: THE CARDS: each row of YthlnpmkcmbohaaaGreatDoorRows.lean that lists a variable, with what it lists TIED to the program's text (the seventh form; the later family's looks); each row that meets fmt, with fmt's text TOLD by the authors' own Lean function (tested against real Go, not proved from fmt's source: count such statements apart). THE CARD IS WHAT COUNTS. Prove the row's statement (the work); the ties are given (YthlnpmkcmbohaaaGreatDoorTie.lean); close each card by the builder's one call (the guide's Derived/Test/ToyasCard.lean, 'card_holds'). Laid BY PROGRAM, IN A SANDBOX (cutbox-door.mjs). By AI agents, Wed Nov 11 2026. No macro, syntax, notation, axiom, sorry.
-/
import Derived.Test.YthlnpmkcmbohaaaGreatDoorRows
import GoSem.ClaimSeven
namespace Go.Proofs.YthlnpmkcmbohaaaGreatDoor
namespace Rows

/-- THE TIED CARD OF 'fathomlinelaw18.FrameTurns'. -/
def frameTurnsCard : Claim7 := { stood := { row := frameTurnsRow, standIns := [], harness := (true, "f8a8ea034c7feed452ed34cdc951cddb7a60d83921914e378f05fc47ad99a718"), looks := false }, kinds := [], alts := [], laidByText := true, laidKinds := [.data], laidTests := true, laidLooks := .later }
def FrameTurnsCardSaid : Prop := Claim7.holds Tryz.pinned (.plain (OpenSpec.ofChange frameTurnsSpec)) frameTurnsCard

/-- THE TIED CARD OF 'fathomlinelaw18.FrameStill'. -/
def frameStillCard : Claim7 := { stood := { row := frameStillRow, standIns := [], harness := (true, "f8a8ea034c7feed452ed34cdc951cddb7a60d83921914e378f05fc47ad99a718"), looks := false }, kinds := [], alts := [], laidByText := true, laidKinds := [.data], laidTests := true, laidLooks := .later }
def FrameStillCardSaid : Prop := Claim7.holds Tryz.pinned (.plain (OpenSpec.ofChange frameStillSpec)) frameStillCard

/-- THE TIED CARD OF 'fathomlinelaw18.FrameHolds'. -/
def frameHoldsCard : Claim7 := { stood := { row := frameHoldsRow, standIns := [], harness := (true, "f8a8ea034c7feed452ed34cdc951cddb7a60d83921914e378f05fc47ad99a718"), looks := false }, kinds := [], alts := [], laidByText := true, laidKinds := [.data], laidTests := true, laidLooks := .later }
def FrameHoldsCardSaid : Prop := Claim7.holds Tryz.pinned (.plain (OpenSpec.ofChange frameHoldsSpec)) frameHoldsCard

/-- THE SECOND FORM's CARD OF 'fathomlinelaw18.FrameTurns'. -/
def frameTurnsUptoCard : Claim7 := { stood := { row := frameTurnsUptoRow, standIns := [], harness := (true, "f8a8ea034c7feed452ed34cdc951cddb7a60d83921914e378f05fc47ad99a718"), looks := false }, kinds := [], alts := [], laidByText := true, laidKinds := [.data], laidTests := true, laidLooks := .later }
def FrameTurnsUptoCardSaid : Prop := Claim7.holds Tryz.pinned (.plain (OpenSpec.upto frameTurnsSpec)) frameTurnsUptoCard

/-- THE SECOND FORM's CARD OF 'fathomlinelaw18.FrameStill'. -/
def frameStillUptoCard : Claim7 := { stood := { row := frameStillUptoRow, standIns := [], harness := (true, "f8a8ea034c7feed452ed34cdc951cddb7a60d83921914e378f05fc47ad99a718"), looks := false }, kinds := [], alts := [], laidByText := true, laidKinds := [.data], laidTests := true, laidLooks := .later }
def FrameStillUptoCardSaid : Prop := Claim7.holds Tryz.pinned (.plain (OpenSpec.upto frameStillSpec)) frameStillUptoCard

/-- THE SECOND FORM's CARD OF 'fathomlinelaw18.FrameHolds'. -/
def frameHoldsUptoCard : Claim7 := { stood := { row := frameHoldsUptoRow, standIns := [], harness := (true, "f8a8ea034c7feed452ed34cdc951cddb7a60d83921914e378f05fc47ad99a718"), looks := false }, kinds := [], alts := [], laidByText := true, laidKinds := [.data], laidTests := true, laidLooks := .later }
def FrameHoldsUptoCardSaid : Prop := Claim7.holds Tryz.pinned (.plain (OpenSpec.upto frameHoldsSpec)) frameHoldsUptoCard
end Rows
end Go.Proofs.YthlnpmkcmbohaaaGreatDoor
