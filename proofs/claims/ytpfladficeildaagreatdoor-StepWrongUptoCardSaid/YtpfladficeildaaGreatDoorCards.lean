/-
  DERIVED. GIVEN WITH THE SEED: THE CARDS: each row of YtpfladficeildaaGreatDoorRows.lean that lists a variable, with what it lists TIED to the program's text (the seventh form; the later family's looks); each row that meets fmt, with fmt's text TOLD by the authors' own Lean function (tested against real Go, not proved from fmt's source: count such statements apart). THE CARD IS WHAT COUNTS. Prove the row's statement (the work); the ties are given (YtpfladficeildaaGreatDoorTie.lean); close each card by the builder's one call (the guide's Derived/Test/ToyasCard.lean, 'card_holds'). Laid BY PROGRAM, IN A SANDBOX (cutbox-door.mjs). By AI agents, Wed Nov 11 2026. No macro, syntax, notation, axiom, sorry.
-/
import Derived.Test.YtpfladficeildaaGreatDoorRows
import GoSem.ClaimSeven
namespace Go.Proofs.YtpfladficeildaaGreatDoor
namespace Rows

/-- THE TIED CARD OF 'fathomlinelaw19.StepWrong'. -/
def stepWrongCard : Claim7 := { stood := { row := stepWrongRow, standIns := [], harness := (true, "c46e183f0af0d9171f50599582d3e2f5c5d0b5e113e56d826fff3e7bb2815a4d"), looks := false }, kinds := [], alts := [], laidByText := true, laidKinds := [.data], laidTests := true, laidLooks := .later }
def StepWrongCardSaid : Prop := Claim7.holds Tryz.pinned (.plain (OpenSpec.ofChange stepWrongSpec)) stepWrongCard

/-- THE SECOND FORM's CARD OF 'fathomlinelaw19.StepWrong'. -/
def stepWrongUptoCard : Claim7 := { stood := { row := stepWrongUptoRow, standIns := [], harness := (true, "c46e183f0af0d9171f50599582d3e2f5c5d0b5e113e56d826fff3e7bb2815a4d"), looks := false }, kinds := [], alts := [], laidByText := true, laidKinds := [.data], laidTests := true, laidLooks := .later }
def StepWrongUptoCardSaid : Prop := Claim7.holds Tryz.pinned (.plain (OpenSpec.upto stepWrongSpec)) stepWrongUptoCard
end Rows
end Go.Proofs.YtpfladficeildaaGreatDoor
