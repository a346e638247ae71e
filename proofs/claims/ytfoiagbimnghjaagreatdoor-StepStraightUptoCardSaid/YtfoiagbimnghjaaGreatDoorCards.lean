/-
  DERIVED. GIVEN WITH THE SEED: THE CARDS: each row of YtfoiagbimnghjaaGreatDoorRows.lean that lists a variable, with what it lists TIED to the program's text (the seventh form; the later family's looks); each row that meets fmt, with fmt's text TOLD by the authors' own Lean function (tested against real Go, not proved from fmt's source: count such statements apart). THE CARD IS WHAT COUNTS. Prove the row's statement (the work); the ties are given (YtfoiagbimnghjaaGreatDoorTie.lean); close each card by the builder's one call (the guide's Derived/Test/ToyasCard.lean, 'card_holds'). Laid BY PROGRAM, IN A SANDBOX (cutbox-door.mjs). By AI agents, Wed Nov 11 2026. No macro, syntax, notation, axiom, sorry.
-/
import Derived.Test.YtfoiagbimnghjaaGreatDoorRows
import GoSem.ClaimSeven
namespace Go.Proofs.YtfoiagbimnghjaaGreatDoor
namespace Rows

/-- THE TIED CARD OF 'fathomlinelaw19.StepWrong'. -/
def stepWrongCard : Claim7 := { stood := { row := stepWrongRow, standIns := [], harness := (true, "fc922223e1788136b9f021fe529254c41dab34097d1bccaa0edaace330748064"), looks := false }, kinds := [], alts := [], laidByText := true, laidKinds := [.data], laidTests := true, laidLooks := .later }
def StepWrongCardSaid : Prop := Claim7.holds Tryz.pinned (.plain (OpenSpec.ofChange stepWrongSpec)) stepWrongCard

/-- THE TIED CARD OF 'fathomlinelaw19.StepNexts'. -/
def stepNextsCard : Claim7 := { stood := { row := stepNextsRow, standIns := [], harness := (true, "fc922223e1788136b9f021fe529254c41dab34097d1bccaa0edaace330748064"), looks := false }, kinds := [], alts := [], laidByText := true, laidKinds := [.data], laidTests := true, laidLooks := .later }
def StepNextsCardSaid : Prop := Claim7.holds Tryz.pinned (.plain (OpenSpec.ofChange stepNextsSpec)) stepNextsCard

/-- THE TIED CARD OF 'fathomlinelaw19.StepWide'. -/
def stepWideCard : Claim7 := { stood := { row := stepWideRow, standIns := [], harness := (true, "fc922223e1788136b9f021fe529254c41dab34097d1bccaa0edaace330748064"), looks := false }, kinds := [], alts := [], laidByText := true, laidKinds := [.data], laidTests := true, laidLooks := .later }
def StepWideCardSaid : Prop := Claim7.holds Tryz.pinned (.plain (OpenSpec.ofChange stepWideSpec)) stepWideCard

/-- THE TIED CARD OF 'fathomlinelaw19.StepSound'. -/
def stepSoundCard : Claim7 := { stood := { row := stepSoundRow, standIns := [], harness := (true, "fc922223e1788136b9f021fe529254c41dab34097d1bccaa0edaace330748064"), looks := false }, kinds := [], alts := [], laidByText := true, laidKinds := [.data], laidTests := true, laidLooks := .later }
def StepSoundCardSaid : Prop := Claim7.holds Tryz.pinned (.plain (OpenSpec.ofChange stepSoundSpec)) stepSoundCard

/-- THE TIED CARD OF 'fathomlinelaw19.StepCerts'. -/
def stepCertsCard : Claim7 := { stood := { row := stepCertsRow, standIns := [], harness := (true, "fc922223e1788136b9f021fe529254c41dab34097d1bccaa0edaace330748064"), looks := false }, kinds := [], alts := [], laidByText := true, laidKinds := [.data], laidTests := true, laidLooks := .later }
def StepCertsCardSaid : Prop := Claim7.holds Tryz.pinned (.plain (OpenSpec.ofChange stepCertsSpec)) stepCertsCard

/-- THE TIED CARD OF 'fathomlinelaw19.StepSizes'. -/
def stepSizesCard : Claim7 := { stood := { row := stepSizesRow, standIns := [], harness := (true, "fc922223e1788136b9f021fe529254c41dab34097d1bccaa0edaace330748064"), looks := false }, kinds := [], alts := [], laidByText := true, laidKinds := [.data], laidTests := true, laidLooks := .later }
def StepSizesCardSaid : Prop := Claim7.holds Tryz.pinned (.plain (OpenSpec.ofChange stepSizesSpec)) stepSizesCard

/-- THE TIED CARD OF 'fathomlinelaw19.StepStraight'. -/
def stepStraightCard : Claim7 := { stood := { row := stepStraightRow, standIns := [], harness := (true, "fc922223e1788136b9f021fe529254c41dab34097d1bccaa0edaace330748064"), looks := false }, kinds := [], alts := [], laidByText := true, laidKinds := [.data], laidTests := true, laidLooks := .later }
def StepStraightCardSaid : Prop := Claim7.holds Tryz.pinned (.plain (OpenSpec.ofChange stepStraightSpec)) stepStraightCard

/-- THE SECOND FORM's CARD OF 'fathomlinelaw19.StepWrong'. -/
def stepWrongUptoCard : Claim7 := { stood := { row := stepWrongUptoRow, standIns := [], harness := (true, "fc922223e1788136b9f021fe529254c41dab34097d1bccaa0edaace330748064"), looks := false }, kinds := [], alts := [], laidByText := true, laidKinds := [.data], laidTests := true, laidLooks := .later }
def StepWrongUptoCardSaid : Prop := Claim7.holds Tryz.pinned (.plain (OpenSpec.upto stepWrongSpec)) stepWrongUptoCard

/-- THE SECOND FORM's CARD OF 'fathomlinelaw19.StepNexts'. -/
def stepNextsUptoCard : Claim7 := { stood := { row := stepNextsUptoRow, standIns := [], harness := (true, "fc922223e1788136b9f021fe529254c41dab34097d1bccaa0edaace330748064"), looks := false }, kinds := [], alts := [], laidByText := true, laidKinds := [.data], laidTests := true, laidLooks := .later }
def StepNextsUptoCardSaid : Prop := Claim7.holds Tryz.pinned (.plain (OpenSpec.upto stepNextsSpec)) stepNextsUptoCard

/-- THE SECOND FORM's CARD OF 'fathomlinelaw19.StepWide'. -/
def stepWideUptoCard : Claim7 := { stood := { row := stepWideUptoRow, standIns := [], harness := (true, "fc922223e1788136b9f021fe529254c41dab34097d1bccaa0edaace330748064"), looks := false }, kinds := [], alts := [], laidByText := true, laidKinds := [.data], laidTests := true, laidLooks := .later }
def StepWideUptoCardSaid : Prop := Claim7.holds Tryz.pinned (.plain (OpenSpec.upto stepWideSpec)) stepWideUptoCard

/-- THE SECOND FORM's CARD OF 'fathomlinelaw19.StepSound'. -/
def stepSoundUptoCard : Claim7 := { stood := { row := stepSoundUptoRow, standIns := [], harness := (true, "fc922223e1788136b9f021fe529254c41dab34097d1bccaa0edaace330748064"), looks := false }, kinds := [], alts := [], laidByText := true, laidKinds := [.data], laidTests := true, laidLooks := .later }
def StepSoundUptoCardSaid : Prop := Claim7.holds Tryz.pinned (.plain (OpenSpec.upto stepSoundSpec)) stepSoundUptoCard

/-- THE SECOND FORM's CARD OF 'fathomlinelaw19.StepCerts'. -/
def stepCertsUptoCard : Claim7 := { stood := { row := stepCertsUptoRow, standIns := [], harness := (true, "fc922223e1788136b9f021fe529254c41dab34097d1bccaa0edaace330748064"), looks := false }, kinds := [], alts := [], laidByText := true, laidKinds := [.data], laidTests := true, laidLooks := .later }
def StepCertsUptoCardSaid : Prop := Claim7.holds Tryz.pinned (.plain (OpenSpec.upto stepCertsSpec)) stepCertsUptoCard

/-- THE SECOND FORM's CARD OF 'fathomlinelaw19.StepSizes'. -/
def stepSizesUptoCard : Claim7 := { stood := { row := stepSizesUptoRow, standIns := [], harness := (true, "fc922223e1788136b9f021fe529254c41dab34097d1bccaa0edaace330748064"), looks := false }, kinds := [], alts := [], laidByText := true, laidKinds := [.data], laidTests := true, laidLooks := .later }
def StepSizesUptoCardSaid : Prop := Claim7.holds Tryz.pinned (.plain (OpenSpec.upto stepSizesSpec)) stepSizesUptoCard

/-- THE SECOND FORM's CARD OF 'fathomlinelaw19.StepStraight'. -/
def stepStraightUptoCard : Claim7 := { stood := { row := stepStraightUptoRow, standIns := [], harness := (true, "fc922223e1788136b9f021fe529254c41dab34097d1bccaa0edaace330748064"), looks := false }, kinds := [], alts := [], laidByText := true, laidKinds := [.data], laidTests := true, laidLooks := .later }
def StepStraightUptoCardSaid : Prop := Claim7.holds Tryz.pinned (.plain (OpenSpec.upto stepStraightSpec)) stepStraightUptoCard
end Rows
end Go.Proofs.YtfoiagbimnghjaaGreatDoor
