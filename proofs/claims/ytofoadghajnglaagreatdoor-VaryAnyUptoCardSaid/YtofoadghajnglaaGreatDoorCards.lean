/-
  DERIVED. GIVEN WITH THE SEED: THE CARDS: each row of YtofoadghajnglaaGreatDoorRows.lean that lists a variable, with what it lists TIED to the program's text (the seventh form; the later family's looks); each row that meets fmt, with fmt's text TOLD by the authors' own Lean function (tested against real Go, not proved from fmt's source: count such statements apart). THE CARD IS WHAT COUNTS. Prove the row's statement (the work); the ties are given (YtofoadghajnglaaGreatDoorTie.lean); close each card by the builder's one call (the guide's Derived/Test/ToyasCard.lean, 'card_holds'). Laid BY PROGRAM, IN A SANDBOX (cutbox-door.mjs). By AI agents, Wed Nov 11 2026. No macro, syntax, notation, axiom, sorry.
-/
import Derived.Test.YtofoadghajnglaaGreatDoorRows
import GoSem.ClaimSeven
namespace Go.Proofs.YtofoadghajnglaaGreatDoor
namespace Rows

/-- THE TIED CARD OF 'fathomlinelaw8.InvAny'. -/
def invAnyCard : Claim7 := { stood := { row := invAnyRow, standIns := [], harness := (true, "54003b66516872626660aa443c0b189bcbd30b036495ebc55ffa8f62411182b3"), looks := false }, kinds := [], alts := [], laidByText := true, laidKinds := [.data], laidTests := true, laidLooks := .later }
def InvAnyCardSaid : Prop := Claim7.holds Tryz.pinned (.plain (OpenSpec.ofChange invAnySpec)) invAnyCard

/-- THE TIED CARD OF 'fathomlinelaw8.InvDrawn'. -/
def invDrawnCard : Claim7 := { stood := { row := invDrawnRow, standIns := [], harness := (true, "54003b66516872626660aa443c0b189bcbd30b036495ebc55ffa8f62411182b3"), looks := false }, kinds := [], alts := [], laidByText := true, laidKinds := [.data], laidTests := true, laidLooks := .later }
def InvDrawnCardSaid : Prop := Claim7.holds Tryz.pinned (.plain (OpenSpec.ofChange invDrawnSpec)) invDrawnCard

/-- THE TIED CARD OF 'fathomlinelaw8.InvHolds'. -/
def invHoldsCard : Claim7 := { stood := { row := invHoldsRow, standIns := [], harness := (true, "54003b66516872626660aa443c0b189bcbd30b036495ebc55ffa8f62411182b3"), looks := false }, kinds := [], alts := [], laidByText := true, laidKinds := [.data], laidTests := true, laidLooks := .later }
def InvHoldsCardSaid : Prop := Claim7.holds Tryz.pinned (.plain (OpenSpec.ofChange invHoldsSpec)) invHoldsCard

/-- THE TIED CARD OF 'fathomlinelaw8.InvTurns'. -/
def invTurnsCard : Claim7 := { stood := { row := invTurnsRow, standIns := [], harness := (true, "54003b66516872626660aa443c0b189bcbd30b036495ebc55ffa8f62411182b3"), looks := false }, kinds := [], alts := [], laidByText := true, laidKinds := [.data], laidTests := true, laidLooks := .later }
def InvTurnsCardSaid : Prop := Claim7.holds Tryz.pinned (.plain (OpenSpec.ofChange invTurnsSpec)) invTurnsCard

/-- THE TIED CARD OF 'fathomlinelaw8.InvOnes'. -/
def invOnesCard : Claim7 := { stood := { row := invOnesRow, standIns := [], harness := (true, "54003b66516872626660aa443c0b189bcbd30b036495ebc55ffa8f62411182b3"), looks := false }, kinds := [], alts := [], laidByText := true, laidKinds := [.data], laidTests := true, laidLooks := .later }
def InvOnesCardSaid : Prop := Claim7.holds Tryz.pinned (.plain (OpenSpec.ofChange invOnesSpec)) invOnesCard

/-- THE TIED CARD OF 'fathomlinelaw16.VaryAny'. -/
def varyAnyCard : Claim7 := { stood := { row := varyAnyRow, standIns := [], harness := (true, "54003b66516872626660aa443c0b189bcbd30b036495ebc55ffa8f62411182b3"), looks := false }, kinds := [], alts := [], laidByText := true, laidKinds := [.data], laidTests := true, laidLooks := .later }
def VaryAnyCardSaid : Prop := Claim7.holds Tryz.pinned (.plain (OpenSpec.ofChange varyAnySpec)) varyAnyCard

/-- THE TIED CARD OF 'fathomlinelaw16.VaryDrawn'. -/
def varyDrawnCard : Claim7 := { stood := { row := varyDrawnRow, standIns := [], harness := (true, "54003b66516872626660aa443c0b189bcbd30b036495ebc55ffa8f62411182b3"), looks := false }, kinds := [], alts := [], laidByText := true, laidKinds := [.data], laidTests := true, laidLooks := .later }
def VaryDrawnCardSaid : Prop := Claim7.holds Tryz.pinned (.plain (OpenSpec.ofChange varyDrawnSpec)) varyDrawnCard

/-- THE TIED CARD OF 'fathomlinelaw16.VarySums'. -/
def varySumsCard : Claim7 := { stood := { row := varySumsRow, standIns := [], harness := (true, "54003b66516872626660aa443c0b189bcbd30b036495ebc55ffa8f62411182b3"), looks := false }, kinds := [], alts := [], laidByText := true, laidKinds := [.data], laidTests := true, laidLooks := .later }
def VarySumsCardSaid : Prop := Claim7.holds Tryz.pinned (.plain (OpenSpec.ofChange varySumsSpec)) varySumsCard

/-- THE TIED CARD OF 'fathomlinelaw16.VaryHolds'. -/
def varyHoldsCard : Claim7 := { stood := { row := varyHoldsRow, standIns := [], harness := (true, "54003b66516872626660aa443c0b189bcbd30b036495ebc55ffa8f62411182b3"), looks := false }, kinds := [], alts := [], laidByText := true, laidKinds := [.data], laidTests := true, laidLooks := .later }
def VaryHoldsCardSaid : Prop := Claim7.holds Tryz.pinned (.plain (OpenSpec.ofChange varyHoldsSpec)) varyHoldsCard

/-- THE TIED CARD OF 'fathomlinelaw16.VarySlopes'. -/
def varySlopesCard : Claim7 := { stood := { row := varySlopesRow, standIns := [], harness := (true, "54003b66516872626660aa443c0b189bcbd30b036495ebc55ffa8f62411182b3"), looks := false }, kinds := [], alts := [], laidByText := true, laidKinds := [.data], laidTests := true, laidLooks := .later }
def VarySlopesCardSaid : Prop := Claim7.holds Tryz.pinned (.plain (OpenSpec.ofChange varySlopesSpec)) varySlopesCard

/-- THE SECOND FORM's CARD OF 'fathomlinelaw8.InvAny'. -/
def invAnyUptoCard : Claim7 := { stood := { row := invAnyUptoRow, standIns := [], harness := (true, "54003b66516872626660aa443c0b189bcbd30b036495ebc55ffa8f62411182b3"), looks := false }, kinds := [], alts := [], laidByText := true, laidKinds := [.data], laidTests := true, laidLooks := .later }
def InvAnyUptoCardSaid : Prop := Claim7.holds Tryz.pinned (.plain (OpenSpec.upto invAnySpec)) invAnyUptoCard

/-- THE SECOND FORM's CARD OF 'fathomlinelaw8.InvDrawn'. -/
def invDrawnUptoCard : Claim7 := { stood := { row := invDrawnUptoRow, standIns := [], harness := (true, "54003b66516872626660aa443c0b189bcbd30b036495ebc55ffa8f62411182b3"), looks := false }, kinds := [], alts := [], laidByText := true, laidKinds := [.data], laidTests := true, laidLooks := .later }
def InvDrawnUptoCardSaid : Prop := Claim7.holds Tryz.pinned (.plain (OpenSpec.upto invDrawnSpec)) invDrawnUptoCard

/-- THE SECOND FORM's CARD OF 'fathomlinelaw8.InvHolds'. -/
def invHoldsUptoCard : Claim7 := { stood := { row := invHoldsUptoRow, standIns := [], harness := (true, "54003b66516872626660aa443c0b189bcbd30b036495ebc55ffa8f62411182b3"), looks := false }, kinds := [], alts := [], laidByText := true, laidKinds := [.data], laidTests := true, laidLooks := .later }
def InvHoldsUptoCardSaid : Prop := Claim7.holds Tryz.pinned (.plain (OpenSpec.upto invHoldsSpec)) invHoldsUptoCard

/-- THE SECOND FORM's CARD OF 'fathomlinelaw8.InvTurns'. -/
def invTurnsUptoCard : Claim7 := { stood := { row := invTurnsUptoRow, standIns := [], harness := (true, "54003b66516872626660aa443c0b189bcbd30b036495ebc55ffa8f62411182b3"), looks := false }, kinds := [], alts := [], laidByText := true, laidKinds := [.data], laidTests := true, laidLooks := .later }
def InvTurnsUptoCardSaid : Prop := Claim7.holds Tryz.pinned (.plain (OpenSpec.upto invTurnsSpec)) invTurnsUptoCard

/-- THE SECOND FORM's CARD OF 'fathomlinelaw8.InvOnes'. -/
def invOnesUptoCard : Claim7 := { stood := { row := invOnesUptoRow, standIns := [], harness := (true, "54003b66516872626660aa443c0b189bcbd30b036495ebc55ffa8f62411182b3"), looks := false }, kinds := [], alts := [], laidByText := true, laidKinds := [.data], laidTests := true, laidLooks := .later }
def InvOnesUptoCardSaid : Prop := Claim7.holds Tryz.pinned (.plain (OpenSpec.upto invOnesSpec)) invOnesUptoCard

/-- THE SECOND FORM's CARD OF 'fathomlinelaw16.VaryAny'. -/
def varyAnyUptoCard : Claim7 := { stood := { row := varyAnyUptoRow, standIns := [], harness := (true, "54003b66516872626660aa443c0b189bcbd30b036495ebc55ffa8f62411182b3"), looks := false }, kinds := [], alts := [], laidByText := true, laidKinds := [.data], laidTests := true, laidLooks := .later }
def VaryAnyUptoCardSaid : Prop := Claim7.holds Tryz.pinned (.plain (OpenSpec.upto varyAnySpec)) varyAnyUptoCard

/-- THE SECOND FORM's CARD OF 'fathomlinelaw16.VaryDrawn'. -/
def varyDrawnUptoCard : Claim7 := { stood := { row := varyDrawnUptoRow, standIns := [], harness := (true, "54003b66516872626660aa443c0b189bcbd30b036495ebc55ffa8f62411182b3"), looks := false }, kinds := [], alts := [], laidByText := true, laidKinds := [.data], laidTests := true, laidLooks := .later }
def VaryDrawnUptoCardSaid : Prop := Claim7.holds Tryz.pinned (.plain (OpenSpec.upto varyDrawnSpec)) varyDrawnUptoCard

/-- THE SECOND FORM's CARD OF 'fathomlinelaw16.VarySums'. -/
def varySumsUptoCard : Claim7 := { stood := { row := varySumsUptoRow, standIns := [], harness := (true, "54003b66516872626660aa443c0b189bcbd30b036495ebc55ffa8f62411182b3"), looks := false }, kinds := [], alts := [], laidByText := true, laidKinds := [.data], laidTests := true, laidLooks := .later }
def VarySumsUptoCardSaid : Prop := Claim7.holds Tryz.pinned (.plain (OpenSpec.upto varySumsSpec)) varySumsUptoCard

/-- THE SECOND FORM's CARD OF 'fathomlinelaw16.VaryHolds'. -/
def varyHoldsUptoCard : Claim7 := { stood := { row := varyHoldsUptoRow, standIns := [], harness := (true, "54003b66516872626660aa443c0b189bcbd30b036495ebc55ffa8f62411182b3"), looks := false }, kinds := [], alts := [], laidByText := true, laidKinds := [.data], laidTests := true, laidLooks := .later }
def VaryHoldsUptoCardSaid : Prop := Claim7.holds Tryz.pinned (.plain (OpenSpec.upto varyHoldsSpec)) varyHoldsUptoCard

/-- THE SECOND FORM's CARD OF 'fathomlinelaw16.VarySlopes'. -/
def varySlopesUptoCard : Claim7 := { stood := { row := varySlopesUptoRow, standIns := [], harness := (true, "54003b66516872626660aa443c0b189bcbd30b036495ebc55ffa8f62411182b3"), looks := false }, kinds := [], alts := [], laidByText := true, laidKinds := [.data], laidTests := true, laidLooks := .later }
def VarySlopesUptoCardSaid : Prop := Claim7.holds Tryz.pinned (.plain (OpenSpec.upto varySlopesSpec)) varySlopesUptoCard
end Rows
end Go.Proofs.YtofoadghajnglaaGreatDoor
