/-
  NARROWER THAN 'FOR EVERY INPUT', by the rows' own cells (each row's printed sentence says how): InvAny: laid · InvDrawn: laid · InvHolds: laid · InvTurns: laid · InvOnes: laid · VaryAny: laid · VaryDrawn: laid · VarySums: laid · VaryHolds: laid · VarySlopes: laid.
  DERIVED. THE GIVEN ROWS OF THIS SEAT. 10 by the template 'for every input the law returns true; each argument reads behind the call as it read before'; 0 by the template 'total and deterministic' (their statements: YtofoadghajnglaaGreatDoorTotals.lean).
  GIVEN WITH THE SEED: the statements are not yours to turn. If you find one false, say at which input.
  Laid BY PROGRAM, IN A SANDBOX (cutbox-rows.mjs): the forced cells as the released guide's own fill.sh prints them over the translation 330cdeff3be089a9… (all of the seat's roots in one cut). By AI agents, Wed Nov 11 2026. No macro, syntax, notation, axiom, sorry.
-/
import Derived.Test.YtofoadghajnglaaGreatDoorChecked
import GoSem.Claim
import GoSem.ClaimJoined
import GoSem.ClaimMapViews
import Derived.JoinedTies
import Derived.KernelRfl
namespace Go.Proofs.YtofoadghajnglaaGreatDoor
/- THE CELL 'sum', in the pinned program and in every row, IS THE sha256 OF THE DUMP (.gsa) THAT YtofoadghajnglaaGreatDoorProg.lean LOADS. Nothing in Lean hashes anything: it is a label: what it is worth is what the hold of that sum in a sandbox is worth. -/
noncomputable def Tryz.pinned : Pinned := { name := "ytofoadghajnglaagreatdoor", sum := "330cdeff3be089a9fdef88a246bbf1609751a52701219bbb2d2d92efdeb288c9", checked := Tryz.checked }
namespace Rows
def none {H : Type} : Left H := { results := [], args := [] }

/- WHAT THE LISTED PACKAGE-LEVEL VARIABLES READ AS WHEN THE CALL BEGINS. Each datum BY PROGRAM (the guide's laid-datum.mjs) off the statement by which the dump's own 'gosem.cut.vars' lays the variable. In a bare row this is a premise. The card (YtofoadghajnglaaGreatDoorCards.lean) ties it to the program's text. -/
def laid_math_bits_deBruijn64tab {H : Type} : DataW H := .agg [.lit (.int .u8 0), .lit (.int .u8 1), .lit (.int .u8 56), .lit (.int .u8 2), .lit (.int .u8 57), .lit (.int .u8 49), .lit (.int .u8 28), .lit (.int .u8 3), .lit (.int .u8 61), .lit (.int .u8 58), .lit (.int .u8 42), .lit (.int .u8 50), .lit (.int .u8 38), .lit (.int .u8 29), .lit (.int .u8 17), .lit (.int .u8 4), .lit (.int .u8 62), .lit (.int .u8 47), .lit (.int .u8 59), .lit (.int .u8 36), .lit (.int .u8 45), .lit (.int .u8 43), .lit (.int .u8 51), .lit (.int .u8 22), .lit (.int .u8 53), .lit (.int .u8 39), .lit (.int .u8 33), .lit (.int .u8 30), .lit (.int .u8 24), .lit (.int .u8 18), .lit (.int .u8 12), .lit (.int .u8 5), .lit (.int .u8 63), .lit (.int .u8 55), .lit (.int .u8 48), .lit (.int .u8 27), .lit (.int .u8 60), .lit (.int .u8 41), .lit (.int .u8 37), .lit (.int .u8 16), .lit (.int .u8 46), .lit (.int .u8 35), .lit (.int .u8 44), .lit (.int .u8 21), .lit (.int .u8 52), .lit (.int .u8 32), .lit (.int .u8 23), .lit (.int .u8 11), .lit (.int .u8 54), .lit (.int .u8 26), .lit (.int .u8 40), .lit (.int .u8 15), .lit (.int .u8 34), .lit (.int .u8 20), .lit (.int .u8 31), .lit (.int .u8 10), .lit (.int .u8 25), .lit (.int .u8 14), .lit (.int .u8 19), .lit (.int .u8 9), .lit (.int .u8 13), .lit (.int .u8 8), .lit (.int .u8 7), .lit (.int .u8 6)]

/-- 'fathomlinelaw8.InvAny': WHATEVER THE INPUT: true; the input reads as it did. -/
def invAnySpec : ChangeSpec := { name := "invAny", fn := fun _ => fun
  | [d1, d2] => { results := [.lit (.bool true)], args := [d1, d2] }
  | _ => none }
def invAnyRow : OpenClaim := { program := "ytofoadghajnglaagreatdoor", sum := "330cdeff3be089a9fdef88a246bbf1609751a52701219bbb2d2d92efdeb288c9", func := "fathomline/fathomlinelaw8.InvAny", spec := "invAny", inPlace := ["math/bits.Add64", "math/bits.Sub64"], unfollowed := true, recurses := true, named := ["math/bits.deBruijn64tab", "math/bits.divideError", "math/bits.overflowError"], apart := false, laid := [("math/bits.deBruijn64tab", laid_math_bits_deBruijn64tab)] }
def InvAnySaid : Prop := invAnyRow.holds Tryz.pinned (OpenSpec.ofChange invAnySpec)

/-- ITS FALSE NEIGHBOUR: 'it returns false'. Refute it at one input. -/
def invAnyWrong : ChangeSpec := { name := "invAny", fn := fun _ => fun
  | [d1, d2] => { results := [.lit (.bool false)], args := [d1, d2] }
  | _ => none }
def InvAnyWrongFalsely : Prop := invAnyRow.holds Tryz.pinned (OpenSpec.ofChange invAnyWrong)

/-- 'fathomlinelaw8.InvDrawn': WHATEVER THE INPUT: true; the input reads as it did. -/
def invDrawnSpec : ChangeSpec := { name := "invDrawn", fn := fun _ => fun
  | [d] => { results := [.lit (.bool true)], args := [d] }
  | _ => none }
def invDrawnRow : OpenClaim := { program := "ytofoadghajnglaagreatdoor", sum := "330cdeff3be089a9fdef88a246bbf1609751a52701219bbb2d2d92efdeb288c9", func := "fathomline/fathomlinelaw8.InvDrawn", spec := "invDrawn", inPlace := ["math/bits.Add64", "math/bits.Sub64"], unfollowed := true, recurses := true, named := ["math/bits.deBruijn64tab", "math/bits.divideError", "math/bits.overflowError"], apart := false, laid := [("math/bits.deBruijn64tab", laid_math_bits_deBruijn64tab)] }
def InvDrawnSaid : Prop := invDrawnRow.holds Tryz.pinned (OpenSpec.ofChange invDrawnSpec)

/-- ITS FALSE NEIGHBOUR: 'it returns false'. Refute it at one input. -/
def invDrawnWrong : ChangeSpec := { name := "invDrawn", fn := fun _ => fun
  | [d] => { results := [.lit (.bool false)], args := [d] }
  | _ => none }
def InvDrawnWrongFalsely : Prop := invDrawnRow.holds Tryz.pinned (OpenSpec.ofChange invDrawnWrong)

/-- 'fathomlinelaw8.InvHolds': WHATEVER THE INPUT: true; the input reads as it did. -/
def invHoldsSpec : ChangeSpec := { name := "invHolds", fn := fun _ => fun
  | [d] => { results := [.lit (.bool true)], args := [d] }
  | _ => none }
def invHoldsRow : OpenClaim := { program := "ytofoadghajnglaagreatdoor", sum := "330cdeff3be089a9fdef88a246bbf1609751a52701219bbb2d2d92efdeb288c9", func := "fathomline/fathomlinelaw8.InvHolds", spec := "invHolds", inPlace := ["math/bits.Add64", "math/bits.Sub64"], unfollowed := true, recurses := true, named := ["math/bits.deBruijn64tab", "math/bits.divideError", "math/bits.overflowError"], apart := false, laid := [("math/bits.deBruijn64tab", laid_math_bits_deBruijn64tab)] }
def InvHoldsSaid : Prop := invHoldsRow.holds Tryz.pinned (OpenSpec.ofChange invHoldsSpec)

/-- ITS FALSE NEIGHBOUR: 'it returns false'. Refute it at one input. -/
def invHoldsWrong : ChangeSpec := { name := "invHolds", fn := fun _ => fun
  | [d] => { results := [.lit (.bool false)], args := [d] }
  | _ => none }
def InvHoldsWrongFalsely : Prop := invHoldsRow.holds Tryz.pinned (OpenSpec.ofChange invHoldsWrong)

/-- 'fathomlinelaw8.InvTurns': WHATEVER THE INPUT: true; the input reads as it did. -/
def invTurnsSpec : ChangeSpec := { name := "invTurns", fn := fun _ => fun
  | [d] => { results := [.lit (.bool true)], args := [d] }
  | _ => none }
def invTurnsRow : OpenClaim := { program := "ytofoadghajnglaagreatdoor", sum := "330cdeff3be089a9fdef88a246bbf1609751a52701219bbb2d2d92efdeb288c9", func := "fathomline/fathomlinelaw8.InvTurns", spec := "invTurns", inPlace := ["math/bits.Add64", "math/bits.Sub64"], unfollowed := true, recurses := true, named := ["math/bits.deBruijn64tab", "math/bits.divideError", "math/bits.overflowError"], apart := false, laid := [("math/bits.deBruijn64tab", laid_math_bits_deBruijn64tab)] }
def InvTurnsSaid : Prop := invTurnsRow.holds Tryz.pinned (OpenSpec.ofChange invTurnsSpec)

/-- ITS FALSE NEIGHBOUR: 'it returns false'. Refute it at one input. -/
def invTurnsWrong : ChangeSpec := { name := "invTurns", fn := fun _ => fun
  | [d] => { results := [.lit (.bool false)], args := [d] }
  | _ => none }
def InvTurnsWrongFalsely : Prop := invTurnsRow.holds Tryz.pinned (OpenSpec.ofChange invTurnsWrong)

/-- 'fathomlinelaw8.InvOnes': WHATEVER THE INPUT: true; the input reads as it did. -/
def invOnesSpec : ChangeSpec := { name := "invOnes", fn := fun _ => fun
  | [d1, d2] => { results := [.lit (.bool true)], args := [d1, d2] }
  | _ => none }
def invOnesRow : OpenClaim := { program := "ytofoadghajnglaagreatdoor", sum := "330cdeff3be089a9fdef88a246bbf1609751a52701219bbb2d2d92efdeb288c9", func := "fathomline/fathomlinelaw8.InvOnes", spec := "invOnes", inPlace := ["math/bits.Add64", "math/bits.Sub64"], unfollowed := true, recurses := true, named := ["math/bits.deBruijn64tab", "math/bits.divideError", "math/bits.overflowError"], apart := false, laid := [("math/bits.deBruijn64tab", laid_math_bits_deBruijn64tab)] }
def InvOnesSaid : Prop := invOnesRow.holds Tryz.pinned (OpenSpec.ofChange invOnesSpec)

/-- ITS FALSE NEIGHBOUR: 'it returns false'. Refute it at one input. -/
def invOnesWrong : ChangeSpec := { name := "invOnes", fn := fun _ => fun
  | [d1, d2] => { results := [.lit (.bool false)], args := [d1, d2] }
  | _ => none }
def InvOnesWrongFalsely : Prop := invOnesRow.holds Tryz.pinned (OpenSpec.ofChange invOnesWrong)

/-- 'fathomlinelaw16.VaryAny': WHATEVER THE INPUT: true; the input reads as it did. -/
def varyAnySpec : ChangeSpec := { name := "varyAny", fn := fun _ => fun
  | [d1, d2, d3, d4, d5] => { results := [.lit (.bool true)], args := [d1, d2, d3, d4, d5] }
  | _ => none }
def varyAnyRow : OpenClaim := { program := "ytofoadghajnglaagreatdoor", sum := "330cdeff3be089a9fdef88a246bbf1609751a52701219bbb2d2d92efdeb288c9", func := "fathomline/fathomlinelaw16.VaryAny", spec := "varyAny", inPlace := ["math/bits.Add64", "math/bits.Sub64"], unfollowed := true, recurses := true, named := ["math/bits.deBruijn64tab", "math/bits.divideError", "math/bits.overflowError"], apart := false, laid := [("math/bits.deBruijn64tab", laid_math_bits_deBruijn64tab)] }
def VaryAnySaid : Prop := varyAnyRow.holds Tryz.pinned (OpenSpec.ofChange varyAnySpec)

/-- ITS FALSE NEIGHBOUR: 'it returns false'. Refute it at one input. -/
def varyAnyWrong : ChangeSpec := { name := "varyAny", fn := fun _ => fun
  | [d1, d2, d3, d4, d5] => { results := [.lit (.bool false)], args := [d1, d2, d3, d4, d5] }
  | _ => none }
def VaryAnyWrongFalsely : Prop := varyAnyRow.holds Tryz.pinned (OpenSpec.ofChange varyAnyWrong)

/-- 'fathomlinelaw16.VaryDrawn': WHATEVER THE INPUT: true; the input reads as it did. -/
def varyDrawnSpec : ChangeSpec := { name := "varyDrawn", fn := fun _ => fun
  | [d] => { results := [.lit (.bool true)], args := [d] }
  | _ => none }
def varyDrawnRow : OpenClaim := { program := "ytofoadghajnglaagreatdoor", sum := "330cdeff3be089a9fdef88a246bbf1609751a52701219bbb2d2d92efdeb288c9", func := "fathomline/fathomlinelaw16.VaryDrawn", spec := "varyDrawn", inPlace := ["math/bits.Add64", "math/bits.Sub64"], unfollowed := true, recurses := true, named := ["math/bits.deBruijn64tab", "math/bits.divideError", "math/bits.overflowError"], apart := false, laid := [("math/bits.deBruijn64tab", laid_math_bits_deBruijn64tab)] }
def VaryDrawnSaid : Prop := varyDrawnRow.holds Tryz.pinned (OpenSpec.ofChange varyDrawnSpec)

/-- ITS FALSE NEIGHBOUR: 'it returns false'. Refute it at one input. -/
def varyDrawnWrong : ChangeSpec := { name := "varyDrawn", fn := fun _ => fun
  | [d] => { results := [.lit (.bool false)], args := [d] }
  | _ => none }
def VaryDrawnWrongFalsely : Prop := varyDrawnRow.holds Tryz.pinned (OpenSpec.ofChange varyDrawnWrong)

/-- 'fathomlinelaw16.VarySums': WHATEVER THE INPUT: true; the input reads as it did. -/
def varySumsSpec : ChangeSpec := { name := "varySums", fn := fun _ => fun
  | [d1, d2, d3, d4] => { results := [.lit (.bool true)], args := [d1, d2, d3, d4] }
  | _ => none }
def varySumsRow : OpenClaim := { program := "ytofoadghajnglaagreatdoor", sum := "330cdeff3be089a9fdef88a246bbf1609751a52701219bbb2d2d92efdeb288c9", func := "fathomline/fathomlinelaw16.VarySums", spec := "varySums", inPlace := ["math/bits.Add64", "math/bits.Sub64"], unfollowed := true, recurses := true, named := ["math/bits.deBruijn64tab", "math/bits.divideError", "math/bits.overflowError"], apart := false, laid := [("math/bits.deBruijn64tab", laid_math_bits_deBruijn64tab)] }
def VarySumsSaid : Prop := varySumsRow.holds Tryz.pinned (OpenSpec.ofChange varySumsSpec)

/-- ITS FALSE NEIGHBOUR: 'it returns false'. Refute it at one input. -/
def varySumsWrong : ChangeSpec := { name := "varySums", fn := fun _ => fun
  | [d1, d2, d3, d4] => { results := [.lit (.bool false)], args := [d1, d2, d3, d4] }
  | _ => none }
def VarySumsWrongFalsely : Prop := varySumsRow.holds Tryz.pinned (OpenSpec.ofChange varySumsWrong)

/-- 'fathomlinelaw16.VaryHolds': WHATEVER THE INPUT: true; the input reads as it did. -/
def varyHoldsSpec : ChangeSpec := { name := "varyHolds", fn := fun _ => fun
  | [d] => { results := [.lit (.bool true)], args := [d] }
  | _ => none }
def varyHoldsRow : OpenClaim := { program := "ytofoadghajnglaagreatdoor", sum := "330cdeff3be089a9fdef88a246bbf1609751a52701219bbb2d2d92efdeb288c9", func := "fathomline/fathomlinelaw16.VaryHolds", spec := "varyHolds", inPlace := ["math/bits.Add64", "math/bits.Sub64"], unfollowed := true, recurses := true, named := ["math/bits.deBruijn64tab", "math/bits.divideError", "math/bits.overflowError"], apart := false, laid := [("math/bits.deBruijn64tab", laid_math_bits_deBruijn64tab)] }
def VaryHoldsSaid : Prop := varyHoldsRow.holds Tryz.pinned (OpenSpec.ofChange varyHoldsSpec)

/-- ITS FALSE NEIGHBOUR: 'it returns false'. Refute it at one input. -/
def varyHoldsWrong : ChangeSpec := { name := "varyHolds", fn := fun _ => fun
  | [d] => { results := [.lit (.bool false)], args := [d] }
  | _ => none }
def VaryHoldsWrongFalsely : Prop := varyHoldsRow.holds Tryz.pinned (OpenSpec.ofChange varyHoldsWrong)

/-- 'fathomlinelaw16.VarySlopes': WHATEVER THE INPUT: true; the input reads as it did. -/
def varySlopesSpec : ChangeSpec := { name := "varySlopes", fn := fun _ => fun
  | [d] => { results := [.lit (.bool true)], args := [d] }
  | _ => none }
def varySlopesRow : OpenClaim := { program := "ytofoadghajnglaagreatdoor", sum := "330cdeff3be089a9fdef88a246bbf1609751a52701219bbb2d2d92efdeb288c9", func := "fathomline/fathomlinelaw16.VarySlopes", spec := "varySlopes", inPlace := ["math/bits.Add64", "math/bits.Sub64"], unfollowed := true, recurses := true, named := ["math/bits.deBruijn64tab", "math/bits.divideError", "math/bits.overflowError"], apart := false, laid := [("math/bits.deBruijn64tab", laid_math_bits_deBruijn64tab)] }
def VarySlopesSaid : Prop := varySlopesRow.holds Tryz.pinned (OpenSpec.ofChange varySlopesSpec)

/-- ITS FALSE NEIGHBOUR: 'it returns false'. Refute it at one input. -/
def varySlopesWrong : ChangeSpec := { name := "varySlopes", fn := fun _ => fun
  | [d] => { results := [.lit (.bool false)], args := [d] }
  | _ => none }
def VarySlopesWrongFalsely : Prop := varySlopesRow.holds Tryz.pinned (OpenSpec.ofChange varySlopesWrong)

/- THE SECOND FORM. 'bulk': how many values and letters a reading holds, each counted each time it is reached (what is shared counts as often as it is met; a slice's spare places count too). A statement '..UptoSaid' is the law's where the arguments, and the package variables that the reading takes, are together of bulk at most 1048576: NARROWER than '..Said'. Prove '..Said' where nothing that the law and all that it calls make is longer than what came in: it says more and counts as full. Else prove '..UptoSaid'. A law counts once. -/
mutual
def uptoBulk {H : Type} : DataW H → Nat
  | .lit (.string bytes) => bytes.length + 1
  | .lit _ => 1
  | .nil => 1
  | .ptr d => uptoBulk d + 1
  | .slice elems spare => uptoBulkAll elems + uptoBulkAll spare + 1
  | .agg parts => uptoBulkAll parts + 1
  | .iface _ d => uptoBulk d + 1
  | .map entries => uptoBulkEntries entries + 1
  | .held _ => 1
def uptoBulkAll {H : Type} : List (DataW H) → Nat
  | [] => 0
  | d :: r => uptoBulk d + uptoBulkAll r
def uptoBulkEntries {H : Type} : List (Lit × DataW H) → Nat
  | [] => 0
  | x :: r => uptoBulkEntry x + uptoBulkEntries r
def uptoBulkEntry {H : Type} : Lit × DataW H → Nat
  | (.string bytes, d) => bytes.length + uptoBulk d + 1
  | (_, d) => uptoBulk d + 1
 end
def uptoSmall : (H : Type) → List (DataW H) → Bool := fun _ ds => decide (uptoBulkAll ds ≤ 1048576)
def OpenSpec.upto (s : _root_.Go.ChangeSpec) : _root_.Go.OpenSpec := { _root_.Go.OpenSpec.ofChange s with cond := some uptoSmall }

/-- 'fathomlinelaw8.InvAny', WHERE WHAT IT READS IS OF BULK AT MOST 1048576: true; the input reads as it did. -/
def invAnyUptoRow : OpenClaim := { program := "ytofoadghajnglaagreatdoor", sum := "330cdeff3be089a9fdef88a246bbf1609751a52701219bbb2d2d92efdeb288c9", func := "fathomline/fathomlinelaw8.InvAny", spec := "invAny", inPlace := ["math/bits.Add64", "math/bits.Sub64"], unfollowed := true, recurses := true, named := ["math/bits.deBruijn64tab", "math/bits.divideError", "math/bits.overflowError"], apart := false, laid := [("math/bits.deBruijn64tab", laid_math_bits_deBruijn64tab)], narrowed := true }
def InvAnyUptoSaid : Prop := invAnyUptoRow.holds Tryz.pinned (OpenSpec.upto invAnySpec)

/-- 'fathomlinelaw8.InvDrawn', WHERE WHAT IT READS IS OF BULK AT MOST 1048576: true; the input reads as it did. -/
def invDrawnUptoRow : OpenClaim := { program := "ytofoadghajnglaagreatdoor", sum := "330cdeff3be089a9fdef88a246bbf1609751a52701219bbb2d2d92efdeb288c9", func := "fathomline/fathomlinelaw8.InvDrawn", spec := "invDrawn", inPlace := ["math/bits.Add64", "math/bits.Sub64"], unfollowed := true, recurses := true, named := ["math/bits.deBruijn64tab", "math/bits.divideError", "math/bits.overflowError"], apart := false, laid := [("math/bits.deBruijn64tab", laid_math_bits_deBruijn64tab)], narrowed := true }
def InvDrawnUptoSaid : Prop := invDrawnUptoRow.holds Tryz.pinned (OpenSpec.upto invDrawnSpec)

/-- 'fathomlinelaw8.InvHolds', WHERE WHAT IT READS IS OF BULK AT MOST 1048576: true; the input reads as it did. -/
def invHoldsUptoRow : OpenClaim := { program := "ytofoadghajnglaagreatdoor", sum := "330cdeff3be089a9fdef88a246bbf1609751a52701219bbb2d2d92efdeb288c9", func := "fathomline/fathomlinelaw8.InvHolds", spec := "invHolds", inPlace := ["math/bits.Add64", "math/bits.Sub64"], unfollowed := true, recurses := true, named := ["math/bits.deBruijn64tab", "math/bits.divideError", "math/bits.overflowError"], apart := false, laid := [("math/bits.deBruijn64tab", laid_math_bits_deBruijn64tab)], narrowed := true }
def InvHoldsUptoSaid : Prop := invHoldsUptoRow.holds Tryz.pinned (OpenSpec.upto invHoldsSpec)

/-- 'fathomlinelaw8.InvTurns', WHERE WHAT IT READS IS OF BULK AT MOST 1048576: true; the input reads as it did. -/
def invTurnsUptoRow : OpenClaim := { program := "ytofoadghajnglaagreatdoor", sum := "330cdeff3be089a9fdef88a246bbf1609751a52701219bbb2d2d92efdeb288c9", func := "fathomline/fathomlinelaw8.InvTurns", spec := "invTurns", inPlace := ["math/bits.Add64", "math/bits.Sub64"], unfollowed := true, recurses := true, named := ["math/bits.deBruijn64tab", "math/bits.divideError", "math/bits.overflowError"], apart := false, laid := [("math/bits.deBruijn64tab", laid_math_bits_deBruijn64tab)], narrowed := true }
def InvTurnsUptoSaid : Prop := invTurnsUptoRow.holds Tryz.pinned (OpenSpec.upto invTurnsSpec)

/-- 'fathomlinelaw8.InvOnes', WHERE WHAT IT READS IS OF BULK AT MOST 1048576: true; the input reads as it did. -/
def invOnesUptoRow : OpenClaim := { program := "ytofoadghajnglaagreatdoor", sum := "330cdeff3be089a9fdef88a246bbf1609751a52701219bbb2d2d92efdeb288c9", func := "fathomline/fathomlinelaw8.InvOnes", spec := "invOnes", inPlace := ["math/bits.Add64", "math/bits.Sub64"], unfollowed := true, recurses := true, named := ["math/bits.deBruijn64tab", "math/bits.divideError", "math/bits.overflowError"], apart := false, laid := [("math/bits.deBruijn64tab", laid_math_bits_deBruijn64tab)], narrowed := true }
def InvOnesUptoSaid : Prop := invOnesUptoRow.holds Tryz.pinned (OpenSpec.upto invOnesSpec)

/-- 'fathomlinelaw16.VaryAny', WHERE WHAT IT READS IS OF BULK AT MOST 1048576: true; the input reads as it did. -/
def varyAnyUptoRow : OpenClaim := { program := "ytofoadghajnglaagreatdoor", sum := "330cdeff3be089a9fdef88a246bbf1609751a52701219bbb2d2d92efdeb288c9", func := "fathomline/fathomlinelaw16.VaryAny", spec := "varyAny", inPlace := ["math/bits.Add64", "math/bits.Sub64"], unfollowed := true, recurses := true, named := ["math/bits.deBruijn64tab", "math/bits.divideError", "math/bits.overflowError"], apart := false, laid := [("math/bits.deBruijn64tab", laid_math_bits_deBruijn64tab)], narrowed := true }
def VaryAnyUptoSaid : Prop := varyAnyUptoRow.holds Tryz.pinned (OpenSpec.upto varyAnySpec)

/-- 'fathomlinelaw16.VaryDrawn', WHERE WHAT IT READS IS OF BULK AT MOST 1048576: true; the input reads as it did. -/
def varyDrawnUptoRow : OpenClaim := { program := "ytofoadghajnglaagreatdoor", sum := "330cdeff3be089a9fdef88a246bbf1609751a52701219bbb2d2d92efdeb288c9", func := "fathomline/fathomlinelaw16.VaryDrawn", spec := "varyDrawn", inPlace := ["math/bits.Add64", "math/bits.Sub64"], unfollowed := true, recurses := true, named := ["math/bits.deBruijn64tab", "math/bits.divideError", "math/bits.overflowError"], apart := false, laid := [("math/bits.deBruijn64tab", laid_math_bits_deBruijn64tab)], narrowed := true }
def VaryDrawnUptoSaid : Prop := varyDrawnUptoRow.holds Tryz.pinned (OpenSpec.upto varyDrawnSpec)

/-- 'fathomlinelaw16.VarySums', WHERE WHAT IT READS IS OF BULK AT MOST 1048576: true; the input reads as it did. -/
def varySumsUptoRow : OpenClaim := { program := "ytofoadghajnglaagreatdoor", sum := "330cdeff3be089a9fdef88a246bbf1609751a52701219bbb2d2d92efdeb288c9", func := "fathomline/fathomlinelaw16.VarySums", spec := "varySums", inPlace := ["math/bits.Add64", "math/bits.Sub64"], unfollowed := true, recurses := true, named := ["math/bits.deBruijn64tab", "math/bits.divideError", "math/bits.overflowError"], apart := false, laid := [("math/bits.deBruijn64tab", laid_math_bits_deBruijn64tab)], narrowed := true }
def VarySumsUptoSaid : Prop := varySumsUptoRow.holds Tryz.pinned (OpenSpec.upto varySumsSpec)

/-- 'fathomlinelaw16.VaryHolds', WHERE WHAT IT READS IS OF BULK AT MOST 1048576: true; the input reads as it did. -/
def varyHoldsUptoRow : OpenClaim := { program := "ytofoadghajnglaagreatdoor", sum := "330cdeff3be089a9fdef88a246bbf1609751a52701219bbb2d2d92efdeb288c9", func := "fathomline/fathomlinelaw16.VaryHolds", spec := "varyHolds", inPlace := ["math/bits.Add64", "math/bits.Sub64"], unfollowed := true, recurses := true, named := ["math/bits.deBruijn64tab", "math/bits.divideError", "math/bits.overflowError"], apart := false, laid := [("math/bits.deBruijn64tab", laid_math_bits_deBruijn64tab)], narrowed := true }
def VaryHoldsUptoSaid : Prop := varyHoldsUptoRow.holds Tryz.pinned (OpenSpec.upto varyHoldsSpec)

/-- 'fathomlinelaw16.VarySlopes', WHERE WHAT IT READS IS OF BULK AT MOST 1048576: true; the input reads as it did. -/
def varySlopesUptoRow : OpenClaim := { program := "ytofoadghajnglaagreatdoor", sum := "330cdeff3be089a9fdef88a246bbf1609751a52701219bbb2d2d92efdeb288c9", func := "fathomline/fathomlinelaw16.VarySlopes", spec := "varySlopes", inPlace := ["math/bits.Add64", "math/bits.Sub64"], unfollowed := true, recurses := true, named := ["math/bits.deBruijn64tab", "math/bits.divideError", "math/bits.overflowError"], apart := false, laid := [("math/bits.deBruijn64tab", laid_math_bits_deBruijn64tab)], narrowed := true }
def VarySlopesUptoSaid : Prop := varySlopesUptoRow.holds Tryz.pinned (OpenSpec.upto varySlopesSpec)

end Rows
end Go.Proofs.YtofoadghajnglaaGreatDoor
