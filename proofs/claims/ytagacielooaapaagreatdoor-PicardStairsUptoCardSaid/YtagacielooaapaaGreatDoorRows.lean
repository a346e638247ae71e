/-
  NARROWER THAN 'FOR EVERY INPUT', by the rows' own cells (each row's printed sentence says how): PicardStairs: laid · FlowAny: laid · FlowDrawn: laid · FlowHolds: laid · FlowStairs: laid · FlowLess: laid · VaryAny: laid · VaryDrawn: laid · VarySums: laid · VaryHolds: laid · VarySlopes: laid.
  DERIVED. THE GIVEN ROWS OF THIS SEAT. 11 by the template 'for every input the law returns true; each argument reads behind the call as it read before'; 0 by the template 'total and deterministic' (their statements: YtagacielooaapaaGreatDoorTotals.lean).
  GIVEN WITH THE SEED: the statements are not yours to turn. If you find one false, say at which input.
  Laid BY PROGRAM, IN A SANDBOX (cutbox-rows.mjs): the forced cells as the released guide's own fill.sh prints them over the translation 8a23b19cab2dfc95… (all of the seat's roots in one cut). By AI agents, Wed Nov 11 2026. No macro, syntax, notation, axiom, sorry.
-/
import Derived.Test.YtagacielooaapaaGreatDoorChecked
import GoSem.Claim
import GoSem.ClaimJoined
import GoSem.ClaimMapViews
import Derived.JoinedTies
import Derived.KernelRfl
namespace Go.Proofs.YtagacielooaapaaGreatDoor
/- THE CELL 'sum', in the pinned program and in every row, IS THE sha256 OF THE DUMP (.gsa) THAT YtagacielooaapaaGreatDoorProg.lean LOADS. Nothing in Lean hashes anything: it is a label: what it is worth is what the hold of that sum in a sandbox is worth. -/
noncomputable def Tryz.pinned : Pinned := { name := "ytagacielooaapaagreatdoor", sum := "8a23b19cab2dfc95ef08b11662f588a5a341ffed3a7e4e016b427ff3039607d3", checked := Tryz.checked }
namespace Rows
def none {H : Type} : Left H := { results := [], args := [] }

/- WHAT THE LISTED PACKAGE-LEVEL VARIABLES READ AS WHEN THE CALL BEGINS. Each datum BY PROGRAM (the guide's laid-datum.mjs) off the statement by which the dump's own 'gosem.cut.vars' lays the variable. In a bare row this is a premise. The card (YtagacielooaapaaGreatDoorCards.lean) ties it to the program's text. -/
def laid_math_bits_deBruijn64tab {H : Type} : DataW H := .agg [.lit (.int .u8 0), .lit (.int .u8 1), .lit (.int .u8 56), .lit (.int .u8 2), .lit (.int .u8 57), .lit (.int .u8 49), .lit (.int .u8 28), .lit (.int .u8 3), .lit (.int .u8 61), .lit (.int .u8 58), .lit (.int .u8 42), .lit (.int .u8 50), .lit (.int .u8 38), .lit (.int .u8 29), .lit (.int .u8 17), .lit (.int .u8 4), .lit (.int .u8 62), .lit (.int .u8 47), .lit (.int .u8 59), .lit (.int .u8 36), .lit (.int .u8 45), .lit (.int .u8 43), .lit (.int .u8 51), .lit (.int .u8 22), .lit (.int .u8 53), .lit (.int .u8 39), .lit (.int .u8 33), .lit (.int .u8 30), .lit (.int .u8 24), .lit (.int .u8 18), .lit (.int .u8 12), .lit (.int .u8 5), .lit (.int .u8 63), .lit (.int .u8 55), .lit (.int .u8 48), .lit (.int .u8 27), .lit (.int .u8 60), .lit (.int .u8 41), .lit (.int .u8 37), .lit (.int .u8 16), .lit (.int .u8 46), .lit (.int .u8 35), .lit (.int .u8 44), .lit (.int .u8 21), .lit (.int .u8 52), .lit (.int .u8 32), .lit (.int .u8 23), .lit (.int .u8 11), .lit (.int .u8 54), .lit (.int .u8 26), .lit (.int .u8 40), .lit (.int .u8 15), .lit (.int .u8 34), .lit (.int .u8 20), .lit (.int .u8 31), .lit (.int .u8 10), .lit (.int .u8 25), .lit (.int .u8 14), .lit (.int .u8 19), .lit (.int .u8 9), .lit (.int .u8 13), .lit (.int .u8 8), .lit (.int .u8 7), .lit (.int .u8 6)]

/-- 'fathomlinelaw17.PicardStairs': WHATEVER THE INPUT: true; the input reads as it did. -/
def picardStairsSpec : ChangeSpec := { name := "picardStairs", fn := fun _ => fun
  | [d] => { results := [.lit (.bool true)], args := [d] }
  | _ => none }
def picardStairsRow : OpenClaim := { program := "ytagacielooaapaagreatdoor", sum := "8a23b19cab2dfc95ef08b11662f588a5a341ffed3a7e4e016b427ff3039607d3", func := "fathomline/fathomlinelaw17.PicardStairs", spec := "picardStairs", inPlace := ["math/bits.Add64", "math/bits.Sub64"], unfollowed := true, recurses := true, named := ["math/bits.deBruijn64tab"], apart := false, laid := [("math/bits.deBruijn64tab", laid_math_bits_deBruijn64tab)] }
def PicardStairsSaid : Prop := picardStairsRow.holds Tryz.pinned (OpenSpec.ofChange picardStairsSpec)

/-- ITS FALSE NEIGHBOUR: 'it returns false'. Refute it at one input. -/
def picardStairsWrong : ChangeSpec := { name := "picardStairs", fn := fun _ => fun
  | [d] => { results := [.lit (.bool false)], args := [d] }
  | _ => none }
def PicardStairsWrongFalsely : Prop := picardStairsRow.holds Tryz.pinned (OpenSpec.ofChange picardStairsWrong)

/-- 'fathomlinelaw15.FlowAny': WHATEVER THE INPUT: true; the input reads as it did. -/
def flowAnySpec : ChangeSpec := { name := "flowAny", fn := fun _ => fun
  | [d1, d2, d3, d4, d5] => { results := [.lit (.bool true)], args := [d1, d2, d3, d4, d5] }
  | _ => none }
def flowAnyRow : OpenClaim := { program := "ytagacielooaapaagreatdoor", sum := "8a23b19cab2dfc95ef08b11662f588a5a341ffed3a7e4e016b427ff3039607d3", func := "fathomline/fathomlinelaw15.FlowAny", spec := "flowAny", inPlace := ["math/bits.Add64", "math/bits.Sub64"], unfollowed := true, recurses := true, named := ["math/bits.deBruijn64tab", "math/bits.divideError", "math/bits.overflowError"], apart := false, laid := [("math/bits.deBruijn64tab", laid_math_bits_deBruijn64tab)] }
def FlowAnySaid : Prop := flowAnyRow.holds Tryz.pinned (OpenSpec.ofChange flowAnySpec)

/-- ITS FALSE NEIGHBOUR: 'it returns false'. Refute it at one input. -/
def flowAnyWrong : ChangeSpec := { name := "flowAny", fn := fun _ => fun
  | [d1, d2, d3, d4, d5] => { results := [.lit (.bool false)], args := [d1, d2, d3, d4, d5] }
  | _ => none }
def FlowAnyWrongFalsely : Prop := flowAnyRow.holds Tryz.pinned (OpenSpec.ofChange flowAnyWrong)

/-- 'fathomlinelaw15.FlowDrawn': WHATEVER THE INPUT: true; the input reads as it did. -/
def flowDrawnSpec : ChangeSpec := { name := "flowDrawn", fn := fun _ => fun
  | [d] => { results := [.lit (.bool true)], args := [d] }
  | _ => none }
def flowDrawnRow : OpenClaim := { program := "ytagacielooaapaagreatdoor", sum := "8a23b19cab2dfc95ef08b11662f588a5a341ffed3a7e4e016b427ff3039607d3", func := "fathomline/fathomlinelaw15.FlowDrawn", spec := "flowDrawn", inPlace := ["math/bits.Add64", "math/bits.Sub64"], unfollowed := true, recurses := true, named := ["math/bits.deBruijn64tab", "math/bits.divideError", "math/bits.overflowError"], apart := false, laid := [("math/bits.deBruijn64tab", laid_math_bits_deBruijn64tab)] }
def FlowDrawnSaid : Prop := flowDrawnRow.holds Tryz.pinned (OpenSpec.ofChange flowDrawnSpec)

/-- ITS FALSE NEIGHBOUR: 'it returns false'. Refute it at one input. -/
def flowDrawnWrong : ChangeSpec := { name := "flowDrawn", fn := fun _ => fun
  | [d] => { results := [.lit (.bool false)], args := [d] }
  | _ => none }
def FlowDrawnWrongFalsely : Prop := flowDrawnRow.holds Tryz.pinned (OpenSpec.ofChange flowDrawnWrong)

/-- 'fathomlinelaw15.FlowHolds': WHATEVER THE INPUT: true; the input reads as it did. -/
def flowHoldsSpec : ChangeSpec := { name := "flowHolds", fn := fun _ => fun
  | [d] => { results := [.lit (.bool true)], args := [d] }
  | _ => none }
def flowHoldsRow : OpenClaim := { program := "ytagacielooaapaagreatdoor", sum := "8a23b19cab2dfc95ef08b11662f588a5a341ffed3a7e4e016b427ff3039607d3", func := "fathomline/fathomlinelaw15.FlowHolds", spec := "flowHolds", inPlace := ["math/bits.Add64", "math/bits.Sub64"], unfollowed := true, recurses := true, named := ["math/bits.deBruijn64tab", "math/bits.divideError", "math/bits.overflowError"], apart := false, laid := [("math/bits.deBruijn64tab", laid_math_bits_deBruijn64tab)] }
def FlowHoldsSaid : Prop := flowHoldsRow.holds Tryz.pinned (OpenSpec.ofChange flowHoldsSpec)

/-- ITS FALSE NEIGHBOUR: 'it returns false'. Refute it at one input. -/
def flowHoldsWrong : ChangeSpec := { name := "flowHolds", fn := fun _ => fun
  | [d] => { results := [.lit (.bool false)], args := [d] }
  | _ => none }
def FlowHoldsWrongFalsely : Prop := flowHoldsRow.holds Tryz.pinned (OpenSpec.ofChange flowHoldsWrong)

/-- 'fathomlinelaw15.FlowStairs': WHATEVER THE INPUT: true; the input reads as it did. -/
def flowStairsSpec : ChangeSpec := { name := "flowStairs", fn := fun _ => fun
  | [d] => { results := [.lit (.bool true)], args := [d] }
  | _ => none }
def flowStairsRow : OpenClaim := { program := "ytagacielooaapaagreatdoor", sum := "8a23b19cab2dfc95ef08b11662f588a5a341ffed3a7e4e016b427ff3039607d3", func := "fathomline/fathomlinelaw15.FlowStairs", spec := "flowStairs", inPlace := ["math/bits.Add64", "math/bits.Sub64"], unfollowed := true, recurses := true, named := ["math/bits.deBruijn64tab", "math/bits.divideError", "math/bits.overflowError"], apart := false, laid := [("math/bits.deBruijn64tab", laid_math_bits_deBruijn64tab)] }
def FlowStairsSaid : Prop := flowStairsRow.holds Tryz.pinned (OpenSpec.ofChange flowStairsSpec)

/-- ITS FALSE NEIGHBOUR: 'it returns false'. Refute it at one input. -/
def flowStairsWrong : ChangeSpec := { name := "flowStairs", fn := fun _ => fun
  | [d] => { results := [.lit (.bool false)], args := [d] }
  | _ => none }
def FlowStairsWrongFalsely : Prop := flowStairsRow.holds Tryz.pinned (OpenSpec.ofChange flowStairsWrong)

/-- 'fathomlinelaw15.FlowLess': WHATEVER THE INPUT: true; the input reads as it did. -/
def flowLessSpec : ChangeSpec := { name := "flowLess", fn := fun _ => fun
  | [d] => { results := [.lit (.bool true)], args := [d] }
  | _ => none }
def flowLessRow : OpenClaim := { program := "ytagacielooaapaagreatdoor", sum := "8a23b19cab2dfc95ef08b11662f588a5a341ffed3a7e4e016b427ff3039607d3", func := "fathomline/fathomlinelaw15.FlowLess", spec := "flowLess", inPlace := ["math/bits.Add64", "math/bits.Sub64"], unfollowed := true, recurses := true, named := ["math/bits.deBruijn64tab", "math/bits.divideError", "math/bits.overflowError"], apart := false, laid := [("math/bits.deBruijn64tab", laid_math_bits_deBruijn64tab)] }
def FlowLessSaid : Prop := flowLessRow.holds Tryz.pinned (OpenSpec.ofChange flowLessSpec)

/-- ITS FALSE NEIGHBOUR: 'it returns false'. Refute it at one input. -/
def flowLessWrong : ChangeSpec := { name := "flowLess", fn := fun _ => fun
  | [d] => { results := [.lit (.bool false)], args := [d] }
  | _ => none }
def FlowLessWrongFalsely : Prop := flowLessRow.holds Tryz.pinned (OpenSpec.ofChange flowLessWrong)

/-- 'fathomlinelaw16.VaryAny': WHATEVER THE INPUT: true; the input reads as it did. -/
def varyAnySpec : ChangeSpec := { name := "varyAny", fn := fun _ => fun
  | [d1, d2, d3, d4, d5] => { results := [.lit (.bool true)], args := [d1, d2, d3, d4, d5] }
  | _ => none }
def varyAnyRow : OpenClaim := { program := "ytagacielooaapaagreatdoor", sum := "8a23b19cab2dfc95ef08b11662f588a5a341ffed3a7e4e016b427ff3039607d3", func := "fathomline/fathomlinelaw16.VaryAny", spec := "varyAny", inPlace := ["math/bits.Add64", "math/bits.Sub64"], unfollowed := true, recurses := true, named := ["math/bits.deBruijn64tab", "math/bits.divideError", "math/bits.overflowError"], apart := false, laid := [("math/bits.deBruijn64tab", laid_math_bits_deBruijn64tab)] }
def VaryAnySaid : Prop := varyAnyRow.holds Tryz.pinned (OpenSpec.ofChange varyAnySpec)

/-- ITS FALSE NEIGHBOUR: 'it returns false'. Refute it at one input. -/
def varyAnyWrong : ChangeSpec := { name := "varyAny", fn := fun _ => fun
  | [d1, d2, d3, d4, d5] => { results := [.lit (.bool false)], args := [d1, d2, d3, d4, d5] }
  | _ => none }
def VaryAnyWrongFalsely : Prop := varyAnyRow.holds Tryz.pinned (OpenSpec.ofChange varyAnyWrong)

/-- 'fathomlinelaw16.VaryDrawn': WHATEVER THE INPUT: true; the input reads as it did. -/
def varyDrawnSpec : ChangeSpec := { name := "varyDrawn", fn := fun _ => fun
  | [d] => { results := [.lit (.bool true)], args := [d] }
  | _ => none }
def varyDrawnRow : OpenClaim := { program := "ytagacielooaapaagreatdoor", sum := "8a23b19cab2dfc95ef08b11662f588a5a341ffed3a7e4e016b427ff3039607d3", func := "fathomline/fathomlinelaw16.VaryDrawn", spec := "varyDrawn", inPlace := ["math/bits.Add64", "math/bits.Sub64"], unfollowed := true, recurses := true, named := ["math/bits.deBruijn64tab", "math/bits.divideError", "math/bits.overflowError"], apart := false, laid := [("math/bits.deBruijn64tab", laid_math_bits_deBruijn64tab)] }
def VaryDrawnSaid : Prop := varyDrawnRow.holds Tryz.pinned (OpenSpec.ofChange varyDrawnSpec)

/-- ITS FALSE NEIGHBOUR: 'it returns false'. Refute it at one input. -/
def varyDrawnWrong : ChangeSpec := { name := "varyDrawn", fn := fun _ => fun
  | [d] => { results := [.lit (.bool false)], args := [d] }
  | _ => none }
def VaryDrawnWrongFalsely : Prop := varyDrawnRow.holds Tryz.pinned (OpenSpec.ofChange varyDrawnWrong)

/-- 'fathomlinelaw16.VarySums': WHATEVER THE INPUT: true; the input reads as it did. -/
def varySumsSpec : ChangeSpec := { name := "varySums", fn := fun _ => fun
  | [d1, d2, d3, d4] => { results := [.lit (.bool true)], args := [d1, d2, d3, d4] }
  | _ => none }
def varySumsRow : OpenClaim := { program := "ytagacielooaapaagreatdoor", sum := "8a23b19cab2dfc95ef08b11662f588a5a341ffed3a7e4e016b427ff3039607d3", func := "fathomline/fathomlinelaw16.VarySums", spec := "varySums", inPlace := ["math/bits.Add64", "math/bits.Sub64"], unfollowed := true, recurses := true, named := ["math/bits.deBruijn64tab", "math/bits.divideError", "math/bits.overflowError"], apart := false, laid := [("math/bits.deBruijn64tab", laid_math_bits_deBruijn64tab)] }
def VarySumsSaid : Prop := varySumsRow.holds Tryz.pinned (OpenSpec.ofChange varySumsSpec)

/-- ITS FALSE NEIGHBOUR: 'it returns false'. Refute it at one input. -/
def varySumsWrong : ChangeSpec := { name := "varySums", fn := fun _ => fun
  | [d1, d2, d3, d4] => { results := [.lit (.bool false)], args := [d1, d2, d3, d4] }
  | _ => none }
def VarySumsWrongFalsely : Prop := varySumsRow.holds Tryz.pinned (OpenSpec.ofChange varySumsWrong)

/-- 'fathomlinelaw16.VaryHolds': WHATEVER THE INPUT: true; the input reads as it did. -/
def varyHoldsSpec : ChangeSpec := { name := "varyHolds", fn := fun _ => fun
  | [d] => { results := [.lit (.bool true)], args := [d] }
  | _ => none }
def varyHoldsRow : OpenClaim := { program := "ytagacielooaapaagreatdoor", sum := "8a23b19cab2dfc95ef08b11662f588a5a341ffed3a7e4e016b427ff3039607d3", func := "fathomline/fathomlinelaw16.VaryHolds", spec := "varyHolds", inPlace := ["math/bits.Add64", "math/bits.Sub64"], unfollowed := true, recurses := true, named := ["math/bits.deBruijn64tab", "math/bits.divideError", "math/bits.overflowError"], apart := false, laid := [("math/bits.deBruijn64tab", laid_math_bits_deBruijn64tab)] }
def VaryHoldsSaid : Prop := varyHoldsRow.holds Tryz.pinned (OpenSpec.ofChange varyHoldsSpec)

/-- ITS FALSE NEIGHBOUR: 'it returns false'. Refute it at one input. -/
def varyHoldsWrong : ChangeSpec := { name := "varyHolds", fn := fun _ => fun
  | [d] => { results := [.lit (.bool false)], args := [d] }
  | _ => none }
def VaryHoldsWrongFalsely : Prop := varyHoldsRow.holds Tryz.pinned (OpenSpec.ofChange varyHoldsWrong)

/-- 'fathomlinelaw16.VarySlopes': WHATEVER THE INPUT: true; the input reads as it did. -/
def varySlopesSpec : ChangeSpec := { name := "varySlopes", fn := fun _ => fun
  | [d] => { results := [.lit (.bool true)], args := [d] }
  | _ => none }
def varySlopesRow : OpenClaim := { program := "ytagacielooaapaagreatdoor", sum := "8a23b19cab2dfc95ef08b11662f588a5a341ffed3a7e4e016b427ff3039607d3", func := "fathomline/fathomlinelaw16.VarySlopes", spec := "varySlopes", inPlace := ["math/bits.Add64", "math/bits.Sub64"], unfollowed := true, recurses := true, named := ["math/bits.deBruijn64tab", "math/bits.divideError", "math/bits.overflowError"], apart := false, laid := [("math/bits.deBruijn64tab", laid_math_bits_deBruijn64tab)] }
def VarySlopesSaid : Prop := varySlopesRow.holds Tryz.pinned (OpenSpec.ofChange varySlopesSpec)

/-- ITS FALSE NEIGHBOUR: 'it returns false'. Refute it at one input. -/
def varySlopesWrong : ChangeSpec := { name := "varySlopes", fn := fun _ => fun
  | [d] => { results := [.lit (.bool false)], args := [d] }
  | _ => none }
def VarySlopesWrongFalsely : Prop := varySlopesRow.holds Tryz.pinned (OpenSpec.ofChange varySlopesWrong)

/- THE SECOND FORM. 'bulk': how many values and letters a reading holds, each counted each time it is reached (what is shared counts as often as it is met; a slice's spare places count too). A statement '..UptoSaid' is the law's where the arguments, and the package variables that the reading takes, are together of bulk at most 1048576: NARROWER than '..Said'. Prove '..Said' where nothing that the law and all that it calls make is longer than what came in: it says more and counts as full. Else prove '..UptoSaid'. A law counts once. -/
mutual
def uptoBulk {H : Type} : DataW H → Nat
  | .lit (.string bytes) => bytes.length + 1
  | .lit _ => 1
  | .nil => 1
  | .ptr d => uptoBulk d + 1
  | .slice elems spare => uptoBulkAll elems + uptoBulkAll spare + 1
  | .agg parts => uptoBulkAll parts + 1
  | .iface _ d => uptoBulk d + 1
  | .map entries => uptoBulkEntries entries + 1
  | .held _ => 1
def uptoBulkAll {H : Type} : List (DataW H) → Nat
  | [] => 0
  | d :: r => uptoBulk d + uptoBulkAll r
def uptoBulkEntries {H : Type} : List (Lit × DataW H) → Nat
  | [] => 0
  | x :: r => uptoBulkEntry x + uptoBulkEntries r
def uptoBulkEntry {H : Type} : Lit × DataW H → Nat
  | (.string bytes, d) => bytes.length + uptoBulk d + 1
  | (_, d) => uptoBulk d + 1
 end
def uptoSmall : (H : Type) → List (DataW H) → Bool := fun _ ds => decide (uptoBulkAll ds ≤ 1048576)
def OpenSpec.upto (s : _root_.Go.ChangeSpec) : _root_.Go.OpenSpec := { _root_.Go.OpenSpec.ofChange s with cond := some uptoSmall }

/-- 'fathomlinelaw17.PicardStairs', WHERE WHAT IT READS IS OF BULK AT MOST 1048576: true; the input reads as it did. -/
def picardStairsUptoRow : OpenClaim := { program := "ytagacielooaapaagreatdoor", sum := "8a23b19cab2dfc95ef08b11662f588a5a341ffed3a7e4e016b427ff3039607d3", func := "fathomline/fathomlinelaw17.PicardStairs", spec := "picardStairs", inPlace := ["math/bits.Add64", "math/bits.Sub64"], unfollowed := true, recurses := true, named := ["math/bits.deBruijn64tab"], apart := false, laid := [("math/bits.deBruijn64tab", laid_math_bits_deBruijn64tab)], narrowed := true }
def PicardStairsUptoSaid : Prop := picardStairsUptoRow.holds Tryz.pinned (OpenSpec.upto picardStairsSpec)

/-- 'fathomlinelaw15.FlowAny', WHERE WHAT IT READS IS OF BULK AT MOST 1048576: true; the input reads as it did. -/
def flowAnyUptoRow : OpenClaim := { program := "ytagacielooaapaagreatdoor", sum := "8a23b19cab2dfc95ef08b11662f588a5a341ffed3a7e4e016b427ff3039607d3", func := "fathomline/fathomlinelaw15.FlowAny", spec := "flowAny", inPlace := ["math/bits.Add64", "math/bits.Sub64"], unfollowed := true, recurses := true, named := ["math/bits.deBruijn64tab", "math/bits.divideError", "math/bits.overflowError"], apart := false, laid := [("math/bits.deBruijn64tab", laid_math_bits_deBruijn64tab)], narrowed := true }
def FlowAnyUptoSaid : Prop := flowAnyUptoRow.holds Tryz.pinned (OpenSpec.upto flowAnySpec)

/-- 'fathomlinelaw15.FlowDrawn', WHERE WHAT IT READS IS OF BULK AT MOST 1048576: true; the input reads as it did. -/
def flowDrawnUptoRow : OpenClaim := { program := "ytagacielooaapaagreatdoor", sum := "8a23b19cab2dfc95ef08b11662f588a5a341ffed3a7e4e016b427ff3039607d3", func := "fathomline/fathomlinelaw15.FlowDrawn", spec := "flowDrawn", inPlace := ["math/bits.Add64", "math/bits.Sub64"], unfollowed := true, recurses := true, named := ["math/bits.deBruijn64tab", "math/bits.divideError", "math/bits.overflowError"], apart := false, laid := [("math/bits.deBruijn64tab", laid_math_bits_deBruijn64tab)], narrowed := true }
def FlowDrawnUptoSaid : Prop := flowDrawnUptoRow.holds Tryz.pinned (OpenSpec.upto flowDrawnSpec)

/-- 'fathomlinelaw15.FlowHolds', WHERE WHAT IT READS IS OF BULK AT MOST 1048576: true; the input reads as it did. -/
def flowHoldsUptoRow : OpenClaim := { program := "ytagacielooaapaagreatdoor", sum := "8a23b19cab2dfc95ef08b11662f588a5a341ffed3a7e4e016b427ff3039607d3", func := "fathomline/fathomlinelaw15.FlowHolds", spec := "flowHolds", inPlace := ["math/bits.Add64", "math/bits.Sub64"], unfollowed := true, recurses := true, named := ["math/bits.deBruijn64tab", "math/bits.divideError", "math/bits.overflowError"], apart := false, laid := [("math/bits.deBruijn64tab", laid_math_bits_deBruijn64tab)], narrowed := true }
def FlowHoldsUptoSaid : Prop := flowHoldsUptoRow.holds Tryz.pinned (OpenSpec.upto flowHoldsSpec)

/-- 'fathomlinelaw15.FlowStairs', WHERE WHAT IT READS IS OF BULK AT MOST 1048576: true; the input reads as it did. -/
def flowStairsUptoRow : OpenClaim := { program := "ytagacielooaapaagreatdoor", sum := "8a23b19cab2dfc95ef08b11662f588a5a341ffed3a7e4e016b427ff3039607d3", func := "fathomline/fathomlinelaw15.FlowStairs", spec := "flowStairs", inPlace := ["math/bits.Add64", "math/bits.Sub64"], unfollowed := true, recurses := true, named := ["math/bits.deBruijn64tab", "math/bits.divideError", "math/bits.overflowError"], apart := false, laid := [("math/bits.deBruijn64tab", laid_math_bits_deBruijn64tab)], narrowed := true }
def FlowStairsUptoSaid : Prop := flowStairsUptoRow.holds Tryz.pinned (OpenSpec.upto flowStairsSpec)

/-- 'fathomlinelaw15.FlowLess', WHERE WHAT IT READS IS OF BULK AT MOST 1048576: true; the input reads as it did. -/
def flowLessUptoRow : OpenClaim := { program := "ytagacielooaapaagreatdoor", sum := "8a23b19cab2dfc95ef08b11662f588a5a341ffed3a7e4e016b427ff3039607d3", func := "fathomline/fathomlinelaw15.FlowLess", spec := "flowLess", inPlace := ["math/bits.Add64", "math/bits.Sub64"], unfollowed := true, recurses := true, named := ["math/bits.deBruijn64tab", "math/bits.divideError", "math/bits.overflowError"], apart := false, laid := [("math/bits.deBruijn64tab", laid_math_bits_deBruijn64tab)], narrowed := true }
def FlowLessUptoSaid : Prop := flowLessUptoRow.holds Tryz.pinned (OpenSpec.upto flowLessSpec)

/-- 'fathomlinelaw16.VaryAny', WHERE WHAT IT READS IS OF BULK AT MOST 1048576: true; the input reads as it did. -/
def varyAnyUptoRow : OpenClaim := { program := "ytagacielooaapaagreatdoor", sum := "8a23b19cab2dfc95ef08b11662f588a5a341ffed3a7e4e016b427ff3039607d3", func := "fathomline/fathomlinelaw16.VaryAny", spec := "varyAny", inPlace := ["math/bits.Add64", "math/bits.Sub64"], unfollowed := true, recurses := true, named := ["math/bits.deBruijn64tab", "math/bits.divideError", "math/bits.overflowError"], apart := false, laid := [("math/bits.deBruijn64tab", laid_math_bits_deBruijn64tab)], narrowed := true }
def VaryAnyUptoSaid : Prop := varyAnyUptoRow.holds Tryz.pinned (OpenSpec.upto varyAnySpec)

/-- 'fathomlinelaw16.VaryDrawn', WHERE WHAT IT READS IS OF BULK AT MOST 1048576: true; the input reads as it did. -/
def varyDrawnUptoRow : OpenClaim := { program := "ytagacielooaapaagreatdoor", sum := "8a23b19cab2dfc95ef08b11662f588a5a341ffed3a7e4e016b427ff3039607d3", func := "fathomline/fathomlinelaw16.VaryDrawn", spec := "varyDrawn", inPlace := ["math/bits.Add64", "math/bits.Sub64"], unfollowed := true, recurses := true, named := ["math/bits.deBruijn64tab", "math/bits.divideError", "math/bits.overflowError"], apart := false, laid := [("math/bits.deBruijn64tab", laid_math_bits_deBruijn64tab)], narrowed := true }
def VaryDrawnUptoSaid : Prop := varyDrawnUptoRow.holds Tryz.pinned (OpenSpec.upto varyDrawnSpec)

/-- 'fathomlinelaw16.VarySums', WHERE WHAT IT READS IS OF BULK AT MOST 1048576: true; the input reads as it did. -/
def varySumsUptoRow : OpenClaim := { program := "ytagacielooaapaagreatdoor", sum := "8a23b19cab2dfc95ef08b11662f588a5a341ffed3a7e4e016b427ff3039607d3", func := "fathomline/fathomlinelaw16.VarySums", spec := "varySums", inPlace := ["math/bits.Add64", "math/bits.Sub64"], unfollowed := true, recurses := true, named := ["math/bits.deBruijn64tab", "math/bits.divideError", "math/bits.overflowError"], apart := false, laid := [("math/bits.deBruijn64tab", laid_math_bits_deBruijn64tab)], narrowed := true }
def VarySumsUptoSaid : Prop := varySumsUptoRow.holds Tryz.pinned (OpenSpec.upto varySumsSpec)

/-- 'fathomlinelaw16.VaryHolds', WHERE WHAT IT READS IS OF BULK AT MOST 1048576: true; the input reads as it did. -/
def varyHoldsUptoRow : OpenClaim := { program := "ytagacielooaapaagreatdoor", sum := "8a23b19cab2dfc95ef08b11662f588a5a341ffed3a7e4e016b427ff3039607d3", func := "fathomline/fathomlinelaw16.VaryHolds", spec := "varyHolds", inPlace := ["math/bits.Add64", "math/bits.Sub64"], unfollowed := true, recurses := true, named := ["math/bits.deBruijn64tab", "math/bits.divideError", "math/bits.overflowError"], apart := false, laid := [("math/bits.deBruijn64tab", laid_math_bits_deBruijn64tab)], narrowed := true }
def VaryHoldsUptoSaid : Prop := varyHoldsUptoRow.holds Tryz.pinned (OpenSpec.upto varyHoldsSpec)

/-- 'fathomlinelaw16.VarySlopes', WHERE WHAT IT READS IS OF BULK AT MOST 1048576: true; the input reads as it did. -/
def varySlopesUptoRow : OpenClaim := { program := "ytagacielooaapaagreatdoor", sum := "8a23b19cab2dfc95ef08b11662f588a5a341ffed3a7e4e016b427ff3039607d3", func := "fathomline/fathomlinelaw16.VarySlopes", spec := "varySlopes", inPlace := ["math/bits.Add64", "math/bits.Sub64"], unfollowed := true, recurses := true, named := ["math/bits.deBruijn64tab", "math/bits.divideError", "math/bits.overflowError"], apart := false, laid := [("math/bits.deBruijn64tab", laid_math_bits_deBruijn64tab)], narrowed := true }
def VarySlopesUptoSaid : Prop := varySlopesUptoRow.holds Tryz.pinned (OpenSpec.upto varySlopesSpec)

end Rows
end Go.Proofs.YtagacielooaapaaGreatDoor
