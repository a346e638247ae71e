/-
  NARROWER THAN 'FOR EVERY INPUT', by the rows' own cells (each row's printed sentence says how): BoxHalves: laid · BoxParts: laid · BoxDrawn: laid · BoxFour: laid · BoxHolds: laid.
  DERIVED. THE GIVEN ROWS OF THIS SEAT. 5 by the template 'for every input the law returns true; each argument reads behind the call as it read before'; 0 by the template 'total and deterministic' (their statements: YtkemhdkbildlfaaGreatDoorTotals.lean).
  GIVEN WITH THE SEED: the statements are not yours to turn. If you find one false, say at which input.
  Laid BY PROGRAM, IN A SANDBOX (cutbox-rows.mjs): the forced cells as the released guide's own fill.sh prints them over the translation a07302768fa0148e… (all of the seat's roots in one cut). By AI agents, Wed Nov 11 2026. No macro, syntax, notation, axiom, sorry.
-/
import Derived.Test.YtkemhdkbildlfaaGreatDoorChecked
import GoSem.Claim
import GoSem.ClaimJoined
import GoSem.ClaimMapViews
import Derived.JoinedTies
import Derived.KernelRfl
namespace Go.Proofs.YtkemhdkbildlfaaGreatDoor
/- THE CELL 'sum', in the pinned program and in every row, IS THE sha256 OF THE DUMP (.gsa) THAT YtkemhdkbildlfaaGreatDoorProg.lean LOADS. Nothing in Lean hashes anything: it is a label: what it is worth is what the hold of that sum in a sandbox is worth. -/
noncomputable def Tryz.pinned : Pinned := { name := "ytkemhdkbildlfaagreatdoor", sum := "a07302768fa0148eeede101ef4cfa5c20e44eaeceadab811d4165e9b361d5181", checked := Tryz.checked }
namespace Rows
def none {H : Type} : Left H := { results := [], args := [] }

/- WHAT THE LISTED PACKAGE-LEVEL VARIABLES READ AS WHEN THE CALL BEGINS. Each datum BY PROGRAM (the guide's laid-datum.mjs) off the statement by which the dump's own 'gosem.cut.vars' lays the variable. In a bare row this is a premise. The card (YtkemhdkbildlfaaGreatDoorCards.lean) ties it to the program's text. -/
def laid_math_bits_deBruijn64tab {H : Type} : DataW H := .agg [.lit (.int .u8 0), .lit (.int .u8 1), .lit (.int .u8 56), .lit (.int .u8 2), .lit (.int .u8 57), .lit (.int .u8 49), .lit (.int .u8 28), .lit (.int .u8 3), .lit (.int .u8 61), .lit (.int .u8 58), .lit (.int .u8 42), .lit (.int .u8 50), .lit (.int .u8 38), .lit (.int .u8 29), .lit (.int .u8 17), .lit (.int .u8 4), .lit (.int .u8 62), .lit (.int .u8 47), .lit (.int .u8 59), .lit (.int .u8 36), .lit (.int .u8 45), .lit (.int .u8 43), .lit (.int .u8 51), .lit (.int .u8 22), .lit (.int .u8 53), .lit (.int .u8 39), .lit (.int .u8 33), .lit (.int .u8 30), .lit (.int .u8 24), .lit (.int .u8 18), .lit (.int .u8 12), .lit (.int .u8 5), .lit (.int .u8 63), .lit (.int .u8 55), .lit (.int .u8 48), .lit (.int .u8 27), .lit (.int .u8 60), .lit (.int .u8 41), .lit (.int .u8 37), .lit (.int .u8 16), .lit (.int .u8 46), .lit (.int .u8 35), .lit (.int .u8 44), .lit (.int .u8 21), .lit (.int .u8 52), .lit (.int .u8 32), .lit (.int .u8 23), .lit (.int .u8 11), .lit (.int .u8 54), .lit (.int .u8 26), .lit (.int .u8 40), .lit (.int .u8 15), .lit (.int .u8 34), .lit (.int .u8 20), .lit (.int .u8 31), .lit (.int .u8 10), .lit (.int .u8 25), .lit (.int .u8 14), .lit (.int .u8 19), .lit (.int .u8 9), .lit (.int .u8 13), .lit (.int .u8 8), .lit (.int .u8 7), .lit (.int .u8 6)]

/-- 'fathomlinelaw6.BoxHalves': WHATEVER THE INPUT: true; the input reads as it did. -/
def boxHalvesSpec : ChangeSpec := { name := "boxHalves", fn := fun _ => fun
  | [d1, d2, d3] => { results := [.lit (.bool true)], args := [d1, d2, d3] }
  | _ => none }
def boxHalvesRow : OpenClaim := { program := "ytkemhdkbildlfaagreatdoor", sum := "a07302768fa0148eeede101ef4cfa5c20e44eaeceadab811d4165e9b361d5181", func := "fathomline/fathomlinelaw6.BoxHalves", spec := "boxHalves", inPlace := ["math/bits.Add64", "math/bits.Sub64"], unfollowed := true, recurses := true, named := ["math/bits.deBruijn64tab"], apart := false, laid := [("math/bits.deBruijn64tab", laid_math_bits_deBruijn64tab)] }
def BoxHalvesSaid : Prop := boxHalvesRow.holds Tryz.pinned (OpenSpec.ofChange boxHalvesSpec)

/-- ITS FALSE NEIGHBOUR: 'it returns false'. Refute it at one input. -/
def boxHalvesWrong : ChangeSpec := { name := "boxHalves", fn := fun _ => fun
  | [d1, d2, d3] => { results := [.lit (.bool false)], args := [d1, d2, d3] }
  | _ => none }
def BoxHalvesWrongFalsely : Prop := boxHalvesRow.holds Tryz.pinned (OpenSpec.ofChange boxHalvesWrong)

/-- 'fathomlinelaw6.BoxParts': WHATEVER THE INPUT: true; the input reads as it did. -/
def boxPartsSpec : ChangeSpec := { name := "boxParts", fn := fun _ => fun
  | [d1, d2, d3] => { results := [.lit (.bool true)], args := [d1, d2, d3] }
  | _ => none }
def boxPartsRow : OpenClaim := { program := "ytkemhdkbildlfaagreatdoor", sum := "a07302768fa0148eeede101ef4cfa5c20e44eaeceadab811d4165e9b361d5181", func := "fathomline/fathomlinelaw6.BoxParts", spec := "boxParts", inPlace := ["math/bits.Add64", "math/bits.Sub64"], unfollowed := true, recurses := true, named := ["math/bits.deBruijn64tab"], apart := false, laid := [("math/bits.deBruijn64tab", laid_math_bits_deBruijn64tab)] }
def BoxPartsSaid : Prop := boxPartsRow.holds Tryz.pinned (OpenSpec.ofChange boxPartsSpec)

/-- ITS FALSE NEIGHBOUR: 'it returns false'. Refute it at one input. -/
def boxPartsWrong : ChangeSpec := { name := "boxParts", fn := fun _ => fun
  | [d1, d2, d3] => { results := [.lit (.bool false)], args := [d1, d2, d3] }
  | _ => none }
def BoxPartsWrongFalsely : Prop := boxPartsRow.holds Tryz.pinned (OpenSpec.ofChange boxPartsWrong)

/-- 'fathomlinelaw6.BoxDrawn': WHATEVER THE INPUT: true; the input reads as it did. -/
def boxDrawnSpec : ChangeSpec := { name := "boxDrawn", fn := fun _ => fun
  | [d] => { results := [.lit (.bool true)], args := [d] }
  | _ => none }
def boxDrawnRow : OpenClaim := { program := "ytkemhdkbildlfaagreatdoor", sum := "a07302768fa0148eeede101ef4cfa5c20e44eaeceadab811d4165e9b361d5181", func := "fathomline/fathomlinelaw6.BoxDrawn", spec := "boxDrawn", inPlace := ["math/bits.Add64", "math/bits.Sub64"], unfollowed := true, recurses := true, named := ["math/bits.deBruijn64tab"], apart := false, laid := [("math/bits.deBruijn64tab", laid_math_bits_deBruijn64tab)] }
def BoxDrawnSaid : Prop := boxDrawnRow.holds Tryz.pinned (OpenSpec.ofChange boxDrawnSpec)

/-- ITS FALSE NEIGHBOUR: 'it returns false'. Refute it at one input. -/
def boxDrawnWrong : ChangeSpec := { name := "boxDrawn", fn := fun _ => fun
  | [d] => { results := [.lit (.bool false)], args := [d] }
  | _ => none }
def BoxDrawnWrongFalsely : Prop := boxDrawnRow.holds Tryz.pinned (OpenSpec.ofChange boxDrawnWrong)

/-- 'fathomlinelaw6.BoxFour': WHATEVER THE INPUT: true; the input reads as it did. -/
def boxFourSpec : ChangeSpec := { name := "boxFour", fn := fun _ => fun
  | [d] => { results := [.lit (.bool true)], args := [d] }
  | _ => none }
def boxFourRow : OpenClaim := { program := "ytkemhdkbildlfaagreatdoor", sum := "a07302768fa0148eeede101ef4cfa5c20e44eaeceadab811d4165e9b361d5181", func := "fathomline/fathomlinelaw6.BoxFour", spec := "boxFour", inPlace := ["math/bits.Add64", "math/bits.Sub64"], unfollowed := true, recurses := true, named := ["math/bits.deBruijn64tab"], apart := false, laid := [("math/bits.deBruijn64tab", laid_math_bits_deBruijn64tab)] }
def BoxFourSaid : Prop := boxFourRow.holds Tryz.pinned (OpenSpec.ofChange boxFourSpec)

/-- ITS FALSE NEIGHBOUR: 'it returns false'. Refute it at one input. -/
def boxFourWrong : ChangeSpec := { name := "boxFour", fn := fun _ => fun
  | [d] => { results := [.lit (.bool false)], args := [d] }
  | _ => none }
def BoxFourWrongFalsely : Prop := boxFourRow.holds Tryz.pinned (OpenSpec.ofChange boxFourWrong)

/-- 'fathomlinelaw6.BoxHolds': WHATEVER THE INPUT: true; the input reads as it did. -/
def boxHoldsSpec : ChangeSpec := { name := "boxHolds", fn := fun _ => fun
  | [d] => { results := [.lit (.bool true)], args := [d] }
  | _ => none }
def boxHoldsRow : OpenClaim := { program := "ytkemhdkbildlfaagreatdoor", sum := "a07302768fa0148eeede101ef4cfa5c20e44eaeceadab811d4165e9b361d5181", func := "fathomline/fathomlinelaw6.BoxHolds", spec := "boxHolds", inPlace := ["math/bits.Add64", "math/bits.Sub64"], unfollowed := true, recurses := true, named := ["math/bits.deBruijn64tab"], apart := false, laid := [("math/bits.deBruijn64tab", laid_math_bits_deBruijn64tab)] }
def BoxHoldsSaid : Prop := boxHoldsRow.holds Tryz.pinned (OpenSpec.ofChange boxHoldsSpec)

/-- ITS FALSE NEIGHBOUR: 'it returns false'. Refute it at one input. -/
def boxHoldsWrong : ChangeSpec := { name := "boxHolds", fn := fun _ => fun
  | [d] => { results := [.lit (.bool false)], args := [d] }
  | _ => none }
def BoxHoldsWrongFalsely : Prop := boxHoldsRow.holds Tryz.pinned (OpenSpec.ofChange boxHoldsWrong)

/- THE SECOND FORM. 'bulk': how many values and letters a reading holds, each counted each time it is reached (what is shared counts as often as it is met; a slice's spare places count too). A statement '..UptoSaid' is the law's where the arguments, and the package variables that the reading takes, are together of bulk at most 1048576: NARROWER than '..Said'. Prove '..Said' where nothing that the law and all that it calls make is longer than what came in: it says more and counts as full. Else prove '..UptoSaid'. A law counts once. -/
mutual
def uptoBulk {H : Type} : DataW H → Nat
  | .lit (.string bytes) => bytes.length + 1
  | .lit _ => 1
  | .nil => 1
  | .ptr d => uptoBulk d + 1
  | .slice elems spare => uptoBulkAll elems + uptoBulkAll spare + 1
  | .agg parts => uptoBulkAll parts + 1
  | .iface _ d => uptoBulk d + 1
  | .map entries => uptoBulkEntries entries + 1
  | .held _ => 1
def uptoBulkAll {H : Type} : List (DataW H) → Nat
  | [] => 0
  | d :: r => uptoBulk d + uptoBulkAll r
def uptoBulkEntries {H : Type} : List (Lit × DataW H) → Nat
  | [] => 0
  | x :: r => uptoBulkEntry x + uptoBulkEntries r
def uptoBulkEntry {H : Type} : Lit × DataW H → Nat
  | (.string bytes, d) => bytes.length + uptoBulk d + 1
  | (_, d) => uptoBulk d + 1
 end
def uptoSmall : (H : Type) → List (DataW H) → Bool := fun _ ds => decide (uptoBulkAll ds ≤ 1048576)
def OpenSpec.upto (s : _root_.Go.ChangeSpec) : _root_.Go.OpenSpec := { _root_.Go.OpenSpec.ofChange s with cond := some uptoSmall }

/-- 'fathomlinelaw6.BoxHalves', WHERE WHAT IT READS IS OF BULK AT MOST 1048576: true; the input reads as it did. -/
def boxHalvesUptoRow : OpenClaim := { program := "ytkemhdkbildlfaagreatdoor", sum := "a07302768fa0148eeede101ef4cfa5c20e44eaeceadab811d4165e9b361d5181", func := "fathomline/fathomlinelaw6.BoxHalves", spec := "boxHalves", inPlace := ["math/bits.Add64", "math/bits.Sub64"], unfollowed := true, recurses := true, named := ["math/bits.deBruijn64tab"], apart := false, laid := [("math/bits.deBruijn64tab", laid_math_bits_deBruijn64tab)], narrowed := true }
def BoxHalvesUptoSaid : Prop := boxHalvesUptoRow.holds Tryz.pinned (OpenSpec.upto boxHalvesSpec)

/-- 'fathomlinelaw6.BoxParts', WHERE WHAT IT READS IS OF BULK AT MOST 1048576: true; the input reads as it did. -/
def boxPartsUptoRow : OpenClaim := { program := "ytkemhdkbildlfaagreatdoor", sum := "a07302768fa0148eeede101ef4cfa5c20e44eaeceadab811d4165e9b361d5181", func := "fathomline/fathomlinelaw6.BoxParts", spec := "boxParts", inPlace := ["math/bits.Add64", "math/bits.Sub64"], unfollowed := true, recurses := true, named := ["math/bits.deBruijn64tab"], apart := false, laid := [("math/bits.deBruijn64tab", laid_math_bits_deBruijn64tab)], narrowed := true }
def BoxPartsUptoSaid : Prop := boxPartsUptoRow.holds Tryz.pinned (OpenSpec.upto boxPartsSpec)

/-- 'fathomlinelaw6.BoxDrawn', WHERE WHAT IT READS IS OF BULK AT MOST 1048576: true; the input reads as it did. -/
def boxDrawnUptoRow : OpenClaim := { program := "ytkemhdkbildlfaagreatdoor", sum := "a07302768fa0148eeede101ef4cfa5c20e44eaeceadab811d4165e9b361d5181", func := "fathomline/fathomlinelaw6.BoxDrawn", spec := "boxDrawn", inPlace := ["math/bits.Add64", "math/bits.Sub64"], unfollowed := true, recurses := true, named := ["math/bits.deBruijn64tab"], apart := false, laid := [("math/bits.deBruijn64tab", laid_math_bits_deBruijn64tab)], narrowed := true }
def BoxDrawnUptoSaid : Prop := boxDrawnUptoRow.holds Tryz.pinned (OpenSpec.upto boxDrawnSpec)

/-- 'fathomlinelaw6.BoxFour', WHERE WHAT IT READS IS OF BULK AT MOST 1048576: true; the input reads as it did. -/
def boxFourUptoRow : OpenClaim := { program := "ytkemhdkbildlfaagreatdoor", sum := "a07302768fa0148eeede101ef4cfa5c20e44eaeceadab811d4165e9b361d5181", func := "fathomline/fathomlinelaw6.BoxFour", spec := "boxFour", inPlace := ["math/bits.Add64", "math/bits.Sub64"], unfollowed := true, recurses := true, named := ["math/bits.deBruijn64tab"], apart := false, laid := [("math/bits.deBruijn64tab", laid_math_bits_deBruijn64tab)], narrowed := true }
def BoxFourUptoSaid : Prop := boxFourUptoRow.holds Tryz.pinned (OpenSpec.upto boxFourSpec)

/-- 'fathomlinelaw6.BoxHolds', WHERE WHAT IT READS IS OF BULK AT MOST 1048576: true; the input reads as it did. -/
def boxHoldsUptoRow : OpenClaim := { program := "ytkemhdkbildlfaagreatdoor", sum := "a07302768fa0148eeede101ef4cfa5c20e44eaeceadab811d4165e9b361d5181", func := "fathomline/fathomlinelaw6.BoxHolds", spec := "boxHolds", inPlace := ["math/bits.Add64", "math/bits.Sub64"], unfollowed := true, recurses := true, named := ["math/bits.deBruijn64tab"], apart := false, laid := [("math/bits.deBruijn64tab", laid_math_bits_deBruijn64tab)], narrowed := true }
def BoxHoldsUptoSaid : Prop := boxHoldsUptoRow.holds Tryz.pinned (OpenSpec.upto boxHoldsSpec)

end Rows
end Go.Proofs.YtkemhdkbildlfaaGreatDoor
