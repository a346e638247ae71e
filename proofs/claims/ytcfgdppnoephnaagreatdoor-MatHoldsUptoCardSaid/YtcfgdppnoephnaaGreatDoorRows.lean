/-
  NARROWER THAN 'FOR EVERY INPUT', by the rows' own cells (each row's printed sentence says how): BoxHalves: laid · BoxHolds: laid · MatParts: laid · MatDrawn: laid · MatHolds: laid · MatIds: laid · FieldAny: laid · FieldDrawn: laid · FieldChains: laid · FieldHolds: laid.
  DERIVED. THE GIVEN ROWS OF THIS SEAT. 10 by the template 'for every input the law returns true; each argument reads behind the call as it read before'; 0 by the template 'total and deterministic' (their statements: YtcfgdppnoephnaaGreatDoorTotals.lean).
  GIVEN WITH THE SEED: the statements are not yours to turn. If you find one false, say at which input.
  Laid BY PROGRAM, IN A SANDBOX (cutbox-rows.mjs): the forced cells as the released guide's own fill.sh prints them over the translation a633436097904ee4… (all of the seat's roots in one cut). By AI agents, Wed Nov 11 2026. No macro, syntax, notation, axiom, sorry.
-/
import Derived.Test.YtcfgdppnoephnaaGreatDoorChecked
import GoSem.Claim
import GoSem.ClaimJoined
import GoSem.ClaimMapViews
import Derived.JoinedTies
import Derived.KernelRfl
namespace Go.Proofs.YtcfgdppnoephnaaGreatDoor
/- THE CELL 'sum', in the pinned program and in every row, IS THE sha256 OF THE DUMP (.gsa) THAT YtcfgdppnoephnaaGreatDoorProg.lean LOADS. Nothing in Lean hashes anything: it is a label: what it is worth is what the hold of that sum in a sandbox is worth. -/
noncomputable def Tryz.pinned : Pinned := { name := "ytcfgdppnoephnaagreatdoor", sum := "a633436097904ee4b6fdbf2bbe56601dc010b23514d74f772f8fd0d7f2e263a2", checked := Tryz.checked }
namespace Rows
def none {H : Type} : Left H := { results := [], args := [] }

/- WHAT THE LISTED PACKAGE-LEVEL VARIABLES READ AS WHEN THE CALL BEGINS. Each datum BY PROGRAM (the guide's laid-datum.mjs) off the statement by which the dump's own 'gosem.cut.vars' lays the variable. In a bare row this is a premise. The card (YtcfgdppnoephnaaGreatDoorCards.lean) ties it to the program's text. -/
def laid_math_bits_deBruijn64tab {H : Type} : DataW H := .agg [.lit (.int .u8 0), .lit (.int .u8 1), .lit (.int .u8 56), .lit (.int .u8 2), .lit (.int .u8 57), .lit (.int .u8 49), .lit (.int .u8 28), .lit (.int .u8 3), .lit (.int .u8 61), .lit (.int .u8 58), .lit (.int .u8 42), .lit (.int .u8 50), .lit (.int .u8 38), .lit (.int .u8 29), .lit (.int .u8 17), .lit (.int .u8 4), .lit (.int .u8 62), .lit (.int .u8 47), .lit (.int .u8 59), .lit (.int .u8 36), .lit (.int .u8 45), .lit (.int .u8 43), .lit (.int .u8 51), .lit (.int .u8 22), .lit (.int .u8 53), .lit (.int .u8 39), .lit (.int .u8 33), .lit (.int .u8 30), .lit (.int .u8 24), .lit (.int .u8 18), .lit (.int .u8 12), .lit (.int .u8 5), .lit (.int .u8 63), .lit (.int .u8 55), .lit (.int .u8 48), .lit (.int .u8 27), .lit (.int .u8 60), .lit (.int .u8 41), .lit (.int .u8 37), .lit (.int .u8 16), .lit (.int .u8 46), .lit (.int .u8 35), .lit (.int .u8 44), .lit (.int .u8 21), .lit (.int .u8 52), .lit (.int .u8 32), .lit (.int .u8 23), .lit (.int .u8 11), .lit (.int .u8 54), .lit (.int .u8 26), .lit (.int .u8 40), .lit (.int .u8 15), .lit (.int .u8 34), .lit (.int .u8 20), .lit (.int .u8 31), .lit (.int .u8 10), .lit (.int .u8 25), .lit (.int .u8 14), .lit (.int .u8 19), .lit (.int .u8 9), .lit (.int .u8 13), .lit (.int .u8 8), .lit (.int .u8 7), .lit (.int .u8 6)]

/-- 'fathomlinelaw6.BoxHalves': WHATEVER THE INPUT: true; the input reads as it did. -/
def boxHalvesSpec : ChangeSpec := { name := "boxHalves", fn := fun _ => fun
  | [d1, d2, d3] => { results := [.lit (.bool true)], args := [d1, d2, d3] }
  | _ => none }
def boxHalvesRow : OpenClaim := { program := "ytcfgdppnoephnaagreatdoor", sum := "a633436097904ee4b6fdbf2bbe56601dc010b23514d74f772f8fd0d7f2e263a2", func := "fathomline/fathomlinelaw6.BoxHalves", spec := "boxHalves", inPlace := ["math/bits.Add64", "math/bits.Sub64"], unfollowed := true, recurses := true, named := ["math/bits.deBruijn64tab"], apart := false, laid := [("math/bits.deBruijn64tab", laid_math_bits_deBruijn64tab)] }
def BoxHalvesSaid : Prop := boxHalvesRow.holds Tryz.pinned (OpenSpec.ofChange boxHalvesSpec)

/-- ITS FALSE NEIGHBOUR: 'it returns false'. Refute it at one input. -/
def boxHalvesWrong : ChangeSpec := { name := "boxHalves", fn := fun _ => fun
  | [d1, d2, d3] => { results := [.lit (.bool false)], args := [d1, d2, d3] }
  | _ => none }
def BoxHalvesWrongFalsely : Prop := boxHalvesRow.holds Tryz.pinned (OpenSpec.ofChange boxHalvesWrong)

/-- 'fathomlinelaw6.BoxHolds': WHATEVER THE INPUT: true; the input reads as it did. -/
def boxHoldsSpec : ChangeSpec := { name := "boxHolds", fn := fun _ => fun
  | [d] => { results := [.lit (.bool true)], args := [d] }
  | _ => none }
def boxHoldsRow : OpenClaim := { program := "ytcfgdppnoephnaagreatdoor", sum := "a633436097904ee4b6fdbf2bbe56601dc010b23514d74f772f8fd0d7f2e263a2", func := "fathomline/fathomlinelaw6.BoxHolds", spec := "boxHolds", inPlace := ["math/bits.Add64", "math/bits.Sub64"], unfollowed := true, recurses := true, named := ["math/bits.deBruijn64tab"], apart := false, laid := [("math/bits.deBruijn64tab", laid_math_bits_deBruijn64tab)] }
def BoxHoldsSaid : Prop := boxHoldsRow.holds Tryz.pinned (OpenSpec.ofChange boxHoldsSpec)

/-- ITS FALSE NEIGHBOUR: 'it returns false'. Refute it at one input. -/
def boxHoldsWrong : ChangeSpec := { name := "boxHolds", fn := fun _ => fun
  | [d] => { results := [.lit (.bool false)], args := [d] }
  | _ => none }
def BoxHoldsWrongFalsely : Prop := boxHoldsRow.holds Tryz.pinned (OpenSpec.ofChange boxHoldsWrong)

/-- 'fathomlinelaw7.MatParts': WHATEVER THE INPUT: true; the input reads as it did. -/
def matPartsSpec : ChangeSpec := { name := "matParts", fn := fun _ => fun
  | [d1, d2, d3] => { results := [.lit (.bool true)], args := [d1, d2, d3] }
  | _ => none }
def matPartsRow : OpenClaim := { program := "ytcfgdppnoephnaagreatdoor", sum := "a633436097904ee4b6fdbf2bbe56601dc010b23514d74f772f8fd0d7f2e263a2", func := "fathomline/fathomlinelaw7.MatParts", spec := "matParts", inPlace := ["math/bits.Add64", "math/bits.Sub64"], unfollowed := true, recurses := true, named := ["math/bits.deBruijn64tab"], apart := false, laid := [("math/bits.deBruijn64tab", laid_math_bits_deBruijn64tab)] }
def MatPartsSaid : Prop := matPartsRow.holds Tryz.pinned (OpenSpec.ofChange matPartsSpec)

/-- ITS FALSE NEIGHBOUR: 'it returns false'. Refute it at one input. -/
def matPartsWrong : ChangeSpec := { name := "matParts", fn := fun _ => fun
  | [d1, d2, d3] => { results := [.lit (.bool false)], args := [d1, d2, d3] }
  | _ => none }
def MatPartsWrongFalsely : Prop := matPartsRow.holds Tryz.pinned (OpenSpec.ofChange matPartsWrong)

/-- 'fathomlinelaw7.MatDrawn': WHATEVER THE INPUT: true; the input reads as it did. -/
def matDrawnSpec : ChangeSpec := { name := "matDrawn", fn := fun _ => fun
  | [d] => { results := [.lit (.bool true)], args := [d] }
  | _ => none }
def matDrawnRow : OpenClaim := { program := "ytcfgdppnoephnaagreatdoor", sum := "a633436097904ee4b6fdbf2bbe56601dc010b23514d74f772f8fd0d7f2e263a2", func := "fathomline/fathomlinelaw7.MatDrawn", spec := "matDrawn", inPlace := ["math/bits.Add64", "math/bits.Sub64"], unfollowed := true, recurses := true, named := ["math/bits.deBruijn64tab"], apart := false, laid := [("math/bits.deBruijn64tab", laid_math_bits_deBruijn64tab)] }
def MatDrawnSaid : Prop := matDrawnRow.holds Tryz.pinned (OpenSpec.ofChange matDrawnSpec)

/-- ITS FALSE NEIGHBOUR: 'it returns false'. Refute it at one input. -/
def matDrawnWrong : ChangeSpec := { name := "matDrawn", fn := fun _ => fun
  | [d] => { results := [.lit (.bool false)], args := [d] }
  | _ => none }
def MatDrawnWrongFalsely : Prop := matDrawnRow.holds Tryz.pinned (OpenSpec.ofChange matDrawnWrong)

/-- 'fathomlinelaw7.MatHolds': WHATEVER THE INPUT: true; the input reads as it did. -/
def matHoldsSpec : ChangeSpec := { name := "matHolds", fn := fun _ => fun
  | [d] => { results := [.lit (.bool true)], args := [d] }
  | _ => none }
def matHoldsRow : OpenClaim := { program := "ytcfgdppnoephnaagreatdoor", sum := "a633436097904ee4b6fdbf2bbe56601dc010b23514d74f772f8fd0d7f2e263a2", func := "fathomline/fathomlinelaw7.MatHolds", spec := "matHolds", inPlace := ["math/bits.Add64", "math/bits.Sub64"], unfollowed := true, recurses := true, named := ["math/bits.deBruijn64tab"], apart := false, laid := [("math/bits.deBruijn64tab", laid_math_bits_deBruijn64tab)] }
def MatHoldsSaid : Prop := matHoldsRow.holds Tryz.pinned (OpenSpec.ofChange matHoldsSpec)

/-- ITS FALSE NEIGHBOUR: 'it returns false'. Refute it at one input. -/
def matHoldsWrong : ChangeSpec := { name := "matHolds", fn := fun _ => fun
  | [d] => { results := [.lit (.bool false)], args := [d] }
  | _ => none }
def MatHoldsWrongFalsely : Prop := matHoldsRow.holds Tryz.pinned (OpenSpec.ofChange matHoldsWrong)

/-- 'fathomlinelaw7.MatIds': WHATEVER THE INPUT: true; the input reads as it did. -/
def matIdsSpec : ChangeSpec := { name := "matIds", fn := fun _ => fun
  | [d] => { results := [.lit (.bool true)], args := [d] }
  | _ => none }
def matIdsRow : OpenClaim := { program := "ytcfgdppnoephnaagreatdoor", sum := "a633436097904ee4b6fdbf2bbe56601dc010b23514d74f772f8fd0d7f2e263a2", func := "fathomline/fathomlinelaw7.MatIds", spec := "matIds", inPlace := ["math/bits.Add64", "math/bits.Sub64"], unfollowed := true, recurses := true, named := ["math/bits.deBruijn64tab"], apart := false, laid := [("math/bits.deBruijn64tab", laid_math_bits_deBruijn64tab)] }
def MatIdsSaid : Prop := matIdsRow.holds Tryz.pinned (OpenSpec.ofChange matIdsSpec)

/-- ITS FALSE NEIGHBOUR: 'it returns false'. Refute it at one input. -/
def matIdsWrong : ChangeSpec := { name := "matIds", fn := fun _ => fun
  | [d] => { results := [.lit (.bool false)], args := [d] }
  | _ => none }
def MatIdsWrongFalsely : Prop := matIdsRow.holds Tryz.pinned (OpenSpec.ofChange matIdsWrong)

/-- 'fathomlinelaw11.FieldAny': WHATEVER THE INPUT: true; the input reads as it did. -/
def fieldAnySpec : ChangeSpec := { name := "fieldAny", fn := fun _ => fun
  | [d1, d2, d3, d4, d5] => { results := [.lit (.bool true)], args := [d1, d2, d3, d4, d5] }
  | _ => none }
def fieldAnyRow : OpenClaim := { program := "ytcfgdppnoephnaagreatdoor", sum := "a633436097904ee4b6fdbf2bbe56601dc010b23514d74f772f8fd0d7f2e263a2", func := "fathomline/fathomlinelaw11.FieldAny", spec := "fieldAny", inPlace := ["math/bits.Add64", "math/bits.Sub64"], unfollowed := true, recurses := true, named := ["math/bits.deBruijn64tab"], apart := false, laid := [("math/bits.deBruijn64tab", laid_math_bits_deBruijn64tab)] }
def FieldAnySaid : Prop := fieldAnyRow.holds Tryz.pinned (OpenSpec.ofChange fieldAnySpec)

/-- ITS FALSE NEIGHBOUR: 'it returns false'. Refute it at one input. -/
def fieldAnyWrong : ChangeSpec := { name := "fieldAny", fn := fun _ => fun
  | [d1, d2, d3, d4, d5] => { results := [.lit (.bool false)], args := [d1, d2, d3, d4, d5] }
  | _ => none }
def FieldAnyWrongFalsely : Prop := fieldAnyRow.holds Tryz.pinned (OpenSpec.ofChange fieldAnyWrong)

/-- 'fathomlinelaw11.FieldDrawn': WHATEVER THE INPUT: true; the input reads as it did. -/
def fieldDrawnSpec : ChangeSpec := { name := "fieldDrawn", fn := fun _ => fun
  | [d] => { results := [.lit (.bool true)], args := [d] }
  | _ => none }
def fieldDrawnRow : OpenClaim := { program := "ytcfgdppnoephnaagreatdoor", sum := "a633436097904ee4b6fdbf2bbe56601dc010b23514d74f772f8fd0d7f2e263a2", func := "fathomline/fathomlinelaw11.FieldDrawn", spec := "fieldDrawn", inPlace := ["math/bits.Add64", "math/bits.Sub64"], unfollowed := true, recurses := true, named := ["math/bits.deBruijn64tab"], apart := false, laid := [("math/bits.deBruijn64tab", laid_math_bits_deBruijn64tab)] }
def FieldDrawnSaid : Prop := fieldDrawnRow.holds Tryz.pinned (OpenSpec.ofChange fieldDrawnSpec)

/-- ITS FALSE NEIGHBOUR: 'it returns false'. Refute it at one input. -/
def fieldDrawnWrong : ChangeSpec := { name := "fieldDrawn", fn := fun _ => fun
  | [d] => { results := [.lit (.bool false)], args := [d] }
  | _ => none }
def FieldDrawnWrongFalsely : Prop := fieldDrawnRow.holds Tryz.pinned (OpenSpec.ofChange fieldDrawnWrong)

/-- 'fathomlinelaw11.FieldChains': WHATEVER THE INPUT: true; the input reads as it did. -/
def fieldChainsSpec : ChangeSpec := { name := "fieldChains", fn := fun _ => fun
  | [d] => { results := [.lit (.bool true)], args := [d] }
  | _ => none }
def fieldChainsRow : OpenClaim := { program := "ytcfgdppnoephnaagreatdoor", sum := "a633436097904ee4b6fdbf2bbe56601dc010b23514d74f772f8fd0d7f2e263a2", func := "fathomline/fathomlinelaw11.FieldChains", spec := "fieldChains", inPlace := ["math/bits.Add64", "math/bits.Sub64"], unfollowed := true, recurses := true, named := ["math/bits.deBruijn64tab"], apart := false, laid := [("math/bits.deBruijn64tab", laid_math_bits_deBruijn64tab)] }
def FieldChainsSaid : Prop := fieldChainsRow.holds Tryz.pinned (OpenSpec.ofChange fieldChainsSpec)

/-- ITS FALSE NEIGHBOUR: 'it returns false'. Refute it at one input. -/
def fieldChainsWrong : ChangeSpec := { name := "fieldChains", fn := fun _ => fun
  | [d] => { results := [.lit (.bool false)], args := [d] }
  | _ => none }
def FieldChainsWrongFalsely : Prop := fieldChainsRow.holds Tryz.pinned (OpenSpec.ofChange fieldChainsWrong)

/-- 'fathomlinelaw11.FieldHolds': WHATEVER THE INPUT: true; the input reads as it did. -/
def fieldHoldsSpec : ChangeSpec := { name := "fieldHolds", fn := fun _ => fun
  | [d] => { results := [.lit (.bool true)], args := [d] }
  | _ => none }
def fieldHoldsRow : OpenClaim := { program := "ytcfgdppnoephnaagreatdoor", sum := "a633436097904ee4b6fdbf2bbe56601dc010b23514d74f772f8fd0d7f2e263a2", func := "fathomline/fathomlinelaw11.FieldHolds", spec := "fieldHolds", inPlace := ["math/bits.Add64", "math/bits.Sub64"], unfollowed := true, recurses := true, named := ["math/bits.deBruijn64tab"], apart := false, laid := [("math/bits.deBruijn64tab", laid_math_bits_deBruijn64tab)] }
def FieldHoldsSaid : Prop := fieldHoldsRow.holds Tryz.pinned (OpenSpec.ofChange fieldHoldsSpec)

/-- ITS FALSE NEIGHBOUR: 'it returns false'. Refute it at one input. -/
def fieldHoldsWrong : ChangeSpec := { name := "fieldHolds", fn := fun _ => fun
  | [d] => { results := [.lit (.bool false)], args := [d] }
  | _ => none }
def FieldHoldsWrongFalsely : Prop := fieldHoldsRow.holds Tryz.pinned (OpenSpec.ofChange fieldHoldsWrong)

/- THE SECOND FORM. 'bulk': how many values and letters a reading holds, each counted each time it is reached (what is shared counts as often as it is met; a slice's spare places count too). A statement '..UptoSaid' is the law's where the arguments, and the package variables that the reading takes, are together of bulk at most 1048576: NARROWER than '..Said'. Prove '..Said' where nothing that the law and all that it calls make is longer than what came in: it says more and counts as full. Else prove '..UptoSaid'. A law counts once. -/
mutual
def uptoBulk {H : Type} : DataW H → Nat
  | .lit (.string bytes) => bytes.length + 1
  | .lit _ => 1
  | .nil => 1
  | .ptr d => uptoBulk d + 1
  | .slice elems spare => uptoBulkAll elems + uptoBulkAll spare + 1
  | .agg parts => uptoBulkAll parts + 1
  | .iface _ d => uptoBulk d + 1
  | .map entries => uptoBulkEntries entries + 1
  | .held _ => 1
def uptoBulkAll {H : Type} : List (DataW H) → Nat
  | [] => 0
  | d :: r => uptoBulk d + uptoBulkAll r
def uptoBulkEntries {H : Type} : List (Lit × DataW H) → Nat
  | [] => 0
  | x :: r => uptoBulkEntry x + uptoBulkEntries r
def uptoBulkEntry {H : Type} : Lit × DataW H → Nat
  | (.string bytes, d) => bytes.length + uptoBulk d + 1
  | (_, d) => uptoBulk d + 1
 end
def uptoSmall : (H : Type) → List (DataW H) → Bool := fun _ ds => decide (uptoBulkAll ds ≤ 1048576)
def OpenSpec.upto (s : _root_.Go.ChangeSpec) : _root_.Go.OpenSpec := { _root_.Go.OpenSpec.ofChange s with cond := some uptoSmall }

/-- 'fathomlinelaw6.BoxHalves', WHERE WHAT IT READS IS OF BULK AT MOST 1048576: true; the input reads as it did. -/
def boxHalvesUptoRow : OpenClaim := { program := "ytcfgdppnoephnaagreatdoor", sum := "a633436097904ee4b6fdbf2bbe56601dc010b23514d74f772f8fd0d7f2e263a2", func := "fathomline/fathomlinelaw6.BoxHalves", spec := "boxHalves", inPlace := ["math/bits.Add64", "math/bits.Sub64"], unfollowed := true, recurses := true, named := ["math/bits.deBruijn64tab"], apart := false, laid := [("math/bits.deBruijn64tab", laid_math_bits_deBruijn64tab)], narrowed := true }
def BoxHalvesUptoSaid : Prop := boxHalvesUptoRow.holds Tryz.pinned (OpenSpec.upto boxHalvesSpec)

/-- 'fathomlinelaw6.BoxHolds', WHERE WHAT IT READS IS OF BULK AT MOST 1048576: true; the input reads as it did. -/
def boxHoldsUptoRow : OpenClaim := { program := "ytcfgdppnoephnaagreatdoor", sum := "a633436097904ee4b6fdbf2bbe56601dc010b23514d74f772f8fd0d7f2e263a2", func := "fathomline/fathomlinelaw6.BoxHolds", spec := "boxHolds", inPlace := ["math/bits.Add64", "math/bits.Sub64"], unfollowed := true, recurses := true, named := ["math/bits.deBruijn64tab"], apart := false, laid := [("math/bits.deBruijn64tab", laid_math_bits_deBruijn64tab)], narrowed := true }
def BoxHoldsUptoSaid : Prop := boxHoldsUptoRow.holds Tryz.pinned (OpenSpec.upto boxHoldsSpec)

/-- 'fathomlinelaw7.MatParts', WHERE WHAT IT READS IS OF BULK AT MOST 1048576: true; the input reads as it did. -/
def matPartsUptoRow : OpenClaim := { program := "ytcfgdppnoephnaagreatdoor", sum := "a633436097904ee4b6fdbf2bbe56601dc010b23514d74f772f8fd0d7f2e263a2", func := "fathomline/fathomlinelaw7.MatParts", spec := "matParts", inPlace := ["math/bits.Add64", "math/bits.Sub64"], unfollowed := true, recurses := true, named := ["math/bits.deBruijn64tab"], apart := false, laid := [("math/bits.deBruijn64tab", laid_math_bits_deBruijn64tab)], narrowed := true }
def MatPartsUptoSaid : Prop := matPartsUptoRow.holds Tryz.pinned (OpenSpec.upto matPartsSpec)

/-- 'fathomlinelaw7.MatDrawn', WHERE WHAT IT READS IS OF BULK AT MOST 1048576: true; the input reads as it did. -/
def matDrawnUptoRow : OpenClaim := { program := "ytcfgdppnoephnaagreatdoor", sum := "a633436097904ee4b6fdbf2bbe56601dc010b23514d74f772f8fd0d7f2e263a2", func := "fathomline/fathomlinelaw7.MatDrawn", spec := "matDrawn", inPlace := ["math/bits.Add64", "math/bits.Sub64"], unfollowed := true, recurses := true, named := ["math/bits.deBruijn64tab"], apart := false, laid := [("math/bits.deBruijn64tab", laid_math_bits_deBruijn64tab)], narrowed := true }
def MatDrawnUptoSaid : Prop := matDrawnUptoRow.holds Tryz.pinned (OpenSpec.upto matDrawnSpec)

/-- 'fathomlinelaw7.MatHolds', WHERE WHAT IT READS IS OF BULK AT MOST 1048576: true; the input reads as it did. -/
def matHoldsUptoRow : OpenClaim := { program := "ytcfgdppnoephnaagreatdoor", sum := "a633436097904ee4b6fdbf2bbe56601dc010b23514d74f772f8fd0d7f2e263a2", func := "fathomline/fathomlinelaw7.MatHolds", spec := "matHolds", inPlace := ["math/bits.Add64", "math/bits.Sub64"], unfollowed := true, recurses := true, named := ["math/bits.deBruijn64tab"], apart := false, laid := [("math/bits.deBruijn64tab", laid_math_bits_deBruijn64tab)], narrowed := true }
def MatHoldsUptoSaid : Prop := matHoldsUptoRow.holds Tryz.pinned (OpenSpec.upto matHoldsSpec)

/-- 'fathomlinelaw7.MatIds', WHERE WHAT IT READS IS OF BULK AT MOST 1048576: true; the input reads as it did. -/
def matIdsUptoRow : OpenClaim := { program := "ytcfgdppnoephnaagreatdoor", sum := "a633436097904ee4b6fdbf2bbe56601dc010b23514d74f772f8fd0d7f2e263a2", func := "fathomline/fathomlinelaw7.MatIds", spec := "matIds", inPlace := ["math/bits.Add64", "math/bits.Sub64"], unfollowed := true, recurses := true, named := ["math/bits.deBruijn64tab"], apart := false, laid := [("math/bits.deBruijn64tab", laid_math_bits_deBruijn64tab)], narrowed := true }
def MatIdsUptoSaid : Prop := matIdsUptoRow.holds Tryz.pinned (OpenSpec.upto matIdsSpec)

/-- 'fathomlinelaw11.FieldAny', WHERE WHAT IT READS IS OF BULK AT MOST 1048576: true; the input reads as it did. -/
def fieldAnyUptoRow : OpenClaim := { program := "ytcfgdppnoephnaagreatdoor", sum := "a633436097904ee4b6fdbf2bbe56601dc010b23514d74f772f8fd0d7f2e263a2", func := "fathomline/fathomlinelaw11.FieldAny", spec := "fieldAny", inPlace := ["math/bits.Add64", "math/bits.Sub64"], unfollowed := true, recurses := true, named := ["math/bits.deBruijn64tab"], apart := false, laid := [("math/bits.deBruijn64tab", laid_math_bits_deBruijn64tab)], narrowed := true }
def FieldAnyUptoSaid : Prop := fieldAnyUptoRow.holds Tryz.pinned (OpenSpec.upto fieldAnySpec)

/-- 'fathomlinelaw11.FieldDrawn', WHERE WHAT IT READS IS OF BULK AT MOST 1048576: true; the input reads as it did. -/
def fieldDrawnUptoRow : OpenClaim := { program := "ytcfgdppnoephnaagreatdoor", sum := "a633436097904ee4b6fdbf2bbe56601dc010b23514d74f772f8fd0d7f2e263a2", func := "fathomline/fathomlinelaw11.FieldDrawn", spec := "fieldDrawn", inPlace := ["math/bits.Add64", "math/bits.Sub64"], unfollowed := true, recurses := true, named := ["math/bits.deBruijn64tab"], apart := false, laid := [("math/bits.deBruijn64tab", laid_math_bits_deBruijn64tab)], narrowed := true }
def FieldDrawnUptoSaid : Prop := fieldDrawnUptoRow.holds Tryz.pinned (OpenSpec.upto fieldDrawnSpec)

/-- 'fathomlinelaw11.FieldChains', WHERE WHAT IT READS IS OF BULK AT MOST 1048576: true; the input reads as it did. -/
def fieldChainsUptoRow : OpenClaim := { program := "ytcfgdppnoephnaagreatdoor", sum := "a633436097904ee4b6fdbf2bbe56601dc010b23514d74f772f8fd0d7f2e263a2", func := "fathomline/fathomlinelaw11.FieldChains", spec := "fieldChains", inPlace := ["math/bits.Add64", "math/bits.Sub64"], unfollowed := true, recurses := true, named := ["math/bits.deBruijn64tab"], apart := false, laid := [("math/bits.deBruijn64tab", laid_math_bits_deBruijn64tab)], narrowed := true }
def FieldChainsUptoSaid : Prop := fieldChainsUptoRow.holds Tryz.pinned (OpenSpec.upto fieldChainsSpec)

/-- 'fathomlinelaw11.FieldHolds', WHERE WHAT IT READS IS OF BULK AT MOST 1048576: true; the input reads as it did. -/
def fieldHoldsUptoRow : OpenClaim := { program := "ytcfgdppnoephnaagreatdoor", sum := "a633436097904ee4b6fdbf2bbe56601dc010b23514d74f772f8fd0d7f2e263a2", func := "fathomline/fathomlinelaw11.FieldHolds", spec := "fieldHolds", inPlace := ["math/bits.Add64", "math/bits.Sub64"], unfollowed := true, recurses := true, named := ["math/bits.deBruijn64tab"], apart := false, laid := [("math/bits.deBruijn64tab", laid_math_bits_deBruijn64tab)], narrowed := true }
def FieldHoldsUptoSaid : Prop := fieldHoldsUptoRow.holds Tryz.pinned (OpenSpec.upto fieldHoldsSpec)

end Rows
end Go.Proofs.YtcfgdppnoephnaaGreatDoor
