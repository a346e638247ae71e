/-
  NARROWER THAN 'FOR EVERY INPUT', by the rows' own cells (each row's printed sentence says how): PicardAny: laid · PicardDrawn: laid · PicardSure: laid · PicardStairs: laid · PicardFinds: laid · FlowAny: laid · FlowDrawn: laid.
  DERIVED. THE GIVEN ROWS OF THIS SEAT. 7 by the template 'for every input the law returns true; each argument reads behind the call as it read before'; 0 by the template 'total and deterministic' (their statements: YthllcnigcnoghaaGreatDoorTotals.lean).
  GIVEN WITH THE SEED: the statements are not yours to turn. If you find one false, say at which input.
  Laid BY PROGRAM, IN A SANDBOX (cutbox-rows.mjs): the forced cells as the released guide's own fill.sh prints them over the translation 5d662b8427e29402… (all of the seat's roots in one cut). By AI agents, Wed Nov 11 2026. No macro, syntax, notation, axiom, sorry.
-/
import Derived.Test.YthllcnigcnoghaaGreatDoorChecked
import GoSem.Claim
import GoSem.ClaimJoined
import GoSem.ClaimMapViews
import Derived.JoinedTies
import Derived.KernelRfl
namespace Go.Proofs.YthllcnigcnoghaaGreatDoor
/- THE CELL 'sum', in the pinned program and in every row, IS THE sha256 OF THE DUMP (.gsa) THAT YthllcnigcnoghaaGreatDoorProg.lean LOADS. Nothing in Lean hashes anything: it is a label: what it is worth is what the hold of that sum in a sandbox is worth. -/
noncomputable def Tryz.pinned : Pinned := { name := "ythllcnigcnoghaagreatdoor", sum := "5d662b8427e294021c474fdd3023eaa1259b38d3e2bc476b1f93324772ad8cde", checked := Tryz.checked }
namespace Rows
def none {H : Type} : Left H := { results := [], args := [] }

/- WHAT THE LISTED PACKAGE-LEVEL VARIABLES READ AS WHEN THE CALL BEGINS. Each datum BY PROGRAM (the guide's laid-datum.mjs) off the statement by which the dump's own 'gosem.cut.vars' lays the variable. In a bare row this is a premise. The card (YthllcnigcnoghaaGreatDoorCards.lean) ties it to the program's text. -/
def laid_math_bits_deBruijn64tab {H : Type} : DataW H := .agg [.lit (.int .u8 0), .lit (.int .u8 1), .lit (.int .u8 56), .lit (.int .u8 2), .lit (.int .u8 57), .lit (.int .u8 49), .lit (.int .u8 28), .lit (.int .u8 3), .lit (.int .u8 61), .lit (.int .u8 58), .lit (.int .u8 42), .lit (.int .u8 50), .lit (.int .u8 38), .lit (.int .u8 29), .lit (.int .u8 17), .lit (.int .u8 4), .lit (.int .u8 62), .lit (.int .u8 47), .lit (.int .u8 59), .lit (.int .u8 36), .lit (.int .u8 45), .lit (.int .u8 43), .lit (.int .u8 51), .lit (.int .u8 22), .lit (.int .u8 53), .lit (.int .u8 39), .lit (.int .u8 33), .lit (.int .u8 30), .lit (.int .u8 24), .lit (.int .u8 18), .lit (.int .u8 12), .lit (.int .u8 5), .lit (.int .u8 63), .lit (.int .u8 55), .lit (.int .u8 48), .lit (.int .u8 27), .lit (.int .u8 60), .lit (.int .u8 41), .lit (.int .u8 37), .lit (.int .u8 16), .lit (.int .u8 46), .lit (.int .u8 35), .lit (.int .u8 44), .lit (.int .u8 21), .lit (.int .u8 52), .lit (.int .u8 32), .lit (.int .u8 23), .lit (.int .u8 11), .lit (.int .u8 54), .lit (.int .u8 26), .lit (.int .u8 40), .lit (.int .u8 15), .lit (.int .u8 34), .lit (.int .u8 20), .lit (.int .u8 31), .lit (.int .u8 10), .lit (.int .u8 25), .lit (.int .u8 14), .lit (.int .u8 19), .lit (.int .u8 9), .lit (.int .u8 13), .lit (.int .u8 8), .lit (.int .u8 7), .lit (.int .u8 6)]

/-- 'fathomlinelaw17.PicardAny': WHATEVER THE INPUT: true; the input reads as it did. -/
def picardAnySpec : ChangeSpec := { name := "picardAny", fn := fun _ => fun
  | [d1, d2, d3, d4, d5] => { results := [.lit (.bool true)], args := [d1, d2, d3, d4, d5] }
  | _ => none }
def picardAnyRow : OpenClaim := { program := "ythllcnigcnoghaagreatdoor", sum := "5d662b8427e294021c474fdd3023eaa1259b38d3e2bc476b1f93324772ad8cde", func := "fathomline/fathomlinelaw17.PicardAny", spec := "picardAny", inPlace := ["math/bits.Add64", "math/bits.Sub64"], unfollowed := true, recurses := true, named := ["math/bits.deBruijn64tab"], apart := false, laid := [("math/bits.deBruijn64tab", laid_math_bits_deBruijn64tab)] }
def PicardAnySaid : Prop := picardAnyRow.holds Tryz.pinned (OpenSpec.ofChange picardAnySpec)

/-- ITS FALSE NEIGHBOUR: 'it returns false'. Refute it at one input. -/
def picardAnyWrong : ChangeSpec := { name := "picardAny", fn := fun _ => fun
  | [d1, d2, d3, d4, d5] => { results := [.lit (.bool false)], args := [d1, d2, d3, d4, d5] }
  | _ => none }
def PicardAnyWrongFalsely : Prop := picardAnyRow.holds Tryz.pinned (OpenSpec.ofChange picardAnyWrong)

/-- 'fathomlinelaw17.PicardDrawn': WHATEVER THE INPUT: true; the input reads as it did. -/
def picardDrawnSpec : ChangeSpec := { name := "picardDrawn", fn := fun _ => fun
  | [d] => { results := [.lit (.bool true)], args := [d] }
  | _ => none }
def picardDrawnRow : OpenClaim := { program := "ythllcnigcnoghaagreatdoor", sum := "5d662b8427e294021c474fdd3023eaa1259b38d3e2bc476b1f93324772ad8cde", func := "fathomline/fathomlinelaw17.PicardDrawn", spec := "picardDrawn", inPlace := ["math/bits.Add64", "math/bits.Sub64"], unfollowed := true, recurses := true, named := ["math/bits.deBruijn64tab"], apart := false, laid := [("math/bits.deBruijn64tab", laid_math_bits_deBruijn64tab)] }
def PicardDrawnSaid : Prop := picardDrawnRow.holds Tryz.pinned (OpenSpec.ofChange picardDrawnSpec)

/-- ITS FALSE NEIGHBOUR: 'it returns false'. Refute it at one input. -/
def picardDrawnWrong : ChangeSpec := { name := "picardDrawn", fn := fun _ => fun
  | [d] => { results := [.lit (.bool false)], args := [d] }
  | _ => none }
def PicardDrawnWrongFalsely : Prop := picardDrawnRow.holds Tryz.pinned (OpenSpec.ofChange picardDrawnWrong)

/-- 'fathomlinelaw17.PicardSure': WHATEVER THE INPUT: true; the input reads as it did. -/
def picardSureSpec : ChangeSpec := { name := "picardSure", fn := fun _ => fun
  | [d] => { results := [.lit (.bool true)], args := [d] }
  | _ => none }
def picardSureRow : OpenClaim := { program := "ythllcnigcnoghaagreatdoor", sum := "5d662b8427e294021c474fdd3023eaa1259b38d3e2bc476b1f93324772ad8cde", func := "fathomline/fathomlinelaw17.PicardSure", spec := "picardSure", inPlace := ["math/bits.Add64", "math/bits.Sub64"], unfollowed := true, recurses := true, named := ["math/bits.deBruijn64tab"], apart := false, laid := [("math/bits.deBruijn64tab", laid_math_bits_deBruijn64tab)] }
def PicardSureSaid : Prop := picardSureRow.holds Tryz.pinned (OpenSpec.ofChange picardSureSpec)

/-- ITS FALSE NEIGHBOUR: 'it returns false'. Refute it at one input. -/
def picardSureWrong : ChangeSpec := { name := "picardSure", fn := fun _ => fun
  | [d] => { results := [.lit (.bool false)], args := [d] }
  | _ => none }
def PicardSureWrongFalsely : Prop := picardSureRow.holds Tryz.pinned (OpenSpec.ofChange picardSureWrong)

/-- 'fathomlinelaw17.PicardStairs': WHATEVER THE INPUT: true; the input reads as it did. -/
def picardStairsSpec : ChangeSpec := { name := "picardStairs", fn := fun _ => fun
  | [d] => { results := [.lit (.bool true)], args := [d] }
  | _ => none }
def picardStairsRow : OpenClaim := { program := "ythllcnigcnoghaagreatdoor", sum := "5d662b8427e294021c474fdd3023eaa1259b38d3e2bc476b1f93324772ad8cde", func := "fathomline/fathomlinelaw17.PicardStairs", spec := "picardStairs", inPlace := ["math/bits.Add64", "math/bits.Sub64"], unfollowed := true, recurses := true, named := ["math/bits.deBruijn64tab"], apart := false, laid := [("math/bits.deBruijn64tab", laid_math_bits_deBruijn64tab)] }
def PicardStairsSaid : Prop := picardStairsRow.holds Tryz.pinned (OpenSpec.ofChange picardStairsSpec)

/-- ITS FALSE NEIGHBOUR: 'it returns false'. Refute it at one input. -/
def picardStairsWrong : ChangeSpec := { name := "picardStairs", fn := fun _ => fun
  | [d] => { results := [.lit (.bool false)], args := [d] }
  | _ => none }
def PicardStairsWrongFalsely : Prop := picardStairsRow.holds Tryz.pinned (OpenSpec.ofChange picardStairsWrong)

/-- 'fathomlinelaw17.PicardFinds': WHATEVER THE INPUT: true; the input reads as it did. -/
def picardFindsSpec : ChangeSpec := { name := "picardFinds", fn := fun _ => fun
  | [d] => { results := [.lit (.bool true)], args := [d] }
  | _ => none }
def picardFindsRow : OpenClaim := { program := "ythllcnigcnoghaagreatdoor", sum := "5d662b8427e294021c474fdd3023eaa1259b38d3e2bc476b1f93324772ad8cde", func := "fathomline/fathomlinelaw17.PicardFinds", spec := "picardFinds", inPlace := ["math/bits.Add64", "math/bits.Sub64"], unfollowed := true, recurses := true, named := ["math/bits.deBruijn64tab"], apart := false, laid := [("math/bits.deBruijn64tab", laid_math_bits_deBruijn64tab)] }
def PicardFindsSaid : Prop := picardFindsRow.holds Tryz.pinned (OpenSpec.ofChange picardFindsSpec)

/-- ITS FALSE NEIGHBOUR: 'it returns false'. Refute it at one input. -/
def picardFindsWrong : ChangeSpec := { name := "picardFinds", fn := fun _ => fun
  | [d] => { results := [.lit (.bool false)], args := [d] }
  | _ => none }
def PicardFindsWrongFalsely : Prop := picardFindsRow.holds Tryz.pinned (OpenSpec.ofChange picardFindsWrong)

/-- 'fathomlinelaw15.FlowAny': WHATEVER THE INPUT: true; the input reads as it did. -/
def flowAnySpec : ChangeSpec := { name := "flowAny", fn := fun _ => fun
  | [d1, d2, d3, d4, d5] => { results := [.lit (.bool true)], args := [d1, d2, d3, d4, d5] }
  | _ => none }
def flowAnyRow : OpenClaim := { program := "ythllcnigcnoghaagreatdoor", sum := "5d662b8427e294021c474fdd3023eaa1259b38d3e2bc476b1f93324772ad8cde", func := "fathomline/fathomlinelaw15.FlowAny", spec := "flowAny", inPlace := ["math/bits.Add64", "math/bits.Sub64"], unfollowed := true, recurses := true, named := ["math/bits.deBruijn64tab", "math/bits.divideError", "math/bits.overflowError"], apart := false, laid := [("math/bits.deBruijn64tab", laid_math_bits_deBruijn64tab)] }
def FlowAnySaid : Prop := flowAnyRow.holds Tryz.pinned (OpenSpec.ofChange flowAnySpec)

/-- ITS FALSE NEIGHBOUR: 'it returns false'. Refute it at one input. -/
def flowAnyWrong : ChangeSpec := { name := "flowAny", fn := fun _ => fun
  | [d1, d2, d3, d4, d5] => { results := [.lit (.bool false)], args := [d1, d2, d3, d4, d5] }
  | _ => none }
def FlowAnyWrongFalsely : Prop := flowAnyRow.holds Tryz.pinned (OpenSpec.ofChange flowAnyWrong)

/-- 'fathomlinelaw15.FlowDrawn': WHATEVER THE INPUT: true; the input reads as it did. -/
def flowDrawnSpec : ChangeSpec := { name := "flowDrawn", fn := fun _ => fun
  | [d] => { results := [.lit (.bool true)], args := [d] }
  | _ => none }
def flowDrawnRow : OpenClaim := { program := "ythllcnigcnoghaagreatdoor", sum := "5d662b8427e294021c474fdd3023eaa1259b38d3e2bc476b1f93324772ad8cde", func := "fathomline/fathomlinelaw15.FlowDrawn", spec := "flowDrawn", inPlace := ["math/bits.Add64", "math/bits.Sub64"], unfollowed := true, recurses := true, named := ["math/bits.deBruijn64tab", "math/bits.divideError", "math/bits.overflowError"], apart := false, laid := [("math/bits.deBruijn64tab", laid_math_bits_deBruijn64tab)] }
def FlowDrawnSaid : Prop := flowDrawnRow.holds Tryz.pinned (OpenSpec.ofChange flowDrawnSpec)

/-- ITS FALSE NEIGHBOUR: 'it returns false'. Refute it at one input. -/
def flowDrawnWrong : ChangeSpec := { name := "flowDrawn", fn := fun _ => fun
  | [d] => { results := [.lit (.bool false)], args := [d] }
  | _ => none }
def FlowDrawnWrongFalsely : Prop := flowDrawnRow.holds Tryz.pinned (OpenSpec.ofChange flowDrawnWrong)

/- THE SECOND FORM. 'bulk': how many values and letters a reading holds, each counted each time it is reached (what is shared counts as often as it is met; a slice's spare places count too). A statement '..UptoSaid' is the law's where the arguments, and the package variables that the reading takes, are together of bulk at most 1048576: NARROWER than '..Said'. Prove '..Said' where nothing that the law and all that it calls make is longer than what came in: it says more and counts as full. Else prove '..UptoSaid'. A law counts once. -/
mutual
def uptoBulk {H : Type} : DataW H → Nat
  | .lit (.string bytes) => bytes.length + 1
  | .lit _ => 1
  | .nil => 1
  | .ptr d => uptoBulk d + 1
  | .slice elems spare => uptoBulkAll elems + uptoBulkAll spare + 1
  | .agg parts => uptoBulkAll parts + 1
  | .iface _ d => uptoBulk d + 1
  | .map entries => uptoBulkEntries entries + 1
  | .held _ => 1
def uptoBulkAll {H : Type} : List (DataW H) → Nat
  | [] => 0
  | d :: r => uptoBulk d + uptoBulkAll r
def uptoBulkEntries {H : Type} : List (Lit × DataW H) → Nat
  | [] => 0
  | x :: r => uptoBulkEntry x + uptoBulkEntries r
def uptoBulkEntry {H : Type} : Lit × DataW H → Nat
  | (.string bytes, d) => bytes.length + uptoBulk d + 1
  | (_, d) => uptoBulk d + 1
 end
def uptoSmall : (H : Type) → List (DataW H) → Bool := fun _ ds => decide (uptoBulkAll ds ≤ 1048576)
def OpenSpec.upto (s : _root_.Go.ChangeSpec) : _root_.Go.OpenSpec := { _root_.Go.OpenSpec.ofChange s with cond := some uptoSmall }

/-- 'fathomlinelaw17.PicardAny', WHERE WHAT IT READS IS OF BULK AT MOST 1048576: true; the input reads as it did. -/
def picardAnyUptoRow : OpenClaim := { program := "ythllcnigcnoghaagreatdoor", sum := "5d662b8427e294021c474fdd3023eaa1259b38d3e2bc476b1f93324772ad8cde", func := "fathomline/fathomlinelaw17.PicardAny", spec := "picardAny", inPlace := ["math/bits.Add64", "math/bits.Sub64"], unfollowed := true, recurses := true, named := ["math/bits.deBruijn64tab"], apart := false, laid := [("math/bits.deBruijn64tab", laid_math_bits_deBruijn64tab)], narrowed := true }
def PicardAnyUptoSaid : Prop := picardAnyUptoRow.holds Tryz.pinned (OpenSpec.upto picardAnySpec)

/-- 'fathomlinelaw17.PicardDrawn', WHERE WHAT IT READS IS OF BULK AT MOST 1048576: true; the input reads as it did. -/
def picardDrawnUptoRow : OpenClaim := { program := "ythllcnigcnoghaagreatdoor", sum := "5d662b8427e294021c474fdd3023eaa1259b38d3e2bc476b1f93324772ad8cde", func := "fathomline/fathomlinelaw17.PicardDrawn", spec := "picardDrawn", inPlace := ["math/bits.Add64", "math/bits.Sub64"], unfollowed := true, recurses := true, named := ["math/bits.deBruijn64tab"], apart := false, laid := [("math/bits.deBruijn64tab", laid_math_bits_deBruijn64tab)], narrowed := true }
def PicardDrawnUptoSaid : Prop := picardDrawnUptoRow.holds Tryz.pinned (OpenSpec.upto picardDrawnSpec)

/-- 'fathomlinelaw17.PicardSure', WHERE WHAT IT READS IS OF BULK AT MOST 1048576: true; the input reads as it did. -/
def picardSureUptoRow : OpenClaim := { program := "ythllcnigcnoghaagreatdoor", sum := "5d662b8427e294021c474fdd3023eaa1259b38d3e2bc476b1f93324772ad8cde", func := "fathomline/fathomlinelaw17.PicardSure", spec := "picardSure", inPlace := ["math/bits.Add64", "math/bits.Sub64"], unfollowed := true, recurses := true, named := ["math/bits.deBruijn64tab"], apart := false, laid := [("math/bits.deBruijn64tab", laid_math_bits_deBruijn64tab)], narrowed := true }
def PicardSureUptoSaid : Prop := picardSureUptoRow.holds Tryz.pinned (OpenSpec.upto picardSureSpec)

/-- 'fathomlinelaw17.PicardStairs', WHERE WHAT IT READS IS OF BULK AT MOST 1048576: true; the input reads as it did. -/
def picardStairsUptoRow : OpenClaim := { program := "ythllcnigcnoghaagreatdoor", sum := "5d662b8427e294021c474fdd3023eaa1259b38d3e2bc476b1f93324772ad8cde", func := "fathomline/fathomlinelaw17.PicardStairs", spec := "picardStairs", inPlace := ["math/bits.Add64", "math/bits.Sub64"], unfollowed := true, recurses := true, named := ["math/bits.deBruijn64tab"], apart := false, laid := [("math/bits.deBruijn64tab", laid_math_bits_deBruijn64tab)], narrowed := true }
def PicardStairsUptoSaid : Prop := picardStairsUptoRow.holds Tryz.pinned (OpenSpec.upto picardStairsSpec)

/-- 'fathomlinelaw17.PicardFinds', WHERE WHAT IT READS IS OF BULK AT MOST 1048576: true; the input reads as it did. -/
def picardFindsUptoRow : OpenClaim := { program := "ythllcnigcnoghaagreatdoor", sum := "5d662b8427e294021c474fdd3023eaa1259b38d3e2bc476b1f93324772ad8cde", func := "fathomline/fathomlinelaw17.PicardFinds", spec := "picardFinds", inPlace := ["math/bits.Add64", "math/bits.Sub64"], unfollowed := true, recurses := true, named := ["math/bits.deBruijn64tab"], apart := false, laid := [("math/bits.deBruijn64tab", laid_math_bits_deBruijn64tab)], narrowed := true }
def PicardFindsUptoSaid : Prop := picardFindsUptoRow.holds Tryz.pinned (OpenSpec.upto picardFindsSpec)

/-- 'fathomlinelaw15.FlowAny', WHERE WHAT IT READS IS OF BULK AT MOST 1048576: true; the input reads as it did. -/
def flowAnyUptoRow : OpenClaim := { program := "ythllcnigcnoghaagreatdoor", sum := "5d662b8427e294021c474fdd3023eaa1259b38d3e2bc476b1f93324772ad8cde", func := "fathomline/fathomlinelaw15.FlowAny", spec := "flowAny", inPlace := ["math/bits.Add64", "math/bits.Sub64"], unfollowed := true, recurses := true, named := ["math/bits.deBruijn64tab", "math/bits.divideError", "math/bits.overflowError"], apart := false, laid := [("math/bits.deBruijn64tab", laid_math_bits_deBruijn64tab)], narrowed := true }
def FlowAnyUptoSaid : Prop := flowAnyUptoRow.holds Tryz.pinned (OpenSpec.upto flowAnySpec)

/-- 'fathomlinelaw15.FlowDrawn', WHERE WHAT IT READS IS OF BULK AT MOST 1048576: true; the input reads as it did. -/
def flowDrawnUptoRow : OpenClaim := { program := "ythllcnigcnoghaagreatdoor", sum := "5d662b8427e294021c474fdd3023eaa1259b38d3e2bc476b1f93324772ad8cde", func := "fathomline/fathomlinelaw15.FlowDrawn", spec := "flowDrawn", inPlace := ["math/bits.Add64", "math/bits.Sub64"], unfollowed := true, recurses := true, named := ["math/bits.deBruijn64tab", "math/bits.divideError", "math/bits.overflowError"], apart := false, laid := [("math/bits.deBruijn64tab", laid_math_bits_deBruijn64tab)], narrowed := true }
def FlowDrawnUptoSaid : Prop := flowDrawnUptoRow.holds Tryz.pinned (OpenSpec.upto flowDrawnSpec)

end Rows
end Go.Proofs.YthllcnigcnoghaaGreatDoor
