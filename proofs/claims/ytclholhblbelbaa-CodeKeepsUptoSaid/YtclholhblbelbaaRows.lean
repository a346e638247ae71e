/-
  No cell of these rows narrows 'for every input' (looked for: loops, veiled, ifaces, maps, wideKeys, modest, calm, conditions, laid).
  DERIVED. THE GIVEN ROWS OF THIS SEAT. 10 by the template 'for every input the law returns true; each argument reads behind the call as it read before'; 0 by the template 'total and deterministic' (their statements: YtclholhblbelbaaTotals.lean).
  GIVEN WITH THE SEED: the statements are not yours to turn. If you find one false, say at which input.
  Laid BY PROGRAM, IN A SANDBOX (cutbox-rows.mjs): the forced cells as the released guide's own fill.sh prints them over the translation 44325ab08f35a8ce… (all of the seat's roots in one cut). By AI agents, Wed Nov 11 2026. No macro, syntax, notation, axiom, sorry.
-/
import Derived.Test.YtclholhblbelbaaChecked
import GoSem.Claim
import GoSem.ClaimJoined
import GoSem.ClaimMapViews
import Derived.JoinedTies
import Derived.KernelRfl
namespace Go.Proofs.Ytclholhblbelbaa
/- THE CELL 'sum', in the pinned program and in every row, IS THE sha256 OF THE DUMP (.gsa) THAT YtclholhblbelbaaProg.lean LOADS. Nothing in Lean hashes anything: it is a label: what it is worth is what the hold of that sum in a sandbox is worth. -/
noncomputable def Try.pinned : Pinned := { name := "ytclholhblbelbaa", sum := "44325ab08f35a8ce30c09c5c2b11ca729464b149918c68ba1db3ba8d0bff5b45", checked := Try.checked }
namespace Rows
def none {H : Type} : Left H := { results := [], args := [] }

/-- 'fathomlinelaw27.MergeAny': WHATEVER THE INPUT: true; the input reads as it did. -/
def mergeAnySpec : ChangeSpec := { name := "mergeAny", fn := fun _ => fun
  | [d1, d2, d3] => { results := [.lit (.bool true)], args := [d1, d2, d3] }
  | _ => none }
def mergeAnyRow : OpenClaim := { program := "ytclholhblbelbaa", sum := "44325ab08f35a8ce30c09c5c2b11ca729464b149918c68ba1db3ba8d0bff5b45", func := "fathomline/fathomlinelaw27.MergeAny", spec := "mergeAny", unfollowed := true, recurses := true, apart := false }
def MergeAnySaid : Prop := mergeAnyRow.holds Try.pinned (OpenSpec.ofChange mergeAnySpec)

/-- ITS FALSE NEIGHBOUR: 'it returns false'. Refute it at one input. -/
def mergeAnyWrong : ChangeSpec := { name := "mergeAny", fn := fun _ => fun
  | [d1, d2, d3] => { results := [.lit (.bool false)], args := [d1, d2, d3] }
  | _ => none }
def MergeAnyWrongFalsely : Prop := mergeAnyRow.holds Try.pinned (OpenSpec.ofChange mergeAnyWrong)

/-- 'fathomlinelaw27.MergeDrawn': WHATEVER THE INPUT: true; the input reads as it did. -/
def mergeDrawnSpec : ChangeSpec := { name := "mergeDrawn", fn := fun _ => fun
  | [d] => { results := [.lit (.bool true)], args := [d] }
  | _ => none }
def mergeDrawnRow : OpenClaim := { program := "ytclholhblbelbaa", sum := "44325ab08f35a8ce30c09c5c2b11ca729464b149918c68ba1db3ba8d0bff5b45", func := "fathomline/fathomlinelaw27.MergeDrawn", spec := "mergeDrawn", unfollowed := true, recurses := true, apart := false }
def MergeDrawnSaid : Prop := mergeDrawnRow.holds Try.pinned (OpenSpec.ofChange mergeDrawnSpec)

/-- ITS FALSE NEIGHBOUR: 'it returns false'. Refute it at one input. -/
def mergeDrawnWrong : ChangeSpec := { name := "mergeDrawn", fn := fun _ => fun
  | [d] => { results := [.lit (.bool false)], args := [d] }
  | _ => none }
def MergeDrawnWrongFalsely : Prop := mergeDrawnRow.holds Try.pinned (OpenSpec.ofChange mergeDrawnWrong)

/-- 'fathomlinelaw27.MergeKeeps': WHATEVER THE INPUT: true; the input reads as it did. -/
def mergeKeepsSpec : ChangeSpec := { name := "mergeKeeps", fn := fun _ => fun
  | [d] => { results := [.lit (.bool true)], args := [d] }
  | _ => none }
def mergeKeepsRow : OpenClaim := { program := "ytclholhblbelbaa", sum := "44325ab08f35a8ce30c09c5c2b11ca729464b149918c68ba1db3ba8d0bff5b45", func := "fathomline/fathomlinelaw27.MergeKeeps", spec := "mergeKeeps", unfollowed := true, recurses := true, apart := false }
def MergeKeepsSaid : Prop := mergeKeepsRow.holds Try.pinned (OpenSpec.ofChange mergeKeepsSpec)

/-- ITS FALSE NEIGHBOUR: 'it returns false'. Refute it at one input. -/
def mergeKeepsWrong : ChangeSpec := { name := "mergeKeeps", fn := fun _ => fun
  | [d] => { results := [.lit (.bool false)], args := [d] }
  | _ => none }
def MergeKeepsWrongFalsely : Prop := mergeKeepsRow.holds Try.pinned (OpenSpec.ofChange mergeKeepsWrong)

/-- 'fathomlinelaw22.CodePuts': WHATEVER THE INPUT: true; the input reads as it did. -/
def codePutsSpec : ChangeSpec := { name := "codePuts", fn := fun _ => fun
  | [d1, d2, d3, d4, d5, d6] => { results := [.lit (.bool true)], args := [d1, d2, d3, d4, d5, d6] }
  | _ => none }
def codePutsRow : OpenClaim := { program := "ytclholhblbelbaa", sum := "44325ab08f35a8ce30c09c5c2b11ca729464b149918c68ba1db3ba8d0bff5b45", func := "fathomline/fathomlinelaw22.CodePuts", spec := "codePuts", unfollowed := true, recurses := true, apart := false }
def CodePutsSaid : Prop := codePutsRow.holds Try.pinned (OpenSpec.ofChange codePutsSpec)

/-- ITS FALSE NEIGHBOUR: 'it returns false'. Refute it at one input. -/
def codePutsWrong : ChangeSpec := { name := "codePuts", fn := fun _ => fun
  | [d1, d2, d3, d4, d5, d6] => { results := [.lit (.bool false)], args := [d1, d2, d3, d4, d5, d6] }
  | _ => none }
def CodePutsWrongFalsely : Prop := codePutsRow.holds Try.pinned (OpenSpec.ofChange codePutsWrong)

/-- 'fathomlinelaw22.CodeReads': WHATEVER THE INPUT: true; the input reads as it did. -/
def codeReadsSpec : ChangeSpec := { name := "codeReads", fn := fun _ => fun
  | [d1, d2] => { results := [.lit (.bool true)], args := [d1, d2] }
  | _ => none }
def codeReadsRow : OpenClaim := { program := "ytclholhblbelbaa", sum := "44325ab08f35a8ce30c09c5c2b11ca729464b149918c68ba1db3ba8d0bff5b45", func := "fathomline/fathomlinelaw22.CodeReads", spec := "codeReads", unfollowed := true, recurses := true, apart := false }
def CodeReadsSaid : Prop := codeReadsRow.holds Try.pinned (OpenSpec.ofChange codeReadsSpec)

/-- ITS FALSE NEIGHBOUR: 'it returns false'. Refute it at one input. -/
def codeReadsWrong : ChangeSpec := { name := "codeReads", fn := fun _ => fun
  | [d1, d2] => { results := [.lit (.bool false)], args := [d1, d2] }
  | _ => none }
def CodeReadsWrongFalsely : Prop := codeReadsRow.holds Try.pinned (OpenSpec.ofChange codeReadsWrong)

/-- 'fathomlinelaw22.CodeBack': WHATEVER THE INPUT: true; the input reads as it did. -/
def codeBackSpec : ChangeSpec := { name := "codeBack", fn := fun _ => fun
  | [d1, d2] => { results := [.lit (.bool true)], args := [d1, d2] }
  | _ => none }
def codeBackRow : OpenClaim := { program := "ytclholhblbelbaa", sum := "44325ab08f35a8ce30c09c5c2b11ca729464b149918c68ba1db3ba8d0bff5b45", func := "fathomline/fathomlinelaw22.CodeBack", spec := "codeBack", unfollowed := true, recurses := true, apart := false }
def CodeBackSaid : Prop := codeBackRow.holds Try.pinned (OpenSpec.ofChange codeBackSpec)

/-- ITS FALSE NEIGHBOUR: 'it returns false'. Refute it at one input. -/
def codeBackWrong : ChangeSpec := { name := "codeBack", fn := fun _ => fun
  | [d1, d2] => { results := [.lit (.bool false)], args := [d1, d2] }
  | _ => none }
def CodeBackWrongFalsely : Prop := codeBackRow.holds Try.pinned (OpenSpec.ofChange codeBackWrong)

/-- 'fathomlinelaw22.CodeOne': WHATEVER THE INPUT: true; the input reads as it did. -/
def codeOneSpec : ChangeSpec := { name := "codeOne", fn := fun _ => fun
  | [d1, d2, d3, d4, d5] => { results := [.lit (.bool true)], args := [d1, d2, d3, d4, d5] }
  | _ => none }
def codeOneRow : OpenClaim := { program := "ytclholhblbelbaa", sum := "44325ab08f35a8ce30c09c5c2b11ca729464b149918c68ba1db3ba8d0bff5b45", func := "fathomline/fathomlinelaw22.CodeOne", spec := "codeOne", unfollowed := true, recurses := true, apart := false }
def CodeOneSaid : Prop := codeOneRow.holds Try.pinned (OpenSpec.ofChange codeOneSpec)

/-- ITS FALSE NEIGHBOUR: 'it returns false'. Refute it at one input. -/
def codeOneWrong : ChangeSpec := { name := "codeOne", fn := fun _ => fun
  | [d1, d2, d3, d4, d5] => { results := [.lit (.bool false)], args := [d1, d2, d3, d4, d5] }
  | _ => none }
def CodeOneWrongFalsely : Prop := codeOneRow.holds Try.pinned (OpenSpec.ofChange codeOneWrong)

/-- 'fathomlinelaw22.CodeKeeps': WHATEVER THE INPUT: true; the input reads as it did. -/
def codeKeepsSpec : ChangeSpec := { name := "codeKeeps", fn := fun _ => fun
  | [d] => { results := [.lit (.bool true)], args := [d] }
  | _ => none }
def codeKeepsRow : OpenClaim := { program := "ytclholhblbelbaa", sum := "44325ab08f35a8ce30c09c5c2b11ca729464b149918c68ba1db3ba8d0bff5b45", func := "fathomline/fathomlinelaw22.CodeKeeps", spec := "codeKeeps", unfollowed := true, recurses := true, apart := false }
def CodeKeepsSaid : Prop := codeKeepsRow.holds Try.pinned (OpenSpec.ofChange codeKeepsSpec)

/-- ITS FALSE NEIGHBOUR: 'it returns false'. Refute it at one input. -/
def codeKeepsWrong : ChangeSpec := { name := "codeKeeps", fn := fun _ => fun
  | [d] => { results := [.lit (.bool false)], args := [d] }
  | _ => none }
def CodeKeepsWrongFalsely : Prop := codeKeepsRow.holds Try.pinned (OpenSpec.ofChange codeKeepsWrong)

/-- 'fathomlinelaw27.MergeTwice': WHATEVER THE INPUT: true; the input reads as it did. -/
def mergeTwiceSpec : ChangeSpec := { name := "mergeTwice", fn := fun _ => fun
  | [d] => { results := [.lit (.bool true)], args := [d] }
  | _ => none }
def mergeTwiceRow : OpenClaim := { program := "ytclholhblbelbaa", sum := "44325ab08f35a8ce30c09c5c2b11ca729464b149918c68ba1db3ba8d0bff5b45", func := "fathomline/fathomlinelaw27.MergeTwice", spec := "mergeTwice", unfollowed := true, recurses := true, apart := false }
def MergeTwiceSaid : Prop := mergeTwiceRow.holds Try.pinned (OpenSpec.ofChange mergeTwiceSpec)

/-- ITS FALSE NEIGHBOUR: 'it returns false'. Refute it at one input. -/
def mergeTwiceWrong : ChangeSpec := { name := "mergeTwice", fn := fun _ => fun
  | [d] => { results := [.lit (.bool false)], args := [d] }
  | _ => none }
def MergeTwiceWrongFalsely : Prop := mergeTwiceRow.holds Try.pinned (OpenSpec.ofChange mergeTwiceWrong)

/-- 'fathomlinelaw27.MergeCovers': WHATEVER THE INPUT: true; the input reads as it did. -/
def mergeCoversSpec : ChangeSpec := { name := "mergeCovers", fn := fun _ => fun
  | [d] => { results := [.lit (.bool true)], args := [d] }
  | _ => none }
def mergeCoversRow : OpenClaim := { program := "ytclholhblbelbaa", sum := "44325ab08f35a8ce30c09c5c2b11ca729464b149918c68ba1db3ba8d0bff5b45", func := "fathomline/fathomlinelaw27.MergeCovers", spec := "mergeCovers", unfollowed := true, recurses := true, apart := false }
def MergeCoversSaid : Prop := mergeCoversRow.holds Try.pinned (OpenSpec.ofChange mergeCoversSpec)

/-- ITS FALSE NEIGHBOUR: 'it returns false'. Refute it at one input. -/
def mergeCoversWrong : ChangeSpec := { name := "mergeCovers", fn := fun _ => fun
  | [d] => { results := [.lit (.bool false)], args := [d] }
  | _ => none }
def MergeCoversWrongFalsely : Prop := mergeCoversRow.holds Try.pinned (OpenSpec.ofChange mergeCoversWrong)

/- THE SECOND FORM. 'bulk': how many values and letters a reading holds, each counted each time it is reached (what is shared counts as often as it is met; a slice's spare places count too). A statement '..UptoSaid' is the law's where the arguments, and the package variables that the reading takes, are together of bulk at most 1048576: NARROWER than '..Said'. Prove '..Said' where nothing that the law and all that it calls make is longer than what came in: it says more and counts as full. Else prove '..UptoSaid'. A law counts once. -/
mutual
def uptoBulk {H : Type} : DataW H → Nat
  | .lit (.string bytes) => bytes.length + 1
  | .lit _ => 1
  | .nil => 1
  | .ptr d => uptoBulk d + 1
  | .slice elems spare => uptoBulkAll elems + uptoBulkAll spare + 1
  | .agg parts => uptoBulkAll parts + 1
  | .iface _ d => uptoBulk d + 1
  | .map entries => uptoBulkEntries entries + 1
  | .held _ => 1
def uptoBulkAll {H : Type} : List (DataW H) → Nat
  | [] => 0
  | d :: r => uptoBulk d + uptoBulkAll r
def uptoBulkEntries {H : Type} : List (Lit × DataW H) → Nat
  | [] => 0
  | x :: r => uptoBulkEntry x + uptoBulkEntries r
def uptoBulkEntry {H : Type} : Lit × DataW H → Nat
  | (.string bytes, d) => bytes.length + uptoBulk d + 1
  | (_, d) => uptoBulk d + 1
 end
def uptoSmall : (H : Type) → List (DataW H) → Bool := fun _ ds => decide (uptoBulkAll ds ≤ 1048576)
def OpenSpec.upto (s : _root_.Go.ChangeSpec) : _root_.Go.OpenSpec := { _root_.Go.OpenSpec.ofChange s with cond := some uptoSmall }

/-- 'fathomlinelaw27.MergeAny', WHERE WHAT IT READS IS OF BULK AT MOST 1048576: true; the input reads as it did. -/
def mergeAnyUptoRow : OpenClaim := { program := "ytclholhblbelbaa", sum := "44325ab08f35a8ce30c09c5c2b11ca729464b149918c68ba1db3ba8d0bff5b45", func := "fathomline/fathomlinelaw27.MergeAny", spec := "mergeAny", unfollowed := true, recurses := true, apart := false, narrowed := true }
def MergeAnyUptoSaid : Prop := mergeAnyUptoRow.holds Try.pinned (OpenSpec.upto mergeAnySpec)

/-- 'fathomlinelaw27.MergeDrawn', WHERE WHAT IT READS IS OF BULK AT MOST 1048576: true; the input reads as it did. -/
def mergeDrawnUptoRow : OpenClaim := { program := "ytclholhblbelbaa", sum := "44325ab08f35a8ce30c09c5c2b11ca729464b149918c68ba1db3ba8d0bff5b45", func := "fathomline/fathomlinelaw27.MergeDrawn", spec := "mergeDrawn", unfollowed := true, recurses := true, apart := false, narrowed := true }
def MergeDrawnUptoSaid : Prop := mergeDrawnUptoRow.holds Try.pinned (OpenSpec.upto mergeDrawnSpec)

/-- 'fathomlinelaw27.MergeKeeps', WHERE WHAT IT READS IS OF BULK AT MOST 1048576: true; the input reads as it did. -/
def mergeKeepsUptoRow : OpenClaim := { program := "ytclholhblbelbaa", sum := "44325ab08f35a8ce30c09c5c2b11ca729464b149918c68ba1db3ba8d0bff5b45", func := "fathomline/fathomlinelaw27.MergeKeeps", spec := "mergeKeeps", unfollowed := true, recurses := true, apart := false, narrowed := true }
def MergeKeepsUptoSaid : Prop := mergeKeepsUptoRow.holds Try.pinned (OpenSpec.upto mergeKeepsSpec)

/-- 'fathomlinelaw22.CodePuts', WHERE WHAT IT READS IS OF BULK AT MOST 1048576: true; the input reads as it did. -/
def codePutsUptoRow : OpenClaim := { program := "ytclholhblbelbaa", sum := "44325ab08f35a8ce30c09c5c2b11ca729464b149918c68ba1db3ba8d0bff5b45", func := "fathomline/fathomlinelaw22.CodePuts", spec := "codePuts", unfollowed := true, recurses := true, apart := false, narrowed := true }
def CodePutsUptoSaid : Prop := codePutsUptoRow.holds Try.pinned (OpenSpec.upto codePutsSpec)

/-- 'fathomlinelaw22.CodeReads', WHERE WHAT IT READS IS OF BULK AT MOST 1048576: true; the input reads as it did. -/
def codeReadsUptoRow : OpenClaim := { program := "ytclholhblbelbaa", sum := "44325ab08f35a8ce30c09c5c2b11ca729464b149918c68ba1db3ba8d0bff5b45", func := "fathomline/fathomlinelaw22.CodeReads", spec := "codeReads", unfollowed := true, recurses := true, apart := false, narrowed := true }
def CodeReadsUptoSaid : Prop := codeReadsUptoRow.holds Try.pinned (OpenSpec.upto codeReadsSpec)

/-- 'fathomlinelaw22.CodeBack', WHERE WHAT IT READS IS OF BULK AT MOST 1048576: true; the input reads as it did. -/
def codeBackUptoRow : OpenClaim := { program := "ytclholhblbelbaa", sum := "44325ab08f35a8ce30c09c5c2b11ca729464b149918c68ba1db3ba8d0bff5b45", func := "fathomline/fathomlinelaw22.CodeBack", spec := "codeBack", unfollowed := true, recurses := true, apart := false, narrowed := true }
def CodeBackUptoSaid : Prop := codeBackUptoRow.holds Try.pinned (OpenSpec.upto codeBackSpec)

/-- 'fathomlinelaw22.CodeOne', WHERE WHAT IT READS IS OF BULK AT MOST 1048576: true; the input reads as it did. -/
def codeOneUptoRow : OpenClaim := { program := "ytclholhblbelbaa", sum := "44325ab08f35a8ce30c09c5c2b11ca729464b149918c68ba1db3ba8d0bff5b45", func := "fathomline/fathomlinelaw22.CodeOne", spec := "codeOne", unfollowed := true, recurses := true, apart := false, narrowed := true }
def CodeOneUptoSaid : Prop := codeOneUptoRow.holds Try.pinned (OpenSpec.upto codeOneSpec)

/-- 'fathomlinelaw22.CodeKeeps', WHERE WHAT IT READS IS OF BULK AT MOST 1048576: true; the input reads as it did. -/
def codeKeepsUptoRow : OpenClaim := { program := "ytclholhblbelbaa", sum := "44325ab08f35a8ce30c09c5c2b11ca729464b149918c68ba1db3ba8d0bff5b45", func := "fathomline/fathomlinelaw22.CodeKeeps", spec := "codeKeeps", unfollowed := true, recurses := true, apart := false, narrowed := true }
def CodeKeepsUptoSaid : Prop := codeKeepsUptoRow.holds Try.pinned (OpenSpec.upto codeKeepsSpec)

/-- 'fathomlinelaw27.MergeTwice', WHERE WHAT IT READS IS OF BULK AT MOST 1048576: true; the input reads as it did. -/
def mergeTwiceUptoRow : OpenClaim := { program := "ytclholhblbelbaa", sum := "44325ab08f35a8ce30c09c5c2b11ca729464b149918c68ba1db3ba8d0bff5b45", func := "fathomline/fathomlinelaw27.MergeTwice", spec := "mergeTwice", unfollowed := true, recurses := true, apart := false, narrowed := true }
def MergeTwiceUptoSaid : Prop := mergeTwiceUptoRow.holds Try.pinned (OpenSpec.upto mergeTwiceSpec)

/-- 'fathomlinelaw27.MergeCovers', WHERE WHAT IT READS IS OF BULK AT MOST 1048576: true; the input reads as it did. -/
def mergeCoversUptoRow : OpenClaim := { program := "ytclholhblbelbaa", sum := "44325ab08f35a8ce30c09c5c2b11ca729464b149918c68ba1db3ba8d0bff5b45", func := "fathomline/fathomlinelaw27.MergeCovers", spec := "mergeCovers", unfollowed := true, recurses := true, apart := false, narrowed := true }
def MergeCoversUptoSaid : Prop := mergeCoversUptoRow.holds Try.pinned (OpenSpec.upto mergeCoversSpec)

end Rows
end Go.Proofs.Ytclholhblbelbaa
