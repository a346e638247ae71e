/-
  No cell of these rows narrows 'for every input' (looked for: loops, veiled, ifaces, maps, wideKeys, modest, calm, conditions, laid).
  DERIVED. THE GIVEN ROWS OF THIS SEAT. 5 by the template 'for every input the law returns true; each argument reads behind the call as it read before'; 0 by the template 'total and deterministic' (their statements: YthichlfphjbadaaGreatTotals.lean).
  GIVEN WITH THE SEED: the statements are not yours to turn. If you find one false, say at which input.
  Laid BY PROGRAM, IN A SANDBOX (cutbox-rows.mjs): the forced cells as the released guide's own fill.sh prints them over the translation 688d822b79c9963d… (all of the seat's roots in one cut). By AI agents, Wed Nov 11 2026. No macro, syntax, notation, axiom, sorry.
-/
import Derived.Test.YthichlfphjbadaaGreatChecked
import GoSem.Claim
import GoSem.ClaimJoined
import GoSem.ClaimMapViews
import Derived.JoinedTies
import Derived.KernelRfl
namespace Go.Proofs.YthichlfphjbadaaGreat
/- THE CELL 'sum', in the pinned program and in every row, IS THE sha256 OF THE DUMP (.gsa) THAT YthichlfphjbadaaGreatProg.lean LOADS. Nothing in Lean hashes anything: it is a label: what it is worth is what the hold of that sum in a sandbox is worth. -/
noncomputable def Tryz.pinned : Pinned := { name := "ythichlfphjbadaagreat", sum := "688d822b79c9963d3f72d4e833338138c12253d43fa40d67e0e2c9f696a9a42b", checked := Tryz.checked }
namespace Rows
def none {H : Type} : Left H := { results := [], args := [] }

/-- 'fathomlinelaw23.RecordSegs': WHATEVER THE INPUT: true; the input reads as it did. -/
def recordSegsSpec : ChangeSpec := { name := "recordSegs", fn := fun _ => fun
  | [d1, d2, d3] => { results := [.lit (.bool true)], args := [d1, d2, d3] }
  | _ => none }
def recordSegsRow : OpenClaim := { program := "ythichlfphjbadaagreat", sum := "688d822b79c9963d3f72d4e833338138c12253d43fa40d67e0e2c9f696a9a42b", func := "fathomline/fathomlinelaw23.RecordSegs", spec := "recordSegs", unfollowed := true, recurses := true, apart := false }
def RecordSegsSaid : Prop := recordSegsRow.holds Tryz.pinned (OpenSpec.ofChange recordSegsSpec)

/-- ITS FALSE NEIGHBOUR: 'it returns false'. Refute it at one input. -/
def recordSegsWrong : ChangeSpec := { name := "recordSegs", fn := fun _ => fun
  | [d1, d2, d3] => { results := [.lit (.bool false)], args := [d1, d2, d3] }
  | _ => none }
def RecordSegsWrongFalsely : Prop := recordSegsRow.holds Tryz.pinned (OpenSpec.ofChange recordSegsWrong)

/-- 'fathomlinelaw23.RecordStates': WHATEVER THE INPUT: true; the input reads as it did. -/
def recordStatesSpec : ChangeSpec := { name := "recordStates", fn := fun _ => fun
  | [d1, d2] => { results := [.lit (.bool true)], args := [d1, d2] }
  | _ => none }
def recordStatesRow : OpenClaim := { program := "ythichlfphjbadaagreat", sum := "688d822b79c9963d3f72d4e833338138c12253d43fa40d67e0e2c9f696a9a42b", func := "fathomline/fathomlinelaw23.RecordStates", spec := "recordStates", unfollowed := true, recurses := true, apart := false }
def RecordStatesSaid : Prop := recordStatesRow.holds Tryz.pinned (OpenSpec.ofChange recordStatesSpec)

/-- ITS FALSE NEIGHBOUR: 'it returns false'. Refute it at one input. -/
def recordStatesWrong : ChangeSpec := { name := "recordStates", fn := fun _ => fun
  | [d1, d2] => { results := [.lit (.bool false)], args := [d1, d2] }
  | _ => none }
def RecordStatesWrongFalsely : Prop := recordStatesRow.holds Tryz.pinned (OpenSpec.ofChange recordStatesWrong)

/-- 'fathomlinelaw23.RecordReads': WHATEVER THE INPUT: true; the input reads as it did. -/
def recordReadsSpec : ChangeSpec := { name := "recordReads", fn := fun _ => fun
  | [d] => { results := [.lit (.bool true)], args := [d] }
  | _ => none }
def recordReadsRow : OpenClaim := { program := "ythichlfphjbadaagreat", sum := "688d822b79c9963d3f72d4e833338138c12253d43fa40d67e0e2c9f696a9a42b", func := "fathomline/fathomlinelaw23.RecordReads", spec := "recordReads", unfollowed := true, recurses := true, apart := false }
def RecordReadsSaid : Prop := recordReadsRow.holds Tryz.pinned (OpenSpec.ofChange recordReadsSpec)

/-- ITS FALSE NEIGHBOUR: 'it returns false'. Refute it at one input. -/
def recordReadsWrong : ChangeSpec := { name := "recordReads", fn := fun _ => fun
  | [d] => { results := [.lit (.bool false)], args := [d] }
  | _ => none }
def RecordReadsWrongFalsely : Prop := recordReadsRow.holds Tryz.pinned (OpenSpec.ofChange recordReadsWrong)

/-- 'fathomlinelaw23.RecordBack': WHATEVER THE INPUT: true; the input reads as it did. -/
def recordBackSpec : ChangeSpec := { name := "recordBack", fn := fun _ => fun
  | [d] => { results := [.lit (.bool true)], args := [d] }
  | _ => none }
def recordBackRow : OpenClaim := { program := "ythichlfphjbadaagreat", sum := "688d822b79c9963d3f72d4e833338138c12253d43fa40d67e0e2c9f696a9a42b", func := "fathomline/fathomlinelaw23.RecordBack", spec := "recordBack", unfollowed := true, recurses := true, apart := false }
def RecordBackSaid : Prop := recordBackRow.holds Tryz.pinned (OpenSpec.ofChange recordBackSpec)

/-- ITS FALSE NEIGHBOUR: 'it returns false'. Refute it at one input. -/
def recordBackWrong : ChangeSpec := { name := "recordBack", fn := fun _ => fun
  | [d] => { results := [.lit (.bool false)], args := [d] }
  | _ => none }
def RecordBackWrongFalsely : Prop := recordBackRow.holds Tryz.pinned (OpenSpec.ofChange recordBackWrong)

/-- 'fathomlinelaw23.RecordSpoilt': WHATEVER THE INPUT: true; the input reads as it did. -/
def recordSpoiltSpec : ChangeSpec := { name := "recordSpoilt", fn := fun _ => fun
  | [d1, d2, d3, d4] => { results := [.lit (.bool true)], args := [d1, d2, d3, d4] }
  | _ => none }
def recordSpoiltRow : OpenClaim := { program := "ythichlfphjbadaagreat", sum := "688d822b79c9963d3f72d4e833338138c12253d43fa40d67e0e2c9f696a9a42b", func := "fathomline/fathomlinelaw23.RecordSpoilt", spec := "recordSpoilt", unfollowed := true, recurses := true, apart := false }
def RecordSpoiltSaid : Prop := recordSpoiltRow.holds Tryz.pinned (OpenSpec.ofChange recordSpoiltSpec)

/-- ITS FALSE NEIGHBOUR: 'it returns false'. Refute it at one input. -/
def recordSpoiltWrong : ChangeSpec := { name := "recordSpoilt", fn := fun _ => fun
  | [d1, d2, d3, d4] => { results := [.lit (.bool false)], args := [d1, d2, d3, d4] }
  | _ => none }
def RecordSpoiltWrongFalsely : Prop := recordSpoiltRow.holds Tryz.pinned (OpenSpec.ofChange recordSpoiltWrong)

/- THE SECOND FORM. 'bulk': how many values and letters a reading holds, each counted each time it is reached (what is shared counts as often as it is met; a slice's spare places count too). A statement '..UptoSaid' is the law's where the arguments, and the package variables that the reading takes, are together of bulk at most 1048576: NARROWER than '..Said'. Prove '..Said' where nothing that the law and all that it calls make is longer than what came in: it says more and counts as full. Else prove '..UptoSaid'. A law counts once. -/
mutual
def uptoBulk {H : Type} : DataW H → Nat
  | .lit (.string bytes) => bytes.length + 1
  | .lit _ => 1
  | .nil => 1
  | .ptr d => uptoBulk d + 1
  | .slice elems spare => uptoBulkAll elems + uptoBulkAll spare + 1
  | .agg parts => uptoBulkAll parts + 1
  | .iface _ d => uptoBulk d + 1
  | .map entries => uptoBulkEntries entries + 1
  | .held _ => 1
def uptoBulkAll {H : Type} : List (DataW H) → Nat
  | [] => 0
  | d :: r => uptoBulk d + uptoBulkAll r
def uptoBulkEntries {H : Type} : List (Lit × DataW H) → Nat
  | [] => 0
  | x :: r => uptoBulkEntry x + uptoBulkEntries r
def uptoBulkEntry {H : Type} : Lit × DataW H → Nat
  | (.string bytes, d) => bytes.length + uptoBulk d + 1
  | (_, d) => uptoBulk d + 1
 end
def uptoSmall : (H : Type) → List (DataW H) → Bool := fun _ ds => decide (uptoBulkAll ds ≤ 1048576)
def OpenSpec.upto (s : _root_.Go.ChangeSpec) : _root_.Go.OpenSpec := { _root_.Go.OpenSpec.ofChange s with cond := some uptoSmall }

/-- 'fathomlinelaw23.RecordSegs', WHERE WHAT IT READS IS OF BULK AT MOST 1048576: true; the input reads as it did. -/
def recordSegsUptoRow : OpenClaim := { program := "ythichlfphjbadaagreat", sum := "688d822b79c9963d3f72d4e833338138c12253d43fa40d67e0e2c9f696a9a42b", func := "fathomline/fathomlinelaw23.RecordSegs", spec := "recordSegs", unfollowed := true, recurses := true, apart := false, narrowed := true }
def RecordSegsUptoSaid : Prop := recordSegsUptoRow.holds Tryz.pinned (OpenSpec.upto recordSegsSpec)

/-- 'fathomlinelaw23.RecordStates', WHERE WHAT IT READS IS OF BULK AT MOST 1048576: true; the input reads as it did. -/
def recordStatesUptoRow : OpenClaim := { program := "ythichlfphjbadaagreat", sum := "688d822b79c9963d3f72d4e833338138c12253d43fa40d67e0e2c9f696a9a42b", func := "fathomline/fathomlinelaw23.RecordStates", spec := "recordStates", unfollowed := true, recurses := true, apart := false, narrowed := true }
def RecordStatesUptoSaid : Prop := recordStatesUptoRow.holds Tryz.pinned (OpenSpec.upto recordStatesSpec)

/-- 'fathomlinelaw23.RecordReads', WHERE WHAT IT READS IS OF BULK AT MOST 1048576: true; the input reads as it did. -/
def recordReadsUptoRow : OpenClaim := { program := "ythichlfphjbadaagreat", sum := "688d822b79c9963d3f72d4e833338138c12253d43fa40d67e0e2c9f696a9a42b", func := "fathomline/fathomlinelaw23.RecordReads", spec := "recordReads", unfollowed := true, recurses := true, apart := false, narrowed := true }
def RecordReadsUptoSaid : Prop := recordReadsUptoRow.holds Tryz.pinned (OpenSpec.upto recordReadsSpec)

/-- 'fathomlinelaw23.RecordBack', WHERE WHAT IT READS IS OF BULK AT MOST 1048576: true; the input reads as it did. -/
def recordBackUptoRow : OpenClaim := { program := "ythichlfphjbadaagreat", sum := "688d822b79c9963d3f72d4e833338138c12253d43fa40d67e0e2c9f696a9a42b", func := "fathomline/fathomlinelaw23.RecordBack", spec := "recordBack", unfollowed := true, recurses := true, apart := false, narrowed := true }
def RecordBackUptoSaid : Prop := recordBackUptoRow.holds Tryz.pinned (OpenSpec.upto recordBackSpec)

/-- 'fathomlinelaw23.RecordSpoilt', WHERE WHAT IT READS IS OF BULK AT MOST 1048576: true; the input reads as it did. -/
def recordSpoiltUptoRow : OpenClaim := { program := "ythichlfphjbadaagreat", sum := "688d822b79c9963d3f72d4e833338138c12253d43fa40d67e0e2c9f696a9a42b", func := "fathomline/fathomlinelaw23.RecordSpoilt", spec := "recordSpoilt", unfollowed := true, recurses := true, apart := false, narrowed := true }
def RecordSpoiltUptoSaid : Prop := recordSpoiltUptoRow.holds Tryz.pinned (OpenSpec.upto recordSpoiltSpec)

end Rows
end Go.Proofs.YthichlfphjbadaaGreat
