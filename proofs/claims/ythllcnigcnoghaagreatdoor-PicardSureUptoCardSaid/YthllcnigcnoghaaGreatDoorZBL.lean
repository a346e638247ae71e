/- Parts of the walk: T2. -/
import Derived.Test.YthllcnigcnoghaaGreatDoorZAJ
import Derived.Test.YthllcnigcnoghaaGreatDoorCards
set_option linter.unusedVariables false
set_option linter.unusedSimpArgs false
section
/- What holds of the whole program of this seat, for all its laws. -/
set_option maxRecDepth 100000
namespace Go.Proofs.YthllcnigcnoghaaGreatDoor
open Go.Pv Go.ChangeShapes Go.WideShapes Go.ChangeAt Go.RowKit
theorem and_mk {a b : Bool} (ha : a = true) (hb : b = true) : (a && b) = true := by rw [ha, hb]; rfl
theorem jl_laidOut : laidOutB Tryz.pinned.checked.prog = true := by kernel_rfl
theorem jl_mapsRowed : mapsRowed Tryz.pinned.checked.prog = true := by kernel_rfl
theorem jl_stops : (Tryz.pinned.checked.prog.stops == []) = true := by kernel_rfl
theorem jl_knobs : (Tryz.pinned.checked.prog.stopKnobs == []) = true := by kernel_rfl
theorem jl_plainKeys : (Rows.picardAnyUptoRow.plainKeys == Tryz.pinned.checked.prog.plainKeys) = true := by kernel_rfl
theorem jl_heard : Tryz.pinned.checked.prog.stopsHeard = true := by kernel_rfl
theorem jl_enter : Tryz.pinned.checked.prog.mayEnter = true := by kernel_rfl
theorem jl_lifts : (Rows.picardAnyUptoRow.lifted == Tryz.pinned.checked.prog.liftsFinal) = true := by kernel_rfl
end Go.Proofs.YthllcnigcnoghaaGreatDoor
end
