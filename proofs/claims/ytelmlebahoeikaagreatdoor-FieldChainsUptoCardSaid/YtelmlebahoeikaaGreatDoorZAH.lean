/- Parts of the walk: N21, N22, N24, N25. -/
import Derived.Test.YtelmlebahoeikaaGreatDoorZAG
set_option linter.unusedVariables false
set_option linter.unusedSimpArgs false
section
/- The document's boxes: MeetBox, widest, WideBox, Blow; Nums. -/
set_option linter.unusedVariables false
set_option linter.unusedSimpArgs false
set_option maxRecDepth 100000
namespace Go.Pv
open Go.Proofs
def mostF (o : List Nm) : Nm := if o.length = 0 then default else o.getD (amax o o.length) default
end Go.Pv
end

section
/- The document's Blow; Nums. -/
set_option linter.unusedVariables false
set_option linter.unusedSimpArgs false
set_option maxRecDepth 100000
namespace Go.Pv
open Go.Proofs
end Go.Pv
end

section
/- The law's parts and reckons. -/
set_option linter.unusedVariables false
set_option linter.unusedSimpArgs false
set_option maxRecDepth 100000
namespace Go.Pv
open Go.Proofs
end Go.Pv
end

section
/- The law's known and light. -/
set_option linter.unusedVariables false
set_option linter.unusedSimpArgs false
set_option maxRecDepth 100000
namespace Go.Pv
open Go.Proofs
def k1 : Nm := ⟨false, 0, [1]⟩
def k2 : Nm := ⟨false, 1, [1]⟩
def k4 : Nm := ⟨false, 2, [1]⟩
def kB : List Ivl := [⟨default, k1⟩, ⟨default, k4⟩]
def kX : List Ivl := [⟨default, k1⟩, ⟨default, k2⟩]
def kY : List Ivl := [⟨default, k1⟩, ⟨k2, k4⟩]
def kSm : List Ivl := [⟨default, k2⟩, ⟨k2, ⟨false, 1, [3]⟩⟩]
def kM : List Nm := [⟨false, -1, [1]⟩, k2]
def kZ : List Ivl := [⟨⟨true, -2, [1]⟩, ⟨false, -2, [5]⟩⟩, ⟨⟨true, 0, [1]⟩, ⟨false, 0, [5]⟩⟩]
theorem OL_app {P : Program} {ops l m : List Oper} {x : Oper} {K : PFS → Prop} {s : PFS} : OL P ops (List.append (x :: l) m) K s = OL P ops (x :: List.append l m) K s := rfl
theorem OL_app0 {P : Program} {ops m : List Oper} {K : PFS → Prop} {s : PFS} : OL P ops (List.append [] m) K s = OL P ops m K s := rfl
theorem succW (i : Nat) (h : i < 100000000000000) : IntKind.i64.wrap ((i : Int) + 1) = ((i + 1 : Nat) : Int) := by rw [wrap_i64 _ (by omega) (by omega)]; omega
def encIss (l : List (List Ivl)) : List PV := l.map fun c => .sl .no (encIs c)
end Go.Pv
end
