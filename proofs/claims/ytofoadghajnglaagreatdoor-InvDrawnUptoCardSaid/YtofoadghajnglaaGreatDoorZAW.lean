/- Parts of the walk: M38. -/
import Derived.Test.YtofoadghajnglaaGreatDoorZAL
import Derived.Test.YtofoadghajnglaaGreatDoorZE
import Derived.Test.YtofoadghajnglaaGreatDoorZAE
set_option linter.unusedVariables false
set_option linter.unusedSimpArgs false
section
/-Lists of small intervals. No program in it. -/
namespace Go.Pv
theorem H1i {β:Type} [Inhabited β] (f:Nat→β) (n i:Nat) (h:i<n):((List.range n).map f).getD i default=f i:=by
 simp [List.getD_eq_getElem?_getD,h]
end Go.Pv
end
