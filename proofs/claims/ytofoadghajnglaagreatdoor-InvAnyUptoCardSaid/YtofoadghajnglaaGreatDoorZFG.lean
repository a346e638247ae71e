/- Parts of the walk: M89. -/
import Derived.Test.YtofoadghajnglaaGreatDoorZFF
import Derived.Test.YtofoadghajnglaaGreatDoorZAR
set_option linter.unusedVariables false
set_option linter.unusedSimpArgs false
section
/-Of small matrices:what is answered,by the matrix,does not fail and has the matrix of ones. No program in it. -/
namespace Go.Pv
theorem X1o {a:List (List Nm)} {i:Nat} {r:List Nm} (hi:i<a.length) (k:Nat):(a.set i r).getD k []=if k=i then r else a.getD k []:=by
 rw [J0f]
 by_cases e:k=i
 · subst e;rw [if_pos ⟨rfl,hi⟩,if_pos rfl]
 · rw [if_neg fun h=>e h.1.symm,if_neg e]
end Go.Pv
end
