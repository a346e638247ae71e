/- Parts of the walk: M35, M36. -/
import Derived.Test.YtofoadghajnglaaGreatDoorZY
import Derived.Test.YtofoadghajnglaaGreatDoorZK
set_option linter.unusedVariables false
set_option linter.unusedSimpArgs false
section
namespace Go.Pv
theorem k2w {α:Type} (l:List α) (i j:Nat) (x d:α) (hj:j<l.length):(l.set i x).getD j d=if i=j then x else l.getD j d:=by simp only [List.getD_eq_getElem?_getD,List.getElem?_set];split;rename_i h;subst h;simp [hj];rfl
end Go.Pv
end
