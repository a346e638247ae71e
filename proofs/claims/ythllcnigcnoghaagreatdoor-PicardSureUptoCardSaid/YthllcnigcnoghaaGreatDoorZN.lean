/- Parts of the walk: M13, M14, M15. -/
import Derived.Test.YthllcnigcnoghaaGreatDoorZE
set_option linter.unusedVariables false
set_option linter.unusedSimpArgs false
section
/- Groups of a row: where they begin and end. No program in it. -/
namespace Go.Pv
end Go.Pv
end

section
/- Groups of groups; groups are a row. No program in it. -/
namespace Go.Pv
end Go.Pv
end

section
/- Groups of a row are a row; of a tube a tube. No program in it. -/
namespace Go.Pv
def oneOf (b : List Sg) (g : Nat) : Sg := foldS (b.getD 0 default) ((b.take g).drop 1)
end Go.Pv
end
