/- Parts of the walk: N17, N18, N19, N20. -/
import Derived.Test.YthllcnigcnoghaaGreatDoorZAE
import Derived.Test.YthllcnigcnoghaaGreatDoorZAA
import Derived.Test.YthllcnigcnoghaaGreatDoorZY
import Derived.Test.YthllcnigcnoghaaGreatDoorZH
import Derived.Test.YthllcnigcnoghaaGreatDoorZI
import Derived.Test.YthllcnigcnoghaaGreatDoorZM
set_option linter.unusedVariables false
set_option linter.unusedSimpArgs false
section
/- The document's Wide, Mid, least, greatest, ends, Op. -/
set_option maxRecDepth 100000
namespace Go.Pv
open Go.Proofs
theorem smV_bd {v : Vl} {n k : Nat} (h : bdV n k v) (h1 : n ≤ 1000000000000) (h2 : k ≤ 100000000000) : smV v := ⟨by have := h.1; omega, by have := h.2.1; omega, by have := h.2.2; omega⟩
theorem sm_wN1 {x : Nm} (h : rightN x = true) : x.w.length ≤ 1000000000000 := by have := (rightN_bd h).1; omega
end Go.Pv
end

section
/- The document's least, greatest, Op. -/
set_option maxRecDepth 100000
namespace Go.Pv
open Go.Proofs
end Go.Pv
end

section
/- The document's bad, Reckon, Scale, Has, In. -/
set_option maxRecDepth 100000
namespace Go.Pv
open Go.Proofs
end Go.Pv
end

section
/- The document's boxes: Points, HasPoint, InBox, MeetBox, OpBox, Times, MidBox. -/
set_option maxRecDepth 100000
namespace Go.Pv
open Go.Proofs
end Go.Pv
end
