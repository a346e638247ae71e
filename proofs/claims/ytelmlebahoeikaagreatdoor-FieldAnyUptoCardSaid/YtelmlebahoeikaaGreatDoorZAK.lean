/- Parts of the walk: G4. -/
import Derived.Test.YtelmlebahoeikaaGreatDoorZT
import Derived.Test.YtelmlebahoeikaaGreatDoorZAE
set_option linter.unusedVariables false
set_option linter.unusedSimpArgs false
section
/- The type of a slice of numbers. -/
set_option linter.unusedVariables false
set_option linter.unusedSimpArgs false
namespace Go.Pv
open Go.Proofs
theorem okLN_mono {k k' : Nat} {l : List Nm} (h : okL okN k l) (hk : k ≤ k') : okL okN k' l := ⟨Nat.le_trans h.1 hk, fun i hi => okN_mono (h.2 i hi) hk⟩
theorem tyNums : Ty Tryz.prog 23 1 (fun l : List Nm => [.sl .no (encNs l)]) (okL okN) :=
  ty_map (ty_slice Tryz.underlying23 (by kernel_rfl) tyNum (by decide) (fun c => .agg (encN c)) (fun _ => rfl)) id (fun _ => rfl) (fun _ => rfl) (fun _ _ h => h) (fun h hk => okLN_mono h hk)
theorem wNs_ok {k : Nat} (hk : k ≤ 2000000) {l : List Nm} (h : okL okN k l) : wNs l := ⟨by have := h.1; omega, fun i hi => wN_ok hk (h.2 i hi)⟩
end Go.Pv
end
