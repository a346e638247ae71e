/- Parts of the walk: G5. -/
import Derived.Test.YtcfgdppnoephnaaGreatDoorZT
import Derived.Test.YtcfgdppnoephnaaGreatDoorZAQ
import Derived.Test.YtcfgdppnoephnaaGreatDoorZAN
set_option linter.unusedVariables false
set_option linter.unusedSimpArgs false
section
/- The type of rows of intervals. -/
set_option linter.unusedVariables false
set_option linter.unusedSimpArgs false
namespace Go.Pv
open Go.Proofs
theorem okLM_mono {k k' : Nat} {l : Mx} (h : okL (okL okI) k l) (hk : k ≤ k') : okL (okL okI) k' l := ⟨Nat.le_trans h.1 hk, fun i hi => okLI_mono (h.2 i hi) hk⟩
theorem tyMx : Ty Tryz.prog 53 1 (fun l : Mx => [.sl .no (encM l)]) (okL (okL okI)) :=
  ty_map (ty_slice Tryz.underlying53 (by kernel_rfl) tyIvs (by decide) (fun c => .sl .no (encIs c)) (fun _ => rfl)) id (fun _ => rfl) (fun _ => rfl) (fun _ _ h => h) (fun h hk => okLM_mono h hk)
theorem wM_ok {k : Nat} (hk : k ≤ 2000000) {l : Mx} (h : okL (okL okI) k l) : wM l := ⟨by have := h.1; omega, fun i hi => wB_ok hk (h.2 i hi)⟩
end Go.Pv
end
