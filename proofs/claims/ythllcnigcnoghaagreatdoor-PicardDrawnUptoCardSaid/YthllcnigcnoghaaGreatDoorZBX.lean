/- Parts of the walk: N77. -/
import Derived.Test.YthllcnigcnoghaaGreatDoorZBR
import Derived.Test.YthllcnigcnoghaaGreatDoorZBN
import Derived.Test.YthllcnigcnoghaaGreatDoorZBV
set_option linter.unusedVariables false
set_option linter.unusedSimpArgs false
section
/- Layer 17: PicardDrawn. -/
set_option maxRecDepth 100000
namespace Go.Pv
open Go.Proofs
set_option maxHeartbeats 4000000 in
theorem picardDrawn_c (l : List UInt64) : PCalls Tryz.prog 4 [.sl .no (encW l)] [] (fun r st' => r = .sc (.bool true)) := by
  refine pcalls_enter none Tryz.func4 rfl fun E => pwp_of_vc ?_
  simp -dsimp only [go_sem]
  refine (known17_c _).mono ?_
  rintro r st ⟨rfl, rfl⟩
  simp -dsimp only [go_sem]
  refine (deckOf_c l _).mono ?_
  rintro r st ⟨rfl, rfl⟩
  simp -dsimp only [go_sem]
  refine (dim_c l 0 0 [dk l 0] rfl (by omega)).mono ?_
  rintro r st ⟨n, hn1, hn2, rfl, rfl⟩
  simp -dsimp only [go_sem]
  refine (deckField_c l 1 0 n 3 3 [dk l 1] rfl (by omega) hn1 hn2 (by omega) (by omega)).mono ?_
  rintro r st ⟨f, j1, hf, hj1, hj2, rfl, rfl⟩
  simp -dsimp only [go_sem]
  refine (smallBoxS_c l j1 0 n [dk l j1] rfl (by omega) (by omega)).mono ?_
  rintro r st ⟨x, j2, hxl, hx, hj3, hj4, rfl, rfl⟩
  simp -dsimp only [go_sem]
  refine (prec_c l j2 0 [dk l j2] rfl (by omega)).mono ?_
  rintro r st ⟨p, j3, hp1, hp2, hj5, hj6, rfl, rfl⟩
  simp -dsimp only [go_sem]
  refine (time_c l j3 0 [dk l j3] rfl (by omega)).mono ?_
  rintro r st ⟨q, hq1, hq2, rfl, rfl⟩
  simp -dsimp only [go_sem]
  refine (deckN_c l (j3 + 2) 0 12 [dk l (j3 + 2)] rfl (by omega) (by omega) (by omega)).mono ?_
  rintro r st ⟨rfl, rfl⟩
  have hk := nx_lt l (j3 + 2) (n := 12) (by omega)
  generalize nx l (j3 + 2) 12 = k at hk ⊢
  have x1 : IntKind.i64.wrap (0 - (k : Int)) = -(k : Int) := by rw [wrap_i64 _ (by omega) (by omega)]; omega
  simp -dsimp only [go_sem, x1]
  refine (numScale_c (tq q) (-(k : Int)) _ (rightN_wN (rightN_tq q))).mono ?_
  rintro r st ⟨rfl, rfl⟩
  obtain ⟨s0, _⟩ := scaleN_lu (k := k) (rightN_tq q) (tq_lu hq1 hq2).1 (by omega) (by omega)
  have wh := rightN_wN (scaleN_right (tq q) (-(k : Int)))
  generalize scaleN (tq q) (-(k : Int)) = h at s0 wh ⊢
  have z0 : (h.2 == 0) = true := by rw [s0]; rfl
  have wf := hf.wF hn2 (by omega)
  have wx := smB_wB hxl hn2 hx
  simp -dsimp only [go_sem]
  refine (smallBoxS_c l (j3 + 2 + 1) 0 n [dk l (j3 + 2 + 1)] rfl (by omega) (by omega)).mono ?_
  rintro r st ⟨a, j4, hal, ha, hj7, hj8, rfl, rfl⟩
  have wa := smB_wB hal hn2 ha
  simp -dsimp only [go_sem]
  refine (yes_c l j4 0 2 [dk l j4] rfl (by omega) (by omega) (by omega)).mono ?_
  rintro r st ⟨rfl, rfl⟩
  simp -dsimp only [go_sem]
  refine ck (fun hy => ?_) (fun hy => ?_)
  · simp -dsimp only [go_sem, z0]
    refine (told17_c f x x h.1 p _ wf wx wx wh).mono ?_
    rintro r st ⟨rfl, rfl⟩
    simp -dsimp only [go_sem]
  · simp -dsimp only [go_sem, z0]
    refine (told17_c f x a h.1 p _ wf wx wa wh).mono ?_
    rintro r st ⟨rfl, rfl⟩
    simp -dsimp only [go_sem]
end Go.Pv
end
