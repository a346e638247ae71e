/- Parts of the walk: C13. -/
import Derived.Test.YtclholhblbelbaaZR
import Derived.Test.YtclholhblbelbaaZJ
import Derived.Test.YtclholhblbelbaaZP
set_option linter.unusedVariables false
set_option linter.unusedSimpArgs false
section
/- What the laws of layer 22 know beforehand. -/
set_option linter.unusedVariables false
set_option linter.unusedSimpArgs false
set_option maxRecDepth 100000
namespace Go.Pv
open Go.Proofs
def kBox : List Ivl := [⟨default, kOne⟩]
theorem kOneR : rightN kOne = true := by decide
theorem kBoxR : rightB kBox = true := by decide +kernel
theorem atR_last (st : Store) (l : List UInt8) (e : Int) : atR (st ++ [rd l e]) st.length l e := by
  unfold atR; simp [List.getD_eq_getElem?_getD]
theorem set_last (st : Store) (x y : List PV) : (st ++ [x]).set st.length y = st ++ [y] := by simp
theorem k300 : uvar 300 = [172, 2] := by
  rw [uvar_big (by omega), uvar_small (by omega)]; rfl
theorem kM1 : uvar (zig (-1)) = [1] := by
  rw [show zig (-1) = 1 from rfl, uvar_small (by omega)]; rfl
theorem kIv0 : ivB ⟨default, default⟩ = [0, 0] := by
  have h : numB default = [0] := by
    rw [numB, if_pos (by decide), show headN default = 0 from rfl, uvar_small (by omega)]; rfl
  rw [ivB, if_pos (by decide), h]; rfl
set_option maxHeartbeats 1000000 in
theorem known22_c (st : Store) (hst : st.length ≤ 1000) : PCalls Try.prog 20 [] st (fun r st' => r = .sc (.bool true) ∧ ∃ x, st' = st ++ [x]) := by
  refine pcalls_enter none Try.func20 rfl fun E => pwp_of_vc ?_
  simp -dsimp only [go_sem]
  refine pwp_draw mixed 71 (.step 2 [] (.step 4 [] (.step 5 [] (.step 6 [] (.step 0 [2, 4] (.step 1 [2, 4] (.step 3 [4] (.step 7 [] (.step 8 [4] (.step 9 [] (.done))))))))))) (by decide +kernel) (by simp) ?_
  simp -dsimp only [go_sem]
  refine (uint_c [] 300 st (by simp) (by omega)).mono ?_
  rintro r st' ⟨rfl, rfl⟩
  have q1 := uvar_len10 (v := 300) (by omega)
  have q2 := uvar_len10 (v := zig (-1)) (by decide)
  simp -dsimp only [go_sem]
  refine (cInt_c ([] ++ uvar 300) (-1) _ (by simp; omega) (by omega) (by omega)).mono ?_
  rintro r st' ⟨rfl, rfl⟩
  simp -dsimp only [go_sem]
  refine (cNum_c (uvar 300 ++ uvar (zig (-1))) kOne _ (by simp; omega) (wN_of (by decide))).mono ?_
  rintro r st' ⟨rfl, rfl⟩
  have q3 := numB_len kOne
  simp -dsimp only [go_sem]
  refine (cBox_c (uvar 300 ++ uvar (zig (-1)) ++ numB kOne) kBox _ (by simp; omega) (rightB_wB kBoxR)).mono ?_
  rintro r st' ⟨rfl, rfl⟩
  simp -dsimp only [go_sem]
  have q4 := boxB_len kBox
  refine (read_c (uvar 300 ++ uvar (zig (-1)) ++ numB kOne ++ boxB kBox) _ (by simp; omega)).mono ?_
  rintro r st' ⟨rfl, rfl⟩
  simp -dsimp only [go_sem]
  have l1 : readU (uvar 300 ++ uvar (zig (-1)) ++ numB kOne ++ boxB kBox) 0 = (300, uvar (zig (-1)) ++ numB kOne ++ boxB kBox, 0) := by
    have := readU_uvar 300 (uvar (zig (-1)) ++ numB kOne ++ boxB kBox) (by omega)
    simpa using this
  have l2 : readU (uvar (zig (-1)) ++ numB kOne ++ boxB kBox) 0 = (zig (-1), numB kOne ++ boxB kBox, 0) := by
    have := readU_uvar (zig (-1)) (numB kOne ++ boxB kBox) (by decide)
    simpa using this
  have l3 := readN_num kOne (boxB kBox) kOneR
  have l4 : readB (boxB kBox) 0 = (kBox, [], 0) := by
    have := readB_box kBox [] kBoxR
    simpa using this
  refine (rdUint_c _ 0 _ _ (atR_last _ _ 0) (by simp; omega)).mono ?_
  rintro r st2 ⟨rfl, rfl⟩
  rw [l1]
  simp -dsimp only [go_sem, set_last]
  refine (rdInt_c _ 0 _ _ (atR_last _ _ 0) (by simp; omega)).mono ?_
  rintro r st2 ⟨rfl, rfl⟩
  rw [l2]
  simp -dsimp only [go_sem, set_last, unzig_zig]
  refine (rdNum_c _ 0 _ _ (atR_last _ _ 0) (by simp; omega)).mono ?_
  rintro r st2 ⟨rfl, rfl⟩
  rw [l3]
  simp -dsimp only [go_sem, set_last]
  refine (rdBox_c _ 0 _ _ (atR_last _ _ 0) (by omega)).mono ?_
  rintro r st2 ⟨rfl, rfl⟩
  rw [l4]
  simp -dsimp only [go_sem, set_last]
  refine (uint_c [] 300 _ (by simp) (by omega)).mono ?_
  rintro r st2 ⟨rfl, rfl⟩
  simp -dsimp only [go_sem, k300]
  refine (cInt_c [] (-1) _ (by simp) (by omega) (by omega)).mono ?_
  rintro r st2 ⟨rfl, rfl⟩
  simp -dsimp only [go_sem, kM1]
  refine (ivOf_c default _ (wN_of (by decide))).mono ?_
  rintro r st2 ⟨rfl, rfl⟩
  simp -dsimp only [go_sem]
  refine (cIv_c [] ⟨default, default⟩ _ (by simp) ⟨wN_of (by decide), wN_of (by decide)⟩).mono ?_
  rintro r st2 ⟨rfl, rfl⟩
  have n300 : (((300 : Nat) : Int) == 300) = true := rfl
  simp -dsimp only [go_sem, kIv0, n300]
  refine (refSame_c kOne kOne _ (by decide) (by decide)).mono ?_
  rintro r st2 ⟨rfl, rfl⟩
  have n1 : ((kBox.length : Int) == 1) = true := rfl
  have n2 : decide (kOne = kOne) = true := by decide
  simp -dsimp only [go_sem, n1, n2]
  refine (left_c [] 0 _ _ (atR_last _ _ _)).mono ?_
  rintro r st2 ⟨rfl, rfl⟩
  have n3 : (((0 : Nat) : Int) == 0) = true := rfl
  simp -dsimp only [go_sem, n3]
  refine (err_c [] 0 _ _ (atR_last _ _ _)).mono ?_
  rintro r st2 ⟨rfl, rfl⟩
  simp -dsimp only [go_sem]
  exact ⟨_, rfl⟩
end Go.Pv
end
