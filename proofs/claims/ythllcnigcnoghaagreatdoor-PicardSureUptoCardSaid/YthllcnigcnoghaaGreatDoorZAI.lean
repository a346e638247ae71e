/- Parts of the walk: N23, N26. -/
import Derived.Test.YthllcnigcnoghaaGreatDoorZAH
import Derived.Test.YthllcnigcnoghaaGreatDoorZY
import Derived.Test.YthllcnigcnoghaaGreatDoorZV
set_option linter.unusedVariables false
set_option linter.unusedSimpArgs false
section
/- The deck: In, Part, InBox, PartBox, Prec. -/
set_option maxRecDepth 100000
namespace Go.Pv
open Go.Proofs
theorem prec_c (l : List UInt64) (i k : Nat) (st : Store) (h : atD st k l i) (hi : i ≤ 1000000000) : PCalls Tryz.prog 16 [.gp k 0] st
  (fun r st' => ∃ (p j : Nat), 8 ≤ p ∧ p ≤ 256 ∧ i ≤ j ∧ j ≤ i + 2 ∧ r = .sc (.int .i64 p) ∧ st' = st.set k (dk l j)) := by
 refine pcalls_enter none Tryz.func16 rfl fun E => pwp_of_vc ?_
 simp -dsimp only [go_sem]
 refine (deckN_c l i k 6 st h (by omega) (by omega) (by omega)).mono ?_
 rintro r st' ⟨rfl, rfl⟩
 simp -dsimp only [go_sem]
 refine ck (fun h1 => ?_) (fun h1 => ?_)
 · simp -dsimp only [go_sem]
   exact ⟨8, i + 1, by omega, by omega, by omega, by omega, rfl, rfl⟩
 · simp -dsimp only [go_sem]
   refine ck (fun h2 => ?_) (fun h2 => ?_)
   · simp -dsimp only [go_sem]
     exact ⟨256, i + 1, by omega, by omega, by omega, by omega, rfl, rfl⟩
   · simp -dsimp only [go_sem]
     refine (deckN_c l (i + 1) k 60 _ (h.set (i + 1)) (by omega) (by omega) (by omega)).mono ?_
     rintro r st' ⟨rfl, rfl⟩
     have n1 := nx_lt l (i + 1) (n := 60) (by omega)
     have x1 : IntKind.i64.wrap (12 + (nx l (i + 1) 60 : Int)) = ((12 + nx l (i + 1) 60 : Nat) : Int) := by rw [show (12 + (nx l (i + 1) 60 : Int)) = ((12 + nx l (i + 1) 60 : Nat) : Int) from by omega, wrapn_i64 _ (by omega)]
     simp -dsimp only [go_sem, set_dk, x1]
     exact ⟨12 + nx l (i + 1) 60, i + 2, by omega, by omega, by omega, by omega, rfl, rfl⟩
set_option maxHeartbeats 1000000 in
theorem deckIn_c (l : List UInt64) (i k : Nat) (a : Ivl) (st : Store) (h : atD st k l i) (hi : i ≤ 1000000000) (ha : rightI a = true) : PCalls Tryz.prog 61 [.gp k 0, .agg (encI a)] st
  (fun r st' => r = .agg (encN (inN a (nx l i 9))) ∧ st' = st.set k (dk l (i + 1))) := by
 have hlt := nx_lt l i (n := 9) (by omega)
 obtain ⟨a1, a2, _⟩ := rightI_right ha
 have d1 := bdV_ofN a1
 have d2 := bdV_ofN a2
 refine pcalls_enter none Tryz.func61 rfl fun E => pwp_of_vc ?_
 simp -dsimp only [go_sem]
 refine (deckN_c l i k 9 st h (by omega) (by omega) (by omega)).mono ?_
 rintro r st' ⟨rfl, rfl⟩
 generalize nx l i 9 = n at *
 unfold inN
 have x0 : IntKind.i64.wrap (n : Int) = (n : Int) := wrapn_i64 _ (by omega)
 simp -dsimp only [go_sem, x0]
 refine ck (fun h1 => ?_) (fun h1 => ?_)
 · have h0 : n = 0 := nbeq_t (b := 0) h1
   rw [if_pos h0]
   simp -dsimp only [go_sem]
 · have h0 : n ≠ 0 := nbeq_f (b := 0) h1
   rw [if_neg h0]
   simp -dsimp only [go_sem]
   refine ck (fun h2 => ?_) (fun h2 => ?_)
   · have h8 : n = 8 := nbeq_t (b := 8) h2
     rw [if_pos h8]
     simp -dsimp only [go_sem]
   · have h8 : n ≠ 8 := nbeq_f (b := 8) h2
     rw [if_neg h8]
     have x1 : IntKind.i64.wrap (8 - (n : Int)) = ((8 - n : Nat) : Int) := by rw [show 8 - (n : Int) = ((8 - n : Nat) : Int) from by omega, wrapn_i64 _ (by omega)]
     have w1 := bdV_whole (k := 8 - n) (by omega)
     have w2 := bdV_whole (k := n) (by omega)
     have b1 := bdV_by d1 w1
     have b2 := bdV_by d2 w2
     have b3 := bdV_plus b1 b2
     have b4 := bdV_eighth b3
     have hin : inV a n = eighthV (plusV (byV (ofN a.lo) (oddV false (8 - n) 0)) (byV (ofN a.hi) (oddV false n 0))) := rfl
     rw [hin]
     simp -dsimp only [go_sem]
     refine pwp_late mixed 50 [0, 1, 2, 3, 4, 5, 6, 7, 8, 9, 10, 11, 12, 13] [14] [15] (.step 0 [] (.step 1 [] (.step 3 [] (.step 4 [] (.step 7 [] (.step 8 [] (.step 10 [] (.step 2 [8] (.step 5 [8] (.step 6 [8] (.step 9 [] (.step 11 [1] (.step 12 [1] (.step 13 [] (.done))))))))))))))) (.step 15 [] (.done)) (by decide +kernel) (by simp) ?_
     simp -dsimp only [go_sem, x1]
     refine (of_c a.lo _ (sm_wN1 a1)).mono ?_
     rintro r st' ⟨rfl, rfl⟩
     simp -dsimp only [go_sem, x1]
     refine (whole_c (8 - n) _ (by omega)).mono ?_
     rintro r st' ⟨rfl, rfl⟩
     simp -dsimp only [go_sem, x1]
     refine (by_c _ _ _ (smV_bd d1 (by omega) (by omega)) (smV_bd w1 (by omega) (by omega))).mono ?_
     rintro r st' ⟨rfl, rfl⟩
     simp -dsimp only [go_sem]
     refine (of_c a.hi _ (sm_wN1 a2)).mono ?_
     rintro r st' ⟨rfl, rfl⟩
     simp -dsimp only [go_sem]
     refine (whole_c n _ (by omega)).mono ?_
     rintro r st' ⟨rfl, rfl⟩
     simp -dsimp only [go_sem]
     refine (by_c _ _ _ (smV_bd d2 (by omega) (by omega)) (smV_bd w2 (by omega) (by omega))).mono ?_
     rintro r st' ⟨rfl, rfl⟩
     simp -dsimp only [go_sem]
     refine (plus_c _ _ _ (smV_bd b1 (by omega) (by omega)) (smV_bd b2 (by omega) (by omega))).mono ?_
     rintro r st' ⟨rfl, rfl⟩
     generalize plusV (byV (ofN a.lo) (oddV false (8 - n) 0)) (byV (ofN a.hi) (oddV false n 0)) = v at *
     have x2 : IntKind.i64.wrap (v.e - 3) = v.e - 3 := wrap_i64 _ (by have := b3.2.1; omega) (by have := b3.2.2; omega)
     simp -dsimp only [go_sem]
     refine (signV_c v _).mono ?_
     rintro r st' ⟨rfl, rfl⟩
     simp -dsimp only [go_sem]
     refine ck (fun h3 => ?_) (fun h3 => ?_)
     case' refine_1 =>
      have hz := zbne_t h3
      have he : eighthV v = { v with e := v.e - 3 } := if_pos hz
      rw [he] at b4 ⊢
      generalize hzz : ({ v with e := v.e - 3 } : Vl) = z at *
      have z1 : v.neg = z.neg := by rw [← hzz]
      have z2 : v.m = z.m := by rw [← hzz]
      have z3 : v.e - 3 = z.e := by rw [← hzz]
      simp -dsimp only [go_sem, x2]
      rw [z1, z2, z3]
     case' refine_2 =>
      have hz := zbne_f h3
      have he : eighthV v = v := if_neg (fun e => e hz)
      rw [he] at b4 ⊢
      generalize v = z at *
      simp -dsimp only [go_sem]
     all_goals
      refine (vnum_c z _ (bdV_digits b4 (by omega))).mono ?_
      rintro r st' ⟨rfl, rfl⟩
      simp -dsimp only [go_sem]
      refine ck (fun h4 => ?_) (fun h4 => ?_)
      · have hne := zbne_t h4
        rw [if_pos hne]
        simp -dsimp only [go_sem]
      · have hne := zbne_f h4
        rw [if_neg (fun e => e hne)]
        simp -dsimp only [go_sem]
theorem partI_right {a : Ivl} {x y : Nm} (ha : rightI a = true) (hx : rightN x = true) (hy : rightN y = true) (h1 : memI (qN x) a) (h2 : memI (qN y) a) : rightI (betw x y) = true ∧ inI (betw x y) a = true := by
 have hb : betw x y = ⟨x, y⟩ ∧ qN x ≤ qN y ∨ betw x y = ⟨y, x⟩ ∧ qN y ≤ qN x := by
  unfold betw
  have hc : cmpR x y = cmpN x y := if_pos ⟨hx, hy⟩
  split
  · rename_i h
    rw [hc] at h
    exact .inr ⟨rfl, Rat.le_of_lt (cmpN_gt.1 (by omega))⟩
  · rename_i h
    rw [hc] at h
    exact .inl ⟨rfl, cmpN_le.1 (by omega)⟩
 rcases hb with ⟨e, h⟩ | ⟨e, h⟩
 · have hr : rightI (betw x y) = true := by rw [e]; exact rightI_mk hx hy (cmpN_le.2 h)
   refine ⟨hr, ?_⟩
   rw [e] at hr ⊢
   unfold inI
   rw [hr, ha]
   simp only [Bool.true_and, Bool.and_eq_true, decide_eq_true_eq]
   exact ⟨cmpN_ge.2 h1.1, cmpN_ge.2 h2.2⟩
 · have hr : rightI (betw x y) = true := by rw [e]; exact rightI_mk hy hx (cmpN_le.2 h)
   refine ⟨hr, ?_⟩
   rw [e] at hr ⊢
   unfold inI
   rw [hr, ha]
   simp only [Bool.true_and, Bool.and_eq_true, decide_eq_true_eq]
   exact ⟨cmpN_ge.2 h2.1, cmpN_ge.2 h1.2⟩
end Go.Pv
end

section
/- The laws BoxParts, BoxDrawn, BoxFour. -/
set_option maxRecDepth 100000
namespace Go.Pv
open Go.Proofs
end Go.Pv
end
