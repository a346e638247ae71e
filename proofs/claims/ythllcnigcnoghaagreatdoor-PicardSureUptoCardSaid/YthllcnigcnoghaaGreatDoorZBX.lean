/- Parts of the walk: N77, N80. -/
import Derived.Test.YthllcnigcnoghaaGreatDoorZBR
import Derived.Test.YthllcnigcnoghaaGreatDoorZBN
import Derived.Test.YthllcnigcnoghaaGreatDoorZBV
import Derived.Test.YthllcnigcnoghaaGreatDoorZAA
set_option linter.unusedVariables false
set_option linter.unusedSimpArgs false
section
/- Layer 17: PicardDrawn. -/
set_option maxRecDepth 100000
namespace Go.Pv
open Go.Proofs
end Go.Pv
end

section
/- Layer 17: PicardSure. -/
set_option maxRecDepth 100000
namespace Go.Pv
open Go.Proofs
theorem boxL_none {f : List (List Mn)} {x : List Ivl} {h : Nm} {p : Int} : ∀ l : List (List Ivl × List Ivl), (boxL f x h p l).2 = false → (boxL f x h p l).1 = []
 | [], _ => rfl
 | e :: l, hb => by
  rw [boxL_cons] at hb ⊢
  split at hb
  · cases hb
  · rename_i hin; rw [if_neg hin]; exact boxL_none l hb
theorem smN_fits {x : Nm} {p : Nat} (h : bdV 6 12 (ofN x)) (hp : 8 ≤ p) : fitsQ p (qN x) := by
 refine ⟨mantV (ofN x), (ofN x).e, rfl, ?_⟩
 rw [mant_nat]
 have := bitlen_le_iff.1 h.1
 exact Nat.le_trans (Nat.le_of_lt this) (Nat.pow_le_pow_right (by decide) (by omega))
set_option maxHeartbeats 4000000 in
theorem picardSure_c (l : List UInt64) : PCalls Tryz.prog 5 [.sl .no (encW l)] [] (fun r st' => r = .sc (.bool true)) := by
 refine pcalls_enter none Tryz.func5 rfl fun E => pwp_seq (pwp_of_vc ?_)
 simp -dsimp only [go_sem]
 refine pwp_seq (pwp_of_vc ?_)
 simp -dsimp only [go_sem]
 refine (known17_c _).mono ?_
 rintro r st ⟨rfl, rfl⟩
 simp -dsimp only [go_sem]
 refine pwp_seq (pwp_of_vc ?_)
 simp -dsimp only [go_sem]
 refine (deckOf_c l _).mono ?_
 rintro r st ⟨rfl, rfl⟩
 simp -dsimp only [go_sem]
 refine pwp_seq (pwp_of_vc ?_)
 simp -dsimp only [go_sem]
 refine (dim_c l 0 0 [dk l 0] rfl (by omega)).mono ?_
 rintro r st ⟨n, hn1, hn2, rfl, rfl⟩
 simp -dsimp only [go_sem]
 refine pwp_seq (pwp_of_vc ?_)
 simp -dsimp only [go_sem]
 refine (deckField_c l 1 0 n 3 3 [dk l 1] rfl (by omega) hn1 hn2 (by omega) (by omega)).mono ?_
 rintro r st ⟨f, j1, hf, hj1, hj2, rfl, rfl⟩
 simp -dsimp only [go_sem]
 refine (smallBoxS_c l j1 0 n [dk l j1] rfl (by omega) (by omega)).mono ?_
 rintro r st ⟨x, j2, hxl, hx, hj3, hj4, rfl, rfl⟩
 simp -dsimp only [go_sem]
 refine (prec_c l j2 0 [dk l j2] rfl (by omega)).mono ?_
 rintro r st ⟨p, j3, hp1, hp2, hj5, hj6, rfl, rfl⟩
 simp -dsimp only [go_sem]
 refine pwp_seq (pwp_of_vc ?_)
 simp -dsimp only [go_sem]
 refine (time_c l j3 0 [dk l j3] rfl (by omega)).mono ?_
 rintro r st ⟨q, hq1, hq2, rfl, rfl⟩
 simp -dsimp only [go_sem]
 refine (deckN_c l (j3 + 2) 0 20 [dk l (j3 + 2)] rfl (by omega) (by omega) (by omega)).mono ?_
 rintro r st ⟨rfl, rfl⟩
 have hk := nx_lt l (j3 + 2) (n := 20) (by omega)
 generalize nx l (j3 + 2) 20 = k at hk ⊢
 have x0 : IntKind.i64.wrap (4 + (k : Int)) = ((4 + k : Nat) : Int) := by rw [wrap_i64 _ (by omega) (by omega)]; omega
 have x1 : IntKind.i64.wrap (0 - ((4 + k : Nat) : Int)) = -((4 + k : Nat) : Int) := by rw [wrap_i64 _ (by omega) (by omega)]; omega
 simp -dsimp only [go_sem, x0, x1]
 refine (numScale_c (tq q) (-((4 + k : Nat) : Int)) _ (rightN_wN (rightN_tq q))).mono ?_
 rintro r st ⟨rfl, rfl⟩
 obtain ⟨t1, t2⟩ := tq_lu hq1 hq2
 obtain ⟨s0, s1⟩ := scaleN_lu (k := 4 + k) (rightN_tq q) t1 (by omega) (by omega)
 have sv := (scaleN_val s0).2
 have hr := scaleN_right (tq q) (-((4 + k : Nat) : Int))
 have hpos := pos_scale sv t2
 clear sv
 have wh := rightN_wN hr
 generalize scaleN (tq q) (-((4 + k : Nat) : Int)) = h at s0 s1 hr hpos wh ⊢
 have z0 : (h.2 == 0) = true := by rw [s0]; rfl
 have z1 : (h.2 != 0) = false := by rw [s0]; rfl
 have wf := hf.wF hn2 (by omega)
 have wx := smB_wB hxl hn2 hx
 have hpp : precF (p : Int) = true := by unfold precF; simp; omega
 have S : Seek f x h.1 p n := ⟨hf, hn1, hn2, hxl, fun j hj => (hx j (by omega)).1, fun j hj => ⟨(luQ_bd (hx j (by omega)).2.1).mul, (luQ_bd (hx j (by omega)).2.2).mul⟩, fun j hj => smN_fits (hx j (by omega)).2.1 (by omega), hpos, hr, s1.mul.down (by omega), hpp⟩
 have hx18 : ∀ j, j < n → ampI 18 (x.getD j default) := fun j hj => luI_mag (smI_lu (hx j (by omega)))
 have hxm : ∀ j, j < n → mulI 62 (x.getD j default) := fun j hj => (S.xm j hj).down (by omega)
 simp -dsimp only [go_sem]
 refine pwp_seq (pwp_of_vc ?_)
 simp -dsimp only [go_sem]
 refine (picBox_c f x h.1 p _ wf wx wh).mono ?_
 rintro r st ⟨rfl, rfl⟩
 have hfound := fun e => box_found S (p := p) e
 have hnone : (boxP f x h.1 p).2 = false → (boxP f x h.1 p).1 = [] := fun e => boxL_none _ e
 have wo := boxP_wB f x h.1 p wx
 generalize boxP f x h.1 p = b at hfound hnone wo ⊢
 cases hb : b.2 with
 | false =>
  rw [hnone hb]
  simp -dsimp only [go_sem, z1]
  refine pwp_of_vc ?_
  simp -dsimp only [go_sem, z1]
  rfl
 | true =>
  obtain ⟨N, hin, hcon, hfine⟩ := hfound hb
  generalize b.1 = o at *
  have hol : o.length = n := by rw [N.la, hf.1]
  have hsure : sureP f x o h.1 p = true := by
   unfold sureP
   rw [decide_eq_true (nextP_iff.2 N), hin]; rfl
  have hxo : inB x o = true := inB_sub.2 ⟨N.rx, N.ra, by omega, fun j hj => hcon j (by omega)⟩
  simp -dsimp only [go_sem, z1]
  refine pwp_seq (pwp_of_vc ?_)
  simp -dsimp only [go_sem, z1]
  refine pwp_seq (pwp_of_vc ?_)
  simp -dsimp only [go_sem, z1]
  have hk2 := nx_lt l (j3 + 2 + 1) (n := 4) (by omega)
  have x2 : IntKind.i64.wrap (0 - ((nx l (j3 + 2 + 1) 4 : Nat) : Int)) = -((nx l (j3 + 2 + 1) 4 : Nat) : Int) := by rw [wrap_i64 _ (by omega) (by omega)]; omega
  refine pwp_cut_mask [false, false, false, true, false, true, true, true, true, false, true, false, true, true] 2 0
   (fun s => s = ⟨[.junk, .junk, .junk, .gp 0 0, .junk, .sl .no (encFs f), .sl .no (encIs x), .sc (.int .i64 (p : Nat)), .lp 0 0, .junk, .sl .no (encIs o), .junk, .lp 1 0, .sc (.int .i64 (scaleN h.1 (-((nx l (j3 + 2 + 1) 4 : Nat) : Int))).2)] ++ List.replicate 80 .junk, [encN h.1, encN (scaleN h.1 (-((nx l (j3 + 2 + 1) 4 : Nat) : Int))).1], [], [dk l (j3 + 2 + 1 + 1)]⟩) ?_ ?_
  · simp -dsimp only [go_sem]
    refine pwp_draw mixed 94 (.step 0 [] (.step 1 [] (.alt (.step 2 [0] (.step 3 [] (.alt (.step 4 [] (.step 5 [] (.step 6 [] (.step 7 [] (.step 8 [0] (.step 9 [] (.step 10 [] (.done)))))))) (.step 8 [0] (.step 4 [] (.step 5 [] (.step 6 [] (.step 7 [] (.step 9 [] (.step 10 [] (.done))))))))))) (.step 8 [0] (.step 2 [0] (.step 3 [] (.step 4 [] (.step 5 [] (.step 6 [] (.step 7 [] (.step 9 [] (.step 10 [] (.done))))))))))))) (by decide +kernel) (by simp) ?_
    simp -dsimp only [go_sem]
    refine And.intro ?_ ?_
    · refine (deckN_c l (j3 + 2 + 1) 0 4 [dk l (j3 + 2 + 1)] rfl (by omega) (by omega) (by omega)).mono ?_
      rintro r st ⟨rfl, rfl⟩
      simp -dsimp only [go_sem, x2]
      refine And.intro ?_ ?_
      all_goals
       refine (numScale_c h.1 (-((nx l (j3 + 2 + 1) 4 : Nat) : Int)) _ wh).mono ?_
       rintro r st ⟨rfl, rfl⟩
       simp -dsimp only [go_sem]
    · refine (deckN_c l (j3 + 2 + 1) 0 4 [dk l (j3 + 2 + 1)] rfl (by omega) (by omega) (by omega)).mono ?_
      rintro r st ⟨rfl, rfl⟩
      simp -dsimp only [go_sem, x2]
      refine (numScale_c h.1 (-((nx l (j3 + 2 + 1) 4 : Nat) : Int)) _ wh).mono ?_
      rintro r st ⟨rfl, rfl⟩
      simp -dsimp only [go_sem]
  rintro s rfl
  clear x2
  generalize nx l (j3 + 2 + 1) 4 = k2 at hk2 ⊢
  obtain ⟨g0, g1⟩ := scaleN_lu (k := k2) hr s1 (by omega) (by omega)
  have gv := (scaleN_val g0).2
  have gr := scaleN_right h.1 (-(k2 : Int))
  have wg := rightN_wN gr
  generalize scaleN h.1 (-(k2 : Int)) = g at g0 g1 gv gr wg ⊢
  have z2 : (g.2 == 0) = true := by rw [g0]; rfl
  have hless : sureP f x o g.1 p = true := sure_more S N hin hfine (k := k2) (by omega) gr gv (g1.mul.down (by omega)) N.rx hxl (fun j hj => subI_refl _) hxm hx18
  refine pwp_of_vc ?_
  simp -dsimp only [go_sem]
  refine pwp_draw mixed 94 (.step 0 [] (.step 1 [] (.step 2 [] (.step 3 [] (.step 4 [] (.step 5 [] (.step 6 [] (.step 7 [] (.step 8 [] (.step 9 [] (.step 10 [] (.step 11 [] (.step 12 [] (.step 13 [] (.step 14 [] (.step 15 [] (.step 16 [] (.step 17 [] (.step 18 [] (.step 19 [] (.step 20 [] (.step 21 [6] (.step 22 [] (.step 23 [] (.step 24 [] (.step 25 [] (.step 26 [] (.step 28 [] (.step 29 [] (.step 30 [] (.step 27 [6, 29] (.step 31 [6] (.step 32 [] (.step 33 [] (.done))))))))))))))))))))))))))))))))))) (by decide +kernel) (by simp) ?_
  simp -dsimp only [go_sem, z2]
  refine (picSure_c f x o h.1 p _ wf wx wo wh).mono ?_
  rintro r st ⟨rfl, rfl⟩
  simp -dsimp only [go_sem, hsure, z2]
  refine (boxIn_c x o _ wx wo).mono ?_
  rintro r st ⟨rfl, rfl⟩
  simp -dsimp only [go_sem, hxo, z2]
  refine (picSure_c f x o g.1 p _ wf wx wo wg).mono ?_
  rintro r st ⟨rfl, rfl⟩
  simp -dsimp only [go_sem, hless, z2]
  refine (partBoxS_c l (j3 + 2 + 1 + 1) 0 x [dk l (j3 + 2 + 1 + 1)] rfl (by omega) (by omega) hx).mono ?_
  rintro r st ⟨y, hyl, hy, rfl, rfl⟩
  have ry : rightB y = true := rightB_mk (fun j hj => (hy j (by omega)).1.1) (by omega) (by omega)
  have wy : wB y := ⟨by omega, fun j hj => wI_right (hy j (by omega)).1.1⟩
  have hpart : sureP f y o h.1 p = true := sure_more S N hin hfine (k := 0) (by omega) hr (by show qN h.1 * p2 0 = qN h.1; rw [p2_zero, Rat.mul_one]) (S.hm.down (by omega)) ry (by omega)
   (fun j hj => (inI_sub (hy j (by omega)).1.1 (hx j (by omega)).1).1 (hy j (by omega)).2) (fun j hj => ⟨(hy j (by omega)).1.2.1.mul, (hy j (by omega)).1.2.2.mul⟩) hx18
  simp -dsimp only [go_sem, z2]
  refine (picSure_c f y o h.1 p _ wf wy wo wh).mono ?_
  rintro r st ⟨rfl, rfl⟩
  simp -dsimp only [go_sem, hpart, z2]
end Go.Pv
end
