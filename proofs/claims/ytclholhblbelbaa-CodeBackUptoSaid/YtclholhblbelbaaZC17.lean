/- The walk of CodeBack. -/
import Derived.Test.YtclholhblbelbaaZS
import Derived.Test.YtclholhblbelbaaZV
import Derived.Test.YtclholhblbelbaaZI
import Derived.Test.YtclholhblbelbaaZF
set_option linter.unusedVariables false
set_option linter.unusedSimpArgs false
set_option maxRecDepth 100000
namespace Go.Pv
open Go.Proofs
theorem i64_range (x : Int) : -9223372036854775808 ≤ IntKind.i64.wrap x ∧ IntKind.i64.wrap x ≤ 9223372036854775807 := by
  have e : IntKind.i64.wrap x = if x % 2 ^ 64 ≥ 2 ^ (64 - 1) then x % 2 ^ 64 - 2 ^ 64 else x % 2 ^ 64 := by
    simp [IntKind.wrap, IntKind.bits, IntKind.signed]
  rw [e]
  split <;> omega
/-- What CodeBack puts. -/
def backB (u : Nat) (i : Int) (x : Nm) (a : Ivl) (b : List Ivl) : List UInt8 := uvar u ++ (uvar (zig i) ++ (numB x ++ (ivB a ++ boxB b)))
theorem back_pre {u : Nat} {i : Int} {x : Nm} {a : Ivl} {b : List Ivl} {p : List UInt8} (hu : u < 18446744073709551616) (hi : zig i < 18446744073709551616) (hx : rightN x = true) (ha : rightI a = true) (hb : rightB b = true)
    (hp : Pre p (backB u i x a b)) (u1 u2 : Nat × List UInt8 × Int) (n : Nm × List UInt8 × Int) (v : Ivl × List UInt8 × Int)
    (e1 : u1 = readU p 0) (e2 : u2 = readU u1.2.1 u1.2.2) (e3 : n = readN u2.2.1 u2.2.2) (e4 : v = readI n.2.1 n.2.2) : (readB v.2.1 v.2.2).2.2 = 10 := by
  unfold backB at hp
  rcases hp.append with hp | ⟨q, rfl, hq⟩
  · rw [readU_pre u p hu hp] at e1
    subst e1
    rw [readU_e _ _ (by simp)] at e2
    subst e2
    rw [readN_e _ _ (by simp)] at e3
    subst e3
    rw [readI_e _ _ (by simp)] at e4
    subst e4
    rw [readB_e _ _ (by simp)]
  rw [readU_uvar u q hu] at e1
  subst e1
  simp only at e2
  rcases hq.append with hp | ⟨r, rfl, hr⟩
  · rw [readU_pre _ _ hi hp] at e2
    subst e2
    rw [readN_e _ _ (by simp)] at e3
    subst e3
    rw [readI_e _ _ (by simp)] at e4
    subst e4
    rw [readB_e _ _ (by simp)]
  rw [readU_uvar _ r hi] at e2
  subst e2
  simp only at e3
  rcases hr.append with hp | ⟨s, rfl, hs⟩
  · rw [readN_pre _ _ hx hp] at e3
    subst e3
    rw [readI_e _ _ (by simp)] at e4
    subst e4
    rw [readB_e _ _ (by simp)]
  rw [readN_num _ _ hx] at e3
  subst e3
  simp only at e4
  rcases hs.append with hp | ⟨t, rfl, ht⟩
  · rw [readI_pre _ _ ha hp] at e4
    subst e4
    rw [readB_e _ _ (by simp)]
  rw [readI_iv _ _ ha] at e4
  subst e4
  simp only
  rw [readB_pre _ _ hb ht]
set_option maxHeartbeats 4000000 in
theorem codeBack_c (l : List UInt64) (cut : Nat) (hl : l.length ≤ 2000000) (hc : cut < 65536) :
    PCalls Try.prog 8 [.sl .no (encW l), .sc (.int .u16 cut)] [] (fun r st' => r = .sc (.bool true)) := by
  refine pcalls_enter none Try.func8 rfl fun E => pwp_of_vc ?_
  simp -dsimp only [go_sem]
  refine (known22_c [] (by simp)).mono ?_
  rintro r st' ⟨rfl, ob, rfl⟩
  simp -dsimp only [go_sem]
  refine (deckOf_c l _).mono ?_
  rintro r st' ⟨rfl, rfl⟩
  simp -dsimp only [go_sem]
  refine (next_c l 0 1 [ob, dk l 0] rfl (by omega)).mono ?_
  rintro r st' ⟨rfl, rfl⟩
  simp -dsimp only [go_sem]
  refine (next_c l 1 1 [ob, dk l 1] rfl (by omega)).mono ?_
  rintro r st' ⟨rfl, rfl⟩
  have hu := (l.getD 0 0).toNat_lt
  obtain ⟨u, hue⟩ : ∃ u, u = (l.getD 0 0).toNat := ⟨_, rfl⟩
  rw [← hue] at hu ⊢
  have hi := i64_range ((l.getD 1 0).toNat : Int)
  obtain ⟨i, hie⟩ : ∃ i, i = IntKind.i64.wrap ((l.getD 1 0).toNat : Int) := ⟨_, rfl⟩
  rw [← hie] at hi
  simp -dsimp only [go_sem, ← hie]
  refine (deckNum_c l 2 1 [ob, dk l 2] rfl (by omega)).mono ?_
  rintro r st' ⟨x, j, hx, hj1, hj2, rfl, rfl⟩
  simp -dsimp only [go_sem]
  refine (deckIv_c l j 1 [ob, dk l j] rfl (by omega)).mono ?_
  rintro r st' ⟨a, j2, ha, hj3, hj4, rfl, rfl⟩
  simp -dsimp only [go_sem]
  refine (dim_c l j2 1 [ob, dk l j2] rfl (by omega)).mono ?_
  rintro r st' ⟨n, hn1, hn2, rfl, rfl⟩
  simp -dsimp only [go_sem]
  refine (deckBox_c l (j2 + 1) 1 n [ob, dk l (j2 + 1)] rfl (by omega) hn1 hn2).mono ?_
  rintro r st' ⟨b, j3, hb, hbn, hj5, hj6, rfl, rfl⟩
  simp -dsimp only [go_sem]
  have hz := zig_lt hi.1 hi.2
  have q1 := uvar_len10 hu
  have q2 := uvar_len10 hz
  have q3 := numB_len x
  have q4 := ivB_len a
  have q5 := boxB_len b
  refine pwp_draw mixed 116 (.step 0 [] (.step 2 [] (.step 4 [] (.step 6 [] (.step 8 [] (.step 1 [4, 6] (.step 3 [4, 6] (.step 5 [6] (.step 7 [] (.step 9 [] (.step 10 [] (.done)))))))))))) (by decide +kernel) (by simp) ?_
  simp -dsimp only [go_sem]
  refine (uint_c [] u _ (by simp) hu).mono ?_
  rintro r st' ⟨rfl, rfl⟩
  simp -dsimp only [go_sem]
  refine (cInt_c ([] ++ uvar u) i _ (by simp; omega) hi.1 hi.2).mono ?_
  rintro r st' ⟨rfl, rfl⟩
  simp -dsimp only [go_sem]
  refine (cNum_c (uvar u ++ uvar (zig i)) x _ (by simp; omega) (rightN_wN hx)).mono ?_
  rintro r st' ⟨rfl, rfl⟩
  simp -dsimp only [go_sem]
  refine (cIv_c (uvar u ++ uvar (zig i) ++ numB x) a _ (by simp; omega) (rightI_wI ha)).mono ?_
  rintro r st' ⟨rfl, rfl⟩
  simp -dsimp only [go_sem]
  refine (cBox_c (uvar u ++ uvar (zig i) ++ numB x ++ ivB a) b _ (by simp; omega) (rightB_wB hb)).mono ?_
  rintro r st' ⟨rfl, rfl⟩
  have eT : uvar u ++ uvar (zig i) ++ numB x ++ ivB a ++ boxB b = backB u i x a b := by unfold backB; simp
  have hTl : (backB u i x a b).length ≤ 6000 := by rw [← eT]; simp; omega
  have hTp : 0 < (backB u i x a b).length := by have := uvar_pos u; rw [← eT]; simp; omega
  have r1 : readU (backB u i x a b) 0 = (u, uvar (zig i) ++ (numB x ++ (ivB a ++ boxB b)), 0) := readU_uvar u _ hu
  have r2 := readU_uvar (zig i) (numB x ++ (ivB a ++ boxB b)) hz
  have r3 := readN_num x (ivB a ++ boxB b) hx
  have r4 := readI_iv a (boxB b) ha
  have r5 : readB (boxB b) 0 = (b, [], 0) := by have := readB_box b [] hb; simpa using this
  have hpre := fun p hp => back_pre (p := p) hu hz hx ha hb hp _ _ _ _ rfl rfl rfl rfl
  rw [eT]
  generalize hT : backB u i x a b = T at *
  simp -dsimp only [go_sem]
  refine (read_c T _ (by omega)).mono ?_
  rintro r st' ⟨rfl, rfl⟩
  simp -dsimp only [go_sem]
  refine pwp_draw mixed 116 (.step 0 [] (.step 1 [] (.step 2 [] (.step 3 [] (.step 4 [] (.step 5 [] (.step 6 [] (.step 7 [] (.step 8 [] (.step 10 [] (.step 9 [] (.step 11 [] (.step 12 [] (.step 13 [] (.step 14 [] (.step 16 [] (.step 15 [] (.step 17 [] (.step 18 [] (.step 19 [] (.step 20 [] (.step 22 [] (.step 21 [22] (.step 23 [] (.step 24 [] (.step 25 [] (.step 26 [] (.step 27 [] (.step 29 [] (.step 28 [29] (.step 30 [] (.step 31 [] (.step 32 [] (.step 33 [] (.step 34 [] (.step 36 [] (.step 35 [22] (.step 37 [22] (.step 38 [] (.step 39 [] (.step 40 [] (.step 41 [] (.step 42 [22, 29] (.step 43 [] (.step 44 [] (.step 45 [] (.step 46 [] (.step 47 [22, 29] (.step 48 [] (.step 49 [] (.done))))))))))))))))))))))))))))))))))))))))))))))))))) (by decide +kernel) (by simp) ?_
  have t0 : ((T.length : Int) == 0) = false := by rw [beq_eq_false_iff_ne]; omega
  simp -dsimp only [go_sem, t0]
  have b1 : ((u : Int) != (u : Int)) = false := by simp
  have b2 : (i != i) = false := by simp
  have b3 : decide (x = x) = true := by simp
  have b4 : decide (a = a) = true := by simp
  have b5 : decide (b = b) = true := by simp
  have b6 : ((0 : Int) != 0) = false := rfl
  have b7 : (((0 : Nat) : Int) != 0) = false := rfl
  refine (rdUint_c T 0 2 [ob, dk l j3, rd T 0] rfl (by omega)).mono ?_
  rintro r st' ⟨rfl, rfl⟩
  rw [r1]
  simp -dsimp only [go_sem, b1]
  have k1 : (uvar (zig i) ++ (numB x ++ (ivB a ++ boxB b))).length ≤ 10000 := by simp; omega
  refine (rdInt_c _ 0 2 [ob, dk l j3, rd (uvar (zig i) ++ (numB x ++ (ivB a ++ boxB b))) 0] rfl (by omega)).mono ?_
  rintro r st' ⟨rfl, rfl⟩
  rw [r2]
  simp -dsimp only [go_sem, unzig_zig, b2]
  have k2 : (numB x ++ (ivB a ++ boxB b)).length ≤ 10000 := by simp; omega
  refine (rdNum_c _ 0 2 [ob, dk l j3, rd (numB x ++ (ivB a ++ boxB b)) 0] rfl (by omega)).mono ?_
  rintro r st' ⟨rfl, rfl⟩
  rw [r3]
  have wx := rightN_wN hx
  have wx2 := wx
  unfold wN at wx2
  simp -dsimp only [go_sem]
  refine (refSame_c x x _ (by omega) (by omega)).mono ?_
  rintro r st' ⟨rfl, rfl⟩
  simp -dsimp only [go_sem, b3]
  have k3 : (ivB a ++ boxB b).length ≤ 10000 := by simp; omega
  refine (rdIv_c _ 0 2 [ob, dk l j3, rd (ivB a ++ boxB b) 0] rfl (by omega)).mono ?_
  rintro r st' ⟨rfl, rfl⟩
  rw [r4]
  simp -dsimp only [go_sem]
  refine (sameIv_c a a _ (rightI_wI ha) (rightI_wI ha)).mono ?_
  rintro r st' ⟨rfl, rfl⟩
  simp -dsimp only [go_sem, b4]
  refine (rdBox_c _ 0 2 [ob, dk l j3, rd (boxB b) 0] rfl (by omega)).mono ?_
  rintro r st' ⟨rfl, rfl⟩
  rw [r5]
  simp -dsimp only [go_sem]
  refine (sameBox_c b b _ (rightB_wB hb) (rightB_wB hb)).mono ?_
  rintro r st' ⟨rfl, rfl⟩
  simp -dsimp only [go_sem, b5]
  refine (err_c [] 0 2 [ob, dk l j3, rd [] 0] rfl).mono ?_
  rintro r st' ⟨rfl, rfl⟩
  simp -dsimp only [go_sem, b6]
  refine (left_c [] 0 2 [ob, dk l j3, rd [] 0] rfl).mono ?_
  rintro r st' ⟨rfl, rfl⟩
  have c1 : IntKind.i64.wrap (cut : Int) = (cut : Int) := wrapn_i64 _ (by omega)
  have c2 : (cut : Int).tmod (T.length : Int) = ((cut % T.length : Nat) : Int) := (Int.ofNat_tmod _ _).symm
  have c3 := Nat.mod_lt cut hTp
  have c4 : (encB T).take (cut % T.length) = encB (T.take (cut % T.length)) := by simp [encB]
  simp -dsimp only [go_sem, b7, c1, c2, c4]
  refine ⟨bne_iff_ne.2 (by omega), ⟨⟨by omega, by omega⟩, by omega⟩, ?_⟩
  have hpp : Pre (T.take (cut % T.length)) T := ⟨List.take_prefix _ _, by rw [List.length_take]; omega⟩
  have hend := hpre _ hpp
  have hpl : (T.take (cut % T.length)).length ≤ 6000 := by rw [List.length_take]; omega
  generalize T.take (cut % T.length) = p at *
  refine (read_c p _ (by omega)).mono ?_
  rintro r st' ⟨rfl, rfl⟩
  simp -dsimp only [go_sem]
  have o1 := readU_len p 0
  refine (rdUint_c p 0 3 [ob, dk l j3, rd [] 0, rd p 0] rfl (by omega)).mono ?_
  rintro r st' ⟨rfl, rfl⟩
  generalize readU p 0 = u1 at *
  simp -dsimp only [go_sem]
  have o2 := readU_len u1.2.1 u1.2.2
  refine (rdInt_c _ _ 3 [ob, dk l j3, rd [] 0, rd u1.2.1 u1.2.2] rfl (by omega)).mono ?_
  rintro r st' ⟨rfl, rfl⟩
  generalize readU u1.2.1 u1.2.2 = u2 at *
  simp -dsimp only [go_sem]
  have o3 := readN_len u2.2.1 u2.2.2
  refine (rdNum_c _ _ 3 [ob, dk l j3, rd [] 0, rd u2.2.1 u2.2.2] rfl (by omega)).mono ?_
  rintro r st' ⟨rfl, rfl⟩
  generalize readN u2.2.1 u2.2.2 = n3 at *
  simp -dsimp only [go_sem]
  have o4 := readI_len n3.2.1 n3.2.2
  refine (rdIv_c _ _ 3 [ob, dk l j3, rd [] 0, rd n3.2.1 n3.2.2] rfl (by omega)).mono ?_
  rintro r st' ⟨rfl, rfl⟩
  generalize readI n3.2.1 n3.2.2 = i4 at *
  simp -dsimp only [go_sem]
  refine (rdBox_c _ _ 3 [ob, dk l j3, rd [] 0, rd i4.2.1 i4.2.2] rfl (by omega)).mono ?_
  rintro r st' ⟨rfl, rfl⟩
  generalize readB i4.2.1 i4.2.2 = b5' at *
  simp -dsimp only [go_sem]
  refine (err_c _ _ 3 [ob, dk l j3, rd [] 0, rd b5'.2.1 b5'.2.2] rfl).mono ?_
  rintro r st' ⟨rfl, rfl⟩
  have hf : (b5'.2.2 == 10) = true := by rw [hend]; rfl
  simp -dsimp only [go_sem, hf]
end Go.Pv
