/- The walk of CodeOne. -/
import Derived.Test.YtclholhblbelbaaZW
import Derived.Test.YtclholhblbelbaaZU
import Derived.Test.YtclholhblbelbaaZV
set_option linter.unusedVariables false
set_option linter.unusedSimpArgs false
set_option maxRecDepth 100000
namespace Go.Pv
open Go.Proofs
theorem isB_ex (x : Int) : ∃ c : UInt8, IntKind.u8.wrap x = (c.toNat : Int) := by
  have h : 0 ≤ IntKind.u8.wrap x ∧ IntKind.u8.wrap x < 256 := by
    simp [IntKind.wrap, IntKind.bits, IntKind.signed]
    omega
  refine ⟨UInt8.ofNat (IntKind.u8.wrap x).toNat, ?_⟩
  rw [UInt8.toNat_ofNat']; omega
theorem obj_get (off : Nat) (T : List UInt8) (k : Nat) (h : k < T.length) : (List.replicate off PV.junk ++ encB T).getD (off + k) .junk = .sc (.int .u8 (T.getD k 0).toNat) := by
  rw [List.getD_eq_getElem?_getD, List.getElem?_append_right (by simp), List.length_replicate, Nat.add_sub_cancel_left, ← List.getD_eq_getElem?_getD]
  exact encB_get T k h
theorem obj_set (off : Nat) (T : List UInt8) (k : Nat) (c : UInt8) (h : k < T.length) : over (List.replicate off PV.junk ++ encB T) (off + k) [.sc (.int .u8 c.toNat)] = List.replicate off PV.junk ++ encB (T.set k c) := by
  unfold over
  have e : encB (T.set k c) = (encB T).set k (.sc (.int .u8 c.toNat)) := by unfold encB; rw [List.map_set]
  rw [e, show List.replicate off PV.junk ++ (encB T).set k (.sc (.int .u8 c.toNat)) = (List.replicate off PV.junk ++ encB T).set (off + k) (.sc (.int .u8 c.toNat)) from by
    rw [List.set_append_right _ _ (by simp), List.length_replicate, Nat.add_sub_cancel_left]]
  rw [List.set_eq_take_append_cons_drop, if_pos (by simp [encB]; omega)]
  simp
/-- What one reading and putting again shows. -/
def OneH (B again l2 : List UInt8) (e2 : Int) : Prop := l2.length ≤ B.length ∧ (e2 = 0 → B = again ++ l2) ∧ (e2 ≠ 0 → l2 = B)
theorem one_U (B : List UInt8) : OneH B (uvar (readU B 0).1) (readU B 0).2.1 (readU B 0).2.2 :=
  ⟨readU_len B 0, fun h => readU_one B h, fun h => by rw [readU_bad B 0 h]⟩
theorem one_N (B : List UInt8) : OneH B (numB (readN B 0).1) (readN B 0).2.1 (readN B 0).2.2 :=
  ⟨readN_len B 0, fun h => (readN_one B h).2, fun h => by rw [readN_bad B 0 h]⟩
theorem one_I (B : List UInt8) : OneH B (ivB (readI B 0).1) (readI B 0).2.1 (readI B 0).2.2 :=
  ⟨readI_len B 0, fun h => (readI_one B h).2, fun h => by rw [readI_bad B 0 h]⟩
theorem one_B (B : List UInt8) : OneH B (boxB (readB B 0).1) (readB B 0).2.1 (readB B 0).2.2 :=
  ⟨(readB_suf B 0).length_le, fun h => (readB_one B h).2, fun h => by rw [readB_bad B 0 h]⟩
theorem unzig_range {v : Nat} (h : v < 18446744073709551616) : -9223372036854775808 ≤ unzig v ∧ unzig v ≤ 9223372036854775807 := by
  unfold unzig; split <;> omega
set_option maxHeartbeats 4000000 in
theorem codeOne_c (b : List UInt8) (l : List UInt64) (at' by' kind : Nat) (hb : b.length ≤ 2000000) (hl : l.length ≤ 2000000) (hat : at' < 65536) (hby : by' < 256) (hkind : kind < 256) :
    PCalls Try.prog 9 [.sl .no (encB b), .sl .no (encW l), .sc (.int .u16 at'), .sc (.int .u8 by'), .sc (.int .u8 kind)] [] (fun r st' => r = .sc (.bool true)) := by
  obtain ⟨kc, hkc⟩ : ∃ c : UInt8, kind = c.toNat := ⟨UInt8.ofNat kind, by simp; omega⟩
  refine pcalls_enter none Try.func9 rfl fun E => pwp_seq (pwp_of_vc ?_)
  simp -dsimp only [go_sem]
  refine pwp_seq (pwp_of_vc ?_)
  simp -dsimp only [go_sem]
  refine (known22_c [] (by simp)).mono ?_
  rintro r st' ⟨rfl, ob, rfl⟩
  simp -dsimp only [go_sem]
  refine pwp_seq (pwp_of_vc ?_)
  simp -dsimp only [go_sem]
  refine ck (fun h1 => ?_) (fun h1 => ?_)
  · simp -dsimp only [go_sem]
  have hb2 : b.length ≤ 600 := by have := of_decide_eq_false h1; omega
  simp -dsimp only [go_sem]
  refine pwp_seq (pwp_of_vc ?_)
  simp -dsimp only [go_sem]
  refine (deckOf_c l _).mono ?_
  rintro r st' ⟨rfl, rfl⟩
  simp -dsimp only [go_sem]
  refine pwp_cut_mask [true, false, false, false, true] 0 0 (fun s => ∃ B : List UInt8, B.length ≤ 6000 ∧ ((∃ st2, s = ⟨[.sl .no (encB B), .junk, .junk, .junk, .sc (.int .u8 kind)] ++ List.replicate 110 .junk, [], [], st2⟩) ∨
    ∃ off x y, 0 < B.length ∧ s = ⟨[.ms true 2 off B.length, .junk, .junk, .junk, .sc (.int .u8 kind)] ++ List.replicate 110 .junk, [], [], [x, y, List.replicate off .junk ++ encB B]⟩)) ?_ ?_
  · simp -dsimp only [go_sem]
    refine (yes_c l 0 1 2 [ob, dk l 0] rfl (by omega) (by omega) (by omega)).mono ?_
    rintro r st' ⟨rfl, rfl⟩
    simp -dsimp only [go_sem]
    refine ck (fun h2 => ?_) (fun h2 => ?_)
    · simp -dsimp only [go_sem]
      refine (deckNum_c l 1 1 [ob, dk l 1] rfl (by omega)).mono ?_
      rintro r st' ⟨x, j, hx, hj1, hj2, rfl, rfl⟩
      simp -dsimp only [go_sem]
      refine (cNum_c [] x _ (by simp) (rightN_wN hx)).plain.mono ?_
      rintro r st' ⟨rfl, rfl⟩
      simp -dsimp only [go_sem]
      refine (dim_c l j 1 [ob, dk l j] rfl (by omega)).mono ?_
      rintro r st' ⟨n, hn1, hn2, rfl, rfl⟩
      simp -dsimp only [go_sem]
      refine (deckBox_c l (j + 1) 1 n [ob, dk l (j + 1)] rfl (by omega) hn1 hn2).mono ?_
      rintro r st' ⟨bx, j3, hbx, hbn, hj5, hj6, rfl, rfl⟩
      simp -dsimp only [go_sem]
      have q3 := numB_len x
      have q5 := boxB_len bx
      obtain ⟨T, hT⟩ : ∃ T, T = numB x ++ boxB bx := ⟨_, rfl⟩
      have hTl : T.length ≤ 5000 := by rw [hT]; simp; omega
      have hTp : 0 < T.length := by
        have := uvar_pos (headN x)
        rw [hT, numB, if_pos hx]; simp; omega
      have hcall := PCalls.owned (P := Try.prog) (f := 25) (args := [.sl .no (encB (numB x)), .sl .no (encIs bx)]) (es := encB T) (by rw [encB_length]; exact hTp) (fun j hj => ⟨_, encB_get T j (by rw [encB_length] at hj; exact hj)⟩) (fun p hp => by
        simp at hp
        rcases hp with rfl | rfl
        · exact noG_encB (numB x) _
        · exact noG_encIs bx _) (by rw [hT]; exact cBoxF_c (numB x) bx [] (by omega) (rightB_wB hbx)) [ob, dk l j3]
      refine hcall.mono ?_
      rintro r st' ⟨off, rfl, rfl⟩
      have t0 : ((T.length : Int) == 0) = false := by rw [beq_eq_false_iff_ne]; omega
      simp -dsimp only [go_sem, t0]
      have c1 : IntKind.i64.wrap (at' : Int) = (at' : Int) := wrapn_i64 _ (by omega)
      have c2 : (at' : Int).tmod (T.length : Int) = ((at' % T.length : Nat) : Int) := (Int.ofNat_tmod _ _).symm
      have c3 := Nat.mod_lt at' hTp
      obtain ⟨k, hk⟩ : ∃ k, k = at' % T.length := ⟨_, rfl⟩
      rw [← hk] at c2 c3
      have g1 := obj_get off T k c3
      obtain ⟨c, hc⟩ := isB_ex (BitVec.ofInt IntKind.u8.bits ((T.getD k 0).toNat : Int) ^^^ BitVec.ofInt IntKind.u8.bits (by' : Int)).toNat
      have hc' : bXor .u8 ((T.getD k 0).toNat : Int) (by' : Int) = (c.toNat : Int) := hc
      have g2 := obj_set off T k c c3
      simp -dsimp only [go_sem, c1, c2, g1, hc', g2]
      have r0 : (List.replicate off PV.junk).length = off := List.length_replicate
      rw [r0]
      exact ⟨bne_iff_ne.2 (by omega), ⟨by omega, by omega⟩, by omega, ⟨by omega, by omega⟩, ⟨by omega, by omega⟩, T.set k c, by rw [List.length_set]; omega, .inr ⟨off, ob, dk l j3, by rw [List.length_set]; omega, by rw [List.length_set]⟩⟩
    · simp -dsimp only [go_sem]
      exact ⟨b, by omega, .inl ⟨_, rfl⟩⟩
  rintro s ⟨B, hB, hs⟩
  obtain ⟨s', hw, st2, rfl⟩ : ∃ s', Weak E s s' ∧ ∃ st2, s' = ⟨[.sl .no (encB B), .junk, .junk, .junk, .sc (.int .u8 kind)] ++ List.replicate 110 .junk, [], [], st2⟩ := by
    rcases hs with ⟨st2, rfl⟩ | ⟨off, x, y, hp, rfl⟩
    · exact ⟨_, Weak.refl _, st2, rfl⟩
    · refine ⟨_, weak_freezeG 2 0 (by simp) (fun p hp => ?_) ?_, [x, y, []], ?_⟩
      · have hp' : p ∈ List.replicate off PV.junk ++ encB B := hp
        rcases List.mem_append.1 hp' with hp' | hp'
        · rw [List.eq_of_mem_replicate hp']; rfl
        · simp [encB] at hp'
          obtain ⟨c, _, rfl⟩ := hp'; rfl
      · show List.replicate off PV.junk ++ encB B ≠ []
        intro e
        have h2 : (List.replicate off PV.junk ++ encB B).length = 0 := by rw [e]; rfl
        rw [List.length_append, encB_length] at h2; omega
      · have e1 : ((List.replicate off PV.junk ++ encB B).drop off).take B.length = encB B := by
          rw [List.drop_append_of_le_length (by simp), List.drop_eq_nil_of_le (by simp), List.nil_append, List.take_of_length_le (by rw [encB_length]; exact Nat.le_refl _)]
        have e2 : 2 = 2 ∧ off + B.length ≤ (List.replicate off PV.junk ++ encB B).length := ⟨rfl, by rw [List.length_append, List.length_replicate, encB_length]; exact Nat.le_refl _⟩
        simp -dsimp only [go_sem, e1]
        simp
  refine pwp_weak hw ?_
  clear hw
  refine pwp_seq (pwp_of_vc ?_)
  simp -dsimp only [go_sem]
  refine (read_c B st2 (by omega)).mono ?_
  rintro r st' ⟨rfl, rfl⟩
  simp -dsimp only [go_sem]
  refine pwp_seq (pwp_of_vc ?_)
  simp -dsimp only [go_sem]
  refine pwp_seq (pwp_of_vc ?_)
  simp -dsimp only [go_sem]
  refine pwp_cut_mask [true, false, false, false, true, false, false, false, false, false, false, false, true, true] 0 0 (fun s => ∃ again l2 e2, OneH B again l2 e2 ∧
    s = ⟨[.sl .no (encB B), .junk, .junk, .junk, .sc (.int .u8 kind), .junk, .junk, .junk, .junk, .junk, .junk, .junk, .gp st2.length 0, .sl .no (encB again)] ++ List.replicate 101 .junk, [], [], st2 ++ [rd l2 e2]⟩) ?_ ?_
  · simp -dsimp only [go_sem]
    refine ck (fun q0 => ?_) (fun q0 => ?_)
    · simp -dsimp only [go_sem]
      refine (rdUint_c B 0 st2.length _ (atR_last _ _ 0) (by omega)).mono ?_
      rintro r st' ⟨rfl, rfl⟩
      simp -dsimp only [go_sem, set_last]
      refine (uint_c [] (readU B 0).1 _ (by simp) (readU_lt B 0)).plain.mono ?_
      rintro r st' ⟨rfl, rfl⟩
      simp -dsimp only [go_sem]
      exact ⟨uvar (readU B 0).1, (readU B 0).2.1, (readU B 0).2.2, one_U B, rfl⟩
    simp -dsimp only [go_sem]
    refine ck (fun q1 => ?_) (fun q1 => ?_)
    · simp -dsimp only [go_sem]
      refine (rdInt_c B 0 st2.length _ (atR_last _ _ 0) (by omega)).mono ?_
      rintro r st' ⟨rfl, rfl⟩
      simp -dsimp only [go_sem, set_last]
      refine (cInt_c [] (unzig (readU B 0).1) _ (by simp) (unzig_range (readU_lt B 0)).1 (unzig_range (readU_lt B 0)).2).plain.mono ?_
      rintro r st' ⟨rfl, rfl⟩
      simp -dsimp only [go_sem]
      exact ⟨uvar (zig (unzig (readU B 0).1)), (readU B 0).2.1, (readU B 0).2.2, by rw [zig_unzig]; exact one_U B, rfl⟩
    simp -dsimp only [go_sem]
    refine ck (fun q2 => ?_) (fun q2 => ?_)
    · simp -dsimp only [go_sem]
      refine (rdNum_c B 0 st2.length _ (atR_last _ _ 0) (by omega)).mono ?_
      rintro r st' ⟨rfl, rfl⟩
      simp -dsimp only [go_sem, set_last]
      refine (cNum_c [] (readN B 0).1 _ (by simp) (rightN_wN (readN_right B 0))).plain.mono ?_
      rintro r st' ⟨rfl, rfl⟩
      simp -dsimp only [go_sem]
      exact ⟨numB (readN B 0).1, (readN B 0).2.1, (readN B 0).2.2, one_N B, rfl⟩
    simp -dsimp only [go_sem]
    refine ck (fun q3 => ?_) (fun q3 => ?_)
    · simp -dsimp only [go_sem]
      refine (rdIv_c B 0 st2.length _ (atR_last _ _ 0) (by omega)).mono ?_
      rintro r st' ⟨rfl, rfl⟩
      simp -dsimp only [go_sem, set_last]
      refine (cIv_c [] (readI B 0).1 _ (by simp) (rightI_wI (readI_right B 0))).plain.mono ?_
      rintro r st' ⟨rfl, rfl⟩
      simp -dsimp only [go_sem]
      exact ⟨ivB (readI B 0).1, (readI B 0).2.1, (readI B 0).2.2, one_I B, rfl⟩
    simp -dsimp only [go_sem]
    refine (rdBox_c B 0 st2.length _ (atR_last _ _ 0) (by omega)).mono ?_
    rintro r st' ⟨rfl, rfl⟩
    simp -dsimp only [go_sem, set_last]
    refine (cBox_c [] (readB B 0).1 _ (by simp) (readB_wB B 0)).mono ?_
    rintro r st' ⟨rfl, rfl⟩
    simp -dsimp only [go_sem]
    exact ⟨boxB (readB B 0).1, (readB B 0).2.1, (readB B 0).2.2, one_B B, rfl⟩
  rintro s ⟨again, l2, e2, ⟨o1, o2, o3⟩, rfl⟩
  refine pwp_seq (pwp_of_vc ?_)
  simp -dsimp only [go_sem]
  refine (left_c _ _ st2.length _ (atR_last _ _ _)).mono ?_
  rintro r st' ⟨rfl, rfl⟩
  have x1 : IntKind.i64.wrap ((B.length : Int) - (l2.length : Int)) = ((B.length - l2.length : Nat) : Int) := by rw [wrap_i64 _ (by omega) (by omega)]; omega
  simp -dsimp only [go_sem, x1]
  refine pwp_seq (pwp_of_vc ?_)
  simp -dsimp only [go_sem]
  refine (err_c _ _ st2.length _ (atR_last _ _ _)).mono ?_
  rintro r st' ⟨rfl, rfl⟩
  simp -dsimp only [go_sem]
  refine ck (fun h3 => ?_) (fun h3 => ?_)
  · have he : e2 ≠ 0 := by simpa using h3
    have t1 : (((B.length - l2.length : Nat) : Int) == 0) = true := by rw [o3 he]; simp
    have ek : [PV.sc (.int .u8 (kind : Nat))] = encB [kc] := by rw [hkc]; rfl
    simp -dsimp only [go_sem, t1, ek]
    refine ⟨by simp [encB, PV.cellOK, Value.oneCell'], ?_⟩
    refine (reads_c B [kc] _ (by omega) (by simp)).mono ?_
    rintro r st' ⟨rfl, x, y, rfl⟩
    simp -dsimp only [go_sem]
  · have he : e2 = 0 := by simpa using h3
    have hB2 := o2 he
    have t1 : decide (((B.length - l2.length : Nat) : Int) ≥ 0) = true := decide_eq_true (by omega)
    have t2 : decide (((B.length - l2.length : Nat) : Int) ≤ (B.length : Int)) = true := decide_eq_true (by omega)
    have t3 : B.take (B.length - l2.length) = again := by rw [hB2]; simp
    have t4 : (again == again) = true := beq_self_eq_true _
    have ek : [PV.sc (.int .u8 (kind : Nat)), PV.sc (.int .u8 (kind : Nat))] = encB [kc, kc] := by rw [hkc]; rfl
    simp -dsimp only [go_sem]
    refine pwp_of_vc ?_
    simp -dsimp only [go_sem]
    refine pwp_draw mixed 115 (.step 0 [] (.step 1 [] (.step 2 [] (.step 3 [] (.step 4 [] (.step 5 [] (.step 6 [] (.step 7 [] (.step 8 [] (.step 9 [] (.step 10 [] (.step 11 [] (.step 12 [] (.step 13 [] (.step 14 [] (.step 15 [] (.step 16 [] (.step 17 [] (.step 18 [] (.step 19 [] (.step 20 [] (.step 21 [] (.step 22 [] (.step 23 [] (.step 24 [] (.done)))))))))))))))))))))))))) (by decide +kernel) (by simp) ?_
    simp -dsimp only [go_sem, t1, t2, t3, t4, ek]
    refine ⟨⟨by omega, by omega⟩, ?_⟩
    refine (reads_c B [kc, kc] _ (by omega) (by simp)).mono ?_
    rintro r st' ⟨rfl, x, y, rfl⟩
    simp -dsimp only [go_sem, t1, t2, t3, t4, ek]
end Go.Pv
