/- The walk of CodeKeeps. -/
import Derived.Test.YtclholhblbelbaaZW
import Derived.Test.YtclholhblbelbaaZR
import Derived.Test.YtclholhblbelbaaZV
import Derived.Test.YtclholhblbelbaaZX
set_option linter.unusedVariables false
set_option linter.unusedSimpArgs false
set_option maxRecDepth 100000
namespace Go.Pv
open Go.Proofs
theorem isB_ex' (x : Int) : ∃ c : UInt8, IntKind.u8.wrap x = (c.toNat : Int) := by
  have h : 0 ≤ IntKind.u8.wrap x ∧ IntKind.u8.wrap x < 256 := by
    simp [IntKind.wrap, IntKind.bits, IntKind.signed]
    omega
  refine ⟨UInt8.ofNat (IntKind.u8.wrap x).toNat, ?_⟩
  rw [UInt8.toNat_ofNat']; omega
theorem ob_get (off : Nat) (T : List UInt8) (k : Nat) (h : k < T.length) : (List.replicate off PV.junk ++ encB T).getD (off + k) .junk = .sc (.int .u8 (T.getD k 0).toNat) := by
  rw [List.getD_eq_getElem?_getD, List.getElem?_append_right (by simp), List.length_replicate, Nat.add_sub_cancel_left, ← List.getD_eq_getElem?_getD]
  exact encB_get T k h
theorem ob_set (off : Nat) (T : List UInt8) (k : Nat) (c : UInt8) (h : k < T.length) : over (List.replicate off PV.junk ++ encB T) (off + k) [.sc (.int .u8 c.toNat)] = List.replicate off PV.junk ++ encB (T.set k c) := by
  unfold over
  have e : encB (T.set k c) = (encB T).set k (.sc (.int .u8 c.toNat)) := by unfold encB; rw [List.map_set]
  rw [e, show List.replicate off PV.junk ++ (encB T).set k (.sc (.int .u8 c.toNat)) = (List.replicate off PV.junk ++ encB T).set (off + k) (.sc (.int .u8 c.toNat)) from by
    rw [List.set_append_right _ _ (by simp), List.length_replicate, Nat.add_sub_cancel_left]]
  rw [List.set_eq_take_append_cons_drop, if_pos (by simp [encB]; omega)]
  simp
theorem ob_set7 (off : Nat) (T : List UInt8) (k : Nat) (h : k < T.length) : over (List.replicate off PV.junk ++ encB T) (off + k) [.sc (.int .u8 7)] = List.replicate off PV.junk ++ encB (T.set k 7) := ob_set off T k 7 h
/-- Bytes that are written later are cloned and read. -/
theorem cloneM_c (l : List UInt8) (st : Store) (k off : Nat) (hl : l.length ≤ 140737488355328) (hk : k < st.length) (ho : st.getD k [] = List.replicate off PV.junk ++ encB l) :
    PCalls Try.prog 65 [.ms true k off l.length] st (fun r st' => r = .sl (.fresh 1) (encB l) ∧ st' = st) := by
  have hs : ∀ j, j < (encB l).length → ∃ v, (encB l).getD j .junk = .sc v := fun j hj => ⟨_, encB_get l j (by rw [encB_length] at hj; exact hj)⟩
  have := PCalls.lent (P := Try.prog) (f := 65) (es := encB l) (rs := encB l) hs hs (clone_c l [] hl) st k off hk (by rw [ho, List.length_append, List.length_replicate]; exact Nat.le_refl _) (fun j hj => by
    rw [ho]
    rw [encB_length] at hj
    rw [ob_get off l j hj, encB_get l j hj])
  rw [encB_length] at this
  exact this
theorem readM_c (l : List UInt8) (st : Store) (k off : Nat) (hl : l.length ≤ 140737488355328) (hk : k < st.length) (ho : st.getD k [] = List.replicate off PV.junk ++ encB l) :
    PCalls Try.prog 37 [.ms true k off l.length] st (fun r st' => r = .gp st.length 0 ∧ st' = st ++ [rd l 0]) := by
  refine pcalls_enter none Try.func37 rfl fun E => pwp_seq (pwp_of_vc ?_)
  simp -dsimp only [go_sem]
  refine pwp_seq (pwp_of_vc ?_)
  simp -dsimp only [go_sem]
  refine (cloneM_c l st k off hl hk ho).plain.mono ?_
  rintro r st' ⟨rfl, rfl⟩
  simp -dsimp only [go_sem]
  refine pwp_give 0 (by simp [go_sem]) (by simp) (pwp_of_vc ?_)
  simp -dsimp only [go_sem]
  rfl
set_option maxHeartbeats 4000000 in
theorem codeKeeps_c (l : List UInt64) (hl : l.length ≤ 2000000) :
    PCalls Try.prog 10 [.sl .no (encW l)] [] (fun r st' => r = .sc (.bool true)) := by
  refine pcalls_enter none Try.func10 rfl fun E => pwp_seq (pwp_of_vc ?_)
  simp -dsimp only [go_sem]
  refine pwp_seq (pwp_of_vc ?_)
  simp -dsimp only [go_sem]
  refine (known22_c [] (by simp)).mono ?_
  rintro r st' ⟨rfl, ob, rfl⟩
  simp -dsimp only [go_sem]
  refine pwp_seq (pwp_of_vc ?_)
  simp -dsimp only [go_sem]
  refine (deckOf_c l _).mono ?_
  rintro r st' ⟨rfl, rfl⟩
  simp -dsimp only [go_sem]
  refine pwp_seq (pwp_of_vc ?_)
  simp -dsimp only [go_sem]
  refine (deckNum_c l 0 1 [ob, dk l 0] rfl (by omega)).mono ?_
  rintro r st' ⟨x, j, hx, hj1, hj2, rfl, rfl⟩
  simp -dsimp only [go_sem]
  refine (dim_c l j 1 [ob, dk l j] rfl (by omega)).mono ?_
  rintro r st' ⟨n, hn1, hn2, rfl, rfl⟩
  simp -dsimp only [go_sem]
  refine (deckBox_c l (j + 1) 1 n [ob, dk l (j + 1)] rfl (by omega) hn1 hn2).mono ?_
  rintro r st' ⟨bx, j3, hbx, hbn, hj5, hj6, rfl, rfl⟩
  simp -dsimp only [go_sem]
  refine pwp_seq (pwp_of_vc ?_)
  simp -dsimp only [go_sem]
  refine (cNum_c [] x _ (by simp) (rightN_wN hx)).plain.mono ?_
  rintro r st' ⟨rfl, rfl⟩
  simp -dsimp only [go_sem]
  have q3 := numB_len x
  have q5 := boxB_len bx
  have r3 := readN_num x (boxB bx) hx
  have r5 : readB (boxB bx) 0 = (bx, [], 0) := by have := readB_box bx [] hbx; simpa using this
  obtain ⟨T, hT⟩ : ∃ T, T = numB x ++ boxB bx := ⟨_, rfl⟩
  have hTl : T.length ≤ 5000 := by rw [hT]; simp; omega
  have hTp : 0 < T.length := by
    have := uvar_pos (headN x)
    rw [hT, numB, if_pos hx]; simp; omega
  have hcall := PCalls.owned (P := Try.prog) (f := 25) (args := [.sl .no (encB (numB x)), .sl .no (encIs bx)]) (es := encB T) (by rw [encB_length]; exact hTp) (fun j hj => ⟨_, encB_get T j (by rw [encB_length] at hj; exact hj)⟩) (fun p hp => by
    simp at hp
    rcases hp with rfl | rfl
    · exact noG_encB (numB x) _
    · exact noG_encIs bx _) (by rw [hT]; exact cBoxF_c (numB x) bx [] (by omega) (rightB_wB hbx)) [ob, dk l j3]
  rw [← hT] at r3
  refine hcall.mono ?_
  rintro r st' ⟨off, rfl, rfl⟩
  simp -dsimp only [go_sem]
  refine pwp_seq (pwp_of_vc ?_)
  simp -dsimp only [go_sem]
  refine (readM_c T [ob, dk l j3, List.replicate off PV.junk ++ encB T] 2 off (by omega) (by simp) rfl).mono ?_
  rintro r st' ⟨rfl, rfl⟩
  simp -dsimp only [go_sem]
  refine pwp_seq (pwp_of_vc ?_)
  simp -dsimp only [go_sem]
  refine pwp_seq (pwp_of_vc ?_)
  simp -dsimp only [go_sem]
  refine pwp_loop_mask [false, false, false, false, true, true, true, true, true] 1 0 (fun n s => ∃ i T', n = T.length - i ∧ i ≤ T.length ∧ T'.length = T.length ∧
    s = ⟨[.junk, .junk, .junk, .junk, .lp 0 0, .sl .no (encIs bx), .ms true 2 off T.length, .gp 3 0, .sc (.int .i64 (i : Nat))] ++ List.replicate 64 .junk, [encN x], [], [ob, dk l j3, List.replicate off PV.junk ++ encB T', rd T 0]⟩) T.length ?_ ?_
  · simp -dsimp only [go_sem]
    exact ⟨0, T, by omega, by omega, rfl, rfl⟩
  · rintro n s ⟨i, T', rfl, hi, hT', rfl⟩
    simp -dsimp only [go_sem]
    refine ck (fun h1 => ?_) (fun h1 => ?_)
    · have hlt : i < T.length := by have := of_decide_eq_true h1; omega
      have g1 := ob_get off T' i (by omega)
      obtain ⟨c, hc⟩ := isB_ex' (BitVec.ofInt IntKind.u8.bits ((T'.getD i 0).toNat : Int) ^^^ BitVec.ofInt IntKind.u8.bits (255 : Int)).toNat
      have hc' : bXor .u8 ((T'.getD i 0).toNat : Int) 255 = (c.toNat : Int) := hc
      have g2 := ob_set off T' i c (by omega)
      have x1 : IntKind.i64.wrap ((i : Int) + 1) = ((i + 1 : Nat) : Int) := by rw [show ((i : Int) + 1) = ((i + 1 : Nat) : Int) from rfl, wrapn_i64 _ (by omega)]
      simp -dsimp only [go_sem, g1, hc', g2, x1]
      have r0 : (List.replicate off PV.junk).length = off := List.length_replicate
      rw [r0]
      exact ⟨⟨by omega, hlt⟩, by omega, ⟨by omega, hlt⟩, ⟨by omega, by omega⟩, _, by omega, i + 1, T'.set i c, rfl, by omega, by rw [List.length_set]; exact hT', rfl⟩
    · have hge : i = T.length := by have := of_decide_eq_false h1; omega
      simp -dsimp only [go_sem]
      refine pwp_seq (pwp_of_vc ?_)
      simp -dsimp only [go_sem]
      refine (rdNum_c T 0 3 [ob, dk l j3, List.replicate off PV.junk ++ encB T', rd T 0] rfl (by omega)).mono ?_
      rintro r st' ⟨rfl, rfl⟩
      rw [r3]
      simp -dsimp only [go_sem]
      refine pwp_seq (pwp_of_vc ?_)
      simp -dsimp only [go_sem]
      refine (rdBox_c (boxB bx) 0 3 [ob, dk l j3, List.replicate off PV.junk ++ encB T', rd (boxB bx) 0] rfl (by omega)).mono ?_
      rintro r st' ⟨rfl, rfl⟩
      rw [r5]
      simp -dsimp only [go_sem]
      refine pwp_seq (pwp_of_vc ?_)
      simp -dsimp only [go_sem]
      refine pwp_loop_mask [false, false, false, false, true, true, true, true, false, true, true, true] 2 0 (fun n s => ∃ i T', n = T.length - i ∧ i ≤ T.length ∧ T'.length = T.length ∧
        s = ⟨[.junk, .junk, .junk, .junk, .lp 0 0, .sl .no (encIs bx), .ms true 2 off T.length, .gp 3 0, .junk, .lp 1 0, .sl .no (encIs bx), .sc (.int .i64 (i : Nat))] ++ List.replicate 61 .junk, [encN x, encN x], [], [ob, dk l j3, List.replicate off PV.junk ++ encB T', rd [] 0]⟩) T.length ?_ ?_
      · simp -dsimp only [go_sem]
        exact ⟨0, T', by omega, by omega, hT', rfl⟩
      · rintro n s ⟨i, T', rfl, hi, hT', rfl⟩
        simp -dsimp only [go_sem]
        refine ck (fun h1 => ?_) (fun h1 => ?_)
        · have hlt : i < T.length := by have := of_decide_eq_true h1; omega
          have g2 := ob_set7 off T' i (by omega)
          have x1 : IntKind.i64.wrap ((i : Int) + 1) = ((i + 1 : Nat) : Int) := by rw [show ((i : Int) + 1) = ((i + 1 : Nat) : Int) from rfl, wrapn_i64 _ (by omega)]
          simp -dsimp only [go_sem, g2, x1]
          have r0 : (List.replicate off PV.junk).length = off := List.length_replicate
          rw [r0]
          exact ⟨⟨by omega, hlt⟩, ⟨by omega, by omega⟩, _, by omega, i + 1, T'.set i 7, rfl, by omega, by rw [List.length_set]; exact hT', rfl⟩
        · have hge : i = T.length := by have := of_decide_eq_false h1; omega
          have wx := rightN_wN hx
          unfold wN at wx
          have b3 : decide (x = x) = true := by simp
          have b5 : decide (bx = bx) = true := by simp
          simp -dsimp only [go_sem]
          refine pwp_of_vc ?_
          simp -dsimp only [go_sem]
          refine (refSame_c x x _ (by omega) (by omega)).mono ?_
          rintro r st' ⟨rfl, rfl⟩
          simp -dsimp only [go_sem, b3]
          refine (sameBox_c bx bx _ (rightB_wB hbx) (rightB_wB hbx)).mono ?_
          rintro r st' ⟨rfl, rfl⟩
          simp -dsimp only [go_sem, b5]
          refine (left_c [] 0 3 [ob, dk l j3, List.replicate off PV.junk ++ encB T', rd [] 0] rfl).mono ?_
          rintro r st' ⟨rfl, rfl⟩
          have b7 : (((0 : Nat) : Int) == 0) = true := rfl
          have b8 : ((0 : Int) == 0) = true := rfl
          simp -dsimp only [go_sem, b7]
          refine (err_c [] 0 3 [ob, dk l j3, List.replicate off PV.junk ++ encB T', rd [] 0] rfl).mono ?_
          rintro r st' ⟨rfl, rfl⟩
          simp -dsimp only [go_sem, b8]
end Go.Pv
