/- Parts of the walk: C18. -/
import Derived.Test.YtclholhblbelbaaZS
import Derived.Test.YtclholhblbelbaaZP
set_option linter.unusedVariables false
set_option linter.unusedSimpArgs false
section
/- code.Box hands back what nobody else holds. -/
set_option linter.unusedVariables false
set_option linter.unusedSimpArgs false
set_option maxRecDepth 100000
namespace Go.Pv
open Go.Proofs
theorem cBoxF_c (l : List UInt8) (x : List Ivl) (st : Store) (hl : l.length ≤ 100000000000) (hw : wB x) : PCalls Try.prog 25 [.sl .no (encB l), .sl .no (encIs x)] st (fun r st' => r = .sl (.fresh 1) (encB (l ++ boxB x)) ∧ st' = st) := by
  refine pcalls_enter (some 1) Try.func25 rfl fun E => pwp_of_vc ?_
  have hxl := hw.1
  simp -dsimp only [go_sem]
  refine (boxRight_c x st hw).mono ?_
  rintro r st ⟨rfl, rfl⟩
  simp -dsimp only [go_sem]
  refine ck (fun h => ?_) (fun h => ?_)
  · have hr : rightB x = false := by simpa using h
    simp -dsimp only [go_sem]
    refine (clone_c l st (by omega)).mono ?_
    rintro r st ⟨rfl, rfl⟩
    simp -dsimp only [go_sem]
    rw [boxB, if_neg (by simp [hr]), List.append_nil]
  · have hr : rightB x = true := by simpa using h
    have hx4 := rightB_len hr
    have w1 : IntKind.u64.wrap (x.length : Int) = (x.length : Int) := wrap_u64 _ (by omega)
    have h10 := uvar_len10 (v := x.length) (by omega)
    simp -dsimp only [go_sem, w1]
    refine (uint_c l x.length st (by omega) (by omega)).mono ?_
    rintro r st ⟨rfl, rfl⟩
    simp -dsimp only [go_sem]
    obtain ⟨base, hb⟩ : ∃ b, b = l ++ uvar x.length := ⟨_, rfl⟩
    have hbl : base.length ≤ l.length + 10 := by rw [hb]; simp; omega
    have hbe : l.length + (uvar x.length).length = base.length := by rw [hb]; simp
    rw [← hb]
    refine pwp_loop_tok [false, false, false, false, false, true, false, false, false, false, false, false, false, false, false, false, false, false, true, true, true] 0 5
      (fun n s => ∃ i, n = x.length - i ∧ i ≤ x.length ∧ s = ⟨List.replicate 5 .junk ++ ([.sl (.own 0) (encB (base ++ (x.take i).flatMap ivB))] ++ (List.replicate 12 .junk ++ ([.sl .no (encIs x), .sc (.int .i64 x.length), .sc (.int .i64 (i : Nat))] ++ List.replicate 8 .junk))), [], [((base ++ (x.take i).flatMap ivB).length, 1)], st⟩) x.length ?_ ?_
    · simp -dsimp only [go_sem]
      refine ⟨0, by omega, by omega, ?_⟩
      simp [hbe]
    · rintro n s ⟨i, rfl, hi, rfl⟩
      simp -dsimp only [go_sem]
      refine ck (fun h1 => ?_) (fun h1 => ?_)
      · have hlt : i < x.length := by have := of_decide_eq_true h1; omega
        have g1 := encIs_get x i hlt
        have hfl := flat_length (x.take i)
        rw [List.length_take, Nat.min_eq_left hi] at hfl
        have x1 : IntKind.i64.wrap ((i : Int) + 1) = ((i + 1 : Nat) : Int) := by rw [show ((i : Int) + 1) = ((i + 1 : Nat) : Int) from rfl, wrapn_i64 _ (by omega)]
        simp -dsimp only [go_sem, g1]
        refine ⟨⟨by omega, hlt⟩, ?_⟩
        refine (cIv_c (base ++ (x.take i).flatMap ivB) (x.getD i default) st (by rw [List.length_append]; omega) (hw.2 i hlt)).mono ?_
        rintro r st ⟨rfl, rfl⟩
        simp -dsimp only [go_sem, x1]
        refine ⟨x.length - (i + 1), by omega, i + 1, rfl, by omega, ?_⟩
        rw [boxB_take x i hlt, ← List.append_assoc]
        simp [Nat.add_assoc]
      · have hge : i = x.length := by have := of_decide_eq_false h1; omega
        simp -dsimp only [go_sem]
        refine pwp_of_vc ?_
        simp -dsimp only [go_sem]
        rw [boxB, if_pos hr, hge, List.take_length, hb, List.append_assoc]
end Go.Pv
end
