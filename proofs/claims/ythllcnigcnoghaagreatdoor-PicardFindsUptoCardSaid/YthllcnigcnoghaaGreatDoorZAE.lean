/- Parts of the walk: N15, N16. -/
import Derived.Test.YthllcnigcnoghaaGreatDoorZAD
import Derived.Test.YthllcnigcnoghaaGreatDoorZE
import Derived.Test.YthllcnigcnoghaaGreatDoorZM
import Derived.Test.YthllcnigcnoghaaGreatDoorZY
set_option linter.unusedVariables false
set_option linter.unusedSimpArgs false
section
/- Boxes: Of, Has, widths, Wide, blown, Blow, with, Halve. -/
set_option maxRecDepth 100000
namespace Go.Pv
open Go.Proofs
def wNs (l : List Nm) : Prop := l.length ≤ 100000000000 ∧ ∀ i, i < l.length → wN (l.getD i default)
theorem blown_c (a : Ivl) (p : Int) (st : Store) (ha : wI a) : PCalls Tryz.prog 206 [.agg (encI a), .sc (.int .i64 p)] st (fun r st' => r = .tup [.agg (encI (blowI a p).1), .sc (.int .i64 (blowI a p).2)] ∧ st' = st) := by
  refine pcalls_enter none Tryz.func206 rfl fun E => pwp_of_vc ?_
  unfold blowI
  simp -dsimp only [go_sem]
  refine (ivWide_c a p _ ha).mono ?_
  rintro r st ⟨rfl, rfl⟩
  simp -dsimp only [go_sem]
  refine ck (fun h => ?_) (fun h => ?_)
  · have h1 := zbne_t h
    simp -dsimp only [go_sem]
    rw [if_pos h1]; rfl
  · have h1 := zbne_f h
    have hr := wideI_right a p
    have hap : rightI a = true ∧ precF p = true := by
      unfold wideI at h1
      split at h1
      · assumption
      · cases h1
    rw [if_neg (fun e => e h1)]
    generalize (wideI a p).1 = w at *
    simp -dsimp only [go_sem]
    refine (numScale_c w (-2) _ (sm_wN (rightN_sm hr))).mono ?_
    rintro r st ⟨rfl, rfl⟩
    simp -dsimp only [go_sem]
    refine ck (fun h => ?_) (fun h => ?_)
    · have h2 := zbne_t h
      simp -dsimp only [go_sem]
      rw [if_pos h2]; rfl
    · have h2 := zbne_f h
      have hs := scaleN_right w (-2)
      rw [if_neg (fun e => e h2)]
      generalize (scaleN w (-2)).1 = v at *
      have ra := rightI_right hap.1
      have k1 := reckN_e2 (k := 1) (up := false) ra.1 hs hap.2
      have k2 := reckN_e2 (k := 0) (up := true) ra.2.1 hs hap.2
      simp -dsimp only [go_sem]
      refine (rndSub_c a.lo v p false _ ha.1 (sm_wN (rightN_sm hs))).mono ?_
      rintro r st ⟨rfl, rfl⟩
      simp -dsimp only [go_sem]
      refine ck (fun h => ?_) (fun h => ?_)
      · have h3 := zbne_t h
        rw [if_pos (.inl h3)]
        have e3 : (reckN 1 a.lo v p false).2 = 2 := by rcases k1 with k | k; exact absurd k h3; exact k
        simp -dsimp only [go_sem]
        rw [e3]; rfl
      · have h3 := zbne_f h
        simp -dsimp only [go_sem]
        refine (rndAdd_c a.hi v p true _ ha.2 (sm_wN (rightN_sm hs))).mono ?_
        rintro r st ⟨rfl, rfl⟩
        simp -dsimp only [go_sem]
        refine ck (fun h => ?_) (fun h => ?_)
        · have h4 := zbne_t h
          rw [if_pos (.inr h4)]
          have e3 : (reckN 0 a.hi v p true).2 = 2 := by rcases k2 with k | k; exact absurd k h4; exact k
          simp -dsimp only [go_sem]
          rw [e3]; rfl
        · have h4 := zbne_f h
          rw [if_neg (fun e => e.elim (fun e => e h3) (fun e => e h4))]
          simp -dsimp only [go_sem]
          try rfl
theorem boxBlow1_c (i : Int) (a : Ivl) (p : Int) (st : Store) (ha : wI a) : PCalls Tryz.prog 205 ([.sc (.int .i64 i), .agg (encI a)] ++ [.ep [.sc (.int .i64 p)] 0]) st (fun r st' => r = .tup [.agg (encI (blowI a p).1), .sc (.int .i64 (blowI a p).2)] ∧ st' = st) := by
  refine pcalls_enter none Tryz.func205 rfl fun E => pwp_of_vc ?_
  simp -dsimp only [go_sem]
  refine (blown_c a p _ ha).mono ?_
  rintro r st ⟨rfl, rfl⟩
  simp -dsimp only [go_sem]
theorem blowB_eq (b : List Ivl) (p : Int) (h : rightB b = true) : blowB b p = eachF (fun _ a => blowI a p) 0 b [] := by
  unfold blowB
  cases hp : precF p with
  | true => rw [if_pos ⟨h, rfl⟩]
  | false => rw [if_neg (fun hh => by simp at hh), eachF_first _ b (rightB_len h).1 1 (by decide) (fun i x => by simp only [blowI_bad hp])]
theorem boxBlow_c (b : List Ivl) (p : Int) (st : Store) (hb : wB b) : PCalls Tryz.prog 156 [.sl .no (encIs b), .sc (.int .i64 p)] st (fun r st' => r = .tup [.sl .no (encIs (blowB b p).1), .sc (.int .i64 (blowB b p).2)] ∧ st' = st) := by
  refine pcalls_enter none Tryz.func156 rfl fun E => pwp_seq (pwp_of_vc ?_)
  simp -dsimp only [go_sem]
  refine pwp_freeze 0 ?_ ?_
  · simp -dsimp only [go_sem]
  refine pwp_of_vc ?_
  simp -dsimp only [go_sem]
  refine (boxRight_c b st hb).mono ?_
  rintro r st ⟨rfl, rfl⟩
  cases r1 : rightB b with
  | false =>
    simp -dsimp only [go_sem]
    rw [blowB, if_neg (by simp [r1])]; rfl
  | true =>
    rw [blowB_eq b p r1]
    simp -dsimp only [go_sem]
    refine (each_c _ [.ep [.sc (.int .i64 p)] 0] (fun _ a => blowI a p) b st rfl hb.1 rfl rfl rfl rfl rfl fun i hi => boxBlow1_c _ _ p st (hb.2 i hi)).mono ?_
    rintro r st ⟨rfl, rfl⟩
    simp -dsimp only [go_sem]
theorem wI_right {x : Ivl} (h : rightI x = true) : wI x := ⟨sm_wN (rightN_sm (rightI_right h).1), sm_wN (rightN_sm (rightI_right h).2.1)⟩
end Go.Pv
end

section
/- The document's Bits, Mul, By, Whole, Round, Exact. -/
set_option maxRecDepth 100000
namespace Go.Pv
open Go.Proofs
theorem wrap_u64n (n : Nat) (h : n < 18446744073709551616) : IntKind.u64.wrap (n : Int) = (n : Int) := by rw [wrapm_u64, Nat.mod_eq_of_lt h]
end Go.Pv
end
