/- The walk of CodePuts. -/
import Derived.Test.YtclholhblbelbaaZS
set_option linter.unusedVariables false
set_option linter.unusedSimpArgs false
set_option maxRecDepth 100000
namespace Go.Pv
open Go.Proofs
set_option maxHeartbeats 4000000 in
theorem codePuts_c (b : List UInt8) (u : Nat) (i : Int) (x : Nm) (a : Ivl) (l : List Ivl) (hb : b.length ≤ 2000000) (hu : u < 18446744073709551616) (hi : -9223372036854775808 ≤ i ∧ i ≤ 9223372036854775807) (hx : wN x) (ha : wI a) (hl : wB l) :
    PCalls Try.prog 6 [.sl .no (encB b), .sc (.int .u64 u), .sc (.int .i64 i), .agg (encN x), .agg (encI a), .sl .no (encIs l)] [] (fun r st' => r = .sc (.bool true)) := by
  have hl0 := hl.1
  have hx0 := hx
  have ha1 := ha.1
  have ha2 := ha.2
  unfold wN at hx0 ha1 ha2
  refine pcalls_enter none Try.func6 rfl fun E => pwp_of_vc ?_
  simp -dsimp only [go_sem]
  refine (known22_c [] (by simp)).mono ?_
  rintro r st' ⟨rfl, ob, rfl⟩
  simp -dsimp only [go_sem]
  refine gkF (fun h1 => ?_) (fun h1 => ?_)
  rotate_left
  · simp -dsimp only [go_sem, h1]
  have hb2 : b.length ≤ 200 := by have := of_decide_eq_false h1; omega
  simp -dsimp only [go_sem, h1]
  refine gkF (fun h2 => ?_) (fun h2 => ?_)
  rotate_left
  · simp -dsimp only [go_sem, h2]
  simp -dsimp only [go_sem, h2]
  refine gkF (fun h3 => ?_) (fun h3 => ?_)
  rotate_left
  · simp -dsimp only [go_sem, h3]
  simp -dsimp only [go_sem, h3]
  refine gkF (fun h4 => ?_) (fun h4 => ?_)
  rotate_left
  · simp -dsimp only [go_sem, h4]
  simp -dsimp only [go_sem, h4]
  refine ck (fun h5 => ?_) (fun h5 => ?_)
  · simp -dsimp only [go_sem]
  simp -dsimp only [go_sem]
  refine pwp_loop_mask [true, true, true, false, false, true, false, false, false, true, true, false, false, true] 2 0
    (fun n s => ∃ k, n = l.length - k ∧ k ≤ l.length ∧ s = ⟨[.sl .no (encB b), .sc (.int .u64 u), .sc (.int .i64 i), .junk, .junk, .sl .no (encIs l), .junk, .junk, .junk, .lp 0 0, .lp 1 0, .junk, .junk, .sc (.int .i64 (k : Nat))] ++ List.replicate 138 .junk, [encN x, encI a], [], [ob]⟩) l.length ?_ ?_
  · simp -dsimp only [go_sem]
    exact ⟨0, by omega, by omega, rfl⟩
  · rintro n s ⟨k, rfl, hk, rfl⟩
    simp -dsimp only [go_sem]
    refine ck (fun h6 => ?_) (fun h6 => ?_)
    · have hlt : k < l.length := by have := of_decide_eq_true h6; omega
      have g1 := encIs_get l k hlt
      have x1 : IntKind.i64.wrap ((k : Int) + 1) = ((k + 1 : Nat) : Int) := by rw [show ((k : Int) + 1) = ((k + 1 : Nat) : Int) from rfl, wrapn_i64 _ (by omega)]
      simp -dsimp only [go_sem, g1]
      refine ⟨⟨by omega, by omega⟩, ?_⟩
      refine gkF (fun h7 => ?_) (fun h7 => ?_)
      rotate_left
      · simp -dsimp only [go_sem, h7]
      simp -dsimp only [go_sem, h7, g1]
      refine ⟨⟨by omega, by omega⟩, ?_⟩
      refine ck (fun h8 => ?_) (fun h8 => ?_)
      · simp -dsimp only [go_sem]
      simp -dsimp only [go_sem, x1]
      exact ⟨l.length - (k + 1), by omega, k + 1, rfl, by omega, rfl⟩
    · simp -dsimp only [go_sem]
      refine pwp_of_vc ?_
      have e7 : encB b ++ [.sc (.int .u8 7), .sc (.int .u8 7)] = encB (b ++ [7, 7]) := by simp [encB]
      have e8 : (encB (b ++ [7, 7])).take b.length = encB b := by simp [encB]
      have e9 : (encB (b ++ [7, 7])).take (b.length + 2) = encB (b ++ [7, 7]) := by
        rw [List.take_of_length_le]; rw [encB_length]; simp
      simp -dsimp only [go_sem, e7]
      refine ⟨⟨by omega, by omega⟩, ⟨by omega, by omega⟩, ⟨⟨by omega, by omega⟩, by omega⟩, ?_⟩
      refine pwp_draw mixed 152 (.step 0 [] (.step 1 [] (.step 3 [] (.step 4 [] (.step 6 [] (.step 7 [] (.step 9 [] (.step 10 [] (.step 12 [] (.step 13 [] (.step 2 [7, 10] (.step 5 [7, 10] (.step 8 [10] (.step 11 [] (.step 14 [] (.step 15 [] (.step 16 [] (.step 17 [] (.step 18 [] (.step 19 [] (.done))))))))))))))))))))) (by decide +kernel) (by simp) ?_
      simp -dsimp only [go_sem, e8]
      refine (uint_c b u _ (by omega) hu).mono ?_
      rintro r st' ⟨rfl, rfl⟩
      simp -dsimp only [go_sem, e8]
      refine (cInt_c b i _ (by omega) hi.1 hi.2).mono ?_
      rintro r st' ⟨rfl, rfl⟩
      simp -dsimp only [go_sem, e8]
      refine (cNum_c b x _ (by omega) hx).mono ?_
      rintro r st' ⟨rfl, rfl⟩
      simp -dsimp only [go_sem, e8]
      refine (cIv_c b a _ (by omega) ha).mono ?_
      rintro r st' ⟨rfl, rfl⟩
      simp -dsimp only [go_sem, e8]
      refine (cBox_c b l _ (by omega) hl).mono ?_
      rintro r st' ⟨rfl, rfl⟩
      simp -dsimp only [go_sem, e8]
      refine pwp_draw mixed 152 (.step 0 [] (.step 1 [] (.step 2 [] (.step 3 [] (.step 4 [] (.step 5 [] (.step 6 [] (.step 7 [] (.step 8 [] (.step 9 [] (.step 10 [] (.step 11 [] (.step 12 [] (.step 13 [] (.step 14 [] (.step 15 [] (.step 16 [] (.step 17 [] (.step 18 [] (.step 19 [] (.step 20 [] (.step 21 [] (.step 22 [] (.step 23 [] (.step 24 [] (.step 25 [] (.step 26 [] (.step 27 [] (.step 28 [] (.step 29 [] (.step 30 [] (.step 31 [] (.step 32 [] (.step 33 [] (.step 34 [] (.step 35 [] (.step 36 [] (.step 37 [] (.step 38 [] (.step 39 [20] (.step 40 [] (.step 41 [] (.step 42 [] (.step 43 [] (.step 44 [] (.step 45 [] (.step 46 [] (.step 47 [] (.step 48 [] (.step 49 [] (.step 50 [] (.step 51 [] (.step 52 [] (.step 53 [] (.step 54 [] (.step 55 [] (.done))))))))))))))))))))))))))))))))))))))))))))))))))))))))) (by decide +kernel) (by simp) ?_
      simp -dsimp only [go_sem, e8]
      have hself : ∀ l : List UInt8, (l == l) = true := fun l => beq_self_eq_true l
      refine (rUint_c b u _ (by omega) hu).mono ?_
      rintro r st' ⟨rfl, rfl⟩
      simp -dsimp only [go_sem, e8, hself]
      refine (rInt_c b i _ (by omega) hi.1 hi.2).mono ?_
      rintro r st' ⟨rfl, rfl⟩
      simp -dsimp only [go_sem, e8, hself]
      refine (rNum_c b x _ (by omega) hx).mono ?_
      rintro r st' ⟨rfl, rfl⟩
      simp -dsimp only [go_sem, e8, hself]
      refine (rIv_c b a _ (by omega) ha).mono ?_
      rintro r st' ⟨rfl, rfl⟩
      simp -dsimp only [go_sem, e8, hself]
      refine (rBox_c b l _ (by omega) hl).mono ?_
      rintro r st' ⟨rfl, rfl⟩
      have x2 : IntKind.i64.wrap ((b.length : Int) + 2) = ((b.length + 2 : Nat) : Int) := by rw [show ((b.length : Int) + 2) = ((b.length + 2 : Nat) : Int) from rfl, wrapn_i64 _ (by omega)]
      simp -dsimp only [go_sem, e8, hself, x2, e9]
      refine ⟨⟨by omega, by omega⟩, by simp; omega, ?_⟩
      rw [bytes_append, bytes_toList, hself]
end Go.Pv
