/- Parts of the walk: N76. -/
import Derived.Test.YthllcnigcnoghaaGreatDoorZBR
set_option linter.unusedVariables false
set_option linter.unusedSimpArgs false
section
/- Layer 17: PicardAny. -/
set_option maxRecDepth 100000
namespace Go.Pv
open Go.Proofs
set_option maxHeartbeats 8000000 in
theorem picardAny_c (f : List (List Mn)) (x a : List Ivl) (h : Nm) (p : Int) (st : Store) (hf : wF f) (hx : wB x) (ha : wB a) (hh : wN h) :
    PCalls Tryz.prog 3 [.sl .no (encFs f), .sl .no (encIs x), .sl .no (encIs a), .agg (encN h), .sc (.int .i64 p)] st
    (fun r st' => r = .sc (.bool true) ∧ st' = st) := by
  refine pcalls_enter none Tryz.func3 rfl fun E => pwp_of_vc ?_
  simp -dsimp only [go_sem]
  refine (known17_c st).mono ?_
  rintro r st ⟨rfl, rfl⟩
  simp -dsimp only [go_sem]
  cases b1 : decide ((f.length : Int) > 6) with
  | true => simp -dsimp only [go_sem]
  | false =>
  simp -dsimp only [go_sem]
  cases b2 : decide ((x.length : Int) > 6) with
  | true => simp -dsimp only [go_sem]
  | false =>
  simp -dsimp only [go_sem]
  cases b3 : decide ((a.length : Int) > 6) with
  | true => simp -dsimp only [go_sem]
  | false =>
  simp -dsimp only [go_sem]
  cases b4 : decide ((h.w.length : Int) > 5) with
  | true => simp -dsimp only [go_sem]
  | false =>
  simp -dsimp only [go_sem]
  refine pwp_loop_mask [true, true, true, false, true, false, false, false, true, false, false, true] 1 0 (fun n s => ∃ i, i ≤ f.length ∧ n = f.length - i ∧
    s = ⟨[.sl .no (encFs f), .sl .no (encIs x), .sl .no (encIs a), .junk, .sc (.int .i64 p), .junk, .junk, .junk, .lp 0 0, .junk, .junk, .sc (.int .i64 (i : Nat))] ++ List.replicate 108 .junk, [encN h], [], st⟩) f.length ?_ ?_
  · simp -dsimp only [go_sem]
    exact ⟨0, by omega, by omega, rfl⟩
  · rintro n s ⟨i, hi, rfl, rfl⟩
    simp -dsimp only [go_sem]
    refine ck (fun h' => ?_) (fun h' => ?_)
    · have hlt : i < f.length := by have := of_decide_eq_true h'; omega
      have e1 := encFs_get f i hlt
      simp -dsimp only [go_sem, e1]
      refine ⟨by omega, ?_⟩
      refine ck (fun h2 => ?_) (fun h2 => ?_)
      · simp -dsimp only [go_sem]
      have lp : (f.getD i []).length ≤ 6 := by have := of_decide_eq_false h2; omega
      have lf : f.length ≤ 6 := by have := of_decide_eq_false b1; omega
      have e3 : IntKind.i64.wrap ((i : Int) + 1) = ((i + 1 : Nat) : Int) := by rw [wrap_i64 _ (by omega) (by omega)]; omega
      simp -dsimp only [go_sem]
      refine pwp_loop_mask [true, true, true, false, true, false, false, false, true, false, false, true, true] 1 0 (fun n s => ∃ k, k ≤ (f.getD i []).length ∧ n = (f.getD i []).length - k ∧
        s = ⟨[.sl .no (encFs f), .sl .no (encIs x), .sl .no (encIs a), .junk, .sc (.int .i64 p), .junk, .junk, .junk, .lp 0 0, .junk, .junk, .sc (.int .i64 (i : Nat)), .sc (.int .i64 (k : Nat))] ++ List.replicate 107 .junk, [encN h], [], st⟩) (f.getD i []).length ?_ ?_
      · simp -dsimp only [go_sem]
        exact ⟨0, by omega, by omega, rfl⟩
      · rintro n s ⟨k, hk, rfl, rfl⟩
        simp -dsimp only [go_sem, e1]
        refine ⟨by omega, ?_⟩
        refine ck (fun h3 => ?_) (fun h3 => ?_)
        · have hkl : k < (f.getD i []).length := by have := of_decide_eq_true h3; omega
          have e2 := encPs_get (f.getD i []) k hkl
          have e4 : IntKind.i64.wrap ((k : Int) + 1) = ((k + 1 : Nat) : Int) := by rw [wrap_i64 _ (by omega) (by omega)]; omega
          simp -dsimp only [go_sem, e1, e2]
          refine ⟨by omega, by omega, ?_⟩
          cases c1 : decide ((((f.getD i []).getD k default).c.w.length : Int) > 5) with
          | true => simp -dsimp only [go_sem, e1, e2]
          | false =>
          simp -dsimp only [go_sem, e1, e2]
          refine ⟨by omega, by omega, ?_⟩
          refine ck (fun h5 => ?_) (fun h5 => ?_)
          · simp -dsimp only [go_sem]
          simp -dsimp only [go_sem, e4]
          exact ⟨(f.getD i []).length - (k + 1), by omega, k + 1, by omega, rfl, rfl⟩
        · simp -dsimp only [go_sem, e3]
          refine pwp_of_vc ?_
          simp -dsimp only [go_sem, e3]
          exact ⟨f.length - (i + 1), by omega, i + 1, by omega, rfl, rfl⟩
    · simp -dsimp only [go_sem]
      refine pwp_of_vc ?_
      simp -dsimp only [go_sem]
      have gl : ∀ j, j < 2 → ([.sl .no (encIs x), .sl .no (encIs a)] : List PV).getD j .junk = .sl .no (encIs ([x, a].getD j [])) := fun j hj => by
        match j, hj with
        | 0, _ => rfl
        | 1, _ => rfl
      have gn : ∀ j, j < 2 → ([x, a].getD j []).length ≤ 6 := fun j hj => by
        have q1 := of_decide_eq_false b2
        have q2 := of_decide_eq_false b3
        match j, hj with
        | 0, _ => show x.length ≤ 6; omega
        | 1, _ => show a.length ≤ 6; omega
      refine pwp_loop_mask [true, true, true, false, true, false, false, false, true, false, false, false, false, false, false, false, false, false, false, false, false, false, false, false, false, false, false, false, false, false, false, false, false, false, false, false, false, false, false, false, false, false, false, false, false, false, false, false, false, false, false, false, false, false, false, false, false, false, false, false, false, false, false, false, false, false, false, false, false, false, false, false, false, false, false, false, false, false, false, false, false, false, false, true, true, true] 1 0 (fun n s => ∃ j, j ≤ 2 ∧ n = 2 - j ∧
        s = ⟨[.sl .no (encFs f), .sl .no (encIs x), .sl .no (encIs a), .junk, .sc (.int .i64 p), .junk, .junk, .junk, .lp 0 0] ++ List.replicate 74 .junk ++ [.sl .full [.sl .no (encIs x), .sl .no (encIs a)], .sc (.int .i64 2), .sc (.int .i64 (j : Nat))] ++ List.replicate 34 .junk, [encN h], [], st⟩) 2 ?_ ?_
      · simp -dsimp only [go_sem]
        exact ⟨0, by omega, by omega, rfl⟩
      · rintro n s ⟨j, hj, rfl, rfl⟩
        simp -dsimp only [go_sem]
        refine ck (fun h6 => ?_) (fun h6 => ?_)
        · have hj2 : j < 2 := by have := of_decide_eq_true h6; omega
          have g1 := gl j hj2
          have g2 := gn j hj2
          have e5 : IntKind.i64.wrap ((j : Int) + 1) = ((j + 1 : Nat) : Int) := by rw [wrap_i64 _ (by omega) (by omega)]; omega
          simp -dsimp only [go_sem, g1]
          refine ⟨by omega, ?_⟩
          refine pwp_loop_mask [true, true, true, false, true, false, false, false, true, false, false, false, false, false, true, true, false, false, false, false, false, false, false, false, false, false, false, false, false, false, false, false, false, false, false, false, false, false, false, false, false, false, false, false, false, false, false, false, false, false, false, false, false, false, false, false, false, false, false, false, false, false, false, false, false, false, false, false, false, false, false, false, false, false, false, false, false, false, false, false, false, false, false, true, true, true] 1 0 (fun n s => ∃ m, m ≤ ([x, a].getD j []).length ∧ n = ([x, a].getD j []).length - m ∧
            s = ⟨[.sl .no (encFs f), .sl .no (encIs x), .sl .no (encIs a), .junk, .sc (.int .i64 p), .junk, .junk, .junk, .lp 0 0, .junk, .junk, .junk, .junk, .junk, .sl .no (encIs ([x, a].getD j [])), .sc (.int .i64 (m : Nat))] ++ List.replicate 67 .junk ++ [.sl .full [.sl .no (encIs x), .sl .no (encIs a)], .sc (.int .i64 2), .sc (.int .i64 (j : Nat))] ++ List.replicate 34 .junk, [encN h], [], st⟩) ([x, a].getD j []).length ?_ ?_
          · simp -dsimp only [go_sem]
            exact ⟨0, by omega, by omega, rfl⟩
          · rintro n s ⟨m, hm, rfl, rfl⟩
            simp -dsimp only [go_sem]
            refine ck (fun h7 => ?_) (fun h7 => ?_)
            · have hml : m < ([x, a].getD j []).length := by have := of_decide_eq_true h7; omega
              have g3 := encIs_get ([x, a].getD j []) m hml
              have e6 : IntKind.i64.wrap ((m : Int) + 1) = ((m + 1 : Nat) : Int) := by rw [wrap_i64 _ (by omega) (by omega)]; omega
              simp -dsimp only [go_sem, g3]
              refine ⟨by omega, ?_⟩
              cases c1 : decide (((([x, a].getD j []).getD m default).lo.w.length : Int) > 5) with
              | true => simp -dsimp only [go_sem, g3]
              | false =>
              simp -dsimp only [go_sem, g3]
              refine ⟨by omega, ?_⟩
              refine ck (fun h8 => ?_) (fun h8 => ?_)
              · simp -dsimp only [go_sem]
              simp -dsimp only [go_sem, e6]
              exact ⟨([x, a].getD j []).length - (m + 1), by omega, m + 1, by omega, rfl, rfl⟩
            · simp -dsimp only [go_sem]
              refine pwp_of_vc ?_
              simp -dsimp only [go_sem, e5]
              exact ⟨2 - (j + 1), by omega, j + 1, by omega, rfl, rfl⟩
        · simp -dsimp only [go_sem]
          refine pwp_of_vc ?_
          simp -dsimp only [go_sem]
          refine (told17_c f x a h p st hf hx ha hh).mono ?_
          rintro r st ⟨rfl, rfl⟩
          simp -dsimp only [go_sem]
end Go.Pv
end
