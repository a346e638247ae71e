/- For every input of bulk at most 1048576 the law CodePuts returns true, and its arguments read as before. -/
import Derived.Test.YtclholhblbelbaaZC14
import Derived.Test.YtclholhblbelbaaZT
set_option linter.unusedVariables false
set_option linter.unusedSimpArgs false
set_option maxRecDepth 100000
namespace Go.Proofs.Ytclholhblbelbaa
open Go.Pv Go.ChangeShapes Go.WideShapes Go.ChangeAt Go.RowKit
open Go.Proofs.Ytclholhblbelbaa.Rows (uptoBulk uptoBulkAll)
theorem codePuts_contract (H : Type) (enc : TypeId × Value → H) (W : World) (base : Nat) (args : Array Value) (ds gs : List (DataW H)) (before : List MemPlace)
    (hval : ∀ (j : Nat) t v, Try.f6.params[j]? = some t → args[j]? = some v → Value.okWide Try.prog W .any base t v)
    (hW : DataW.Whole enc Try.prog Try.f6.params.toList Rows.codePutsSpec.vars false W args.toList ds gs before) (hk : Rows.uptoSmall H (ds ++ gs) = true) :
    Calls Try.prog 6 args W fun e W' => ∃ v, e = .returned v ∧ Rows.codePutsSpec.post enc Try.prog Try.f6 false true false false W args v W' := by
  have hW' := hW
  obtain ⟨p, q, hA0, hV, rfl, hfz, hnd⟩ := hW
  have hA : DataW.TrodAll enc Try.prog W 0 (fun _ => true) true Try.f6.params.toList args.toList ds p := hA0
  rw [Try.params6] at hA hval
  obtain ⟨v0, vs0, d0, ds0, p0, q0, ha, rfl, rfl, h0, hA0⟩ := trodAll_cons hA
  obtain ⟨v1, vs1, d1, ds1, p1, q1, rfl, rfl, rfl, h1, hA1⟩ := trodAll_cons hA0
  obtain ⟨v2, vs2, d2, ds2, p2, q2, rfl, rfl, rfl, h2, hA2⟩ := trodAll_cons hA1
  obtain ⟨v3, vs3, d3, ds3, p3, q3, rfl, rfl, rfl, h3, hA3⟩ := trodAll_cons hA2
  obtain ⟨v4, vs4, d4, ds4, p4, q4, rfl, rfl, rfl, h4, hA4⟩ := trodAll_cons hA3
  obtain ⟨v5, vs5, d5, ds5, p5, q5, rfl, rfl, rfl, h5, hA5⟩ := trodAll_cons hA4
  obtain ⟨rfl, rfl, rfl⟩ := trodAll_nil hA5
  obtain rfl : args = #[v0, v1, v2, v3, v4, v5] := by cases args; simp_all
  obtain ⟨rfl, rfl⟩ := trodVars_none hV
  have hb := bulk_bound hk
  have b0 : uptoBulk d0 ≤ 1048576 := Nat.le_trans (bulk_part (by simp)) hb
  have b1 : uptoBulk d1 ≤ 1048576 := Nat.le_trans (bulk_part (by simp)) hb
  have b2 : uptoBulk d2 ≤ 1048576 := Nat.le_trans (bulk_part (by simp)) hb
  have b3 : uptoBulk d3 ≤ 1048576 := Nat.le_trans (bulk_part (by simp)) hb
  have b4 : uptoBulk d4 ≤ 1048576 := Nat.le_trans (bulk_part (by simp)) hb
  have b5 : uptoBulk d5 ≤ 1048576 := Nat.le_trans (bulk_part (by simp)) hb
  obtain ⟨x0, r0, o0⟩ := arg_row tyBytes Try.underlying40 (hval 0 40 v0 rfl rfl) h0
  obtain ⟨x1, rfl, o1⟩ := arg_u64 Try.underlying41 (hval 1 41 v1 rfl rfl) h1
  obtain ⟨x2, rfl, o2⟩ := arg_i64 Try.underlying2 (hval 2 2 v2 rfl rfl) h2
  obtain ⟨x3, r3, o3⟩ := arg_agg tyNum Try.underlying26 (hval 3 26 v3 rfl rfl) h3
  obtain ⟨x4, r4, o4⟩ := arg_agg tyIv Try.underlying43 (hval 4 43 v4 rfl rfl) h4
  obtain ⟨x5, r5, o5⟩ := arg_row tyIvs Try.underlying27 (hval 5 27 v5 rfl rfl) h5
  refine (calls_true' (codePuts_c x0 x1 x2 x3 x4 x5 (by omega) o1 o2 (wN_ok (by omega) o3) (wI_ok (by omega) o4) (wB_ok (by omega) o5)) (w := W) ⟨rfl, fun j hj => ?_⟩).mono fun e W' ⟨he, hbl⟩ => ⟨_, he, post_reads laidOut_all ?_ rfl hW' rfl hbl rfl Try.underlying4⟩
  · match j, hj with
    | 0, _ => exact r0
    | 1, _ => exact .sc _
    | 2, _ => exact .sc _
    | 3, _ => exact r3
    | 4, _ => exact r4
    | 5, _ => exact r5
  · rw [Try.params6]
    exact of_decide_eq_true (by kernel_rfl)
theorem codePuts_lifted (os : Os) (started : os.Started) (H : Type) (enc : TypeId × Value → H) (F : Stop.Interp) :
    ReturnsInHanded {} Try.checked os 6 .any ((Rows.OpenSpec.upto Rows.codePutsSpec).pre6 enc Try.prog Try.f6 Rows.codePutsUptoRow.domain false) (((Rows.OpenSpec.upto Rows.codePutsSpec).at F).post enc Try.prog Try.f6 false true false false) := by
  refine returnsInHanded_of_cond (C := Try.checked) (s := Rows.OpenSpec.upto Rows.codePutsSpec) (k := Rows.uptoSmall) rfl ownKn_all started (by kernel_rfl) Try.func6
    (OpenSpec.witness (enc := enc) (C := Try.checked) (s := Rows.OpenSpec.upto Rows.codePutsSpec) (k := Rows.uptoSmall) rfl false ⟨#[], #[.slice none 0 0, .int .u64 0, .int .i64 0, .agg #[.bool false, .int .i64 0, .slice none 0 0], .agg #[.bool false, .int .i64 0, .slice none 0 0, .bool false, .int .i64 0, .slice none 0 0], .slice none 0 0], []⟩ 8 (by kernel_rfl) (by kernel_rfl) (by kernel_rfl)
      (x := ([.nil, .lit (.int .u64 0), .lit (.int .i64 0), .agg [.lit (.bool false), .lit (.int .i64 0), .nil], .agg [.agg [.lit (.bool false), .lit (.int .i64 0), .nil], .agg [.lit (.bool false), .lit (.int .i64 0), .nil]], .nil], [], [])) (by kernel_rfl) rfl (by kernel_rfl)) ?_
  intro W base args ds gs before hval hW _ hk _
  exact codePuts_contract H enc W base args ds gs before hval hW hk
theorem codePuts_holds : Rows.CodePutsUptoSaid :=
  OpenClaim.holds_of_cond 6 Try.f6 rfl rfl rfl rfl rfl rfl rfl ⟨rfl, rfl, rfl, rfl, rfl⟩ rfl rfl rfl rfl rfl (by kernel_rfl) Try.func6 (by kernel_rfl)
    (of_decide_eq_true (by kernel_rfl)) (by unfold Func.isWrapper; first | (rw [if_pos (by decide +kernel)]; kernel_rfl) | (rw [if_neg (by decide +kernel)]; exact ⟨rfl, rfl⟩))
    (fun os started H enc _ F => codePuts_lifted os started H enc F)
end Go.Proofs.Ytclholhblbelbaa
