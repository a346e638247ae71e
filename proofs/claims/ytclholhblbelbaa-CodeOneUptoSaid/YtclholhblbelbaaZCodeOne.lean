/- For every input of bulk at most 1048576 the law CodeOne returns true, and its arguments read as before. -/
import Derived.Test.YtclholhblbelbaaZC19
import Derived.Test.YtclholhblbelbaaZT
set_option linter.unusedVariables false
set_option linter.unusedSimpArgs false
set_option maxRecDepth 100000
namespace Go.Proofs.Ytclholhblbelbaa
open Go.Pv Go.ChangeShapes Go.WideShapes Go.ChangeAt Go.RowKit
open Go.Proofs.Ytclholhblbelbaa.Rows (uptoBulk uptoBulkAll)
theorem codeOne_contract (H : Type) (enc : TypeId × Value → H) (W : World) (base : Nat) (args : Array Value) (ds gs : List (DataW H)) (before : List MemPlace)
    (hval : ∀ (j : Nat) t v, Try.f9.params[j]? = some t → args[j]? = some v → Value.okWide Try.prog W .any base t v)
    (hW : DataW.Whole enc Try.prog Try.f9.params.toList Rows.codeOneSpec.vars false W args.toList ds gs before) (hk : Rows.uptoSmall H (ds ++ gs) = true) :
    Calls Try.prog 9 args W fun e W' => ∃ v, e = .returned v ∧ Rows.codeOneSpec.post enc Try.prog Try.f9 false true false false W args v W' := by
  have hW' := hW
  obtain ⟨p, q, hA0, hV, rfl, hfz, hnd⟩ := hW
  have hA : DataW.TrodAll enc Try.prog W 0 (fun _ => true) true Try.f9.params.toList args.toList ds p := hA0
  rw [Try.params9] at hA hval
  obtain ⟨v0, vs0, d0, ds0, p0, q0, ha, rfl, rfl, h0, hA0⟩ := trodAll_cons hA
  obtain ⟨v1, vs1, d1, ds1, p1, q1, rfl, rfl, rfl, h1, hA1⟩ := trodAll_cons hA0
  obtain ⟨v2, vs2, d2, ds2, p2, q2, rfl, rfl, rfl, h2, hA2⟩ := trodAll_cons hA1
  obtain ⟨v3, vs3, d3, ds3, p3, q3, rfl, rfl, rfl, h3, hA3⟩ := trodAll_cons hA2
  obtain ⟨v4, vs4, d4, ds4, p4, q4, rfl, rfl, rfl, h4, hA4⟩ := trodAll_cons hA3
  obtain ⟨rfl, rfl, rfl⟩ := trodAll_nil hA4
  obtain rfl : args = #[v0, v1, v2, v3, v4] := by cases args; simp_all
  obtain ⟨rfl, rfl⟩ := trodVars_none hV
  have hb := bulk_bound hk
  have b0 : uptoBulk d0 ≤ 1048576 := Nat.le_trans (bulk_part (by simp)) hb
  have b1 : uptoBulk d1 ≤ 1048576 := Nat.le_trans (bulk_part (by simp)) hb
  have b2 : uptoBulk d2 ≤ 1048576 := Nat.le_trans (bulk_part (by simp)) hb
  have b3 : uptoBulk d3 ≤ 1048576 := Nat.le_trans (bulk_part (by simp)) hb
  have b4 : uptoBulk d4 ≤ 1048576 := Nat.le_trans (bulk_part (by simp)) hb
  obtain ⟨x0, r0, o0⟩ := arg_row tyBytes Try.underlying40 (hval 0 40 v0 rfl rfl) h0
  obtain ⟨x1, r1, o1⟩ := arg_row tyWords Try.underlying24 (hval 1 24 v1 rfl rfl) h1
  obtain ⟨x2, rfl, o2⟩ := arg_u16 Try.underlying51 (hval 2 51 v2 rfl rfl) h2
  obtain ⟨x3, rfl, o3⟩ := arg_u8 Try.underlying5 (hval 3 5 v3 rfl rfl) h3
  obtain ⟨x4, rfl, o4⟩ := arg_u8 Try.underlying5 (hval 4 5 v4 rfl rfl) h4
  refine (calls_true' (codeOne_c x0 x1 x2 x3 x4 (by omega) (by omega) o2 o3 o4) (w := W) ⟨rfl, fun j hj => ?_⟩).mono fun e W' ⟨he, hbl⟩ => ⟨_, he, post_reads laidOut_all ?_ rfl hW' rfl hbl rfl Try.underlying4⟩
  · match j, hj with
    | 0, _ => exact r0
    | 1, _ => exact r1
    | 2, _ => exact .sc _
    | 3, _ => exact .sc _
    | 4, _ => exact .sc _
  · rw [Try.params9]
    exact of_decide_eq_true (by kernel_rfl)
theorem codeOne_lifted (os : Os) (started : os.Started) (H : Type) (enc : TypeId × Value → H) (F : Stop.Interp) :
    ReturnsInHanded {} Try.checked os 9 .any ((Rows.OpenSpec.upto Rows.codeOneSpec).pre6 enc Try.prog Try.f9 Rows.codeOneUptoRow.domain false) (((Rows.OpenSpec.upto Rows.codeOneSpec).at F).post enc Try.prog Try.f9 false true false false) := by
  refine returnsInHanded_of_cond (C := Try.checked) (s := Rows.OpenSpec.upto Rows.codeOneSpec) (k := Rows.uptoSmall) rfl ownKn_all started (by kernel_rfl) Try.func9
    (OpenSpec.witness (enc := enc) (C := Try.checked) (s := Rows.OpenSpec.upto Rows.codeOneSpec) (k := Rows.uptoSmall) rfl false ⟨#[], #[.slice none 0 0, .slice none 0 0, .int .u16 0, .int .u8 0, .int .u8 0], []⟩ 8 (by kernel_rfl) (by kernel_rfl) (by kernel_rfl)
      (x := ([.nil, .nil, .lit (.int .u16 0), .lit (.int .u8 0), .lit (.int .u8 0)], [], [])) (by kernel_rfl) rfl (by kernel_rfl)) ?_
  intro W base args ds gs before hval hW _ hk _
  exact codeOne_contract H enc W base args ds gs before hval hW hk
theorem codeOne_holds : Rows.CodeOneUptoSaid :=
  OpenClaim.holds_of_cond 9 Try.f9 rfl rfl rfl rfl rfl rfl rfl ⟨rfl, rfl, rfl, rfl, rfl⟩ rfl rfl rfl rfl rfl (by kernel_rfl) Try.func9 (by kernel_rfl)
    (of_decide_eq_true (by kernel_rfl)) (by unfold Func.isWrapper; first | (rw [if_pos (by decide +kernel)]; kernel_rfl) | (rw [if_neg (by decide +kernel)]; exact ⟨rfl, rfl⟩))
    (fun os started H enc _ F => codeOne_lifted os started H enc F)
end Go.Proofs.Ytclholhblbelbaa
