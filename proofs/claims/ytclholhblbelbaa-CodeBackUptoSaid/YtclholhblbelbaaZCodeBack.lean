/- For every input of bulk at most 1048576 the law CodeBack returns true, and its arguments read as before. -/
import Derived.Test.YtclholhblbelbaaZC17
import Derived.Test.YtclholhblbelbaaZT
set_option linter.unusedVariables false
set_option linter.unusedSimpArgs false
set_option maxRecDepth 100000
namespace Go.Proofs.Ytclholhblbelbaa
open Go.Pv Go.ChangeShapes Go.WideShapes Go.ChangeAt Go.RowKit
open Go.Proofs.Ytclholhblbelbaa.Rows (uptoBulk uptoBulkAll)
theorem codeBack_contract (H : Type) (enc : TypeId × Value → H) (W : World) (base : Nat) (args : Array Value) (ds gs : List (DataW H)) (before : List MemPlace)
    (hval : ∀ (j : Nat) t v, Try.f8.params[j]? = some t → args[j]? = some v → Value.okWide Try.prog W .any base t v)
    (hW : DataW.Whole enc Try.prog Try.f8.params.toList Rows.codeBackSpec.vars false W args.toList ds gs before) (hk : Rows.uptoSmall H (ds ++ gs) = true) :
    Calls Try.prog 8 args W fun e W' => ∃ v, e = .returned v ∧ Rows.codeBackSpec.post enc Try.prog Try.f8 false true false false W args v W' := by
  have hW' := hW
  obtain ⟨p, q, hA0, hV, rfl, hfz, hnd⟩ := hW
  have hA : DataW.TrodAll enc Try.prog W 0 (fun _ => true) true Try.f8.params.toList args.toList ds p := hA0
  rw [Try.params8] at hA hval
  obtain ⟨v0, vs0, d0, ds0, p0, q0, ha, rfl, rfl, h0, hA0⟩ := trodAll_cons hA
  obtain ⟨v1, vs1, d1, ds1, p1, q1, rfl, rfl, rfl, h1, hA1⟩ := trodAll_cons hA0
  obtain ⟨rfl, rfl, rfl⟩ := trodAll_nil hA1
  obtain rfl : args = #[v0, v1] := by cases args; simp_all
  obtain ⟨rfl, rfl⟩ := trodVars_none hV
  have hb := bulk_bound hk
  have b0 : uptoBulk d0 ≤ 1048576 := Nat.le_trans (bulk_part (by simp)) hb
  have b1 : uptoBulk d1 ≤ 1048576 := Nat.le_trans (bulk_part (by simp)) hb
  obtain ⟨x0, r0, o0⟩ := arg_row tyWords Try.underlying24 (hval 0 24 v0 rfl rfl) h0
  obtain ⟨x1, rfl, o1⟩ := arg_u16 Try.underlying51 (hval 1 51 v1 rfl rfl) h1
  refine (calls_true' (codeBack_c x0 x1 (by omega) o1) (w := W) ⟨rfl, fun j hj => ?_⟩).mono fun e W' ⟨he, hbl⟩ => ⟨_, he, post_reads laidOut_all ?_ rfl hW' rfl hbl rfl Try.underlying4⟩
  · match j, hj with
    | 0, _ => exact r0
    | 1, _ => exact .sc _
  · rw [Try.params8]
    exact of_decide_eq_true (by kernel_rfl)
theorem codeBack_lifted (os : Os) (started : os.Started) (H : Type) (enc : TypeId × Value → H) (F : Stop.Interp) :
    ReturnsInHanded {} Try.checked os 8 .any ((Rows.OpenSpec.upto Rows.codeBackSpec).pre6 enc Try.prog Try.f8 Rows.codeBackUptoRow.domain false) (((Rows.OpenSpec.upto Rows.codeBackSpec).at F).post enc Try.prog Try.f8 false true false false) := by
  refine returnsInHanded_of_cond (C := Try.checked) (s := Rows.OpenSpec.upto Rows.codeBackSpec) (k := Rows.uptoSmall) rfl ownKn_all started (by kernel_rfl) Try.func8
    (OpenSpec.witness (enc := enc) (C := Try.checked) (s := Rows.OpenSpec.upto Rows.codeBackSpec) (k := Rows.uptoSmall) rfl false ⟨#[], #[.slice none 0 0, .int .u16 0], []⟩ 8 (by kernel_rfl) (by kernel_rfl) (by kernel_rfl)
      (x := ([.nil, .lit (.int .u16 0)], [], [])) (by kernel_rfl) rfl (by kernel_rfl)) ?_
  intro W base args ds gs before hval hW _ hk _
  exact codeBack_contract H enc W base args ds gs before hval hW hk
theorem codeBack_holds : Rows.CodeBackUptoSaid :=
  OpenClaim.holds_of_cond 8 Try.f8 rfl rfl rfl rfl rfl rfl rfl ⟨rfl, rfl, rfl, rfl, rfl⟩ rfl rfl rfl rfl rfl (by kernel_rfl) Try.func8 (by kernel_rfl)
    (of_decide_eq_true (by kernel_rfl)) (by unfold Func.isWrapper; first | (rw [if_pos (by decide +kernel)]; kernel_rfl) | (rw [if_neg (by decide +kernel)]; exact ⟨rfl, rfl⟩))
    (fun os started H enc _ F => codeBack_lifted os started H enc F)
end Go.Proofs.Ytclholhblbelbaa
