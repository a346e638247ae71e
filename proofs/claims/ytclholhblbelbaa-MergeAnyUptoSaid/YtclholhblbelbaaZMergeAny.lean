/- For every input of bulk at most 1048576 the law MergeAny returns true, and its arguments read as before. -/
import Derived.Test.YtclholhblbelbaaZK
import Derived.Test.YtclholhblbelbaaZJ
set_option linter.unusedVariables false
set_option linter.unusedSimpArgs false
set_option maxRecDepth 100000
namespace Go.Proofs.Ytclholhblbelbaa
open Go.Pv Go.ChangeShapes Go.WideShapes Go.ChangeAt Go.RowKit
theorem ownKn : ownKnob Try.prog.godebug = none := by kernel_rfl
theorem laidOut : laidOutB Try.prog = true := by kernel_rfl
theorem mergeAny_contract (H : Type) (enc : TypeId × Value → H) (W : World) (base : Nat) (args : Array Value) (ds gs : List (DataW H)) (before : List MemPlace)
    (hval : ∀ (j : Nat) t v, Try.f3.params[j]? = some t → args[j]? = some v → Value.okWide Try.prog W .any base t v)
    (hW : DataW.Whole enc Try.prog Try.f3.params.toList Rows.mergeAnySpec.vars false W args.toList ds gs before) (hk : Rows.uptoSmall H (ds ++ gs) = true) :
    Calls Try.prog 3 args W fun e W' => ∃ v, e = .returned v ∧ Rows.mergeAnySpec.post enc Try.prog Try.f3 false true false false W args v W' := by
  have hW' := hW
  obtain ⟨p, q, hA0, hV, rfl, hfz, hnd⟩ := hW
  have hA : DataW.TrodAll enc Try.prog W 0 (fun _ => true) true Try.f3.params.toList args.toList ds p := hA0
  rw [Try.params3] at hA hval
  obtain ⟨v0, v1, v2, d0, d1, d2, p0, p1, p2, rfl, rfl, rfl, h0, h1, h2⟩ := trodAll_three hA
  obtain ⟨rfl, rfl⟩ := trodVars_none hV
  obtain ⟨size, rfl, rfl, rfl, _⟩ := open_int Try.underlying3 (hval 1 3 v1 rfl rfl) h1
  obtain ⟨upto, rfl, rfl, rfl, _⟩ := open_int Try.underlying3 (hval 2 3 v2 rfl rfl) h2
  obtain ⟨a, len, cap, rfl⟩ := okWide_slice Try.underlying22 (hval 0 22 v0 rfl rfl)
  obtain ⟨fuel, hf⟩ := h0
  obtain ⟨l, _, hrep, hok⟩ := tySegs.rd enc W fuel _ _ hf
  have hb := bulk_bound hk
  have hw : wSs l := wSs_ok (k := Rows.uptoBulk d0) (by have := bulk_part (d := d0) (l := [d0, .lit (.int .i64 size), .lit (.int .i64 upto)] ++ []) (by simp); omega) hok
  have hr0 : Rep W (allG W) (.slice a len cap) (.sl .no (encSs l)) := hrep 0 (by omega)
  refine (calls_true (mergeAny_c l size upto [] hw) (w := W) ⟨rfl, fun j hj => ?_⟩).mono fun e W' ⟨he, hbl⟩ => ⟨_, he, post_reads laidOut ?_ rfl hW' rfl hbl rfl Try.underlying4⟩
  · match j, hj with
    | 0, _ => exact hr0
    | 1, _ => exact .sc _
    | 2, _ => exact .sc _
  · rw [Try.params3]
    exact of_decide_eq_true (by kernel_rfl)
theorem mergeAny_lifted (os : Os) (started : os.Started) (H : Type) (enc : TypeId × Value → H) (F : Stop.Interp) :
    ReturnsInHanded {} Try.checked os 3 .any ((Rows.OpenSpec.upto Rows.mergeAnySpec).pre6 enc Try.prog Try.f3 Rows.mergeAnyUptoRow.domain false) (((Rows.OpenSpec.upto Rows.mergeAnySpec).at F).post enc Try.prog Try.f3 false true false false) := by
  refine returnsInHanded_of_cond (C := Try.checked) (s := Rows.OpenSpec.upto Rows.mergeAnySpec) (k := Rows.uptoSmall) rfl ownKn started (by kernel_rfl) Try.func3
    (OpenSpec.witness (enc := enc) (C := Try.checked) (s := Rows.OpenSpec.upto Rows.mergeAnySpec) (k := Rows.uptoSmall) rfl false ⟨#[], #[.slice none 0 0, .int .i64 0, .int .i64 0], []⟩ 8 (by kernel_rfl) (by kernel_rfl) (by kernel_rfl)
      (x := ([.nil, .lit (.int .i64 0), .lit (.int .i64 0)], [], [])) (by kernel_rfl) rfl (by kernel_rfl)) ?_
  intro W base args ds gs before hval hW _ hk _
  exact mergeAny_contract H enc W base args ds gs before hval hW hk
theorem mergeAny_holds : Rows.MergeAnyUptoSaid :=
  OpenClaim.holds_of_cond 3 Try.f3 rfl rfl rfl rfl rfl rfl rfl ⟨rfl, rfl, rfl, rfl, rfl⟩ rfl rfl rfl rfl rfl (by kernel_rfl) Try.func3 (by kernel_rfl)
    (of_decide_eq_true (by kernel_rfl)) (by unfold Func.isWrapper; first | (rw [if_pos (by decide +kernel)]; kernel_rfl) | (rw [if_neg (by decide +kernel)]; exact ⟨rfl, rfl⟩))
    (fun os started H enc _ F => mergeAny_lifted os started H enc F)
end Go.Proofs.Ytclholhblbelbaa
