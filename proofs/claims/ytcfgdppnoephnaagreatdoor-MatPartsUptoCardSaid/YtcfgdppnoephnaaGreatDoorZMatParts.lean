/- For any rows of intervals of bulk at most 1048576 and any size the law MatParts returns true, and its arguments read as before. -/
import Derived.Test.YtcfgdppnoephnaaGreatDoorZAV
import Derived.Test.YtcfgdppnoephnaaGreatDoorZAY
import Derived.Test.YtcfgdppnoephnaaGreatDoorZAJ
import Derived.Test.YtcfgdppnoephnaaGreatDoorCards
import Derived.Test.YtcfgdppnoephnaaGreatDoorTie
import Derived.SevenTiedAt
set_option linter.unusedVariables false
set_option linter.unusedSimpArgs false
set_option maxRecDepth 100000
namespace Go.Proofs.YtcfgdppnoephnaaGreatDoor
open Go.Pv Go.ChangeShapes Go.WideShapes Go.ChangeAt Go.RowKit
open Go.Proofs.YtcfgdppnoephnaaGreatDoor.Rows (uptoBulk uptoBulkAll)
theorem matParts_contract (H : Type) (enc : TypeId × Value → H) (W : World) (base : Nat) (args : Array Value) (ds gs : List (DataW H)) (before : List MemPlace)
    (hval : ∀ (j : Nat) t v, Tryz.f5.params[j]? = some t → args[j]? = some v → Value.okWide Tryz.prog W .any base t v)
    (hW : DataW.Whole enc Tryz.prog Tryz.f5.params.toList Rows.matPartsSpec.vars false W args.toList ds gs before) (hk : Rows.uptoSmall H (ds ++ gs) = true) (hL : laidMetH Tryz.prog Rows.matPartsUptoRow.laid W) :
    Calls Tryz.prog 5 args W fun e W' => ∃ v, e = .returned v ∧ Rows.matPartsSpec.post enc Tryz.prog Tryz.f5 false true false false W args v W' := by
  have hW' := hW
  obtain ⟨p, q, hA0, hV, rfl, hfz, hnd⟩ := hW
  have hA : DataW.TrodAll enc Tryz.prog W 0 (fun _ => true) true Tryz.f5.params.toList args.toList ds p := hA0
  rw [Tryz.params5] at hA hval
  obtain ⟨v0, vs0, d0, ds0, p0, q0, ha, rfl, rfl, h0, hA0⟩ := trodAll_cons hA
  obtain ⟨v1, vs1, d1, ds1, p1, q1, rfl, rfl, rfl, h1, hA1⟩ := trodAll_cons hA0
  obtain ⟨v2, vs2, d2, ds2, p2, q2, rfl, rfl, rfl, h2, hA2⟩ := trodAll_cons hA1
  obtain ⟨rfl, rfl, rfl⟩ := trodAll_nil hA2
  obtain rfl : args = #[v0, v1, v2] := by cases args; simp_all
  obtain ⟨rfl, rfl⟩ := trodVars_none hV
  have hb := bulk_bound hk
  have b0 : uptoBulk d0 ≤ 1048576 := Nat.le_trans (bulk_part (by simp)) hb
  have b1 : uptoBulk d1 ≤ 1048576 := Nat.le_trans (bulk_part (by simp)) hb
  have b2 : uptoBulk d2 ≤ 1048576 := Nat.le_trans (bulk_part (by simp)) hb
  obtain ⟨x0, r0, o0⟩ := arg_row tyMx Tryz.underlying53 (hval 0 53 v0 rfl rfl) h0
  obtain ⟨x1, r1, o1⟩ := arg_row tyMx Tryz.underlying53 (hval 1 53 v1 rfl rfl) h1
  obtain ⟨x2, rfl, o2⟩ := arg_i64 Tryz.underlying3 (hval 2 3 v2 rfl rfl) h2
  refine (calls_true' (tab_laid hL) ((matParts_c x0 x1 x2 [] (wM_ok (by omega) o0) (wM_ok (by omega) o1)).mono fun _ _ h => h.1) (w := W) ⟨rfl, fun j hj => ?_⟩).mono fun e W' ⟨he, hbl⟩ => ⟨_, he, post_reads laidOut_all ?_ rfl hW' rfl hbl rfl Tryz.underlying4⟩
  · match j, hj with
    | 0, _ => exact r0
    | 1, _ => exact r1
    | 2, _ => exact .sc _
  · rw [Tryz.params5]
    exact of_decide_eq_true (by kernel_rfl)
theorem matParts_laid (os : Os) : laidMet Tryz.prog Rows.matPartsUptoRow.laid ((tabWorld os).forCall (fun _ _ => 0) ⟨#[], #[.slice none 0 0, .slice none 0 0, .int .i64 0], []⟩).memory :=
  laidMet_of_run' 8 (by kernel_rfl) (by kernel_rfl)
theorem matParts_reads (os : Os) {H : Type} (enc : TypeId × Value → H) : ∃ places, DataW.whole enc Tryz.prog ((tabWorld os).forCall (fun _ _ => 0) ⟨#[], #[.slice none 0 0, .slice none 0 0, .int .i64 0], []⟩).memory Tryz.f5.params.toList Rows.matPartsSpec.vars false #[.slice none 0 0, .slice none 0 0, .int .i64 0].toList 8 = some ([.nil, .nil, .lit (.int .i64 0)], [], places) :=
  ⟨[], by kernel_rfl⟩
theorem matParts_lifted (os : Os) (started : os.Started) (H : Type) (enc : TypeId × Value → H) (F : Stop.Interp) :
    ReturnsInHanded {} Tryz.checked os 5 .any ((Rows.OpenSpec.upto Rows.matPartsSpec).preRow enc Tryz.prog Tryz.f5 Rows.matPartsUptoRow.domain false Rows.matPartsUptoRow.laid) (((Rows.OpenSpec.upto Rows.matPartsSpec).at F).post enc Tryz.prog Tryz.f5 false true false false) := by
  obtain ⟨places, hx⟩ := matParts_reads os enc
  refine returnsInHanded_of_row (C := Tryz.checked) (s := Rows.OpenSpec.upto Rows.matPartsSpec) ownKn_all started (by kernel_rfl) Tryz.func5
    (witness_row_at (enc := enc) (C := Tryz.checked) false (tabWorld os) #[.slice none 0 0, .slice none 0 0, .int .i64 0] rfl (by kernel_rfl) (by kernel_rfl) (by kernel_rfl)
      (OpenSpec.preRow_of_cond 8 hx (by kernel_rfl) (fun k hk => by cases hk; kernel_rfl) (by kernel_rfl) (matParts_laid os))) ?_
  intro W base args ds gs before hval hW _ hcond _ hL _ _
  exact matParts_contract H enc W base args ds gs before hval hW (hcond _ rfl) hL
theorem matParts_said : Rows.MatPartsUptoSaid :=
  OpenClaim.holds_of_cond 5 Tryz.f5 rfl rfl rfl rfl rfl rfl rfl ⟨rfl, rfl, rfl, rfl, rfl⟩ rfl rfl rfl rfl rfl (by kernel_rfl) Tryz.func5 (by kernel_rfl)
    (of_decide_eq_true (by kernel_rfl)) (by unfold Func.isWrapper; first | (rw [if_pos (by decide +kernel)]; kernel_rfl) | (rw [if_neg (by decide +kernel)]; exact ⟨rfl, rfl⟩))
    (fun os started H enc _ F => by rw [OpenClaim.pre_eq_preRow]; exact matParts_lifted os started H enc F)
theorem matParts_plain (f : FuncId) (fn : Func) (hf : Tryz.pinned.checked.prog.funcNamed "fathomline/fathomlinelaw7.MatParts" = some f) (hfn : Tryz.pinned.checked.prog.funcs[f]? = some fn) :
    false = Tryz.pinned.checked.prog.looks [] ∧ ∀ (j : Nat) t, fn.params[j]? = some t → Tryz.pinned.checked.prog.wantsStandIn t = false := by
  obtain rfl : f = 5 := Option.some.inj ((show Tryz.prog.funcNamed "fathomline/fathomlinelaw7.MatParts" = some 5 by kernel_rfl).symm.trans hf) |>.symm
  obtain rfl : fn = Tryz.f5 := (Option.some.inj (Tryz.func5.symm.trans hfn)).symm
  refine ⟨by kernel_rfl, fun j t ht => ?_⟩
  have hm : t ∈ Tryz.f5.params.toList := by
    have := Array.mem_of_getElem? ht
    simpa using this
  have hall : (Tryz.f5.params.toList.all fun u => !Tryz.prog.wantsStandIn u) = true := by kernel_rfl
  have h2 := List.all_eq_true.1 hall t hm
  exact (show Tryz.prog.wantsStandIn t = false by simpa using h2)
theorem matParts_holds : Rows.MatPartsUptoCardSaid :=
  Claim7.holds_tied_plain_at .later [] _ _ _ _ matParts_said (fun _ h => by cases h) (by kernel_rfl) (fun _ h => by cases h) matPartsUpto_row_tie rfl ⟨rfl, rfl⟩ (by kernel_rfl) rfl matParts_plain (by kernel_rfl)
end Go.Proofs.YtcfgdppnoephnaaGreatDoor
