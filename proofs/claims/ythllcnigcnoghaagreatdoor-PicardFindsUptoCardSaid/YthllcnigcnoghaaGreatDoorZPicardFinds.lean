/- For any drawn words of bulk at most 1048576 the law PicardFinds returns true, and its argument reads as before. -/
import Derived.Test.YthllcnigcnoghaaGreatDoorZBX
import Derived.Test.YthllcnigcnoghaaGreatDoorZBL
import Derived.Test.YthllcnigcnoghaaGreatDoorCards
import Derived.Test.YthllcnigcnoghaaGreatDoorTie
import Derived.SevenTiedAt
set_option linter.unusedVariables false
set_option linter.unusedSimpArgs false
set_option maxRecDepth 100000
namespace Go.Proofs.YthllcnigcnoghaaGreatDoor
open Go.Pv Go.ChangeShapes Go.WideShapes Go.ChangeAt Go.RowKit
open Go.Proofs.YthllcnigcnoghaaGreatDoor.Rows (uptoBulk uptoBulkAll)
theorem picardFinds_contract (H : Type) (enc : TypeId × Value → H) (W : World) (base : Nat) (args : Array Value) (ds gs : List (DataW H)) (before : List MemPlace)
    (hval : ∀ (j : Nat) t v, Tryz.f7.params[j]? = some t → args[j]? = some v → Value.okWide Tryz.prog W .any base t v)
    (hW : DataW.Whole enc Tryz.prog Tryz.f7.params.toList Rows.picardFindsSpec.vars false W args.toList ds gs before) (hk : Rows.uptoSmall H (ds ++ gs) = true) (hL : laidMetH Tryz.prog Rows.picardFindsUptoRow.laid W) :
    Calls Tryz.prog 7 args W fun e W' => ∃ v, e = .returned v ∧ Rows.picardFindsSpec.post enc Tryz.prog Tryz.f7 false true false false W args v W' := by
  have hW' := hW
  obtain ⟨p, q, hA0, hV, rfl, hfz, hnd⟩ := hW
  have hA : DataW.TrodAll enc Tryz.prog W 0 (fun _ => true) true Tryz.f7.params.toList args.toList ds p := hA0
  rw [Tryz.params7] at hA hval
  obtain ⟨v0, vs0, d0, ds0, p0, q0, ha, rfl, rfl, h0, hA0⟩ := trodAll_cons hA
  obtain ⟨rfl, rfl, rfl⟩ := trodAll_nil hA0
  obtain rfl : args = #[v0] := by cases args; simp_all
  obtain ⟨rfl, rfl⟩ := trodVars_none hV
  have hb := bulk_bound hk
  have b0 : uptoBulk d0 ≤ 1048576 := Nat.le_trans (bulk_part (by simp)) hb
  obtain ⟨x0, r0, o0⟩ := arg_row tyWords Tryz.underlying24 (hval 0 24 v0 rfl rfl) h0
  refine (calls_true' (tab_laid hL) (picardFinds_c x0) (w := W) ⟨rfl, fun j hj => ?_⟩).mono fun e W' ⟨he, hbl⟩ => ⟨_, he, post_reads laidOut_all ?_ rfl hW' rfl hbl rfl Tryz.underlying4⟩
  · match j, hj with
    | 0, _ => exact r0
  · rw [Tryz.params7]
    exact of_decide_eq_true (by kernel_rfl)
theorem picardFinds_laid (os : Os) : laidMet Tryz.prog Rows.picardFindsUptoRow.laid ((tabWorld os).forCall (fun _ _ => 0) ⟨#[], #[.slice none 0 0], []⟩).memory :=
  laidMet_of_run' 8 (by kernel_rfl) (by kernel_rfl)
theorem picardFinds_reads (os : Os) {H : Type} (enc : TypeId × Value → H) : ∃ places, DataW.whole enc Tryz.prog ((tabWorld os).forCall (fun _ _ => 0) ⟨#[], #[.slice none 0 0], []⟩).memory Tryz.f7.params.toList Rows.picardFindsSpec.vars false #[.slice none 0 0].toList 8 = some ([.nil], [], places) :=
  ⟨[], by kernel_rfl⟩
theorem picardFinds_lifted (os : Os) (started : os.Started) (H : Type) (enc : TypeId × Value → H) (F : Stop.Interp) :
    ReturnsInHanded {} Tryz.checked os 7 .any ((Rows.OpenSpec.upto Rows.picardFindsSpec).preRow enc Tryz.prog Tryz.f7 Rows.picardFindsUptoRow.domain false Rows.picardFindsUptoRow.laid) (((Rows.OpenSpec.upto Rows.picardFindsSpec).at F).post enc Tryz.prog Tryz.f7 false true false false) := by
  obtain ⟨places, hx⟩ := picardFinds_reads os enc
  refine returnsInHanded_of_row (C := Tryz.checked) (s := Rows.OpenSpec.upto Rows.picardFindsSpec) ownKn_all started (by kernel_rfl) Tryz.func7
    (witness_row_at (enc := enc) (C := Tryz.checked) false (tabWorld os) #[.slice none 0 0] rfl (by kernel_rfl) (by kernel_rfl) (by kernel_rfl)
      (OpenSpec.preRow_of_cond 8 hx (by kernel_rfl) (fun k hk => by cases hk; kernel_rfl) (by kernel_rfl) (picardFinds_laid os))) ?_
  intro W base args ds gs before hval hW _ hcond _ hL _ _
  exact picardFinds_contract H enc W base args ds gs before hval hW (hcond _ rfl) hL
theorem picardFinds_inPlace : (Rows.picardFindsUptoRow.inPlace == Tryz.pinned.checked.prog.inPlace 7) = true := by kernel_rfl
theorem picardFinds_unfollowed : (Rows.picardFindsUptoRow.unfollowed == Tryz.pinned.checked.prog.unfollowed 7) = true := by kernel_rfl
theorem picardFinds_recurses : (Rows.picardFindsUptoRow.recurses == Tryz.pinned.checked.prog.recurses 7) = true := by kernel_rfl
theorem picardFinds_varsNamed : (Rows.picardFindsUptoRow.named == Tryz.pinned.checked.prog.varsNamed 7) = true := by kernel_rfl
set_option maxHeartbeats 4000000 in
theorem picardFinds_closed : joinedFacts Tryz.pinned.checked.prog 7 Tryz.f7 (Rows.OpenSpec.upto Rows.picardFindsSpec).bare Rows.picardFindsUptoRow = true := by
  unfold joinedFacts
  refine and_mk ?_ (by kernel_rfl)
  refine and_mk ?_ (by kernel_rfl)
  refine and_mk ?_ (by kernel_rfl)
  refine and_mk ?_ (by kernel_rfl)
  refine and_mk ?_ (by kernel_rfl)
  refine and_mk ?_ jl_lifts
  refine and_mk ?_ jl_enter
  refine and_mk ?_ jl_heard
  refine and_mk ?_ (by kernel_rfl)
  refine and_mk ?_ jl_plainKeys
  refine and_mk ?_ (by kernel_rfl)
  refine and_mk ?_ (by kernel_rfl)
  refine and_mk ?_ (by kernel_rfl)
  refine and_mk ?_ (by kernel_rfl)
  refine and_mk ?_ (by kernel_rfl)
  refine and_mk ?_ (by kernel_rfl)
  refine and_mk ?_ (by kernel_rfl)
  refine and_mk ?_ (by kernel_rfl)
  refine and_mk ?_ (by kernel_rfl)
  refine and_mk ?_ picardFinds_varsNamed
  refine and_mk ?_ picardFinds_recurses
  refine and_mk ?_ picardFinds_unfollowed
  refine and_mk ?_ picardFinds_inPlace
  refine and_mk ?_ jl_knobs
  refine and_mk ?_ (by kernel_rfl)
  refine and_mk ?_ jl_stops
  refine and_mk ?_ (by kernel_rfl)
  refine and_mk ?_ (by kernel_rfl)
  refine and_mk ?_ (by kernel_rfl)
  refine and_mk ?_ jl_mapsRowed
  refine and_mk ?_ jl_laidOut
  kernel_rfl
theorem picardFinds_funcNamed : Tryz.pinned.checked.prog.funcNamed "fathomline/fathomlinelaw17.PicardFinds" = some 7 := by kernel_rfl
theorem picardFinds_said : Rows.PicardFindsUptoSaid :=
  OpenClaim.holds_of_cond 7 Tryz.f7 rfl rfl rfl rfl rfl rfl rfl ⟨rfl, rfl, rfl, rfl, rfl⟩ rfl rfl rfl rfl rfl picardFinds_funcNamed Tryz.func7 picardFinds_closed
    (of_decide_eq_true (by kernel_rfl)) (by unfold Func.isWrapper; first | (rw [if_pos (by decide +kernel)]; kernel_rfl) | (rw [if_neg (by decide +kernel)]; exact ⟨rfl, rfl⟩))
    (fun os started H enc _ F => by rw [OpenClaim.pre_eq_preRow]; exact picardFinds_lifted os started H enc F)
theorem picardFinds_plain (f : FuncId) (fn : Func) (hf : Tryz.pinned.checked.prog.funcNamed "fathomline/fathomlinelaw17.PicardFinds" = some f) (hfn : Tryz.pinned.checked.prog.funcs[f]? = some fn) :
    false = Tryz.pinned.checked.prog.looks [] ∧ ∀ (j : Nat) t, fn.params[j]? = some t → Tryz.pinned.checked.prog.wantsStandIn t = false := by
  obtain rfl : f = 7 := Option.some.inj (picardFinds_funcNamed.symm.trans hf) |>.symm
  obtain rfl : fn = Tryz.f7 := (Option.some.inj (Tryz.func7.symm.trans hfn)).symm
  refine ⟨by kernel_rfl, fun j t ht => ?_⟩
  have hm : t ∈ Tryz.f7.params.toList := by
    have := Array.mem_of_getElem? ht
    simpa using this
  have hall : (Tryz.f7.params.toList.all fun u => !Tryz.prog.wantsStandIn u) = true := by kernel_rfl
  have h2 := List.all_eq_true.1 hall t hm
  exact (show Tryz.prog.wantsStandIn t = false by simpa using h2)
theorem picardFinds_holds : Rows.PicardFindsUptoCardSaid :=
  Claim7.holds_tied_plain_at .later [] _ _ _ _ picardFinds_said (fun _ h => by cases h) (by kernel_rfl) (fun _ h => by cases h) picardFindsUpto_row_tie rfl ⟨rfl, rfl⟩ (by kernel_rfl) rfl picardFinds_plain (by kernel_rfl)
end Go.Proofs.YthllcnigcnoghaaGreatDoor
