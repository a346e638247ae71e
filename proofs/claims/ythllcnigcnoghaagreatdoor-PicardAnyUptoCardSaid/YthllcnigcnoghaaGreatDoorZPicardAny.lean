/- For any field, boxes, time and precision of bulk at most 1048576 the law PicardAny returns true, and its arguments read as before. -/
import Derived.Test.YthllcnigcnoghaaGreatDoorZBU
import Derived.Test.YthllcnigcnoghaaGreatDoorZBK
import Derived.Test.YthllcnigcnoghaaGreatDoorZBL
import Derived.Test.YthllcnigcnoghaaGreatDoorCards
import Derived.Test.YthllcnigcnoghaaGreatDoorTie
import Derived.SevenTiedAt
set_option linter.unusedVariables false
set_option linter.unusedSimpArgs false
set_option maxRecDepth 100000
namespace Go.Proofs.YthllcnigcnoghaaGreatDoor
open Go.Pv Go.ChangeShapes Go.WideShapes Go.ChangeAt Go.RowKit
open Go.Proofs.YthllcnigcnoghaaGreatDoor.Rows (uptoBulk uptoBulkAll)
theorem picardAny_contract (H : Type) (enc : TypeId × Value → H) (W : World) (base : Nat) (args : Array Value) (ds gs : List (DataW H)) (before : List MemPlace)
    (hval : ∀ (j : Nat) t v, Tryz.f3.params[j]? = some t → args[j]? = some v → Value.okWide Tryz.prog W .any base t v)
    (hW : DataW.Whole enc Tryz.prog Tryz.f3.params.toList Rows.picardAnySpec.vars false W args.toList ds gs before) (hk : Rows.uptoSmall H (ds ++ gs) = true) (hL : laidMetH Tryz.prog Rows.picardAnyUptoRow.laid W) :
    Calls Tryz.prog 3 args W fun e W' => ∃ v, e = .returned v ∧ Rows.picardAnySpec.post enc Tryz.prog Tryz.f3 false true false false W args v W' := by
  have hW' := hW
  obtain ⟨p, q, hA0, hV, rfl, hfz, hnd⟩ := hW
  have hA : DataW.TrodAll enc Tryz.prog W 0 (fun _ => true) true Tryz.f3.params.toList args.toList ds p := hA0
  rw [Tryz.params3] at hA hval
  obtain ⟨v0, vs0, d0, ds0, p0, q0, ha, rfl, rfl, h0, hA0⟩ := trodAll_cons hA
  obtain ⟨v1, vs1, d1, ds1, p1, q1, rfl, rfl, rfl, h1, hA1⟩ := trodAll_cons hA0
  obtain ⟨v2, vs2, d2, ds2, p2, q2, rfl, rfl, rfl, h2, hA2⟩ := trodAll_cons hA1
  obtain ⟨v3, vs3, d3, ds3, p3, q3, rfl, rfl, rfl, h3, hA3⟩ := trodAll_cons hA2
  obtain ⟨v4, vs4, d4, ds4, p4, q4, rfl, rfl, rfl, h4, hA4⟩ := trodAll_cons hA3
  obtain ⟨rfl, rfl, rfl⟩ := trodAll_nil hA4
  obtain rfl : args = #[v0, v1, v2, v3, v4] := by cases args; simp_all
  obtain ⟨rfl, rfl⟩ := trodVars_none hV
  have hb := bulk_bound hk
  have b0 : uptoBulk d0 ≤ 1048576 := Nat.le_trans (bulk_part (by simp)) hb
  have b1 : uptoBulk d1 ≤ 1048576 := Nat.le_trans (bulk_part (by simp)) hb
  have b2 : uptoBulk d2 ≤ 1048576 := Nat.le_trans (bulk_part (by simp)) hb
  have b3 : uptoBulk d3 ≤ 1048576 := Nat.le_trans (bulk_part (by simp)) hb
  have b4 : uptoBulk d4 ≤ 1048576 := Nat.le_trans (bulk_part (by simp)) hb
  obtain ⟨x0, r0, o0⟩ := arg_row tyField Tryz.underlying22 (hval 0 22 v0 rfl rfl) h0
  obtain ⟨x1, r1, o1⟩ := arg_row tyIvs Tryz.underlying23 (hval 1 23 v1 rfl rfl) h1
  obtain ⟨x2, r2, o2⟩ := arg_row tyIvs Tryz.underlying23 (hval 2 23 v2 rfl rfl) h2
  obtain ⟨x3, r3, o3⟩ := arg_agg tyNum Tryz.underlying26 (hval 3 26 v3 rfl rfl) h3
  obtain ⟨x4, rfl, o4⟩ := arg_i64 Tryz.underlying3 (hval 4 3 v4 rfl rfl) h4
  refine (calls_true' (tab_laid hL) ((picardAny_c x0 x1 x2 x3 x4 [] (wF_ok (by omega) o0) (wB_ok (by omega) o1) (wB_ok (by omega) o2) (wN_ok (by omega) o3)).mono fun _ _ h => h.1) (w := W) ⟨rfl, fun j hj => ?_⟩).mono fun e W' ⟨he, hbl⟩ => ⟨_, he, post_reads laidOut_all ?_ rfl hW' rfl hbl rfl Tryz.underlying4⟩
  · match j, hj with
    | 0, _ => exact r0
    | 1, _ => exact r1
    | 2, _ => exact r2
    | 3, _ => exact r3
    | 4, _ => exact .sc _
  · rw [Tryz.params3]
    exact of_decide_eq_true (by kernel_rfl)
theorem picardAny_laid (os : Os) : laidMet Tryz.prog Rows.picardAnyUptoRow.laid ((tabWorld os).forCall (fun _ _ => 0) ⟨#[], #[.slice none 0 0, .slice none 0 0, .slice none 0 0, .agg #[.bool false, .int .i64 0, .slice none 0 0], .int .i64 0], []⟩).memory :=
  laidMet_of_run' 8 (by kernel_rfl) (by kernel_rfl)
theorem picardAny_reads (os : Os) {H : Type} (enc : TypeId × Value → H) : ∃ places, DataW.whole enc Tryz.prog ((tabWorld os).forCall (fun _ _ => 0) ⟨#[], #[.slice none 0 0, .slice none 0 0, .slice none 0 0, .agg #[.bool false, .int .i64 0, .slice none 0 0], .int .i64 0], []⟩).memory Tryz.f3.params.toList Rows.picardAnySpec.vars false #[.slice none 0 0, .slice none 0 0, .slice none 0 0, .agg #[.bool false, .int .i64 0, .slice none 0 0], .int .i64 0].toList 8 = some ([.nil, .nil, .nil, .agg [.lit (.bool false), .lit (.int .i64 0), .nil], .lit (.int .i64 0)], [], places) :=
  ⟨[], by kernel_rfl⟩
theorem picardAny_lifted (os : Os) (started : os.Started) (H : Type) (enc : TypeId × Value → H) (F : Stop.Interp) :
    ReturnsInHanded {} Tryz.checked os 3 .any ((Rows.OpenSpec.upto Rows.picardAnySpec).preRow enc Tryz.prog Tryz.f3 Rows.picardAnyUptoRow.domain false Rows.picardAnyUptoRow.laid) (((Rows.OpenSpec.upto Rows.picardAnySpec).at F).post enc Tryz.prog Tryz.f3 false true false false) := by
  obtain ⟨places, hx⟩ := picardAny_reads os enc
  refine returnsInHanded_of_row (C := Tryz.checked) (s := Rows.OpenSpec.upto Rows.picardAnySpec) ownKn_all started (by kernel_rfl) Tryz.func3
    (witness_row_at (enc := enc) (C := Tryz.checked) false (tabWorld os) #[.slice none 0 0, .slice none 0 0, .slice none 0 0, .agg #[.bool false, .int .i64 0, .slice none 0 0], .int .i64 0] rfl (by kernel_rfl) (by kernel_rfl) (by kernel_rfl)
      (OpenSpec.preRow_of_cond 8 hx (by kernel_rfl) (fun k hk => by cases hk; kernel_rfl) (by kernel_rfl) (picardAny_laid os))) ?_
  intro W base args ds gs before hval hW _ hcond _ hL _ _
  exact picardAny_contract H enc W base args ds gs before hval hW (hcond _ rfl) hL
theorem picardAny_inPlace : (Rows.picardAnyUptoRow.inPlace == Tryz.pinned.checked.prog.inPlace 3) = true := by kernel_rfl
theorem picardAny_unfollowed : (Rows.picardAnyUptoRow.unfollowed == Tryz.pinned.checked.prog.unfollowed 3) = true := by kernel_rfl
theorem picardAny_recurses : (Rows.picardAnyUptoRow.recurses == Tryz.pinned.checked.prog.recurses 3) = true := by kernel_rfl
theorem picardAny_varsNamed : (Rows.picardAnyUptoRow.named == Tryz.pinned.checked.prog.varsNamed 3) = true := by kernel_rfl
set_option maxHeartbeats 4000000 in
theorem picardAny_closed : joinedFacts Tryz.pinned.checked.prog 3 Tryz.f3 (Rows.OpenSpec.upto Rows.picardAnySpec).bare Rows.picardAnyUptoRow = true := by
  unfold joinedFacts
  refine and_mk ?_ (by kernel_rfl)
  refine and_mk ?_ (by kernel_rfl)
  refine and_mk ?_ (by kernel_rfl)
  refine and_mk ?_ (by kernel_rfl)
  refine and_mk ?_ (by kernel_rfl)
  refine and_mk ?_ jl_lifts
  refine and_mk ?_ jl_enter
  refine and_mk ?_ jl_heard
  refine and_mk ?_ (by kernel_rfl)
  refine and_mk ?_ jl_plainKeys
  refine and_mk ?_ (by kernel_rfl)
  refine and_mk ?_ (by kernel_rfl)
  refine and_mk ?_ (by kernel_rfl)
  refine and_mk ?_ (by kernel_rfl)
  refine and_mk ?_ (by kernel_rfl)
  refine and_mk ?_ (by kernel_rfl)
  refine and_mk ?_ (by kernel_rfl)
  refine and_mk ?_ (by kernel_rfl)
  refine and_mk ?_ (by kernel_rfl)
  refine and_mk ?_ picardAny_varsNamed
  refine and_mk ?_ picardAny_recurses
  refine and_mk ?_ picardAny_unfollowed
  refine and_mk ?_ picardAny_inPlace
  refine and_mk ?_ jl_knobs
  refine and_mk ?_ (by kernel_rfl)
  refine and_mk ?_ jl_stops
  refine and_mk ?_ (by kernel_rfl)
  refine and_mk ?_ (by kernel_rfl)
  refine and_mk ?_ (by kernel_rfl)
  refine and_mk ?_ jl_mapsRowed
  refine and_mk ?_ jl_laidOut
  kernel_rfl
theorem picardAny_funcNamed : Tryz.pinned.checked.prog.funcNamed "fathomline/fathomlinelaw17.PicardAny" = some 3 := by kernel_rfl
theorem picardAny_said : Rows.PicardAnyUptoSaid :=
  OpenClaim.holds_of_cond 3 Tryz.f3 rfl rfl rfl rfl rfl rfl rfl ⟨rfl, rfl, rfl, rfl, rfl⟩ rfl rfl rfl rfl rfl picardAny_funcNamed Tryz.func3 picardAny_closed
    (of_decide_eq_true (by kernel_rfl)) (by unfold Func.isWrapper; first | (rw [if_pos (by decide +kernel)]; kernel_rfl) | (rw [if_neg (by decide +kernel)]; exact ⟨rfl, rfl⟩))
    (fun os started H enc _ F => by rw [OpenClaim.pre_eq_preRow]; exact picardAny_lifted os started H enc F)
theorem picardAny_plain (f : FuncId) (fn : Func) (hf : Tryz.pinned.checked.prog.funcNamed "fathomline/fathomlinelaw17.PicardAny" = some f) (hfn : Tryz.pinned.checked.prog.funcs[f]? = some fn) :
    false = Tryz.pinned.checked.prog.looks [] ∧ ∀ (j : Nat) t, fn.params[j]? = some t → Tryz.pinned.checked.prog.wantsStandIn t = false := by
  obtain rfl : f = 3 := Option.some.inj (picardAny_funcNamed.symm.trans hf) |>.symm
  obtain rfl : fn = Tryz.f3 := (Option.some.inj (Tryz.func3.symm.trans hfn)).symm
  refine ⟨by kernel_rfl, fun j t ht => ?_⟩
  have hm : t ∈ Tryz.f3.params.toList := by
    have := Array.mem_of_getElem? ht
    simpa using this
  have hall : (Tryz.f3.params.toList.all fun u => !Tryz.prog.wantsStandIn u) = true := by kernel_rfl
  have h2 := List.all_eq_true.1 hall t hm
  exact (show Tryz.prog.wantsStandIn t = false by simpa using h2)
theorem picardAny_holds : Rows.PicardAnyUptoCardSaid :=
  Claim7.holds_tied_plain_at .later [] _ _ _ _ picardAny_said (fun _ h => by cases h) (by kernel_rfl) (fun _ h => by cases h) picardAnyUpto_row_tie rfl ⟨rfl, rfl⟩ (by kernel_rfl) rfl picardAny_plain (by kernel_rfl)
end Go.Proofs.YthllcnigcnoghaaGreatDoor
