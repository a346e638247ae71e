/- For any drawn words of bulk at most 1048576 the law PicardSure returns true, and its argument reads as before. -/
import Derived.Test.YthllcnigcnoghaaGreatDoorZBX
import Derived.Test.YthllcnigcnoghaaGreatDoorZBL
import Derived.Test.YthllcnigcnoghaaGreatDoorCards
import Derived.Test.YthllcnigcnoghaaGreatDoorTie
import Derived.SevenTiedAt
set_option linter.unusedVariables false
set_option linter.unusedSimpArgs false
set_option maxRecDepth 100000
namespace Go.Proofs.YthllcnigcnoghaaGreatDoor
open Go.Pv Go.ChangeShapes Go.WideShapes Go.ChangeAt Go.RowKit
open Go.Proofs.YthllcnigcnoghaaGreatDoor.Rows (uptoBulk uptoBulkAll)
theorem picardSure_contract (H : Type) (enc : TypeId × Value → H) (W : World) (base : Nat) (args : Array Value) (ds gs : List (DataW H)) (before : List MemPlace)
    (hval : ∀ (j : Nat) t v, Tryz.f5.params[j]? = some t → args[j]? = some v → Value.okWide Tryz.prog W .any base t v)
    (hW : DataW.Whole enc Tryz.prog Tryz.f5.params.toList Rows.picardSureSpec.vars false W args.toList ds gs before) (hk : Rows.uptoSmall H (ds ++ gs) = true) (hL : laidMetH Tryz.prog Rows.picardSureUptoRow.laid W) :
    Calls Tryz.prog 5 args W fun e W' => ∃ v, e = .returned v ∧ Rows.picardSureSpec.post enc Tryz.prog Tryz.f5 false true false false W args v W' := by
  have hW' := hW
  obtain ⟨p, q, hA0, hV, rfl, hfz, hnd⟩ := hW
  have hA : DataW.TrodAll enc Tryz.prog W 0 (fun _ => true) true Tryz.f5.params.toList args.toList ds p := hA0
  rw [Tryz.params5] at hA hval
  obtain ⟨v0, vs0, d0, ds0, p0, q0, ha, rfl, rfl, h0, hA0⟩ := trodAll_cons hA
  obtain ⟨rfl, rfl, rfl⟩ := trodAll_nil hA0
  obtain rfl : args = #[v0] := by cases args; simp_all
  obtain ⟨rfl, rfl⟩ := trodVars_none hV
  have hb := bulk_bound hk
  have b0 : uptoBulk d0 ≤ 1048576 := Nat.le_trans (bulk_part (by simp)) hb
  obtain ⟨x0, r0, o0⟩ := arg_row tyWords Tryz.underlying24 (hval 0 24 v0 rfl rfl) h0
  refine (calls_true' (tab_laid hL) (picardSure_c x0) (w := W) ⟨rfl, fun j hj => ?_⟩).mono fun e W' ⟨he, hbl⟩ => ⟨_, he, post_reads laidOut_all ?_ rfl hW' rfl hbl rfl Tryz.underlying4⟩
  · match j, hj with
    | 0, _ => exact r0
  · rw [Tryz.params5]
    exact of_decide_eq_true (by kernel_rfl)
theorem picardSure_laid (os : Os) : laidMet Tryz.prog Rows.picardSureUptoRow.laid ((tabWorld os).forCall (fun _ _ => 0) ⟨#[], #[.slice none 0 0], []⟩).memory :=
  laidMet_of_run' 8 (by kernel_rfl) (by kernel_rfl)
theorem picardSure_reads (os : Os) {H : Type} (enc : TypeId × Value → H) : ∃ places, DataW.whole enc Tryz.prog ((tabWorld os).forCall (fun _ _ => 0) ⟨#[], #[.slice none 0 0], []⟩).memory Tryz.f5.params.toList Rows.picardSureSpec.vars false #[.slice none 0 0].toList 8 = some ([.nil], [], places) :=
  ⟨[], by kernel_rfl⟩
theorem picardSure_lifted (os : Os) (started : os.Started) (H : Type) (enc : TypeId × Value → H) (F : Stop.Interp) :
    ReturnsInHanded {} Tryz.checked os 5 .any ((Rows.OpenSpec.upto Rows.picardSureSpec).preRow enc Tryz.prog Tryz.f5 Rows.picardSureUptoRow.domain false Rows.picardSureUptoRow.laid) (((Rows.OpenSpec.upto Rows.picardSureSpec).at F).post enc Tryz.prog Tryz.f5 false true false false) := by
  obtain ⟨places, hx⟩ := picardSure_reads os enc
  refine returnsInHanded_of_row (C := Tryz.checked) (s := Rows.OpenSpec.upto Rows.picardSureSpec) ownKn_all started (by kernel_rfl) Tryz.func5
    (witness_row_at (enc := enc) (C := Tryz.checked) false (tabWorld os) #[.slice none 0 0] rfl (by kernel_rfl) (by kernel_rfl) (by kernel_rfl)
      (OpenSpec.preRow_of_cond 8 hx (by kernel_rfl) (fun k hk => by cases hk; kernel_rfl) (by kernel_rfl) (picardSure_laid os))) ?_
  intro W base args ds gs before hval hW _ hcond _ hL _ _
  exact picardSure_contract H enc W base args ds gs before hval hW (hcond _ rfl) hL
theorem picardSure_inPlace : (Rows.picardSureUptoRow.inPlace == Tryz.pinned.checked.prog.inPlace 5) = true := by kernel_rfl
theorem picardSure_unfollowed : (Rows.picardSureUptoRow.unfollowed == Tryz.pinned.checked.prog.unfollowed 5) = true := by kernel_rfl
theorem picardSure_recurses : (Rows.picardSureUptoRow.recurses == Tryz.pinned.checked.prog.recurses 5) = true := by kernel_rfl
theorem picardSure_varsNamed : (Rows.picardSureUptoRow.named == Tryz.pinned.checked.prog.varsNamed 5) = true := by kernel_rfl
set_option maxHeartbeats 4000000 in
theorem picardSure_closed : joinedFacts Tryz.pinned.checked.prog 5 Tryz.f5 (Rows.OpenSpec.upto Rows.picardSureSpec).bare Rows.picardSureUptoRow = true := by
  unfold joinedFacts
  refine and_mk ?_ (by kernel_rfl)
  refine and_mk ?_ (by kernel_rfl)
  refine and_mk ?_ (by kernel_rfl)
  refine and_mk ?_ (by kernel_rfl)
  refine and_mk ?_ (by kernel_rfl)
  refine and_mk ?_ jl_lifts
  refine and_mk ?_ jl_enter
  refine and_mk ?_ jl_heard
  refine and_mk ?_ (by kernel_rfl)
  refine and_mk ?_ jl_plainKeys
  refine and_mk ?_ (by kernel_rfl)
  refine and_mk ?_ (by kernel_rfl)
  refine and_mk ?_ (by kernel_rfl)
  refine and_mk ?_ (by kernel_rfl)
  refine and_mk ?_ (by kernel_rfl)
  refine and_mk ?_ (by kernel_rfl)
  refine and_mk ?_ (by kernel_rfl)
  refine and_mk ?_ (by kernel_rfl)
  refine and_mk ?_ (by kernel_rfl)
  refine and_mk ?_ picardSure_varsNamed
  refine and_mk ?_ picardSure_recurses
  refine and_mk ?_ picardSure_unfollowed
  refine and_mk ?_ picardSure_inPlace
  refine and_mk ?_ jl_knobs
  refine and_mk ?_ (by kernel_rfl)
  refine and_mk ?_ jl_stops
  refine and_mk ?_ (by kernel_rfl)
  refine and_mk ?_ (by kernel_rfl)
  refine and_mk ?_ (by kernel_rfl)
  refine and_mk ?_ jl_mapsRowed
  refine and_mk ?_ jl_laidOut
  kernel_rfl
theorem picardSure_funcNamed : Tryz.pinned.checked.prog.funcNamed "fathomline/fathomlinelaw17.PicardSure" = some 5 := by kernel_rfl
theorem picardSure_said : Rows.PicardSureUptoSaid :=
  OpenClaim.holds_of_cond 5 Tryz.f5 rfl rfl rfl rfl rfl rfl rfl ⟨rfl, rfl, rfl, rfl, rfl⟩ rfl rfl rfl rfl rfl picardSure_funcNamed Tryz.func5 picardSure_closed
    (of_decide_eq_true (by kernel_rfl)) (by unfold Func.isWrapper; first | (rw [if_pos (by decide +kernel)]; kernel_rfl) | (rw [if_neg (by decide +kernel)]; exact ⟨rfl, rfl⟩))
    (fun os started H enc _ F => by rw [OpenClaim.pre_eq_preRow]; exact picardSure_lifted os started H enc F)
theorem picardSure_plain (f : FuncId) (fn : Func) (hf : Tryz.pinned.checked.prog.funcNamed "fathomline/fathomlinelaw17.PicardSure" = some f) (hfn : Tryz.pinned.checked.prog.funcs[f]? = some fn) :
    false = Tryz.pinned.checked.prog.looks [] ∧ ∀ (j : Nat) t, fn.params[j]? = some t → Tryz.pinned.checked.prog.wantsStandIn t = false := by
  obtain rfl : f = 5 := Option.some.inj (picardSure_funcNamed.symm.trans hf) |>.symm
  obtain rfl : fn = Tryz.f5 := (Option.some.inj (Tryz.func5.symm.trans hfn)).symm
  refine ⟨by kernel_rfl, fun j t ht => ?_⟩
  have hm : t ∈ Tryz.f5.params.toList := by
    have := Array.mem_of_getElem? ht
    simpa using this
  have hall : (Tryz.f5.params.toList.all fun u => !Tryz.prog.wantsStandIn u) = true := by kernel_rfl
  have h2 := List.all_eq_true.1 hall t hm
  exact (show Tryz.prog.wantsStandIn t = false by simpa using h2)
theorem picardSure_holds : Rows.PicardSureUptoCardSaid :=
  Claim7.holds_tied_plain_at .later [] _ _ _ _ picardSure_said (fun _ h => by cases h) (by kernel_rfl) (fun _ h => by cases h) picardSureUpto_row_tie rfl ⟨rfl, rfl⟩ (by kernel_rfl) rfl picardSure_plain (by kernel_rfl)
end Go.Proofs.YthllcnigcnoghaaGreatDoor
