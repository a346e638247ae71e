/- For any drawn words of bulk at most 1048576 the law FlowStairs returns true, and its argument reads as before. -/
import Derived.Test.YtagacielooaapaaGreatDoorZDH
import Derived.Test.YtagacielooaapaaGreatDoorZBL
import Derived.Test.YtagacielooaapaaGreatDoorCards
import Derived.Test.YtagacielooaapaaGreatDoorTie
import Derived.SevenTiedAt
set_option linter.unusedVariables false
set_option linter.unusedSimpArgs false
set_option maxRecDepth 100000
namespace Go.Proofs.YtagacielooaapaaGreatDoor
open Go.Pv Go.ChangeShapes Go.WideShapes Go.ChangeAt Go.RowKit
open Go.Proofs.YtagacielooaapaaGreatDoor.Rows (uptoBulk uptoBulkAll)
theorem k0c (H:Type) (enc:TypeId×Value→H) (W:World) (base:Nat) (args:Array Value) (ds gs:List (DataW H)) (before:List MemPlace)
 (hval: ∀(j:Nat) t v,Tryz.f7.params[j]?=some t→args[j]?=some v→Value.okWide Tryz.prog W .any base t v)
 (hW:DataW.Whole enc Tryz.prog Tryz.f7.params.toList Rows.flowStairsSpec.vars false W args.toList ds gs before) (hk:Rows.uptoSmall H (ds++gs)=true) (hL:laidMetH Tryz.prog Rows.flowStairsUptoRow.laid W):
 Calls Tryz.prog 7 args W fun e W'=> ∃v,e= .returned v∧Rows.flowStairsSpec.post enc Tryz.prog Tryz.f7 false true false false W args v W':=by
 have hW':=hW
 obtain⟨p,q,hA0,hV,rfl,hfz,hnd⟩:=hW
 have hA:DataW.TrodAll enc Tryz.prog W 0 (fun _=>true) true Tryz.f7.params.toList args.toList ds p:=hA0
 rw [Tryz.params7] at hA hval
 obtain⟨v0,vs0,d0,ds0,p0,q0,ha,rfl,rfl,h0,hA0⟩:=trodAll_cons hA
 obtain⟨rfl,rfl,rfl⟩:=trodAll_nil hA0
 obtain rfl:args= #[v0]:=by cases args;simp_all
 obtain⟨rfl,rfl⟩:=trodVars_none hV
 have hb:=K2r hk
 have b0:uptoBulk d0≤1048576:=Nat.le_trans (x1i (by simp)) hb
 obtain⟨x0,r0,o0⟩:=U3q J3t Tryz.underlying22 (hval 0 22 v0 rfl rfl) h0
 refine(v1s (x2t hL) (q1z x0) (w:=W) ⟨rfl,fun j hj=> ?_⟩).mono fun e W' ⟨he,hbl⟩=>⟨_,he,J2g k1r ?_ rfl hW' rfl hbl rfl Tryz.underlying4⟩
 · match j,hj with
   | 0,_=>exact r0
 · rw [Tryz.params7]
   exact of_decide_eq_true (by kernel_rfl)
theorem J1s (os:Os):laidMet Tryz.prog Rows.flowStairsUptoRow.laid ((Y1g os).forCall (fun _ _=>0) ⟨#[],#[.slice none 0 0],[]⟩).memory:=
 laidMet_of_run' 8 (by kernel_rfl) (by kernel_rfl)
theorem Q1q (os:Os) {H:Type} (enc:TypeId×Value→H): ∃places,DataW.whole enc Tryz.prog ((Y1g os).forCall (fun _ _=>0) ⟨#[],#[.slice none 0 0],[]⟩).memory Tryz.f7.params.toList Rows.flowStairsSpec.vars false #[.slice none 0 0].toList 8=some ([.nil],[],places):=
 ⟨[],by kernel_rfl⟩
theorem y0j (os:Os) (started:os.Started) (H:Type) (enc:TypeId×Value→H) (F:Stop.Interp):
 ReturnsInHanded {} Tryz.checked os 7 .any ((Rows.OpenSpec.upto Rows.flowStairsSpec).preRow enc Tryz.prog Tryz.f7 Rows.flowStairsUptoRow.domain false Rows.flowStairsUptoRow.laid) (((Rows.OpenSpec.upto Rows.flowStairsSpec).at F).post enc Tryz.prog Tryz.f7 false true false false):=by
 obtain⟨places,hx⟩:=Q1q os enc
 refine returnsInHanded_of_row (C:=Tryz.checked) (s:=Rows.OpenSpec.upto Rows.flowStairsSpec) U2b started (by kernel_rfl) Tryz.func7
  (witness_row_at (enc:=enc) (C:=Tryz.checked) false (Y1g os) #[.slice none 0 0] rfl (by kernel_rfl) (by kernel_rfl) (by kernel_rfl)
   (OpenSpec.preRow_of_cond 8 hx (by kernel_rfl) (fun k hk=>by cases hk;kernel_rfl) (by kernel_rfl) (J1s os))) ?_
 intro W base args ds gs before hval hW _ hcond _ hL _ _
 exact k0c H enc W base args ds gs before hval hW (hcond _ rfl) hL
theorem v0v :(Rows.flowStairsUptoRow.inPlace==Tryz.pinned.checked.prog.inPlace 7)=true:=by kernel_rfl
theorem z0u :(Rows.flowStairsUptoRow.unfollowed==Tryz.pinned.checked.prog.unfollowed 7)=true:=by kernel_rfl
theorem k0b :(Rows.flowStairsUptoRow.recurses==Tryz.pinned.checked.prog.recurses 7)=true:=by kernel_rfl
theorem j0a :(Rows.flowStairsUptoRow.named==Tryz.pinned.checked.prog.varsNamed 7)=true:=by kernel_rfl
set_option maxHeartbeats 4000000 in
theorem y0k :joinedFacts Tryz.pinned.checked.prog 7 Tryz.f7 (Rows.OpenSpec.upto Rows.flowStairsSpec).bare Rows.flowStairsUptoRow=true:=by
 unfold joinedFacts
 refine J0c ?_ (by kernel_rfl)
 refine J0c ?_ (by kernel_rfl)
 refine J0c ?_ (by kernel_rfl)
 refine J0c ?_ (by kernel_rfl)
 refine J0c ?_ (by kernel_rfl)
 refine J0c ?_ v2y
 refine J0c ?_ w2b
 refine J0c ?_ w2a
 refine J0c ?_ (by kernel_rfl)
 refine J0c ?_ q1n
 refine J0c ?_ (by kernel_rfl)
 refine J0c ?_ (by kernel_rfl)
 refine J0c ?_ (by kernel_rfl)
 refine J0c ?_ (by kernel_rfl)
 refine J0c ?_ (by kernel_rfl)
 refine J0c ?_ (by kernel_rfl)
 refine J0c ?_ (by kernel_rfl)
 refine J0c ?_ (by kernel_rfl)
 refine J0c ?_ (by kernel_rfl)
 refine J0c ?_ j0a
 refine J0c ?_ k0b
 refine J0c ?_ z0u
 refine J0c ?_ v0v
 refine J0c ?_ v2z
 refine J0c ?_ (by kernel_rfl)
 refine J0c ?_ v2x
 refine J0c ?_ (by kernel_rfl)
 refine J0c ?_ (by kernel_rfl)
 refine J0c ?_ (by kernel_rfl)
 refine J0c ?_ q1o
 refine J0c ?_ J2y
 kernel_rfl
theorem flowStairs_funcNamed :Tryz.pinned.checked.prog.funcNamed "fathomline/fathomlinelaw15.FlowStairs" =some 7:=by kernel_rfl
theorem J1r :Rows.FlowStairsUptoSaid:=
 OpenClaim.holds_of_cond 7 Tryz.f7 rfl rfl rfl rfl rfl rfl rfl ⟨rfl,rfl,rfl,rfl,rfl⟩ rfl rfl rfl rfl rfl flowStairs_funcNamed Tryz.func7 y0k
  (of_decide_eq_true (by kernel_rfl)) (by unfold Func.isWrapper;first | (rw [if_pos (by decide+kernel)];kernel_rfl) | (rw [if_neg (by decide+kernel)];exact⟨rfl,rfl⟩))
  (fun os started H enc _ F=>by rw [OpenClaim.pre_eq_preRow];exact y0j os started H enc F)
theorem Q1r (f:FuncId) (fn:Func) (hf:Tryz.pinned.checked.prog.funcNamed "fathomline/fathomlinelaw15.FlowStairs" =some f) (hfn:Tryz.pinned.checked.prog.funcs[f]?=some fn):
 false=Tryz.pinned.checked.prog.looks []∧ ∀(j:Nat) t,fn.params[j]?=some t→Tryz.pinned.checked.prog.wantsStandIn t=false:=by
 obtain rfl:f=7:=Option.some.inj (flowStairs_funcNamed.symm.trans hf)|>.symm
 obtain rfl:fn=Tryz.f7:=(Option.some.inj (Tryz.func7.symm.trans hfn)).symm
 refine⟨by kernel_rfl,fun j t ht=> ?_⟩
 have hm:t∈Tryz.f7.params.toList:=by
  have:=Array.mem_of_getElem? ht
  simpa using this
 have hall:(Tryz.f7.params.toList.all fun u=> !Tryz.prog.wantsStandIn u)=true:=by kernel_rfl
 have h2:=List.all_eq_true.1 hall t hm
 exact(show Tryz.prog.wantsStandIn t=false by simpa using h2)
theorem flowStairs_holds :Rows.FlowStairsUptoCardSaid:=
 Claim7.holds_tied_plain_at .later [] _ _ _ _ J1r (fun _ h=>by cases h) (by kernel_rfl) (fun _ h=>by cases h) flowStairsUpto_row_tie rfl ⟨rfl,rfl⟩ (by kernel_rfl) rfl Q1r (by kernel_rfl)
end Go.Proofs.YtagacielooaapaaGreatDoor
