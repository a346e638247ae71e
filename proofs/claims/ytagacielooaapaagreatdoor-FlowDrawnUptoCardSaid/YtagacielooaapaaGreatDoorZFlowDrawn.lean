/- For any drawn words of bulk at most 1048576 the law FlowDrawn returns true, and its argument reads as before. -/
import Derived.Test.YtagacielooaapaaGreatDoorZCF
import Derived.Test.YtagacielooaapaaGreatDoorZBL
import Derived.Test.YtagacielooaapaaGreatDoorCards
import Derived.Test.YtagacielooaapaaGreatDoorTie
import Derived.SevenTiedAt
set_option linter.unusedVariables false
set_option linter.unusedSimpArgs false
set_option maxRecDepth 100000
namespace Go.Proofs.YtagacielooaapaaGreatDoor
open Go.Pv Go.ChangeShapes Go.WideShapes Go.ChangeAt Go.RowKit
open Go.Proofs.YtagacielooaapaaGreatDoor.Rows (uptoBulk uptoBulkAll)
theorem y0e (H:Type) (enc:TypeId×Value→H) (W:World) (base:Nat) (args:Array Value) (ds gs:List (DataW H)) (before:List MemPlace)
 (hval: ∀(j:Nat) t v,Tryz.f5.params[j]?=some t→args[j]?=some v→Value.okWide Tryz.prog W .any base t v)
 (hW:DataW.Whole enc Tryz.prog Tryz.f5.params.toList Rows.flowDrawnSpec.vars false W args.toList ds gs before) (hk:Rows.uptoSmall H (ds++gs)=true) (hL:laidMetH Tryz.prog Rows.flowDrawnUptoRow.laid W):
 Calls Tryz.prog 5 args W fun e W'=> ∃v,e= .returned v∧Rows.flowDrawnSpec.post enc Tryz.prog Tryz.f5 false true false false W args v W':=by
 have hW':=hW
 obtain⟨p,q,hA0,hV,rfl,hfz,hnd⟩:=hW
 have hA:DataW.TrodAll enc Tryz.prog W 0 (fun _=>true) true Tryz.f5.params.toList args.toList ds p:=hA0
 rw [Tryz.params5] at hA hval
 obtain⟨v0,vs0,d0,ds0,p0,q0,ha,rfl,rfl,h0,hA0⟩:=trodAll_cons hA
 obtain⟨rfl,rfl,rfl⟩:=trodAll_nil hA0
 obtain rfl:args= #[v0]:=by cases args;simp_all
 obtain⟨rfl,rfl⟩:=trodVars_none hV
 have hb:=Z1i hk
 have b0:uptoBulk d0≤1048576:=Nat.le_trans (Y0v (by simp)) hb
 obtain⟨x0,r0,o0⟩:=q1m v1h Tryz.underlying22 (hval 0 22 v0 rfl rfl) h0
 refine(v0l (G1m hL) (y1j x0) (w:=W) ⟨rfl,fun j hj=> ?_⟩).mono fun e W' ⟨he,hbl⟩=>⟨_,he,Q1k k0w ?_ rfl hW' rfl hbl rfl Tryz.underlying4⟩
 · match j,hj with
   | 0,_=>exact r0
 · rw [Tryz.params5]
   exact of_decide_eq_true (by kernel_rfl)
theorem Y1c (os:Os):laidMet Tryz.prog Rows.flowDrawnUptoRow.laid ((U0h os).forCall (fun _ _=>0) ⟨#[],#[.slice none 0 0],[]⟩).memory:=
 laidMet_of_run' 8 (by kernel_rfl) (by kernel_rfl)
theorem V1m (os:Os) {H:Type} (enc:TypeId×Value→H): ∃places,DataW.whole enc Tryz.prog ((U0h os).forCall (fun _ _=>0) ⟨#[],#[.slice none 0 0],[]⟩).memory Tryz.f5.params.toList Rows.flowDrawnSpec.vars false #[.slice none 0 0].toList 8=some ([.nil],[],places):=
 ⟨[],by kernel_rfl⟩
theorem X1c (os:Os) (started:os.Started) (H:Type) (enc:TypeId×Value→H) (F:Stop.Interp):
 ReturnsInHanded {} Tryz.checked os 5 .any ((Rows.OpenSpec.upto Rows.flowDrawnSpec).preRow enc Tryz.prog Tryz.f5 Rows.flowDrawnUptoRow.domain false Rows.flowDrawnUptoRow.laid) (((Rows.OpenSpec.upto Rows.flowDrawnSpec).at F).post enc Tryz.prog Tryz.f5 false true false false):=by
 obtain⟨places,hx⟩:=V1m os enc
 refine returnsInHanded_of_row (C:=Tryz.checked) (s:=Rows.OpenSpec.upto Rows.flowDrawnSpec) K1p started (by kernel_rfl) Tryz.func5
  (witness_row_at (enc:=enc) (C:=Tryz.checked) false (U0h os) #[.slice none 0 0] rfl (by kernel_rfl) (by kernel_rfl) (by kernel_rfl)
   (OpenSpec.preRow_of_cond 8 hx (by kernel_rfl) (fun k hk=>by cases hk;kernel_rfl) (by kernel_rfl) (Y1c os))) ?_
 intro W base args ds gs before hval hW _ hcond _ hL _ _
 exact y0e H enc W base args ds gs before hval hW (hcond _ rfl) hL
theorem Q1v :(Rows.flowDrawnUptoRow.inPlace==Tryz.pinned.checked.prog.inPlace 5)=true:=by kernel_rfl
theorem j0y :(Rows.flowDrawnUptoRow.unfollowed==Tryz.pinned.checked.prog.unfollowed 5)=true:=by kernel_rfl
theorem y0d :(Rows.flowDrawnUptoRow.recurses==Tryz.pinned.checked.prog.recurses 5)=true:=by kernel_rfl
theorem v0f :(Rows.flowDrawnUptoRow.named==Tryz.pinned.checked.prog.varsNamed 5)=true:=by kernel_rfl
set_option maxHeartbeats 4000000 in
theorem X1d :joinedFacts Tryz.pinned.checked.prog 5 Tryz.f5 (Rows.OpenSpec.upto Rows.flowDrawnSpec).bare Rows.flowDrawnUptoRow=true:=by
 unfold joinedFacts
 refine Q0o ?_ (by kernel_rfl)
 refine Q0o ?_ (by kernel_rfl)
 refine Q0o ?_ (by kernel_rfl)
 refine Q0o ?_ (by kernel_rfl)
 refine Q0o ?_ (by kernel_rfl)
 refine Q0o ?_ H1l
 refine Q0o ?_ H1o
 refine Q0o ?_ H1n
 refine Q0o ?_ (by kernel_rfl)
 refine Q0o ?_ x0i
 refine Q0o ?_ (by kernel_rfl)
 refine Q0o ?_ (by kernel_rfl)
 refine Q0o ?_ (by kernel_rfl)
 refine Q0o ?_ (by kernel_rfl)
 refine Q0o ?_ (by kernel_rfl)
 refine Q0o ?_ (by kernel_rfl)
 refine Q0o ?_ (by kernel_rfl)
 refine Q0o ?_ (by kernel_rfl)
 refine Q0o ?_ (by kernel_rfl)
 refine Q0o ?_ v0f
 refine Q0o ?_ y0d
 refine Q0o ?_ j0y
 refine Q0o ?_ Q1v
 refine Q0o ?_ H1m
 refine Q0o ?_ (by kernel_rfl)
 refine Q0o ?_ H1k
 refine Q0o ?_ (by kernel_rfl)
 refine Q0o ?_ (by kernel_rfl)
 refine Q0o ?_ (by kernel_rfl)
 refine Q0o ?_ x0j
 refine Q0o ?_ Q1r
 kernel_rfl
theorem flowDrawn_funcNamed :Tryz.pinned.checked.prog.funcNamed "fathomline/fathomlinelaw15.FlowDrawn" =some 5:=by kernel_rfl
theorem Y1b :Rows.FlowDrawnUptoSaid:=
 OpenClaim.holds_of_cond 5 Tryz.f5 rfl rfl rfl rfl rfl rfl rfl ⟨rfl,rfl,rfl,rfl,rfl⟩ rfl rfl rfl rfl rfl flowDrawn_funcNamed Tryz.func5 X1d
  (of_decide_eq_true (by kernel_rfl)) (by unfold Func.isWrapper;first | (rw [if_pos (by decide+kernel)];kernel_rfl) | (rw [if_neg (by decide+kernel)];exact⟨rfl,rfl⟩))
  (fun os started H enc _ F=>by rw [OpenClaim.pre_eq_preRow];exact X1c os started H enc F)
theorem V1n (f:FuncId) (fn:Func) (hf:Tryz.pinned.checked.prog.funcNamed "fathomline/fathomlinelaw15.FlowDrawn" =some f) (hfn:Tryz.pinned.checked.prog.funcs[f]?=some fn):
 false=Tryz.pinned.checked.prog.looks []∧ ∀(j:Nat) t,fn.params[j]?=some t→Tryz.pinned.checked.prog.wantsStandIn t=false:=by
 obtain rfl:f=5:=Option.some.inj (flowDrawn_funcNamed.symm.trans hf)|>.symm
 obtain rfl:fn=Tryz.f5:=(Option.some.inj (Tryz.func5.symm.trans hfn)).symm
 refine⟨by kernel_rfl,fun j t ht=> ?_⟩
 have hm:t∈Tryz.f5.params.toList:=by
  have:=Array.mem_of_getElem? ht
  simpa using this
 have hall:(Tryz.f5.params.toList.all fun u=> !Tryz.prog.wantsStandIn u)=true:=by kernel_rfl
 have h2:=List.all_eq_true.1 hall t hm
 exact(show Tryz.prog.wantsStandIn t=false by simpa using h2)
theorem flowDrawn_holds :Rows.FlowDrawnUptoCardSaid:=
 Claim7.holds_tied_plain_at .later [] _ _ _ _ Y1b (fun _ h=>by cases h) (by kernel_rfl) (fun _ h=>by cases h) flowDrawnUpto_row_tie rfl ⟨rfl,rfl⟩ (by kernel_rfl) rfl V1n (by kernel_rfl)
end Go.Proofs.YtagacielooaapaaGreatDoor
