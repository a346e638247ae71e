/- For any drawn words of bulk at most 1048576 the law FlowLess returns true, and its argument reads as before. -/
import Derived.Test.YtagacielooaapaaGreatDoorZCG
import Derived.Test.YtagacielooaapaaGreatDoorZBL
import Derived.Test.YtagacielooaapaaGreatDoorCards
import Derived.Test.YtagacielooaapaaGreatDoorTie
import Derived.SevenTiedAt
set_option linter.unusedVariables false
set_option linter.unusedSimpArgs false
set_option maxRecDepth 100000
namespace Go.Proofs.YtagacielooaapaaGreatDoor
open Go.Pv Go.ChangeShapes Go.WideShapes Go.ChangeAt Go.RowKit
open Go.Proofs.YtagacielooaapaaGreatDoor.Rows (uptoBulk uptoBulkAll)
theorem Q1u (H:Type) (enc:TypeId×Value→H) (W:World) (base:Nat) (args:Array Value) (ds gs:List (DataW H)) (before:List MemPlace)
 (hval: ∀(j:Nat) t v,Tryz.f8.params[j]?=some t→args[j]?=some v→Value.okWide Tryz.prog W .any base t v)
 (hW:DataW.Whole enc Tryz.prog Tryz.f8.params.toList Rows.flowLessSpec.vars false W args.toList ds gs before) (hk:Rows.uptoSmall H (ds++gs)=true) (hL:laidMetH Tryz.prog Rows.flowLessUptoRow.laid W):
 Calls Tryz.prog 8 args W fun e W'=> ∃v,e= .returned v∧Rows.flowLessSpec.post enc Tryz.prog Tryz.f8 false true false false W args v W':=by
 have hW':=hW
 obtain⟨p,q,hA0,hV,rfl,hfz,hnd⟩:=hW
 have hA:DataW.TrodAll enc Tryz.prog W 0 (fun _=>true) true Tryz.f8.params.toList args.toList ds p:=hA0
 rw [Tryz.params8] at hA hval
 obtain⟨v0,vs0,d0,ds0,p0,q0,ha,rfl,rfl,h0,hA0⟩:=trodAll_cons hA
 obtain⟨rfl,rfl,rfl⟩:=trodAll_nil hA0
 obtain rfl:args= #[v0]:=by cases args;simp_all
 obtain⟨rfl,rfl⟩:=trodVars_none hV
 have hb:=Z1i hk
 have b0:uptoBulk d0≤1048576:=Nat.le_trans (Y0v (by simp)) hb
 obtain⟨x0,r0,o0⟩:=q1m v1h Tryz.underlying22 (hval 0 22 v0 rfl rfl) h0
 refine(v0l (G1m hL) (W2e x0) (w:=W) ⟨rfl,fun j hj=> ?_⟩).mono fun e W' ⟨he,hbl⟩=>⟨_,he,Q1k k0w ?_ rfl hW' rfl hbl rfl Tryz.underlying4⟩
 · match j,hj with
   | 0,_=>exact r0
 · rw [Tryz.params8]
   exact of_decide_eq_true (by kernel_rfl)
theorem H1y (os:Os):laidMet Tryz.prog Rows.flowLessUptoRow.laid ((U0h os).forCall (fun _ _=>0) ⟨#[],#[.slice none 0 0],[]⟩).memory:=
 laidMet_of_run' 8 (by kernel_rfl) (by kernel_rfl)
theorem W1z (os:Os) {H:Type} (enc:TypeId×Value→H): ∃places,DataW.whole enc Tryz.prog ((U0h os).forCall (fun _ _=>0) ⟨#[],#[.slice none 0 0],[]⟩).memory Tryz.f8.params.toList Rows.flowLessSpec.vars false #[.slice none 0 0].toList 8=some ([.nil],[],places):=
 ⟨[],by kernel_rfl⟩
theorem V1j (os:Os) (started:os.Started) (H:Type) (enc:TypeId×Value→H) (F:Stop.Interp):
 ReturnsInHanded {} Tryz.checked os 8 .any ((Rows.OpenSpec.upto Rows.flowLessSpec).preRow enc Tryz.prog Tryz.f8 Rows.flowLessUptoRow.domain false Rows.flowLessUptoRow.laid) (((Rows.OpenSpec.upto Rows.flowLessSpec).at F).post enc Tryz.prog Tryz.f8 false true false false):=by
 obtain⟨places,hx⟩:=W1z os enc
 refine returnsInHanded_of_row (C:=Tryz.checked) (s:=Rows.OpenSpec.upto Rows.flowLessSpec) K1p started (by kernel_rfl) Tryz.func8
  (witness_row_at (enc:=enc) (C:=Tryz.checked) false (U0h os) #[.slice none 0 0] rfl (by kernel_rfl) (by kernel_rfl) (by kernel_rfl)
   (OpenSpec.preRow_of_cond 8 hx (by kernel_rfl) (fun k hk=>by cases hk;kernel_rfl) (by kernel_rfl) (H1y os))) ?_
 intro W base args ds gs before hval hW _ hcond _ hL _ _
 exact Q1u H enc W base args ds gs before hval hW (hcond _ rfl) hL
theorem X1b :(Rows.flowLessUptoRow.inPlace==Tryz.pinned.checked.prog.inPlace 8)=true:=by kernel_rfl
theorem v0e :(Rows.flowLessUptoRow.unfollowed==Tryz.pinned.checked.prog.unfollowed 8)=true:=by kernel_rfl
theorem Q1t :(Rows.flowLessUptoRow.recurses==Tryz.pinned.checked.prog.recurses 8)=true:=by kernel_rfl
theorem y0c :(Rows.flowLessUptoRow.named==Tryz.pinned.checked.prog.varsNamed 8)=true:=by kernel_rfl
set_option maxHeartbeats 4000000 in
theorem V1k :joinedFacts Tryz.pinned.checked.prog 8 Tryz.f8 (Rows.OpenSpec.upto Rows.flowLessSpec).bare Rows.flowLessUptoRow=true:=by
 unfold joinedFacts
 refine Q0o ?_ (by kernel_rfl)
 refine Q0o ?_ (by kernel_rfl)
 refine Q0o ?_ (by kernel_rfl)
 refine Q0o ?_ (by kernel_rfl)
 refine Q0o ?_ (by kernel_rfl)
 refine Q0o ?_ H1l
 refine Q0o ?_ H1o
 refine Q0o ?_ H1n
 refine Q0o ?_ (by kernel_rfl)
 refine Q0o ?_ x0i
 refine Q0o ?_ (by kernel_rfl)
 refine Q0o ?_ (by kernel_rfl)
 refine Q0o ?_ (by kernel_rfl)
 refine Q0o ?_ (by kernel_rfl)
 refine Q0o ?_ (by kernel_rfl)
 refine Q0o ?_ (by kernel_rfl)
 refine Q0o ?_ (by kernel_rfl)
 refine Q0o ?_ (by kernel_rfl)
 refine Q0o ?_ (by kernel_rfl)
 refine Q0o ?_ y0c
 refine Q0o ?_ Q1t
 refine Q0o ?_ v0e
 refine Q0o ?_ X1b
 refine Q0o ?_ H1m
 refine Q0o ?_ (by kernel_rfl)
 refine Q0o ?_ H1k
 refine Q0o ?_ (by kernel_rfl)
 refine Q0o ?_ (by kernel_rfl)
 refine Q0o ?_ (by kernel_rfl)
 refine Q0o ?_ x0j
 refine Q0o ?_ Q1r
 kernel_rfl
theorem flowLess_funcNamed :Tryz.pinned.checked.prog.funcNamed "fathomline/fathomlinelaw15.FlowLess" =some 8:=by kernel_rfl
theorem H1x :Rows.FlowLessUptoSaid:=
 OpenClaim.holds_of_cond 8 Tryz.f8 rfl rfl rfl rfl rfl rfl rfl ⟨rfl,rfl,rfl,rfl,rfl⟩ rfl rfl rfl rfl rfl flowLess_funcNamed Tryz.func8 V1k
  (of_decide_eq_true (by kernel_rfl)) (by unfold Func.isWrapper;first | (rw [if_pos (by decide+kernel)];kernel_rfl) | (rw [if_neg (by decide+kernel)];exact⟨rfl,rfl⟩))
  (fun os started H enc _ F=>by rw [OpenClaim.pre_eq_preRow];exact V1j os started H enc F)
theorem Y1a (f:FuncId) (fn:Func) (hf:Tryz.pinned.checked.prog.funcNamed "fathomline/fathomlinelaw15.FlowLess" =some f) (hfn:Tryz.pinned.checked.prog.funcs[f]?=some fn):
 false=Tryz.pinned.checked.prog.looks []∧ ∀(j:Nat) t,fn.params[j]?=some t→Tryz.pinned.checked.prog.wantsStandIn t=false:=by
 obtain rfl:f=8:=Option.some.inj (flowLess_funcNamed.symm.trans hf)|>.symm
 obtain rfl:fn=Tryz.f8:=(Option.some.inj (Tryz.func8.symm.trans hfn)).symm
 refine⟨by kernel_rfl,fun j t ht=> ?_⟩
 have hm:t∈Tryz.f8.params.toList:=by
  have:=Array.mem_of_getElem? ht
  simpa using this
 have hall:(Tryz.f8.params.toList.all fun u=> !Tryz.prog.wantsStandIn u)=true:=by kernel_rfl
 have h2:=List.all_eq_true.1 hall t hm
 exact(show Tryz.prog.wantsStandIn t=false by simpa using h2)
theorem flowLess_holds :Rows.FlowLessUptoCardSaid:=
 Claim7.holds_tied_plain_at .later [] _ _ _ _ H1x (fun _ h=>by cases h) (by kernel_rfl) (fun _ h=>by cases h) flowLessUpto_row_tie rfl ⟨rfl,rfl⟩ (by kernel_rfl) rfl Y1a (by kernel_rfl)
end Go.Proofs.YtagacielooaapaaGreatDoor
