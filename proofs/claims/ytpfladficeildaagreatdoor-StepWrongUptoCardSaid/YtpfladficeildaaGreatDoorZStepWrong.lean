/- For any numbers, any state and any number of a case, of bulk at most 1048576, the law StepWrong returns true, and its arguments read as before. -/
import Derived.Test.YtpfladficeildaaGreatDoorZIL
import Derived.Test.YtpfladficeildaaGreatDoorZBL
import Derived.Test.YtpfladficeildaaGreatDoorCards
import Derived.Test.YtpfladficeildaaGreatDoorTie
import Derived.SevenTiedAt
set_option maxHeartbeats 160000000
set_option linter.unusedVariables false
set_option linter.unusedSimpArgs false
set_option maxRecDepth 100000
namespace Go.Proofs.YtpfladficeildaaGreatDoor
open Go.Pv Go.ChangeShapes Go.WideShapes Go.ChangeAt Go.RowKit
open Go.Proofs.YtpfladficeildaaGreatDoor.Rows (uptoBulk uptoBulkAll)
theorem j0l (H:Type)(enc:TypeId×Value->H)(W:Lw)(base:Nat)(args:Lb)(ds gs:List (DataW H))(before:List MemPlace)
 (hval: ∀(j:Nat) t v,Tryz.f3.params[j]?=some t->args[j]?=some v->Value.okWide Tryz.prog W .any base t v)
 (hW:DataW.Whole enc Tryz.prog Tryz.f3.params.toList Rows.stepWrongSpec.vars false W args.toList ds gs before) (hk:Rows.uptoSmall H (ds++gs)=true) (hL:laidMetH Tryz.prog Rows.stepWrongUptoRow.laid W):
 Calls Tryz.prog 3 args W fun e W'=> ∃v,e= .returned v/\Rows.stepWrongSpec.post enc Tryz.prog Tryz.f3 false true false false W args v W':=by
 have hW':=hW;obtain⟨p,q,hA0,hV,rfl,hfz,hnd⟩:=hW;have hA:DataW.TrodAll enc Tryz.prog W 0 (fun _=>true) true Tryz.f3.params.toList args.toList ds p:=hA0;rw[Tryz.params3] at hA hval;obtain⟨v0,vs0,d0,ds0,p0,q0,ha,rfl,rfl,h0,hA0⟩:=trodAll_cons hA;obtain⟨v1,vs1,d1,ds1,p1,q1,rfl,rfl,rfl,h1,hA1⟩:=trodAll_cons hA0;obtain⟨v2,vs2,d2,ds2,p2,q2,rfl,rfl,rfl,h2,hA2⟩:=trodAll_cons hA1;obtain⟨rfl,rfl,rfl⟩:=trodAll_nil hA2;obtain rfl:args= #[v0,v1,v2]:=(by cases args;simp_all);obtain⟨rfl,rfl⟩:=trodVars_none hV;have hb:=w1r hk;have b0:uptoBulk d0<=1048576:=B7 (xN (by simp)) hb;have b1:uptoBulk d1<=1048576:=B7 (xN (by simp)) hb;have b2:uptoBulk d2<=1048576:=B7 (xN (by simp)) hb;obtain⟨x0,r0,o0⟩:=Q2u Cu Tryz.underlying22 (hval 0 22 v0 rfl rfl) h0;obtain⟨x1,r1,o1⟩:=Q2v q0r Tryz.underlying31 (hval 1 31 v1 rfl rfl) h1;obtain⟨x2,rfl,o2⟩:=Q2t Tryz.underlying5 (hval 2 5 v2 rfl rfl) h2;refine(w1k (z0x hL) (j0n x0 x1 x2 (H0k oG o1) o2) (w:=W) ⟨rfl,fun j hj=> ?_⟩).mono fun e W' ⟨he,hbl⟩=>⟨_,he,Z1w U1p ?_ rfl hW' rfl hbl rfl Tryz.underlying4⟩
 match j,hj with
 | 0,_=>exact r0
 | 1,_=>exact r1
 | 2,_=>exact .sc _
 rw[Tryz.params3];exact q_b (by kernel_rfl)
theorem j0j (os:Os):laidMet Tryz.prog Rows.stepWrongUptoRow.laid ((j5 os).forCall (fun _ _=>0) ⟨#[],#[.slice none 0 0,.agg #[.int .i64 0,.bool false,.int .i64 0,.slice none 0 0,.bool false,.int .i64 0,.slice none 0 0,.slice none 0 0,.slice none 0 0,.slice none 0 0],.int .u8 0],[]⟩).memory:=
 laidMet_of_run' 8 (by kernel_rfl) (by kernel_rfl)
theorem j0g (os:Os){H:Type}(enc:TypeId×Value->H): ∃places,DataW.whole enc Tryz.prog ((j5 os).forCall (fun _ _=>0) ⟨#[],#[.slice none 0 0,.agg #[.int .i64 0,.bool false,.int .i64 0,.slice none 0 0,.bool false,.int .i64 0,.slice none 0 0,.slice none 0 0,.slice none 0 0,.slice none 0 0],.int .u8 0],[]⟩).memory Tryz.f3.params.toList Rows.stepWrongSpec.vars false #[.slice none 0 0,.agg #[.int .i64 0,.bool false,.int .i64 0,.slice none 0 0,.bool false,.int .i64 0,.slice none 0 0,.slice none 0 0,.slice none 0 0,.slice none 0 0],.int .u8 0].toList 8=some ([.nil,.agg [.lit (.int .i64 0),.agg [.lit (.bool false),.lit (.int .i64 0),.nil],.agg [.lit (.bool false),.lit (.int .i64 0),.nil],.agg [.nil,.nil,.nil]],.lit (.int .u8 0)],[],places):=
 ⟨[],by kernel_rfl⟩
theorem j0i (os:Os)(started:os.Started)(H:Type)(enc:TypeId×Value->H)(F:Stop.Interp):
 ReturnsInHanded {} Tryz.checked os 3 .any ((Rows.OpenSpec.upto Rows.stepWrongSpec).preRow enc Tryz.prog Tryz.f3 Rows.stepWrongUptoRow.domain false Rows.stepWrongUptoRow.laid) (((Rows.OpenSpec.upto Rows.stepWrongSpec).at F).post enc Tryz.prog Tryz.f3 false true false false):=by
 obtain⟨places,hx⟩:=j0g os enc;refine returnsInHanded_of_row (C:=Tryz.checked) (s:=Rows.OpenSpec.upto Rows.stepWrongSpec) J1g started (by kernel_rfl) Tryz.func3
  (witness_row_at (enc:=enc) (C:=Tryz.checked) false (j5 os) #[.slice none 0 0,.agg #[.int .i64 0,.bool false,.int .i64 0,.slice none 0 0,.bool false,.int .i64 0,.slice none 0 0,.slice none 0 0,.slice none 0 0,.slice none 0 0],.int .u8 0] rfl (by kernel_rfl) (by kernel_rfl) (by kernel_rfl)
   (OpenSpec.preRow_of_cond 8 hx (by kernel_rfl) (fun k hk=>by cases hk;kernel_rfl) (by kernel_rfl) (j0j os))) ?_
 intro W base args ds gs before hval hW _ hcond _ hL _ _;exact j0l H enc W base args ds gs before hval hW (hcond _ rfl) hL
theorem j0k :(Rows.stepWrongUptoRow.inPlace==Tryz.pinned.checked.prog.inPlace 3)=true:=by kernel_rfl
theorem j0d :(Rows.stepWrongUptoRow.unfollowed==Tryz.pinned.checked.prog.unfollowed 3)=true:=by kernel_rfl
theorem j0f :(Rows.stepWrongUptoRow.recurses==Tryz.pinned.checked.prog.recurses 3)=true:=by kernel_rfl
theorem j0c :(Rows.stepWrongUptoRow.named==Tryz.pinned.checked.prog.varsNamed 3)=true:=by kernel_rfl
theorem j0m :joinedFacts Tryz.pinned.checked.prog 3 Tryz.f3 (Rows.OpenSpec.upto Rows.stepWrongSpec).bare Rows.stepWrongUptoRow=true:=by
 unfold joinedFacts;refine ZW ?_ (by kernel_rfl);refine ZW ?_ (by kernel_rfl);refine ZW ?_ (by kernel_rfl);refine ZW ?_ (by kernel_rfl);refine ZW ?_ (by kernel_rfl);refine ZW ?_ U1y;refine ZW ?_ G1c;refine ZW ?_ G1b;refine ZW ?_ (by kernel_rfl);refine ZW ?_ U1w;refine ZW ?_ (by kernel_rfl);refine ZW ?_ (by kernel_rfl);refine ZW ?_ (by kernel_rfl);refine ZW ?_ (by kernel_rfl);refine ZW ?_ (by kernel_rfl);refine ZW ?_ (by kernel_rfl);refine ZW ?_ (by kernel_rfl);refine ZW ?_ (by kernel_rfl);refine ZW ?_ (by kernel_rfl);refine ZW ?_ j0c;refine ZW ?_ j0f;refine ZW ?_ j0d;refine ZW ?_ j0k;refine ZW ?_ G1a;refine ZW ?_ (by kernel_rfl);refine ZW ?_ U1v;refine ZW ?_ (by kernel_rfl);refine ZW ?_ (by kernel_rfl);refine ZW ?_ (by kernel_rfl);refine ZW ?_ U1x;refine ZW ?_ U1z
 kernel_rfl
theorem stepWrong_funcNamed :Tryz.pinned.checked.prog.funcNamed "fathomline/fathomlinelaw19.StepWrong" =some 3:=by kernel_rfl
theorem j0e :Rows.StepWrongUptoSaid:=
 OpenClaim.holds_of_cond 3 Tryz.f3 rfl rfl rfl rfl rfl rfl rfl ⟨rfl,rfl,rfl,rfl,rfl⟩ rfl rfl rfl rfl rfl stepWrong_funcNamed Tryz.func3 j0m
  (q_b (by kernel_rfl)) (by unfold Func.isWrapper;first | (rw[BC (by decide+kernel)];kernel_rfl) | (rw[BA (by decide+kernel)];exact⟨rfl,rfl⟩))
  (fun os started H enc _ F=>by rw[OpenClaim.pre_eq_preRow];exact j0i os started H enc F)
theorem j0h (f:FuncId)(fn:Func)(hf:Tryz.pinned.checked.prog.funcNamed "fathomline/fathomlinelaw19.StepWrong" =some f)(hfn:Tryz.pinned.checked.prog.funcs[f]?=some fn):
 false=Tryz.pinned.checked.prog.looks []/\ ∀(j:Nat) t,fn.params[j]?=some t->Tryz.pinned.checked.prog.wantsStandIn t=false:=by
 obtain rfl:f=3:=Option.some.inj (stepWrong_funcNamed.symm.trans hf)|>.symm;obtain rfl:fn=Tryz.f3:=(Option.some.inj (Tryz.func3.symm.trans hfn)).symm;refine⟨by kernel_rfl,fun j t ht=> ?_⟩;have hm:t∈Tryz.f3.params.toList:=by have:=Array.mem_of_getElem? ht;simpa using this
 have hall:(Tryz.f3.params.toList.all fun u=> !Tryz.prog.wantsStandIn u)=true:=(by kernel_rfl);have h2:=List.all_eq_true.1 hall t hm;exact(show Tryz.prog.wantsStandIn t=false by simpa using h2)
theorem stepWrong_holds :Rows.StepWrongUptoCardSaid:=
 Claim7.holds_tied_plain_at .later [] _ _ _ _ j0e (fun _ h=>by cases h) (by kernel_rfl) (fun _ h=>by cases h) stepWrongUpto_row_tie rfl ⟨rfl,rfl⟩ (by kernel_rfl) rfl j0h (by kernel_rfl)
end Go.Proofs.YtpfladficeildaaGreatDoor
