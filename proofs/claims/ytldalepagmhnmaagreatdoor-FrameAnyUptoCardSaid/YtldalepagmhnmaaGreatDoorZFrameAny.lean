/- For any frames, boxes, matrices and precision of bulk at most 1048576 the law FrameAny returns true, and its arguments read as before. -/
import Derived.Test.YtldalepagmhnmaaGreatDoorZHJ
import Derived.Test.YtldalepagmhnmaaGreatDoorZBL
import Derived.Test.YtldalepagmhnmaaGreatDoorCards
import Derived.Test.YtldalepagmhnmaaGreatDoorTie
import Derived.SevenTiedAt
set_option linter.unusedVariables false
set_option linter.unusedSimpArgs false
set_option maxRecDepth 100000
namespace Go.Proofs.YtldalepagmhnmaaGreatDoor
open Go.Pv Go.ChangeShapes Go.WideShapes Go.ChangeAt Go.RowKit
open Go.Proofs.YtldalepagmhnmaaGreatDoor.Rows (uptoBulk uptoBulkAll)
theorem Z1o (H:Type)(enc:TypeId×Value->H)(W:World)(base:Nat)(args:Array Value)(ds gs:List (DataW H))(before:List MemPlace)
 (hval: ∀(j:Nat) t v,Tryz.f6.params[j]?=some t->args[j]?=some v->Value.okWide Tryz.prog W .any base t v)
 (hW:DataW.Whole enc Tryz.prog Tryz.f6.params.toList Rows.frameAnySpec.vars false W args.toList ds gs before) (hk:Rows.uptoSmall H (ds++gs)=true) (hL:laidMetH Tryz.prog Rows.frameAnyUptoRow.laid W):
 Calls Tryz.prog 6 args W fun e W'=> ∃v,e= .returned v/\Rows.frameAnySpec.post enc Tryz.prog Tryz.f6 false true false false W args v W':=by
 have hW':=hW;obtain⟨p,q,hA0,hV,rfl,hfz,hnd⟩:=hW;have hA:DataW.TrodAll enc Tryz.prog W 0 (fun _=>true) true Tryz.f6.params.toList args.toList ds p:=hA0;rw[Tryz.params6] at hA hval;obtain⟨v0,vs0,d0,ds0,p0,q0,ha,rfl,rfl,h0,hA0⟩:=trodAll_cons hA;obtain⟨v1,vs1,d1,ds1,p1,q1,rfl,rfl,rfl,h1,hA1⟩:=trodAll_cons hA0;obtain⟨v2,vs2,d2,ds2,p2,q2,rfl,rfl,rfl,h2,hA2⟩:=trodAll_cons hA1;obtain⟨v3,vs3,d3,ds3,p3,q3,rfl,rfl,rfl,h3,hA3⟩:=trodAll_cons hA2;obtain⟨v4,vs4,d4,ds4,p4,q4,rfl,rfl,rfl,h4,hA4⟩:=trodAll_cons hA3;obtain⟨rfl,rfl,rfl⟩:=trodAll_nil hA4;obtain rfl:args= #[v0,v1,v2,v3,v4]:=(by cases args;simp_all);obtain⟨rfl,rfl⟩:=trodVars_none hV;have hb:=W2u hk;have b0:uptoBulk d0<=1048576:=Nat.le_trans (q0x (by simp)) hb;have b1:uptoBulk d1<=1048576:=Nat.le_trans (q0x (by simp)) hb;have b2:uptoBulk d2<=1048576:=Nat.le_trans (q0x (by simp)) hb;have b3:uptoBulk d3<=1048576:=Nat.le_trans (q0x (by simp)) hb;have b4:uptoBulk d4<=1048576:=Nat.le_trans (q0x (by simp)) hb;obtain⟨x0,r0,o0⟩:=j2p Y2o Tryz.underlying65 (hval 0 65 v0 rfl rfl) h0;obtain⟨x1,r1,o1⟩:=j2p Y2o Tryz.underlying65 (hval 1 65 v1 rfl rfl) h1;obtain⟨x2,r2,o2⟩:=j2o W3q Tryz.underlying29 (hval 2 29 v2 rfl rfl) h2;obtain⟨x3,r3,o3⟩:=j2o tyMx Tryz.underlying47 (hval 3 47 v3 rfl rfl) h3;obtain⟨x4,rfl,o4⟩:=q3a Tryz.underlying3 (hval 4 3 v4 rfl rfl) h4;refine(Q2n (v2b hL) (W2m x0 x1 x2 x3 x4 (J3t oG o0) (J3t oG o1) (W3c oG o2) (Q4d oG o3)) (w:=W) ⟨rfl,fun j hj=> ?_⟩).mono fun e W' ⟨he,hbl⟩=>⟨_,he,V2o y1m ?_ rfl hW' rfl hbl rfl Tryz.underlying4⟩
 match j,hj with
 | 0,_=>exact r0
 | 1,_=>exact r1
 | 2,_=>exact r2
 | 3,_=>exact r3
 | 4,_=>exact .sc _
 rw[Tryz.params6];exact q_b (by kernel_rfl)
theorem q1e (os:Os):laidMet Tryz.prog Rows.frameAnyUptoRow.laid ((G1t os).forCall (fun _ _=>0) ⟨#[],#[.agg #[.slice none 0 0,.slice none 0 0,.slice none 0 0],.agg #[.slice none 0 0,.slice none 0 0,.slice none 0 0],.slice none 0 0,.slice none 0 0,.int .i64 0],[]⟩).memory:=
 laidMet_of_run' 8 (by kernel_rfl) (by kernel_rfl)
theorem Y1l (os:Os){H:Type}(enc:TypeId×Value->H): ∃places,DataW.whole enc Tryz.prog ((G1t os).forCall (fun _ _=>0) ⟨#[],#[.agg #[.slice none 0 0,.slice none 0 0,.slice none 0 0],.agg #[.slice none 0 0,.slice none 0 0,.slice none 0 0],.slice none 0 0,.slice none 0 0,.int .i64 0],[]⟩).memory Tryz.f6.params.toList Rows.frameAnySpec.vars false #[.agg #[.slice none 0 0,.slice none 0 0,.slice none 0 0],.agg #[.slice none 0 0,.slice none 0 0,.slice none 0 0],.slice none 0 0,.slice none 0 0,.int .i64 0].toList 8=some ([.agg [.nil,.nil,.nil],.agg [.nil,.nil,.nil],.nil,.nil,.lit (.int .i64 0)],[],places):=
 ⟨[],by kernel_rfl⟩
theorem W1a (os:Os)(started:os.Started)(H:Type)(enc:TypeId×Value->H)(F:Stop.Interp):
 ReturnsInHanded {} Tryz.checked os 6 .any ((Rows.OpenSpec.upto Rows.frameAnySpec).preRow enc Tryz.prog Tryz.f6 Rows.frameAnyUptoRow.domain false Rows.frameAnyUptoRow.laid) (((Rows.OpenSpec.upto Rows.frameAnySpec).at F).post enc Tryz.prog Tryz.f6 false true false false):=by
 obtain⟨places,hx⟩:=Y1l os enc;refine returnsInHanded_of_row (C:=Tryz.checked) (s:=Rows.OpenSpec.upto Rows.frameAnySpec) G2t started (by kernel_rfl) Tryz.func6
  (witness_row_at (enc:=enc) (C:=Tryz.checked) false (G1t os) #[.agg #[.slice none 0 0,.slice none 0 0,.slice none 0 0],.agg #[.slice none 0 0,.slice none 0 0,.slice none 0 0],.slice none 0 0,.slice none 0 0,.int .i64 0] rfl (by kernel_rfl) (by kernel_rfl) (by kernel_rfl)
   (OpenSpec.preRow_of_cond 8 hx (by kernel_rfl) (fun k hk=>by cases hk;kernel_rfl) (by kernel_rfl) (q1e os))) ?_
 intro W base args ds gs before hval hW _ hcond _ hL _ _;exact Z1o H enc W base args ds gs before hval hW (hcond _ rfl) hL
theorem X1t :(Rows.frameAnyUptoRow.inPlace==Tryz.pinned.checked.prog.inPlace 6)=true:=by kernel_rfl
theorem v0u :(Rows.frameAnyUptoRow.unfollowed==Tryz.pinned.checked.prog.unfollowed 6)=true:=by kernel_rfl
theorem Z1n :(Rows.frameAnyUptoRow.recurses==Tryz.pinned.checked.prog.recurses 6)=true:=by kernel_rfl
theorem y0y :(Rows.frameAnyUptoRow.named==Tryz.pinned.checked.prog.varsNamed 6)=true:=by kernel_rfl
set_option maxHeartbeats 16000000 in
theorem W1b :joinedFacts Tryz.pinned.checked.prog 6 Tryz.f6 (Rows.OpenSpec.upto Rows.frameAnySpec).bare Rows.frameAnyUptoRow=true:=by
 unfold joinedFacts;refine J0o ?_ (by kernel_rfl);refine J0o ?_ (by kernel_rfl);refine J0o ?_ (by kernel_rfl);refine J0o ?_ (by kernel_rfl);refine J0o ?_ (by kernel_rfl);refine J0o ?_ Q3o;refine J0o ?_ Q3r;refine J0o ?_ Q3q;refine J0o ?_ (by kernel_rfl);refine J0o ?_ j1q;refine J0o ?_ (by kernel_rfl);refine J0o ?_ (by kernel_rfl);refine J0o ?_ (by kernel_rfl);refine J0o ?_ (by kernel_rfl);refine J0o ?_ (by kernel_rfl);refine J0o ?_ (by kernel_rfl);refine J0o ?_ (by kernel_rfl);refine J0o ?_ (by kernel_rfl);refine J0o ?_ (by kernel_rfl);refine J0o ?_ y0y;refine J0o ?_ Z1n;refine J0o ?_ v0u;refine J0o ?_ X1t;refine J0o ?_ Q3p;refine J0o ?_ (by kernel_rfl);refine J0o ?_ Q3n;refine J0o ?_ (by kernel_rfl);refine J0o ?_ (by kernel_rfl);refine J0o ?_ (by kernel_rfl);refine J0o ?_ j1r;refine J0o ?_ W2c
 kernel_rfl
theorem frameAny_funcNamed :Tryz.pinned.checked.prog.funcNamed "fathomline/fathomlinelaw18.FrameAny" =some 6:=by kernel_rfl
theorem q1d :Rows.FrameAnyUptoSaid:=
 OpenClaim.holds_of_cond 6 Tryz.f6 rfl rfl rfl rfl rfl rfl rfl ⟨rfl,rfl,rfl,rfl,rfl⟩ rfl rfl rfl rfl rfl frameAny_funcNamed Tryz.func6 W1b
  (q_b (by kernel_rfl)) (by unfold Func.isWrapper;first | (rw[if_pos (by decide+kernel)];kernel_rfl) | (rw[if_neg (by decide+kernel)];exact⟨rfl,rfl⟩))
  (fun os started H enc _ F=>by rw[OpenClaim.pre_eq_preRow];exact W1a os started H enc F)
theorem Y1m (f:FuncId)(fn:Func)(hf:Tryz.pinned.checked.prog.funcNamed "fathomline/fathomlinelaw18.FrameAny" =some f)(hfn:Tryz.pinned.checked.prog.funcs[f]?=some fn):
 false=Tryz.pinned.checked.prog.looks []/\ ∀(j:Nat) t,fn.params[j]?=some t->Tryz.pinned.checked.prog.wantsStandIn t=false:=by
 obtain rfl:f=6:=Option.some.inj (frameAny_funcNamed.symm.trans hf)|>.symm;obtain rfl:fn=Tryz.f6:=(Option.some.inj (Tryz.func6.symm.trans hfn)).symm;refine⟨by kernel_rfl,fun j t ht=> ?_⟩;have hm:t∈Tryz.f6.params.toList:=by have:=Array.mem_of_getElem? ht;simpa using this
 have hall:(Tryz.f6.params.toList.all fun u=> !Tryz.prog.wantsStandIn u)=true:=(by kernel_rfl);have h2:=List.all_eq_true.1 hall t hm;exact(show Tryz.prog.wantsStandIn t=false by simpa using h2)
theorem frameAny_holds :Rows.FrameAnyUptoCardSaid:=
 Claim7.holds_tied_plain_at .later [] _ _ _ _ q1d (fun _ h=>by cases h) (by kernel_rfl) (fun _ h=>by cases h) frameAnyUpto_row_tie rfl ⟨rfl,rfl⟩ (by kernel_rfl) rfl Y1m (by kernel_rfl)
end Go.Proofs.YtldalepagmhnmaaGreatDoor
