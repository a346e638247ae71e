/- For any numbers of bulk at most 1048576 the law FrameDrawn returns true, and its argument reads as before. -/
import Derived.Test.YtldalepagmhnmaaGreatDoorZHL
import Derived.Test.YtldalepagmhnmaaGreatDoorZBL
import Derived.Test.YtldalepagmhnmaaGreatDoorCards
import Derived.Test.YtldalepagmhnmaaGreatDoorTie
import Derived.SevenTiedAt
set_option linter.unusedVariables false
set_option linter.unusedSimpArgs false
set_option maxRecDepth 100000
namespace Go.Proofs.YtldalepagmhnmaaGreatDoor
open Go.Pv Go.ChangeShapes Go.WideShapes Go.ChangeAt Go.RowKit
open Go.Proofs.YtldalepagmhnmaaGreatDoor.Rows (uptoBulk uptoBulkAll)
theorem w0h (H:Type)(enc:TypeId×Value->H)(W:World)(base:Nat)(args:Array Value)(ds gs:List (DataW H))(before:List MemPlace)
 (hval: ∀(j:Nat) t v,Tryz.f7.params[j]?=some t->args[j]?=some v->Value.okWide Tryz.prog W .any base t v)
 (hW:DataW.Whole enc Tryz.prog Tryz.f7.params.toList Rows.frameDrawnSpec.vars false W args.toList ds gs before) (hk:Rows.uptoSmall H (ds++gs)=true) (hL:laidMetH Tryz.prog Rows.frameDrawnUptoRow.laid W):
 Calls Tryz.prog 7 args W fun e W'=> ∃v,e= .returned v/\Rows.frameDrawnSpec.post enc Tryz.prog Tryz.f7 false true false false W args v W':=by
 have hW':=hW;obtain⟨p,q,hA0,hV,rfl,hfz,hnd⟩:=hW;have hA:DataW.TrodAll enc Tryz.prog W 0 (fun _=>true) true Tryz.f7.params.toList args.toList ds p:=hA0;rw[Tryz.params7] at hA hval;obtain⟨v0,vs0,d0,ds0,p0,q0,ha,rfl,rfl,h0,hA0⟩:=trodAll_cons hA;obtain⟨rfl,rfl,rfl⟩:=trodAll_nil hA0;obtain rfl:args= #[v0]:=(by cases args;simp_all);obtain⟨rfl,rfl⟩:=trodVars_none hV;have hb:=U2e hk;have b0:uptoBulk d0<=1048576:=Nat.le_trans (w1i (by simp)) hb;obtain⟨x0,r0,o0⟩:=x3g U3u Tryz.underlying22 (hval 0 22 v0 rfl rfl) h0;refine(Z2r (w2z hL) (k1y x0) (w:=W) ⟨rfl,fun j hj=> ?_⟩).mono fun e W' ⟨he,hbl⟩=>⟨_,he,W2y Q2o ?_ rfl hW' rfl hbl rfl Tryz.underlying4⟩
 match j,hj with
 | 0,_=>exact r0
 rw[Tryz.params7];exact q_b (by kernel_rfl)
theorem W1o (os:Os):laidMet Tryz.prog Rows.frameDrawnUptoRow.laid ((H1n os).forCall (fun _ _=>0) ⟨#[],#[.slice none 0 0],[]⟩).memory:=
 laidMet_of_run' 8 (by kernel_rfl) (by kernel_rfl)
theorem J1j (os:Os){H:Type}(enc:TypeId×Value->H): ∃places,DataW.whole enc Tryz.prog ((H1n os).forCall (fun _ _=>0) ⟨#[],#[.slice none 0 0],[]⟩).memory Tryz.f7.params.toList Rows.frameDrawnSpec.vars false #[.slice none 0 0].toList 8=some ([.nil],[],places):=
 ⟨[],by kernel_rfl⟩
theorem X1e (os:Os)(started:os.Started)(H:Type)(enc:TypeId×Value->H)(F:Stop.Interp):
 ReturnsInHanded {} Tryz.checked os 7 .any ((Rows.OpenSpec.upto Rows.frameDrawnSpec).preRow enc Tryz.prog Tryz.f7 Rows.frameDrawnUptoRow.domain false Rows.frameDrawnUptoRow.laid) (((Rows.OpenSpec.upto Rows.frameDrawnSpec).at F).post enc Tryz.prog Tryz.f7 false true false false):=by
 obtain⟨places,hx⟩:=J1j os enc;refine returnsInHanded_of_row (C:=Tryz.checked) (s:=Rows.OpenSpec.upto Rows.frameDrawnSpec) q2r started (by kernel_rfl) Tryz.func7
  (witness_row_at (enc:=enc) (C:=Tryz.checked) false (H1n os) #[.slice none 0 0] rfl (by kernel_rfl) (by kernel_rfl) (by kernel_rfl)
   (OpenSpec.preRow_of_cond 8 hx (by kernel_rfl) (fun k hk=>by cases hk;kernel_rfl) (by kernel_rfl) (W1o os))) ?_
 intro W base args ds gs before hval hW _ hcond _ hL _ _;exact w0h H enc W base args ds gs before hval hW (hcond _ rfl) hL
theorem Q1l :(Rows.frameDrawnUptoRow.inPlace==Tryz.pinned.checked.prog.inPlace 7)=true:=by kernel_rfl
theorem j0r :(Rows.frameDrawnUptoRow.unfollowed==Tryz.pinned.checked.prog.unfollowed 7)=true:=by kernel_rfl
theorem w0g :(Rows.frameDrawnUptoRow.recurses==Tryz.pinned.checked.prog.recurses 7)=true:=by kernel_rfl
theorem v0c :(Rows.frameDrawnUptoRow.named==Tryz.pinned.checked.prog.varsNamed 7)=true:=by kernel_rfl
set_option maxHeartbeats 16000000 in
theorem X1f :joinedFacts Tryz.pinned.checked.prog 7 Tryz.f7 (Rows.OpenSpec.upto Rows.frameDrawnSpec).bare Rows.frameDrawnUptoRow=true:=by
 unfold joinedFacts;refine J0u ?_ (by kernel_rfl);refine J0u ?_ (by kernel_rfl);refine J0u ?_ (by kernel_rfl);refine J0u ?_ (by kernel_rfl);refine J0u ?_ (by kernel_rfl);refine J0u ?_ X3u;refine J0u ?_ X3x;refine J0u ?_ X3w;refine J0u ?_ (by kernel_rfl);refine J0u ?_ k1p;refine J0u ?_ (by kernel_rfl);refine J0u ?_ (by kernel_rfl);refine J0u ?_ (by kernel_rfl);refine J0u ?_ (by kernel_rfl);refine J0u ?_ (by kernel_rfl);refine J0u ?_ (by kernel_rfl);refine J0u ?_ (by kernel_rfl);refine J0u ?_ (by kernel_rfl);refine J0u ?_ (by kernel_rfl);refine J0u ?_ v0c;refine J0u ?_ w0g;refine J0u ?_ j0r;refine J0u ?_ Q1l;refine J0u ?_ X3v;refine J0u ?_ (by kernel_rfl);refine J0u ?_ X3t;refine J0u ?_ (by kernel_rfl);refine J0u ?_ (by kernel_rfl);refine J0u ?_ (by kernel_rfl);refine J0u ?_ k1q;refine J0u ?_ Y2m
 kernel_rfl
theorem frameDrawn_funcNamed :Tryz.pinned.checked.prog.funcNamed "fathomline/fathomlinelaw18.FrameDrawn" =some 7:=by kernel_rfl
theorem W1n :Rows.FrameDrawnUptoSaid:=
 OpenClaim.holds_of_cond 7 Tryz.f7 rfl rfl rfl rfl rfl rfl rfl ⟨rfl,rfl,rfl,rfl,rfl⟩ rfl rfl rfl rfl rfl frameDrawn_funcNamed Tryz.func7 X1f
  (q_b (by kernel_rfl)) (by unfold Func.isWrapper;first | (rw[if_pos (by decide+kernel)];kernel_rfl) | (rw[if_neg (by decide+kernel)];exact⟨rfl,rfl⟩))
  (fun os started H enc _ F=>by rw[OpenClaim.pre_eq_preRow];exact X1e os started H enc F)
theorem J1k (f:FuncId)(fn:Func)(hf:Tryz.pinned.checked.prog.funcNamed "fathomline/fathomlinelaw18.FrameDrawn" =some f)(hfn:Tryz.pinned.checked.prog.funcs[f]?=some fn):
 false=Tryz.pinned.checked.prog.looks []/\ ∀(j:Nat) t,fn.params[j]?=some t->Tryz.pinned.checked.prog.wantsStandIn t=false:=by
 obtain rfl:f=7:=Option.some.inj (frameDrawn_funcNamed.symm.trans hf)|>.symm;obtain rfl:fn=Tryz.f7:=(Option.some.inj (Tryz.func7.symm.trans hfn)).symm;refine⟨by kernel_rfl,fun j t ht=> ?_⟩;have hm:t∈Tryz.f7.params.toList:=by have:=Array.mem_of_getElem? ht;simpa using this
 have hall:(Tryz.f7.params.toList.all fun u=> !Tryz.prog.wantsStandIn u)=true:=(by kernel_rfl);have h2:=List.all_eq_true.1 hall t hm;exact(show Tryz.prog.wantsStandIn t=false by simpa using h2)
theorem frameDrawn_holds :Rows.FrameDrawnUptoCardSaid:=
 Claim7.holds_tied_plain_at .later [] _ _ _ _ W1n (fun _ h=>by cases h) (by kernel_rfl) (fun _ h=>by cases h) frameDrawnUpto_row_tie rfl ⟨rfl,rfl⟩ (by kernel_rfl) rfl J1k (by kernel_rfl)
end Go.Proofs.YtldalepagmhnmaaGreatDoor
