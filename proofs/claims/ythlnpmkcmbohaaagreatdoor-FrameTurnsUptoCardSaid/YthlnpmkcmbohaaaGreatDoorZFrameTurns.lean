/- For any numbers of bulk at most 1048576 the law FrameTurns returns true, and its argument reads as before. -/
import Derived.Test.YthlnpmkcmbohaaaGreatDoorZHM
import Derived.Test.YthlnpmkcmbohaaaGreatDoorZBL
import Derived.Test.YthlnpmkcmbohaaaGreatDoorCards
import Derived.Test.YthlnpmkcmbohaaaGreatDoorTie
import Derived.SevenTiedAt
set_option linter.unusedVariables false
set_option linter.unusedSimpArgs false
set_option maxRecDepth 100000
namespace Go.Proofs.YthlnpmkcmbohaaaGreatDoor
open Go.Pv Go.ChangeShapes Go.WideShapes Go.ChangeAt Go.RowKit
open Go.Proofs.YthlnpmkcmbohaaaGreatDoor.Rows (uptoBulk uptoBulkAll)
theorem Uh (H:Type)(enc:TypeId×Value->H)(W:World)(base:Nat)(args:Array Value)(ds gs:List (DataW H))(before:List MemPlace)
 (hval: ∀(j:Nat) t v,Tryz.f3.params[j]?=some t->args[j]?=some v->Value.okWide Tryz.prog W .any base t v)
 (hW:DataW.Whole enc Tryz.prog Tryz.f3.params.toList Rows.frameTurnsSpec.vars false W args.toList ds gs before) (hk:Rows.uptoSmall H (ds++gs)=true) (hL:laidMetH Tryz.prog Rows.frameTurnsUptoRow.laid W):
 Calls Tryz.prog 3 args W fun e W'=> ∃v,e= .returned v/\Rows.frameTurnsSpec.post enc Tryz.prog Tryz.f3 false true false false W args v W':=by
 have hW':=hW;obtain⟨p,q,hA0,hV,rfl,hfz,hnd⟩:=hW;have hA:DataW.TrodAll enc Tryz.prog W 0 (fun _=>true) true Tryz.f3.params.toList args.toList ds p:=hA0;rw[Tryz.params3] at hA hval;obtain⟨v0,vs0,d0,ds0,p0,q0,ha,rfl,rfl,h0,hA0⟩:=trodAll_cons hA;obtain⟨rfl,rfl,rfl⟩:=trodAll_nil hA0;obtain rfl:args= #[v0]:=(by cases args;simp_all);obtain⟨rfl,rfl⟩:=trodVars_none hV;have hb:=Hy hk;have b0:uptoBulk d0<=1048576:=B7 (G7 (by simp)) hb;obtain⟨x0,r0,o0⟩:=Z0v yz Tryz.underlying22 (hval 0 22 v0 rfl rfl) h0;refine(Ux (xQ hL) (vQ x0) (w:=W) ⟨rfl,fun j hj=> ?_⟩).mono fun e W' ⟨he,hbl⟩=>⟨_,he,GW Uc ?_ rfl hW' rfl hbl rfl Tryz.underlying4⟩
 match j,hj with
 | 0,_=>exact r0
 rw[Tryz.params3];exact q_b (by kernel_rfl)
theorem qz (os:Os):laidMet Tryz.prog Rows.frameTurnsUptoRow.laid ((Kj os).forCall (fun _ _=>0) ⟨#[],#[.slice none 0 0],[]⟩).memory:=
 laidMet_of_run' 8 (by kernel_rfl) (by kernel_rfl)
theorem HI (os:Os){H:Type}(enc:TypeId×Value->H): ∃places,DataW.whole enc Tryz.prog ((Kj os).forCall (fun _ _=>0) ⟨#[],#[.slice none 0 0],[]⟩).memory Tryz.f3.params.toList Rows.frameTurnsSpec.vars false #[.slice none 0 0].toList 8=some ([.nil],[],places):=
 ⟨[],by kernel_rfl⟩
theorem Hg (os:Os)(started:os.Started)(H:Type)(enc:TypeId×Value->H)(F:Stop.Interp):
 ReturnsInHanded {} Tryz.checked os 3 .any ((Rows.OpenSpec.upto Rows.frameTurnsSpec).preRow enc Tryz.prog Tryz.f3 Rows.frameTurnsUptoRow.domain false Rows.frameTurnsUptoRow.laid) (((Rows.OpenSpec.upto Rows.frameTurnsSpec).at F).post enc Tryz.prog Tryz.f3 false true false false):=by
 obtain⟨places,hx⟩:=HI os enc;refine returnsInHanded_of_row (C:=Tryz.checked) (s:=Rows.OpenSpec.upto Rows.frameTurnsSpec) IQ started (by kernel_rfl) Tryz.func3
  (witness_row_at (enc:=enc) (C:=Tryz.checked) false (Kj os) #[.slice none 0 0] rfl (by kernel_rfl) (by kernel_rfl) (by kernel_rfl)
   (OpenSpec.preRow_of_cond 8 hx (by kernel_rfl) (fun k hk=>by cases hk;kernel_rfl) (by kernel_rfl) (qz os))) ?_
 intro W base args ds gs before hval hW _ hcond _ hL _ _;exact Uh H enc W base args ds gs before hval hW (hcond _ rfl) hL
theorem Gu :(Rows.frameTurnsUptoRow.inPlace==Tryz.pinned.checked.prog.inPlace 3)=true:=by kernel_rfl
theorem W7 :(Rows.frameTurnsUptoRow.unfollowed==Tryz.pinned.checked.prog.unfollowed 3)=true:=by kernel_rfl
theorem Ug :(Rows.frameTurnsUptoRow.recurses==Tryz.pinned.checked.prog.recurses 3)=true:=by kernel_rfl
theorem Y6 :(Rows.frameTurnsUptoRow.named==Tryz.pinned.checked.prog.varsNamed 3)=true:=by kernel_rfl
set_option maxHeartbeats 16000000 in
theorem Hh :joinedFacts Tryz.pinned.checked.prog 3 Tryz.f3 (Rows.OpenSpec.upto Rows.frameTurnsSpec).bare Rows.frameTurnsUptoRow=true:=by
 unfold joinedFacts;refine Qz ?_ (by kernel_rfl);refine Qz ?_ (by kernel_rfl);refine Qz ?_ (by kernel_rfl);refine Qz ?_ (by kernel_rfl);refine Qz ?_ (by kernel_rfl);refine Qz ?_ j7;refine Qz ?_ jA;refine Qz ?_ j9;refine Qz ?_ (by kernel_rfl);refine Qz ?_ W3;refine Qz ?_ (by kernel_rfl);refine Qz ?_ (by kernel_rfl);refine Qz ?_ (by kernel_rfl);refine Qz ?_ (by kernel_rfl);refine Qz ?_ (by kernel_rfl);refine Qz ?_ (by kernel_rfl);refine Qz ?_ (by kernel_rfl);refine Qz ?_ (by kernel_rfl);refine Qz ?_ (by kernel_rfl);refine Qz ?_ Y6;refine Qz ?_ Ug;refine Qz ?_ W7;refine Qz ?_ Gu;refine Qz ?_ j8;refine Qz ?_ (by kernel_rfl);refine Qz ?_ j6;refine Qz ?_ (by kernel_rfl);refine Qz ?_ (by kernel_rfl);refine Qz ?_ (by kernel_rfl);refine Qz ?_ W4;refine Qz ?_ He
 kernel_rfl
theorem frameTurns_funcNamed :Tryz.pinned.checked.prog.funcNamed "fathomline/fathomlinelaw18.FrameTurns" =some 3:=by kernel_rfl
theorem qw :Rows.FrameTurnsUptoSaid:=
 OpenClaim.holds_of_cond 3 Tryz.f3 rfl rfl rfl rfl rfl rfl rfl ⟨rfl,rfl,rfl,rfl,rfl⟩ rfl rfl rfl rfl rfl frameTurns_funcNamed Tryz.func3 Hh
  (q_b (by kernel_rfl)) (by unfold Func.isWrapper;first | (rw[BC (by decide+kernel)];kernel_rfl) | (rw[BA (by decide+kernel)];exact⟨rfl,rfl⟩))
  (fun os started H enc _ F=>by rw[OpenClaim.pre_eq_preRow];exact Hg os started H enc F)
theorem HJ (f:FuncId)(fn:Func)(hf:Tryz.pinned.checked.prog.funcNamed "fathomline/fathomlinelaw18.FrameTurns" =some f)(hfn:Tryz.pinned.checked.prog.funcs[f]?=some fn):
 false=Tryz.pinned.checked.prog.looks []/\ ∀(j:Nat) t,fn.params[j]?=some t->Tryz.pinned.checked.prog.wantsStandIn t=false:=by
 obtain rfl:f=3:=Option.some.inj (frameTurns_funcNamed.symm.trans hf)|>.symm;obtain rfl:fn=Tryz.f3:=(Option.some.inj (Tryz.func3.symm.trans hfn)).symm;refine⟨by kernel_rfl,fun j t ht=> ?_⟩;have hm:t∈Tryz.f3.params.toList:=by have:=Array.mem_of_getElem? ht;simpa using this
 have hall:(Tryz.f3.params.toList.all fun u=> !Tryz.prog.wantsStandIn u)=true:=(by kernel_rfl);have h2:=List.all_eq_true.1 hall t hm;exact(show Tryz.prog.wantsStandIn t=false by simpa using h2)
theorem frameTurns_holds :Rows.FrameTurnsUptoCardSaid:=
 Claim7.holds_tied_plain_at .later [] _ _ _ _ qw (fun _ h=>by cases h) (by kernel_rfl) (fun _ h=>by cases h) frameTurnsUpto_row_tie rfl ⟨rfl,rfl⟩ (by kernel_rfl) rfl HJ (by kernel_rfl)
end Go.Proofs.YthlnpmkcmbohaaaGreatDoor
