/- For any drawn words of bulk at most 1048576 the law VaryDrawn returns true, and its argument reads as before. -/
import Derived.Test.YtldalepagmhnmaaGreatDoorZGE
import Derived.Test.YtldalepagmhnmaaGreatDoorZBL
import Derived.Test.YtldalepagmhnmaaGreatDoorCards
import Derived.Test.YtldalepagmhnmaaGreatDoorTie
import Derived.SevenTiedAt
set_option linter.unusedVariables false
set_option linter.unusedSimpArgs false
set_option maxRecDepth 100000
namespace Go.Proofs.YtldalepagmhnmaaGreatDoor
open Go.Pv Go.ChangeShapes Go.WideShapes Go.ChangeAt Go.RowKit
open Go.Proofs.YtldalepagmhnmaaGreatDoor.Rows (uptoBulk uptoBulkAll)
theorem v0q (H:Type)(enc:TypeId×Value->H)(W:World)(base:Nat)(args:Array Value)(ds gs:List (DataW H))(before:List MemPlace)
 (hval: ∀(j:Nat) t v,Tryz.f3.params[j]?=some t->args[j]?=some v->Value.okWide Tryz.prog W .any base t v)
 (hW:DataW.Whole enc Tryz.prog Tryz.f3.params.toList Rows.varyDrawnSpec.vars false W args.toList ds gs before) (hk:Rows.uptoSmall H (ds++gs)=true) (hL:laidMetH Tryz.prog Rows.varyDrawnUptoRow.laid W):
 Calls Tryz.prog 3 args W fun e W'=> ∃v,e= .returned v/\Rows.varyDrawnSpec.post enc Tryz.prog Tryz.f3 false true false false W args v W':=by
 have hW':=hW;obtain⟨p,q,hA0,hV,rfl,hfz,hnd⟩:=hW;have hA:DataW.TrodAll enc Tryz.prog W 0 (fun _=>true) true Tryz.f3.params.toList args.toList ds p:=hA0;rw[Tryz.params3] at hA hval;obtain⟨v0,vs0,d0,ds0,p0,q0,ha,rfl,rfl,h0,hA0⟩:=trodAll_cons hA;obtain⟨rfl,rfl,rfl⟩:=trodAll_nil hA0;obtain rfl:args= #[v0]:=(by cases args;simp_all);obtain⟨rfl,rfl⟩:=trodVars_none hV;have hb:=K2d hk;have b0:uptoBulk d0<=1048576:=Nat.le_trans (x1m (by simp)) hb;obtain⟨x0,r0,o0⟩:=Y3m J3f Tryz.underlying22 (hval 0 22 v0 rfl rfl) h0;refine(v1v (x2m hL) (j1f x0) (w:=W) ⟨rfl,fun j hj=> ?_⟩).mono fun e W' ⟨he,hbl⟩=>⟨_,he,X2o k1s ?_ rfl hW' rfl hbl rfl Tryz.underlying4⟩
 match j,hj with
 | 0,_=>exact r0
 rw[Tryz.params3];exact q_b (by kernel_rfl)
theorem V1k (os:Os):laidMet Tryz.prog Rows.varyDrawnUptoRow.laid ((U1f os).forCall (fun _ _=>0) ⟨#[],#[.slice none 0 0],[]⟩).memory:=
 laidMet_of_run' 8 (by kernel_rfl) (by kernel_rfl)
theorem X1n (os:Os){H:Type}(enc:TypeId×Value->H): ∃places,DataW.whole enc Tryz.prog ((U1f os).forCall (fun _ _=>0) ⟨#[],#[.slice none 0 0],[]⟩).memory Tryz.f3.params.toList Rows.varyDrawnSpec.vars false #[.slice none 0 0].toList 8=some ([.nil],[],places):=
 ⟨[],by kernel_rfl⟩
theorem Z1i (os:Os)(started:os.Started)(H:Type)(enc:TypeId×Value->H)(F:Stop.Interp):
 ReturnsInHanded {} Tryz.checked os 3 .any ((Rows.OpenSpec.upto Rows.varyDrawnSpec).preRow enc Tryz.prog Tryz.f3 Rows.varyDrawnUptoRow.domain false Rows.varyDrawnUptoRow.laid) (((Rows.OpenSpec.upto Rows.varyDrawnSpec).at F).post enc Tryz.prog Tryz.f3 false true false false):=by
 obtain⟨places,hx⟩:=X1n os enc;refine returnsInHanded_of_row (C:=Tryz.checked) (s:=Rows.OpenSpec.upto Rows.varyDrawnSpec) Y2j started (by kernel_rfl) Tryz.func3
  (witness_row_at (enc:=enc) (C:=Tryz.checked) false (U1f os) #[.slice none 0 0] rfl (by kernel_rfl) (by kernel_rfl) (by kernel_rfl)
   (OpenSpec.preRow_of_cond 8 hx (by kernel_rfl) (fun k hk=>by cases hk;kernel_rfl) (by kernel_rfl) (V1k os))) ?_
 intro W base args ds gs before hval hW _ hcond _ hL _ _;exact v0q H enc W base args ds gs before hval hW (hcond _ rfl) hL
theorem y0l :(Rows.varyDrawnUptoRow.inPlace==Tryz.pinned.checked.prog.inPlace 3)=true:=by kernel_rfl
theorem j0v :(Rows.varyDrawnUptoRow.unfollowed==Tryz.pinned.checked.prog.unfollowed 3)=true:=by kernel_rfl
theorem v0p :(Rows.varyDrawnUptoRow.recurses==Tryz.pinned.checked.prog.recurses 3)=true:=by kernel_rfl
theorem k0k :(Rows.varyDrawnUptoRow.named==Tryz.pinned.checked.prog.varsNamed 3)=true:=by kernel_rfl
set_option maxHeartbeats 4000000 in
theorem Z1j :joinedFacts Tryz.pinned.checked.prog 3 Tryz.f3 (Rows.OpenSpec.upto Rows.varyDrawnSpec).bare Rows.varyDrawnUptoRow=true:=by
 unfold joinedFacts;refine J0r ?_ (by kernel_rfl);refine J0r ?_ (by kernel_rfl);refine J0r ?_ (by kernel_rfl);refine J0r ?_ (by kernel_rfl);refine J0r ?_ (by kernel_rfl);refine J0r ?_ v2z;refine J0r ?_ w2c;refine J0r ?_ w2b;refine J0r ?_ (by kernel_rfl);refine J0r ?_ q1y;refine J0r ?_ (by kernel_rfl);refine J0r ?_ (by kernel_rfl);refine J0r ?_ (by kernel_rfl);refine J0r ?_ (by kernel_rfl);refine J0r ?_ (by kernel_rfl);refine J0r ?_ (by kernel_rfl);refine J0r ?_ (by kernel_rfl);refine J0r ?_ (by kernel_rfl);refine J0r ?_ (by kernel_rfl);refine J0r ?_ k0k;refine J0r ?_ v0p;refine J0r ?_ j0v;refine J0r ?_ y0l;refine J0r ?_ w2a;refine J0r ?_ (by kernel_rfl);refine J0r ?_ v2y;refine J0r ?_ (by kernel_rfl);refine J0r ?_ (by kernel_rfl);refine J0r ?_ (by kernel_rfl);refine J0r ?_ q1z;refine J0r ?_ J2g
 kernel_rfl
theorem varyDrawn_funcNamed :Tryz.pinned.checked.prog.funcNamed "fathomline/fathomlinelaw16.VaryDrawn" =some 3:=by kernel_rfl
theorem V1j :Rows.VaryDrawnUptoSaid:=
 OpenClaim.holds_of_cond 3 Tryz.f3 rfl rfl rfl rfl rfl rfl rfl ⟨rfl,rfl,rfl,rfl,rfl⟩ rfl rfl rfl rfl rfl varyDrawn_funcNamed Tryz.func3 Z1j
  (q_b (by kernel_rfl)) (by unfold Func.isWrapper;first | (rw[if_pos (by decide+kernel)];kernel_rfl) | (rw[if_neg (by decide+kernel)];exact⟨rfl,rfl⟩))
  (fun os started H enc _ F=>by rw[OpenClaim.pre_eq_preRow];exact Z1i os started H enc F)
theorem X1o (f:FuncId)(fn:Func)(hf:Tryz.pinned.checked.prog.funcNamed "fathomline/fathomlinelaw16.VaryDrawn" =some f)(hfn:Tryz.pinned.checked.prog.funcs[f]?=some fn):
 false=Tryz.pinned.checked.prog.looks []/\ ∀(j:Nat) t,fn.params[j]?=some t->Tryz.pinned.checked.prog.wantsStandIn t=false:=by
 obtain rfl:f=3:=Option.some.inj (varyDrawn_funcNamed.symm.trans hf)|>.symm;obtain rfl:fn=Tryz.f3:=(Option.some.inj (Tryz.func3.symm.trans hfn)).symm;refine⟨by kernel_rfl,fun j t ht=> ?_⟩;have hm:t∈Tryz.f3.params.toList:=by have:=Array.mem_of_getElem? ht;simpa using this
 have hall:(Tryz.f3.params.toList.all fun u=> !Tryz.prog.wantsStandIn u)=true:=(by kernel_rfl);have h2:=List.all_eq_true.1 hall t hm;exact(show Tryz.prog.wantsStandIn t=false by simpa using h2)
theorem varyDrawn_holds :Rows.VaryDrawnUptoCardSaid:=
 Claim7.holds_tied_plain_at .later [] _ _ _ _ V1j (fun _ h=>by cases h) (by kernel_rfl) (fun _ h=>by cases h) varyDrawnUpto_row_tie rfl ⟨rfl,rfl⟩ (by kernel_rfl) rfl X1o (by kernel_rfl)
end Go.Proofs.YtldalepagmhnmaaGreatDoor
