/- For any drawn words of bulk at most 1048576 the law VaryHolds returns true, and its argument reads as before. -/
import Derived.Test.YtldalepagmhnmaaGreatDoorZGL
import Derived.Test.YtldalepagmhnmaaGreatDoorZBL
import Derived.Test.YtldalepagmhnmaaGreatDoorCards
import Derived.Test.YtldalepagmhnmaaGreatDoorTie
import Derived.SevenTiedAt
set_option linter.unusedVariables false
set_option linter.unusedSimpArgs false
set_option maxRecDepth 100000
namespace Go.Proofs.YtldalepagmhnmaaGreatDoor
open Go.Pv Go.ChangeShapes Go.WideShapes Go.ChangeAt Go.RowKit
open Go.Proofs.YtldalepagmhnmaaGreatDoor.Rows (uptoBulk uptoBulkAll)
theorem v0p (H:Type)(enc:TypeId×Value->H)(W:World)(base:Nat)(args:Array Value)(ds gs:List (DataW H))(before:List MemPlace)
 (hval: ∀(j:Nat) t v,Tryz.f4.params[j]?=some t->args[j]?=some v->Value.okWide Tryz.prog W .any base t v)
 (hW:DataW.Whole enc Tryz.prog Tryz.f4.params.toList Rows.varyHoldsSpec.vars false W args.toList ds gs before) (hk:Rows.uptoSmall H (ds++gs)=true) (hL:laidMetH Tryz.prog Rows.varyHoldsUptoRow.laid W):
 Calls Tryz.prog 4 args W fun e W'=> ∃v,e= .returned v/\Rows.varyHoldsSpec.post enc Tryz.prog Tryz.f4 false true false false W args v W':=by
 have hW':=hW;obtain⟨p,q,hA0,hV,rfl,hfz,hnd⟩:=hW;have hA:DataW.TrodAll enc Tryz.prog W 0 (fun _=>true) true Tryz.f4.params.toList args.toList ds p:=hA0;rw[Tryz.params4] at hA hval;obtain⟨v0,vs0,d0,ds0,p0,q0,ha,rfl,rfl,h0,hA0⟩:=trodAll_cons hA;obtain⟨rfl,rfl,rfl⟩:=trodAll_nil hA0;obtain rfl:args= #[v0]:=(by cases args;simp_all);obtain⟨rfl,rfl⟩:=trodVars_none hV;have hb:=W2i hk;have b0:uptoBulk d0<=1048576:=Nat.le_trans (j1z (by simp)) hb;obtain⟨x0,r0,o0⟩:=q3h W3u Tryz.underlying22 (hval 0 22 v0 rfl rfl) h0;refine(y1t (v2h hL) (k1q x0) (w:=W) ⟨rfl,fun j hj=> ?_⟩).mono fun e W' ⟨he,hbl⟩=>⟨_,he,K2q w1k ?_ rfl hW' rfl hbl rfl Tryz.underlying4⟩
 match j,hj with
 | 0,_=>exact r0
 rw[Tryz.params4];exact q_b (by kernel_rfl)
theorem V1z (os:Os):laidMet Tryz.prog Rows.varyHoldsUptoRow.laid ((U1r os).forCall (fun _ _=>0) ⟨#[],#[.slice none 0 0],[]⟩).memory:=
 laidMet_of_run' 8 (by kernel_rfl) (by kernel_rfl)
theorem X1o (os:Os){H:Type}(enc:TypeId×Value->H): ∃places,DataW.whole enc Tryz.prog ((U1r os).forCall (fun _ _=>0) ⟨#[],#[.slice none 0 0],[]⟩).memory Tryz.f4.params.toList Rows.varyHoldsSpec.vars false #[.slice none 0 0].toList 8=some ([.nil],[],places):=
 ⟨[],by kernel_rfl⟩
theorem Z1u (os:Os)(started:os.Started)(H:Type)(enc:TypeId×Value->H)(F:Stop.Interp):
 ReturnsInHanded {} Tryz.checked os 4 .any ((Rows.OpenSpec.upto Rows.varyHoldsSpec).preRow enc Tryz.prog Tryz.f4 Rows.varyHoldsUptoRow.domain false Rows.varyHoldsUptoRow.laid) (((Rows.OpenSpec.upto Rows.varyHoldsSpec).at F).post enc Tryz.prog Tryz.f4 false true false false):=by
 obtain⟨places,hx⟩:=X1o os enc;refine returnsInHanded_of_row (C:=Tryz.checked) (s:=Rows.OpenSpec.upto Rows.varyHoldsSpec) G2v started (by kernel_rfl) Tryz.func4
  (witness_row_at (enc:=enc) (C:=Tryz.checked) false (U1r os) #[.slice none 0 0] rfl (by kernel_rfl) (by kernel_rfl) (by kernel_rfl)
   (OpenSpec.preRow_of_cond 8 hx (by kernel_rfl) (fun k hk=>by cases hk;kernel_rfl) (by kernel_rfl) (V1z os))) ?_
 intro W base args ds gs before hval hW _ hcond _ hL _ _;exact v0p H enc W base args ds gs before hval hW (hcond _ rfl) hL
theorem y0p :(Rows.varyHoldsUptoRow.inPlace==Tryz.pinned.checked.prog.inPlace 4)=true:=by kernel_rfl
theorem j0u :(Rows.varyHoldsUptoRow.unfollowed==Tryz.pinned.checked.prog.unfollowed 4)=true:=by kernel_rfl
theorem v0o :(Rows.varyHoldsUptoRow.recurses==Tryz.pinned.checked.prog.recurses 4)=true:=by kernel_rfl
theorem k0k :(Rows.varyHoldsUptoRow.named==Tryz.pinned.checked.prog.varsNamed 4)=true:=by kernel_rfl
set_option maxHeartbeats 4000000 in
theorem Z1v :joinedFacts Tryz.pinned.checked.prog 4 Tryz.f4 (Rows.OpenSpec.upto Rows.varyHoldsSpec).bare Rows.varyHoldsUptoRow=true:=by
 unfold joinedFacts;refine J0m ?_ (by kernel_rfl);refine J0m ?_ (by kernel_rfl);refine J0m ?_ (by kernel_rfl);refine J0m ?_ (by kernel_rfl);refine J0m ?_ (by kernel_rfl);refine J0m ?_ Q3t;refine J0m ?_ Q3w;refine J0m ?_ Q3v;refine J0m ?_ (by kernel_rfl);refine J0m ?_ x1a;refine J0m ?_ (by kernel_rfl);refine J0m ?_ (by kernel_rfl);refine J0m ?_ (by kernel_rfl);refine J0m ?_ (by kernel_rfl);refine J0m ?_ (by kernel_rfl);refine J0m ?_ (by kernel_rfl);refine J0m ?_ (by kernel_rfl);refine J0m ?_ (by kernel_rfl);refine J0m ?_ (by kernel_rfl);refine J0m ?_ k0k;refine J0m ?_ v0o;refine J0m ?_ j0u;refine J0m ?_ y0p;refine J0m ?_ Q3u;refine J0m ?_ (by kernel_rfl);refine J0m ?_ Q3s;refine J0m ?_ (by kernel_rfl);refine J0m ?_ (by kernel_rfl);refine J0m ?_ (by kernel_rfl);refine J0m ?_ x1b;refine J0m ?_ V2i
 kernel_rfl
theorem varyHolds_funcNamed :Tryz.pinned.checked.prog.funcNamed "fathomline/fathomlinelaw16.VaryHolds" =some 4:=by kernel_rfl
theorem V1y :Rows.VaryHoldsUptoSaid:=
 OpenClaim.holds_of_cond 4 Tryz.f4 rfl rfl rfl rfl rfl rfl rfl ⟨rfl,rfl,rfl,rfl,rfl⟩ rfl rfl rfl rfl rfl varyHolds_funcNamed Tryz.func4 Z1v
  (q_b (by kernel_rfl)) (by unfold Func.isWrapper;first | (rw[if_pos (by decide+kernel)];kernel_rfl) | (rw[if_neg (by decide+kernel)];exact⟨rfl,rfl⟩))
  (fun os started H enc _ F=>by rw[OpenClaim.pre_eq_preRow];exact Z1u os started H enc F)
theorem X1p (f:FuncId)(fn:Func)(hf:Tryz.pinned.checked.prog.funcNamed "fathomline/fathomlinelaw16.VaryHolds" =some f)(hfn:Tryz.pinned.checked.prog.funcs[f]?=some fn):
 false=Tryz.pinned.checked.prog.looks []/\ ∀(j:Nat) t,fn.params[j]?=some t->Tryz.pinned.checked.prog.wantsStandIn t=false:=by
 obtain rfl:f=4:=Option.some.inj (varyHolds_funcNamed.symm.trans hf)|>.symm;obtain rfl:fn=Tryz.f4:=(Option.some.inj (Tryz.func4.symm.trans hfn)).symm;refine⟨by kernel_rfl,fun j t ht=> ?_⟩;have hm:t∈Tryz.f4.params.toList:=by have:=Array.mem_of_getElem? ht;simpa using this
 have hall:(Tryz.f4.params.toList.all fun u=> !Tryz.prog.wantsStandIn u)=true:=(by kernel_rfl);have h2:=List.all_eq_true.1 hall t hm;exact(show Tryz.prog.wantsStandIn t=false by simpa using h2)
theorem varyHolds_holds :Rows.VaryHoldsUptoCardSaid:=
 Claim7.holds_tied_plain_at .later [] _ _ _ _ V1y (fun _ h=>by cases h) (by kernel_rfl) (fun _ h=>by cases h) varyHoldsUpto_row_tie rfl ⟨rfl,rfl⟩ (by kernel_rfl) rfl X1p (by kernel_rfl)
end Go.Proofs.YtldalepagmhnmaaGreatDoor
