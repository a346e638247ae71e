/- For any drawn words of bulk at most 1048576 the law VarySlopes returns true, and its argument reads as before. -/
import Derived.Test.YtldalepagmhnmaaGreatDoorZGL
import Derived.Test.YtldalepagmhnmaaGreatDoorZBL
import Derived.Test.YtldalepagmhnmaaGreatDoorCards
import Derived.Test.YtldalepagmhnmaaGreatDoorTie
import Derived.SevenTiedAt
set_option linter.unusedVariables false
set_option linter.unusedSimpArgs false
set_option maxRecDepth 100000
namespace Go.Proofs.YtldalepagmhnmaaGreatDoor
open Go.Pv Go.ChangeShapes Go.WideShapes Go.ChangeAt Go.RowKit
open Go.Proofs.YtldalepagmhnmaaGreatDoor.Rows (uptoBulk uptoBulkAll)
theorem k0g (H:Type)(enc:TypeId×Value->H)(W:World)(base:Nat)(args:Array Value)(ds gs:List (DataW H))(before:List MemPlace)
 (hval: ∀(j:Nat) t v,Tryz.f5.params[j]?=some t->args[j]?=some v->Value.okWide Tryz.prog W .any base t v)
 (hW:DataW.Whole enc Tryz.prog Tryz.f5.params.toList Rows.varySlopesSpec.vars false W args.toList ds gs before) (hk:Rows.uptoSmall H (ds++gs)=true) (hL:laidMetH Tryz.prog Rows.varySlopesUptoRow.laid W):
 Calls Tryz.prog 5 args W fun e W'=> ∃v,e= .returned v/\Rows.varySlopesSpec.post enc Tryz.prog Tryz.f5 false true false false W args v W':=by
 have hW':=hW;obtain⟨p,q,hA0,hV,rfl,hfz,hnd⟩:=hW;have hA:DataW.TrodAll enc Tryz.prog W 0 (fun _=>true) true Tryz.f5.params.toList args.toList ds p:=hA0;rw[Tryz.params5] at hA hval;obtain⟨v0,vs0,d0,ds0,p0,q0,ha,rfl,rfl,h0,hA0⟩:=trodAll_cons hA;obtain⟨rfl,rfl,rfl⟩:=trodAll_nil hA0;obtain rfl:args= #[v0]:=(by cases args;simp_all);obtain⟨rfl,rfl⟩:=trodVars_none hV;have hb:=W2u hk;have b0:uptoBulk d0<=1048576:=Nat.le_trans (k1d (by simp)) hb;obtain⟨x0,r0,o0⟩:=q3u Y3f Tryz.underlying22 (hval 0 22 v0 rfl rfl) h0;refine(y1w (v2m hL) (H1y x0) (w:=W) ⟨rfl,fun j hj=> ?_⟩).mono fun e W' ⟨he,hbl⟩=>⟨_,he,V2a w1q ?_ rfl hW' rfl hbl rfl Tryz.underlying4⟩
 match j,hj with
 | 0,_=>exact r0
 rw[Tryz.params5];exact q_b (by kernel_rfl)
theorem X1r (os:Os):laidMet Tryz.prog Rows.varySlopesUptoRow.laid ((U1t os).forCall (fun _ _=>0) ⟨#[],#[.slice none 0 0],[]⟩).memory:=
 laidMet_of_run' 8 (by kernel_rfl) (by kernel_rfl)
theorem Z1r (os:Os){H:Type}(enc:TypeId×Value->H): ∃places,DataW.whole enc Tryz.prog ((U1t os).forCall (fun _ _=>0) ⟨#[],#[.slice none 0 0],[]⟩).memory Tryz.f5.params.toList Rows.varySlopesSpec.vars false #[.slice none 0 0].toList 8=some ([.nil],[],places):=
 ⟨[],by kernel_rfl⟩
theorem y0i (os:Os)(started:os.Started)(H:Type)(enc:TypeId×Value->H)(F:Stop.Interp):
 ReturnsInHanded {} Tryz.checked os 5 .any ((Rows.OpenSpec.upto Rows.varySlopesSpec).preRow enc Tryz.prog Tryz.f5 Rows.varySlopesUptoRow.domain false Rows.varySlopesUptoRow.laid) (((Rows.OpenSpec.upto Rows.varySlopesSpec).at F).post enc Tryz.prog Tryz.f5 false true false false):=by
 obtain⟨places,hx⟩:=Z1r os enc;refine returnsInHanded_of_row (C:=Tryz.checked) (s:=Rows.OpenSpec.upto Rows.varySlopesSpec) H2f started (by kernel_rfl) Tryz.func5
  (witness_row_at (enc:=enc) (C:=Tryz.checked) false (U1t os) #[.slice none 0 0] rfl (by kernel_rfl) (by kernel_rfl) (by kernel_rfl)
   (OpenSpec.preRow_of_cond 8 hx (by kernel_rfl) (fun k hk=>by cases hk;kernel_rfl) (by kernel_rfl) (X1r os))) ?_
 intro W base args ds gs before hval hW _ hcond _ hL _ _;exact k0g H enc W base args ds gs before hval hW (hcond _ rfl) hL
theorem v0h :(Rows.varySlopesUptoRow.inPlace==Tryz.pinned.checked.prog.inPlace 5)=true:=by kernel_rfl
theorem z0p :(Rows.varySlopesUptoRow.unfollowed==Tryz.pinned.checked.prog.unfollowed 5)=true:=by kernel_rfl
theorem k0f :(Rows.varySlopesUptoRow.recurses==Tryz.pinned.checked.prog.recurses 5)=true:=by kernel_rfl
theorem j0s :(Rows.varySlopesUptoRow.named==Tryz.pinned.checked.prog.varsNamed 5)=true:=by kernel_rfl
set_option maxHeartbeats 4000000 in
theorem y0j :joinedFacts Tryz.pinned.checked.prog 5 Tryz.f5 (Rows.OpenSpec.upto Rows.varySlopesSpec).bare Rows.varySlopesUptoRow=true:=by
 unfold joinedFacts;refine J0i ?_ (by kernel_rfl);refine J0i ?_ (by kernel_rfl);refine J0i ?_ (by kernel_rfl);refine J0i ?_ (by kernel_rfl);refine J0i ?_ (by kernel_rfl);refine J0i ?_ Z3a;refine J0i ?_ Z3d;refine J0i ?_ Z3c;refine J0i ?_ (by kernel_rfl);refine J0i ?_ x1h;refine J0i ?_ (by kernel_rfl);refine J0i ?_ (by kernel_rfl);refine J0i ?_ (by kernel_rfl);refine J0i ?_ (by kernel_rfl);refine J0i ?_ (by kernel_rfl);refine J0i ?_ (by kernel_rfl);refine J0i ?_ (by kernel_rfl);refine J0i ?_ (by kernel_rfl);refine J0i ?_ (by kernel_rfl);refine J0i ?_ j0s;refine J0i ?_ k0f;refine J0i ?_ z0p;refine J0i ?_ v0h;refine J0i ?_ Z3b;refine J0i ?_ (by kernel_rfl);refine J0i ?_ Q3z;refine J0i ?_ (by kernel_rfl);refine J0i ?_ (by kernel_rfl);refine J0i ?_ (by kernel_rfl);refine J0i ?_ x1i;refine J0i ?_ V2s
 kernel_rfl
theorem varySlopes_funcNamed :Tryz.pinned.checked.prog.funcNamed "fathomline/fathomlinelaw16.VarySlopes" =some 5:=by kernel_rfl
theorem X1q :Rows.VarySlopesUptoSaid:=
 OpenClaim.holds_of_cond 5 Tryz.f5 rfl rfl rfl rfl rfl rfl rfl ⟨rfl,rfl,rfl,rfl,rfl⟩ rfl rfl rfl rfl rfl varySlopes_funcNamed Tryz.func5 y0j
  (q_b (by kernel_rfl)) (by unfold Func.isWrapper;first | (rw[if_pos (by decide+kernel)];kernel_rfl) | (rw[if_neg (by decide+kernel)];exact⟨rfl,rfl⟩))
  (fun os started H enc _ F=>by rw[OpenClaim.pre_eq_preRow];exact y0i os started H enc F)
theorem Z1s (f:FuncId)(fn:Func)(hf:Tryz.pinned.checked.prog.funcNamed "fathomline/fathomlinelaw16.VarySlopes" =some f)(hfn:Tryz.pinned.checked.prog.funcs[f]?=some fn):
 false=Tryz.pinned.checked.prog.looks []/\ ∀(j:Nat) t,fn.params[j]?=some t->Tryz.pinned.checked.prog.wantsStandIn t=false:=by
 obtain rfl:f=5:=Option.some.inj (varySlopes_funcNamed.symm.trans hf)|>.symm;obtain rfl:fn=Tryz.f5:=(Option.some.inj (Tryz.func5.symm.trans hfn)).symm;refine⟨by kernel_rfl,fun j t ht=> ?_⟩;have hm:t∈Tryz.f5.params.toList:=by have:=Array.mem_of_getElem? ht;simpa using this
 have hall:(Tryz.f5.params.toList.all fun u=> !Tryz.prog.wantsStandIn u)=true:=(by kernel_rfl);have h2:=List.all_eq_true.1 hall t hm;exact(show Tryz.prog.wantsStandIn t=false by simpa using h2)
theorem varySlopes_holds :Rows.VarySlopesUptoCardSaid:=
 Claim7.holds_tied_plain_at .later [] _ _ _ _ X1q (fun _ h=>by cases h) (by kernel_rfl) (fun _ h=>by cases h) varySlopesUpto_row_tie rfl ⟨rfl,rfl⟩ (by kernel_rfl) rfl Z1s (by kernel_rfl)
end Go.Proofs.YtldalepagmhnmaaGreatDoor
