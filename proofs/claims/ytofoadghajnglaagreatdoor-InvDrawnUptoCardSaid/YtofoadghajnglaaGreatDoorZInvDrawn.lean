/- For any drawn words of bulk at most 1048576 the law InvDrawn returns true, and its argument reads as before. -/
import Derived.Test.YtofoadghajnglaaGreatDoorZFU
import Derived.Test.YtofoadghajnglaaGreatDoorZBL
import Derived.Test.YtofoadghajnglaaGreatDoorCards
import Derived.Test.YtofoadghajnglaaGreatDoorTie
import Derived.SevenTiedAt
set_option linter.unusedVariables false
set_option linter.unusedSimpArgs false
set_option maxRecDepth 100000
namespace Go.Proofs.YtofoadghajnglaaGreatDoor
open Go.Pv Go.ChangeShapes Go.WideShapes Go.ChangeAt Go.RowKit
open Go.Proofs.YtofoadghajnglaaGreatDoor.Rows (uptoBulk uptoBulkAll)
theorem y0d (H:Type) (enc:TypeId×Value→H) (W:World) (base:Nat) (args:Array Value) (ds gs:List (DataW H)) (before:List MemPlace)
 (hval: ∀(j:Nat) t v,Tryz.f4.params[j]?=some t→args[j]?=some v→Value.okWide Tryz.prog W .any base t v)
 (hW:DataW.Whole enc Tryz.prog Tryz.f4.params.toList Rows.invDrawnSpec.vars false W args.toList ds gs before) (hk:Rows.uptoSmall H (ds++gs)=true) (hL:laidMetH Tryz.prog Rows.invDrawnUptoRow.laid W):
 Calls Tryz.prog 4 args W fun e W'=> ∃v,e= .returned v∧Rows.invDrawnSpec.post enc Tryz.prog Tryz.f4 false true false false W args v W':=by
 have hW':=hW
 obtain⟨p,q,hA0,hV,rfl,hfz,hnd⟩:=hW
 have hA:DataW.TrodAll enc Tryz.prog W 0 (fun _=>true) true Tryz.f4.params.toList args.toList ds p:=hA0
 rw [Tryz.params4] at hA hval
 obtain⟨v0,vs0,d0,ds0,p0,q0,ha,rfl,rfl,h0,hA0⟩:=trodAll_cons hA
 obtain⟨rfl,rfl,rfl⟩:=trodAll_nil hA0
 obtain rfl:args= #[v0]:=by cases args;simp_all
 obtain⟨rfl,rfl⟩:=trodVars_none hV
 have hb:=Z2c hk
 have b0:uptoBulk d0≤1048576:=Nat.le_trans (q1p (by simp)) hb
 obtain⟨x0,r0,o0⟩:=X3h v2x Tryz.underlying26 (hval 0 26 v0 rfl rfl) h0
 refine(j1o (U2m hL) (Q2j x0) (w:=W) ⟨rfl,fun j hj=> ?_⟩).mono fun e W' ⟨he,hbl⟩=>⟨_,he,y1v x1q ?_ rfl hW' rfl hbl rfl Tryz.underlying4⟩
 · match j,hj with
   | 0,_=>exact r0
 · rw [Tryz.params4]
   exact of_decide_eq_true (by kernel_rfl)
theorem Y1i (os:Os):laidMet Tryz.prog Rows.invDrawnUptoRow.laid ((W1d os).forCall (fun _ _=>0) ⟨#[],#[.slice none 0 0],[]⟩).memory:=
 laidMet_of_run' 8 (by kernel_rfl) (by kernel_rfl)
theorem K1d (os:Os) {H:Type} (enc:TypeId×Value→H): ∃places,DataW.whole enc Tryz.prog ((W1d os).forCall (fun _ _=>0) ⟨#[],#[.slice none 0 0],[]⟩).memory Tryz.f4.params.toList Rows.invDrawnSpec.vars false #[.slice none 0 0].toList 8=some ([.nil],[],places):=
 ⟨[],by kernel_rfl⟩
theorem X1o (os:Os) (started:os.Started) (H:Type) (enc:TypeId×Value→H) (F:Stop.Interp):
 ReturnsInHanded {} Tryz.checked os 4 .any ((Rows.OpenSpec.upto Rows.invDrawnSpec).preRow enc Tryz.prog Tryz.f4 Rows.invDrawnUptoRow.domain false Rows.invDrawnUptoRow.laid) (((Rows.OpenSpec.upto Rows.invDrawnSpec).at F).post enc Tryz.prog Tryz.f4 false true false false):=by
 obtain⟨places,hx⟩:=K1d os enc
 refine returnsInHanded_of_row (C:=Tryz.checked) (s:=Rows.OpenSpec.upto Rows.invDrawnSpec) J2o started (by kernel_rfl) Tryz.func4
  (witness_row_at (enc:=enc) (C:=Tryz.checked) false (W1d os) #[.slice none 0 0] rfl (by kernel_rfl) (by kernel_rfl) (by kernel_rfl)
   (OpenSpec.preRow_of_cond 8 hx (by kernel_rfl) (fun k hk=>by cases hk;kernel_rfl) (by kernel_rfl) (Y1i os))) ?_
 intro W base args ds gs before hval hW _ hcond _ hL _ _
 exact y0d H enc W base args ds gs before hval hW (hcond _ rfl) hL
theorem y0z :(Rows.invDrawnUptoRow.inPlace==Tryz.pinned.checked.prog.inPlace 4)=true:=by kernel_rfl
theorem j0i :(Rows.invDrawnUptoRow.unfollowed==Tryz.pinned.checked.prog.unfollowed 4)=true:=by kernel_rfl
theorem y0c :(Rows.invDrawnUptoRow.recurses==Tryz.pinned.checked.prog.recurses 4)=true:=by kernel_rfl
theorem v0m :(Rows.invDrawnUptoRow.named==Tryz.pinned.checked.prog.varsNamed 4)=true:=by kernel_rfl
set_option maxHeartbeats 4000000 in
theorem X1p :joinedFacts Tryz.pinned.checked.prog 4 Tryz.f4 (Rows.OpenSpec.upto Rows.invDrawnSpec).bare Rows.invDrawnUptoRow=true:=by
 unfold joinedFacts
 refine J0c ?_ (by kernel_rfl)
 refine J0c ?_ (by kernel_rfl)
 refine J0c ?_ (by kernel_rfl)
 refine J0c ?_ (by kernel_rfl)
 refine J0c ?_ (by kernel_rfl)
 refine J0c ?_ q2r
 refine J0c ?_ q2u
 refine J0c ?_ q2t
 refine J0c ?_ (by kernel_rfl)
 refine J0c ?_ H1c
 refine J0c ?_ (by kernel_rfl)
 refine J0c ?_ (by kernel_rfl)
 refine J0c ?_ (by kernel_rfl)
 refine J0c ?_ (by kernel_rfl)
 refine J0c ?_ (by kernel_rfl)
 refine J0c ?_ (by kernel_rfl)
 refine J0c ?_ (by kernel_rfl)
 refine J0c ?_ (by kernel_rfl)
 refine J0c ?_ (by kernel_rfl)
 refine J0c ?_ v0m
 refine J0c ?_ y0c
 refine J0c ?_ j0i
 refine J0c ?_ y0z
 refine J0c ?_ q2s
 refine J0c ?_ (by kernel_rfl)
 refine J0c ?_ q2q
 refine J0c ?_ (by kernel_rfl)
 refine J0c ?_ (by kernel_rfl)
 refine J0c ?_ (by kernel_rfl)
 refine J0c ?_ H1d
 refine J0c ?_ Q2i
 kernel_rfl
theorem invDrawn_funcNamed :Tryz.pinned.checked.prog.funcNamed "fathomline/fathomlinelaw8.InvDrawn" =some 4:=by kernel_rfl
theorem Y1h :Rows.InvDrawnUptoSaid:=
 OpenClaim.holds_of_cond 4 Tryz.f4 rfl rfl rfl rfl rfl rfl rfl ⟨rfl,rfl,rfl,rfl,rfl⟩ rfl rfl rfl rfl rfl invDrawn_funcNamed Tryz.func4 X1p
  (of_decide_eq_true (by kernel_rfl)) (by unfold Func.isWrapper;first | (rw [if_pos (by decide+kernel)];kernel_rfl) | (rw [if_neg (by decide+kernel)];exact⟨rfl,rfl⟩))
  (fun os started H enc _ F=>by rw [OpenClaim.pre_eq_preRow];exact X1o os started H enc F)
theorem K1e (f:FuncId) (fn:Func) (hf:Tryz.pinned.checked.prog.funcNamed "fathomline/fathomlinelaw8.InvDrawn" =some f) (hfn:Tryz.pinned.checked.prog.funcs[f]?=some fn):
 false=Tryz.pinned.checked.prog.looks []∧ ∀(j:Nat) t,fn.params[j]?=some t→Tryz.pinned.checked.prog.wantsStandIn t=false:=by
 obtain rfl:f=4:=Option.some.inj (invDrawn_funcNamed.symm.trans hf)|>.symm
 obtain rfl:fn=Tryz.f4:=(Option.some.inj (Tryz.func4.symm.trans hfn)).symm
 refine⟨by kernel_rfl,fun j t ht=> ?_⟩
 have hm:t∈Tryz.f4.params.toList:=by
  have:=Array.mem_of_getElem? ht
  simpa using this
 have hall:(Tryz.f4.params.toList.all fun u=> !Tryz.prog.wantsStandIn u)=true:=by kernel_rfl
 have h2:=List.all_eq_true.1 hall t hm
 exact(show Tryz.prog.wantsStandIn t=false by simpa using h2)
theorem invDrawn_holds :Rows.InvDrawnUptoCardSaid:=
 Claim7.holds_tied_plain_at .later [] _ _ _ _ Y1h (fun _ h=>by cases h) (by kernel_rfl) (fun _ h=>by cases h) invDrawnUpto_row_tie rfl ⟨rfl,rfl⟩ (by kernel_rfl) rfl K1e (by kernel_rfl)
end Go.Proofs.YtofoadghajnglaaGreatDoor
