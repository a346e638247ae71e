/- For any rows of numbers of bulk at most 1048576 and any number of bits the law InvAny returns true, and its arguments read as before. -/
import Derived.Test.YtofoadghajnglaaGreatDoorZFK
import Derived.Test.YtofoadghajnglaaGreatDoorZEC
import Derived.Test.YtofoadghajnglaaGreatDoorZBL
import Derived.Test.YtofoadghajnglaaGreatDoorCards
import Derived.Test.YtofoadghajnglaaGreatDoorTie
import Derived.SevenTiedAt
set_option linter.unusedVariables false
set_option linter.unusedSimpArgs false
set_option maxRecDepth 100000
namespace Go.Proofs.YtofoadghajnglaaGreatDoor
open Go.Pv Go.ChangeShapes Go.WideShapes Go.ChangeAt Go.RowKit
open Go.Proofs.YtofoadghajnglaaGreatDoor.Rows (uptoBulk uptoBulkAll)
theorem X1f (H:Type) (enc:TypeId×Value→H) (W:World) (base:Nat) (args:Array Value) (ds gs:List (DataW H)) (before:List MemPlace)
 (hval: ∀(j:Nat) t v,Tryz.f3.params[j]?=some t→args[j]?=some v→Value.okWide Tryz.prog W .any base t v)
 (hW:DataW.Whole enc Tryz.prog Tryz.f3.params.toList Rows.invAnySpec.vars false W args.toList ds gs before) (hk:Rows.uptoSmall H (ds++gs)=true) (hL:laidMetH Tryz.prog Rows.invAnyUptoRow.laid W):
 Calls Tryz.prog 3 args W fun e W'=> ∃v,e= .returned v∧Rows.invAnySpec.post enc Tryz.prog Tryz.f3 false true false false W args v W':=by
 have hW':=hW
 obtain⟨p,q,hA0,hV,rfl,hfz,hnd⟩:=hW
 have hA:DataW.TrodAll enc Tryz.prog W 0 (fun _=>true) true Tryz.f3.params.toList args.toList ds p:=hA0
 rw [Tryz.params3] at hA hval
 obtain⟨v0,vs0,d0,ds0,p0,q0,ha,rfl,rfl,h0,hA0⟩:=trodAll_cons hA
 obtain⟨v1,vs1,d1,ds1,p1,q1,rfl,rfl,rfl,h1,hA1⟩:=trodAll_cons hA0
 obtain⟨rfl,rfl,rfl⟩:=trodAll_nil hA1
 obtain rfl:args= #[v0,v1]:=by cases args;simp_all
 obtain⟨rfl,rfl⟩:=trodVars_none hV
 have hb:=Q2r hk
 have b0:uptoBulk d0≤1048576:=Nat.le_trans (J1h (by simp)) hb
 have b1:uptoBulk d1≤1048576:=Nat.le_trans (J1h (by simp)) hb
 obtain⟨x0,r0,o0⟩:=Z3w tyQs Tryz.underlying22 (hval 0 22 v0 rfl rfl) h0
 obtain⟨x1,rfl,o1⟩:=Z3x Tryz.underlying3 (hval 1 3 v1 rfl rfl) h1
 refine(j1d (Y2t hL) (q2c x0 x1 (K3g (by omega) o0)) (w:=W) ⟨rfl,fun j hj=> ?_⟩).mono fun e W' ⟨he,hbl⟩=>⟨_,he,y1i x1b ?_ rfl hW' rfl hbl rfl Tryz.underlying4⟩
 · match j,hj with
   | 0,_=>exact r0
   | 1,_=>exact .sc _
 · rw [Tryz.params3]
   exact of_decide_eq_true (by kernel_rfl)
theorem x1f (os:Os):laidMet Tryz.prog Rows.invAnyUptoRow.laid ((V1u os).forCall (fun _ _=>0) ⟨#[],#[.slice none 0 0,.int .i64 0],[]⟩).memory:=
 laidMet_of_run' 8 (by kernel_rfl) (by kernel_rfl)
theorem G1r (os:Os) {H:Type} (enc:TypeId×Value→H): ∃places,DataW.whole enc Tryz.prog ((V1u os).forCall (fun _ _=>0) ⟨#[],#[.slice none 0 0,.int .i64 0],[]⟩).memory Tryz.f3.params.toList Rows.invAnySpec.vars false #[.slice none 0 0,.int .i64 0].toList 8=some ([.nil,.lit (.int .i64 0)],[],places):=
 ⟨[],by kernel_rfl⟩
theorem W1v (os:Os) (started:os.Started) (H:Type) (enc:TypeId×Value→H) (F:Stop.Interp):
 ReturnsInHanded {} Tryz.checked os 3 .any ((Rows.OpenSpec.upto Rows.invAnySpec).preRow enc Tryz.prog Tryz.f3 Rows.invAnyUptoRow.domain false Rows.invAnyUptoRow.laid) (((Rows.OpenSpec.upto Rows.invAnySpec).at F).post enc Tryz.prog Tryz.f3 false true false false):=by
 obtain⟨places,hx⟩:=G1r os enc
 refine returnsInHanded_of_row (C:=Tryz.checked) (s:=Rows.OpenSpec.upto Rows.invAnySpec) X2z started (by kernel_rfl) Tryz.func3
  (witness_row_at (enc:=enc) (C:=Tryz.checked) false (V1u os) #[.slice none 0 0,.int .i64 0] rfl (by kernel_rfl) (by kernel_rfl) (by kernel_rfl)
   (OpenSpec.preRow_of_cond 8 hx (by kernel_rfl) (fun k hk=>by cases hk;kernel_rfl) (by kernel_rfl) (x1f os))) ?_
 intro W base args ds gs before hval hW _ hcond _ hL _ _
 exact X1f H enc W base args ds gs before hval hW (hcond _ rfl) hL
theorem J1s :(Rows.invAnyUptoRow.inPlace==Tryz.pinned.checked.prog.inPlace 3)=true:=by kernel_rfl
theorem w0v :(Rows.invAnyUptoRow.unfollowed==Tryz.pinned.checked.prog.unfollowed 3)=true:=by kernel_rfl
theorem X1e :(Rows.invAnyUptoRow.recurses==Tryz.pinned.checked.prog.recurses 3)=true:=by kernel_rfl
theorem y0r :(Rows.invAnyUptoRow.named==Tryz.pinned.checked.prog.varsNamed 3)=true:=by kernel_rfl
set_option maxHeartbeats 4000000 in
theorem W1w :joinedFacts Tryz.pinned.checked.prog 3 Tryz.f3 (Rows.OpenSpec.upto Rows.invAnySpec).bare Rows.invAnyUptoRow=true:=by
 unfold joinedFacts
 refine X0y ?_ (by kernel_rfl)
 refine X0y ?_ (by kernel_rfl)
 refine X0y ?_ (by kernel_rfl)
 refine X0y ?_ (by kernel_rfl)
 refine X0y ?_ (by kernel_rfl)
 refine X0y ?_ H2v
 refine X0y ?_ H2y
 refine X0y ?_ H2x
 refine X0y ?_ (by kernel_rfl)
 refine X0y ?_ G1o
 refine X0y ?_ (by kernel_rfl)
 refine X0y ?_ (by kernel_rfl)
 refine X0y ?_ (by kernel_rfl)
 refine X0y ?_ (by kernel_rfl)
 refine X0y ?_ (by kernel_rfl)
 refine X0y ?_ (by kernel_rfl)
 refine X0y ?_ (by kernel_rfl)
 refine X0y ?_ (by kernel_rfl)
 refine X0y ?_ (by kernel_rfl)
 refine X0y ?_ y0r
 refine X0y ?_ X1e
 refine X0y ?_ w0v
 refine X0y ?_ J1s
 refine X0y ?_ H2w
 refine X0y ?_ (by kernel_rfl)
 refine X0y ?_ H2u
 refine X0y ?_ (by kernel_rfl)
 refine X0y ?_ (by kernel_rfl)
 refine X0y ?_ (by kernel_rfl)
 refine X0y ?_ G1p
 refine X0y ?_ y1x
 kernel_rfl
theorem invAny_funcNamed :Tryz.pinned.checked.prog.funcNamed "fathomline/fathomlinelaw8.InvAny" =some 3:=by kernel_rfl
theorem x1e :Rows.InvAnyUptoSaid:=
 OpenClaim.holds_of_cond 3 Tryz.f3 rfl rfl rfl rfl rfl rfl rfl ⟨rfl,rfl,rfl,rfl,rfl⟩ rfl rfl rfl rfl rfl invAny_funcNamed Tryz.func3 W1w
  (of_decide_eq_true (by kernel_rfl)) (by unfold Func.isWrapper;first | (rw [if_pos (by decide+kernel)];kernel_rfl) | (rw [if_neg (by decide+kernel)];exact⟨rfl,rfl⟩))
  (fun os started H enc _ F=>by rw [OpenClaim.pre_eq_preRow];exact W1v os started H enc F)
theorem G1s (f:FuncId) (fn:Func) (hf:Tryz.pinned.checked.prog.funcNamed "fathomline/fathomlinelaw8.InvAny" =some f) (hfn:Tryz.pinned.checked.prog.funcs[f]?=some fn):
 false=Tryz.pinned.checked.prog.looks []∧ ∀(j:Nat) t,fn.params[j]?=some t→Tryz.pinned.checked.prog.wantsStandIn t=false:=by
 obtain rfl:f=3:=Option.some.inj (invAny_funcNamed.symm.trans hf)|>.symm
 obtain rfl:fn=Tryz.f3:=(Option.some.inj (Tryz.func3.symm.trans hfn)).symm
 refine⟨by kernel_rfl,fun j t ht=> ?_⟩
 have hm:t∈Tryz.f3.params.toList:=by
  have:=Array.mem_of_getElem? ht
  simpa using this
 have hall:(Tryz.f3.params.toList.all fun u=> !Tryz.prog.wantsStandIn u)=true:=by kernel_rfl
 have h2:=List.all_eq_true.1 hall t hm
 exact(show Tryz.prog.wantsStandIn t=false by simpa using h2)
theorem invAny_holds :Rows.InvAnyUptoCardSaid:=
 Claim7.holds_tied_plain_at .later [] _ _ _ _ x1e (fun _ h=>by cases h) (by kernel_rfl) (fun _ h=>by cases h) invAnyUpto_row_tie rfl ⟨rfl,rfl⟩ (by kernel_rfl) rfl G1s (by kernel_rfl)
end Go.Proofs.YtofoadghajnglaaGreatDoor
