/- For any drawn words the law InvOnes returns true. -/
import Derived.Test.YtofoadghajnglaaGreatDoorQFS
import Derived.Test.YtofoadghajnglaaGreatDoorQK
import Derived.Test.YtofoadghajnglaaGreatDoorQBL
import Derived.Test.YtofoadghajnglaaGreatDoorCards
import Derived.Test.YtofoadghajnglaaGreatDoorTie
import Derived.SevenTiedAt
set_option linter.unusedVariables false
set_option linter.unusedSimpArgs false
set_option maxRecDepth 100000
namespace Go.Proofs.YtofoadghajnglaaGreatDoor
open Go.Pv Go.ChangeShapes Go.WideShapes Go.ChangeAt Go.RowKit
open Go.Proofs.YtofoadghajnglaaGreatDoor.Rows (uptoBulk uptoBulkAll)
theorem x0x (H:Type) (enc:TypeId×Value→H) (W:World) (base:Nat) (args:Array Value) (ds gs:List (DataW H)) (before:List MemPlace)
 (hval: ∀(j:Nat) t v,Tryz.f7.params[j]?=some t→args[j]?=some v→Value.okWide Tryz.prog W .any base t v)
 (hW:DataW.Whole enc Tryz.prog Tryz.f7.params.toList Rows.invOnesSpec.vars false W args.toList ds gs before) (hk:Rows.uptoSmall H (ds++gs)=true) (hL:laidMetH Tryz.prog Rows.invOnesUptoRow.laid W):
 Calls Tryz.prog 7 args W fun e W'=> ∃v,e= .returned v∧Rows.invOnesSpec.post enc Tryz.prog Tryz.f7 false true false false W args v W':=by
 have hW':=hW
 obtain⟨p,q,hA0,hV,rfl,hfz,hnd⟩:=hW
 have hA:DataW.TrodAll enc Tryz.prog W 0 (fun _=>true) true Tryz.f7.params.toList args.toList ds p:=hA0
 rw [Tryz.params7] at hA hval
 obtain⟨v0,vs0,d0,ds0,p0,q0,ha,rfl,rfl,h0,hA0⟩:=trodAll_cons hA
 obtain⟨v1,vs1,d1,ds1,p1,q1,rfl,rfl,rfl,h1,hA1⟩:=trodAll_cons hA0
 obtain⟨rfl,rfl,rfl⟩:=trodAll_nil hA1
 obtain rfl:args= #[v0,v1]:=by cases args;simp_all
 obtain⟨rfl,rfl⟩:=trodVars_none hV
 have hb:=x1x hk
 have b0:uptoBulk d0≤1048576:=Nat.le_trans (V1t (by simp)) hb
 have b1:uptoBulk d1≤1048576:=Nat.le_trans (V1t (by simp)) hb
 obtain⟨x0,rfl,o0⟩:=j2v Tryz.underlying58 (hval 0 58 v0 rfl rfl) h0
 obtain⟨x1,rfl,o1⟩:=X3q Tryz.underlying5 (hval 1 5 v1 rfl rfl) h1
 refine(U1n (X2k hL) ((K1n x0 x1 o0 o1)) (w:=W) ⟨rfl,fun j hj=> ?_⟩).mono fun e W' ⟨he,hbl⟩=>⟨_,he,z1q Y1r ?_ rfl hW' rfl hbl rfl Tryz.underlying4⟩
 · match j,hj with
   | 0,_=>exact .sc _
   | 1,_=>exact .sc _
 · rw [Tryz.params7]
   exact of_decide_eq_true (by kernel_rfl)
theorem K1m (os:Os):laidMet Tryz.prog Rows.invOnesUptoRow.laid ((Q1v os).forCall (fun _ _=>0) ⟨#[],#[.int .u16 0,.int .u8 0],[]⟩).memory:=
 laidMet_of_run' 8 (by kernel_rfl) (by kernel_rfl)
theorem Z1p (os:Os) {H:Type} (enc:TypeId×Value→H): ∃places,DataW.whole enc Tryz.prog ((Q1v os).forCall (fun _ _=>0) ⟨#[],#[.int .u16 0,.int .u8 0],[]⟩).memory Tryz.f7.params.toList Rows.invOnesSpec.vars false #[.int .u16 0,.int .u8 0].toList 8=some ([.lit (.int .u16 0),.lit (.int .u8 0)],[],places):=
 ⟨[],by kernel_rfl⟩
theorem w0o (os:Os) (started:os.Started) (H:Type) (enc:TypeId×Value→H) (F:Stop.Interp):
 ReturnsInHanded {} Tryz.checked os 7 .any ((Rows.OpenSpec.upto Rows.invOnesSpec).preRow enc Tryz.prog Tryz.f7 Rows.invOnesUptoRow.domain false Rows.invOnesUptoRow.laid) (((Rows.OpenSpec.upto Rows.invOnesSpec).at F).post enc Tryz.prog Tryz.f7 false true false false):=by
 obtain⟨places,hx⟩:=Z1p os enc
 refine returnsInHanded_of_row (C:=Tryz.checked) (s:=Rows.OpenSpec.upto Rows.invOnesSpec) v1j started (by kernel_rfl) Tryz.func7
  (witness_row_at (enc:=enc) (C:=Tryz.checked) false (Q1v os) #[.int .u16 0,.int .u8 0] rfl (by kernel_rfl) (by kernel_rfl) (by kernel_rfl)
   (OpenSpec.preRow_of_cond 8 hx (by kernel_rfl) (fun k hk=>by cases hk;kernel_rfl) (by kernel_rfl) (K1m os))) ?_
 intro W base args ds gs before hval hW _ hcond _ hL _ _
 exact x0x H enc W base args ds gs before hval hW (hcond _ rfl) hL
theorem v0h :(Rows.invOnesUptoRow.inPlace==Tryz.pinned.checked.prog.inPlace 7)=true:=by kernel_rfl
theorem q0v :(Rows.invOnesUptoRow.unfollowed==Tryz.pinned.checked.prog.unfollowed 7)=true:=by kernel_rfl
theorem x0w :(Rows.invOnesUptoRow.recurses==Tryz.pinned.checked.prog.recurses 7)=true:=by kernel_rfl
theorem z0w :(Rows.invOnesUptoRow.named==Tryz.pinned.checked.prog.varsNamed 7)=true:=by kernel_rfl
set_option maxHeartbeats 4000000 in
theorem w0p :joinedFacts Tryz.pinned.checked.prog 7 Tryz.f7 (Rows.OpenSpec.upto Rows.invOnesSpec).bare Rows.invOnesUptoRow=true:=by
 unfold joinedFacts
 refine X0d ?_ (by kernel_rfl)
 refine X0d ?_ (by kernel_rfl)
 refine X0d ?_ (by kernel_rfl)
 refine X0d ?_ (by kernel_rfl)
 refine X0d ?_ (by kernel_rfl)
 refine X0d ?_ V2g
 refine X0d ?_ V2j
 refine X0d ?_ V2i
 refine X0d ?_ (by kernel_rfl)
 refine X0d ?_ K1j
 refine X0d ?_ (by kernel_rfl)
 refine X0d ?_ (by kernel_rfl)
 refine X0d ?_ (by kernel_rfl)
 refine X0d ?_ (by kernel_rfl)
 refine X0d ?_ (by kernel_rfl)
 refine X0d ?_ (by kernel_rfl)
 refine X0d ?_ (by kernel_rfl)
 refine X0d ?_ (by kernel_rfl)
 refine X0d ?_ (by kernel_rfl)
 refine X0d ?_ z0w
 refine X0d ?_ x0w
 refine X0d ?_ q0v
 refine X0d ?_ v0h
 refine X0d ?_ V2h
 refine X0d ?_ (by kernel_rfl)
 refine X0d ?_ V2f
 refine X0d ?_ (by kernel_rfl)
 refine X0d ?_ (by kernel_rfl)
 refine X0d ?_ (by kernel_rfl)
 refine X0d ?_ K1k
 refine X0d ?_ x1d
 kernel_rfl
theorem invOnes_funcNamed :Tryz.pinned.checked.prog.funcNamed "fathomline/fathomlinelaw8.InvOnes" =some 7:=by kernel_rfl
theorem K1l :Rows.InvOnesUptoSaid:=
 OpenClaim.holds_of_cond 7 Tryz.f7 rfl rfl rfl rfl rfl rfl rfl ⟨rfl,rfl,rfl,rfl,rfl⟩ rfl rfl rfl rfl rfl invOnes_funcNamed Tryz.func7 w0p
  (of_decide_eq_true (by kernel_rfl)) (by unfold Func.isWrapper;first | (rw [if_pos (by decide+kernel)];kernel_rfl) | (rw [if_neg (by decide+kernel)];exact⟨rfl,rfl⟩))
  (fun os started H enc _ F=>by rw [OpenClaim.pre_eq_preRow];exact w0o os started H enc F)
theorem Z1q (f:FuncId) (fn:Func) (hf:Tryz.pinned.checked.prog.funcNamed "fathomline/fathomlinelaw8.InvOnes" =some f) (hfn:Tryz.pinned.checked.prog.funcs[f]?=some fn):
 false=Tryz.pinned.checked.prog.looks []∧ ∀(j:Nat) t,fn.params[j]?=some t→Tryz.pinned.checked.prog.wantsStandIn t=false:=by
 obtain rfl:f=7:=Option.some.inj (invOnes_funcNamed.symm.trans hf)|>.symm
 obtain rfl:fn=Tryz.f7:=(Option.some.inj (Tryz.func7.symm.trans hfn)).symm
 refine⟨by kernel_rfl,fun j t ht=> ?_⟩
 have hm:t∈Tryz.f7.params.toList:=by
  have:=Array.mem_of_getElem? ht
  simpa using this
 have hall:(Tryz.f7.params.toList.all fun u=> !Tryz.prog.wantsStandIn u)=true:=by kernel_rfl
 have h2:=List.all_eq_true.1 hall t hm
 exact(show Tryz.prog.wantsStandIn t=false by simpa using h2)
theorem invOnes_holds :Rows.InvOnesUptoCardSaid:=
 Claim7.holds_tied_plain_at .later [] _ _ _ _ K1l (fun _ h=>by cases h) (by kernel_rfl) (fun _ h=>by cases h) invOnesUpto_row_tie rfl ⟨rfl,rfl⟩ (by kernel_rfl) rfl Z1q (by kernel_rfl)
end Go.Proofs.YtofoadghajnglaaGreatDoor
