/- For any drawn words of bulk at most 1048576 the law PicardStairs returns true, and its argument reads as before. -/
import Derived.Test.YtagacielooaapaaGreatDoorZDK
import Derived.Test.YtagacielooaapaaGreatDoorZBL
import Derived.Test.YtagacielooaapaaGreatDoorCards
import Derived.Test.YtagacielooaapaaGreatDoorTie
import Derived.SevenTiedAt
set_option linter.unusedVariables false
set_option linter.unusedSimpArgs false
set_option maxRecDepth 100000
namespace Go.Proofs.YtagacielooaapaaGreatDoor
open Go.Pv Go.ChangeShapes Go.WideShapes Go.ChangeAt Go.RowKit
open Go.Proofs.YtagacielooaapaaGreatDoor.Rows (uptoBulk uptoBulkAll)
theorem z0u (H:Type) (enc:TypeId×Value→H) (W:World) (base:Nat) (args:Array Value) (ds gs:List (DataW H)) (before:List MemPlace)
 (hval: ∀(j:Nat) t v,Tryz.f3.params[j]?=some t→args[j]?=some v→Value.okWide Tryz.prog W .any base t v)
 (hW:DataW.Whole enc Tryz.prog Tryz.f3.params.toList Rows.picardStairsSpec.vars false W args.toList ds gs before) (hk:Rows.uptoSmall H (ds++gs)=true) (hL:laidMetH Tryz.prog Rows.picardStairsUptoRow.laid W):
 Calls Tryz.prog 3 args W fun e W'=> ∃v,e= .returned v∧Rows.picardStairsSpec.post enc Tryz.prog Tryz.f3 false true false false W args v W':=by
 have hW':=hW
 obtain⟨p,q,hA0,hV,rfl,hfz,hnd⟩:=hW
 have hA:DataW.TrodAll enc Tryz.prog W 0 (fun _=>true) true Tryz.f3.params.toList args.toList ds p:=hA0
 rw [Tryz.params3] at hA hval
 obtain⟨v0,vs0,d0,ds0,p0,q0,ha,rfl,rfl,h0,hA0⟩:=trodAll_cons hA
 obtain⟨rfl,rfl,rfl⟩:=trodAll_nil hA0
 obtain rfl:args= #[v0]:=by cases args;simp_all
 obtain⟨rfl,rfl⟩:=trodVars_none hV
 have hb:=V2r hk
 have b0:uptoBulk d0≤1048576:=Nat.le_trans (j1w (by simp)) hb
 obtain⟨x0,r0,o0⟩:=G3o K3p Tryz.underlying22 (hval 0 22 v0 rfl rfl) h0
 refine(y1a (j2e hL) (V1p x0) (w:=W) ⟨rfl,fun j hj=> ?_⟩).mono fun e W' ⟨he,hbl⟩=>⟨_,he,K2f w1a ?_ rfl hW' rfl hbl rfl Tryz.underlying4⟩
 · match j,hj with
   | 0,_=>exact r0
 · rw [Tryz.params3]
   exact of_decide_eq_true (by kernel_rfl)
theorem Q1i (os:Os):laidMet Tryz.prog Rows.picardStairsUptoRow.laid ((U1l os).forCall (fun _ _=>0) ⟨#[],#[.slice none 0 0],[]⟩).memory:=
 laidMet_of_run' 8 (by kernel_rfl) (by kernel_rfl)
theorem w0g (os:Os) {H:Type} (enc:TypeId×Value→H): ∃places,DataW.whole enc Tryz.prog ((U1l os).forCall (fun _ _=>0) ⟨#[],#[.slice none 0 0],[]⟩).memory Tryz.f3.params.toList Rows.picardStairsSpec.vars false #[.slice none 0 0].toList 8=some ([.nil],[],places):=
 ⟨[],by kernel_rfl⟩
theorem k0k (os:Os) (started:os.Started) (H:Type) (enc:TypeId×Value→H) (F:Stop.Interp):
 ReturnsInHanded {} Tryz.checked os 3 .any ((Rows.OpenSpec.upto Rows.picardStairsSpec).preRow enc Tryz.prog Tryz.f3 Rows.picardStairsUptoRow.domain false Rows.picardStairsUptoRow.laid) (((Rows.OpenSpec.upto Rows.picardStairsSpec).at F).post enc Tryz.prog Tryz.f3 false true false false):=by
 obtain⟨places,hx⟩:=w0g os enc
 refine returnsInHanded_of_row (C:=Tryz.checked) (s:=Rows.OpenSpec.upto Rows.picardStairsSpec) U2r started (by kernel_rfl) Tryz.func3
  (witness_row_at (enc:=enc) (C:=Tryz.checked) false (U1l os) #[.slice none 0 0] rfl (by kernel_rfl) (by kernel_rfl) (by kernel_rfl)
   (OpenSpec.preRow_of_cond 8 hx (by kernel_rfl) (fun k hk=>by cases hk;kernel_rfl) (by kernel_rfl) (Q1i os))) ?_
 intro W base args ds gs before hval hW _ hcond _ hL _ _
 exact z0u H enc W base args ds gs before hval hW (hcond _ rfl) hL
theorem j0q :(Rows.picardStairsUptoRow.inPlace==Tryz.pinned.checked.prog.inPlace 3)=true:=by kernel_rfl
theorem q0n :(Rows.picardStairsUptoRow.unfollowed==Tryz.pinned.checked.prog.unfollowed 3)=true:=by kernel_rfl
theorem z0t :(Rows.picardStairsUptoRow.recurses==Tryz.pinned.checked.prog.recurses 3)=true:=by kernel_rfl
theorem z0j :(Rows.picardStairsUptoRow.named==Tryz.pinned.checked.prog.varsNamed 3)=true:=by kernel_rfl
set_option maxHeartbeats 4000000 in
theorem k0l :joinedFacts Tryz.pinned.checked.prog 3 Tryz.f3 (Rows.OpenSpec.upto Rows.picardStairsSpec).bare Rows.picardStairsUptoRow=true:=by
 unfold joinedFacts
 refine J0c ?_ (by kernel_rfl)
 refine J0c ?_ (by kernel_rfl)
 refine J0c ?_ (by kernel_rfl)
 refine J0c ?_ (by kernel_rfl)
 refine J0c ?_ (by kernel_rfl)
 refine J0c ?_ w2p
 refine J0c ?_ w2s
 refine J0c ?_ w2r
 refine J0c ?_ (by kernel_rfl)
 refine J0c ?_ x1h
 refine J0c ?_ (by kernel_rfl)
 refine J0c ?_ (by kernel_rfl)
 refine J0c ?_ (by kernel_rfl)
 refine J0c ?_ (by kernel_rfl)
 refine J0c ?_ (by kernel_rfl)
 refine J0c ?_ (by kernel_rfl)
 refine J0c ?_ (by kernel_rfl)
 refine J0c ?_ (by kernel_rfl)
 refine J0c ?_ (by kernel_rfl)
 refine J0c ?_ z0j
 refine J0c ?_ z0t
 refine J0c ?_ q0n
 refine J0c ?_ j0q
 refine J0c ?_ w2q
 refine J0c ?_ (by kernel_rfl)
 refine J0c ?_ w2o
 refine J0c ?_ (by kernel_rfl)
 refine J0c ?_ (by kernel_rfl)
 refine J0c ?_ (by kernel_rfl)
 refine J0c ?_ x1i
 refine J0c ?_ K2z
 kernel_rfl
theorem picardStairs_funcNamed :Tryz.pinned.checked.prog.funcNamed "fathomline/fathomlinelaw17.PicardStairs" =some 3:=by kernel_rfl
theorem Q1h :Rows.PicardStairsUptoSaid:=
 OpenClaim.holds_of_cond 3 Tryz.f3 rfl rfl rfl rfl rfl rfl rfl ⟨rfl,rfl,rfl,rfl,rfl⟩ rfl rfl rfl rfl rfl picardStairs_funcNamed Tryz.func3 k0l
  (of_decide_eq_true (by kernel_rfl)) (by unfold Func.isWrapper;first | (rw [if_pos (by decide+kernel)];kernel_rfl) | (rw [if_neg (by decide+kernel)];exact⟨rfl,rfl⟩))
  (fun os started H enc _ F=>by rw [OpenClaim.pre_eq_preRow];exact k0k os started H enc F)
theorem w0h (f:FuncId) (fn:Func) (hf:Tryz.pinned.checked.prog.funcNamed "fathomline/fathomlinelaw17.PicardStairs" =some f) (hfn:Tryz.pinned.checked.prog.funcs[f]?=some fn):
 false=Tryz.pinned.checked.prog.looks []∧ ∀(j:Nat) t,fn.params[j]?=some t→Tryz.pinned.checked.prog.wantsStandIn t=false:=by
 obtain rfl:f=3:=Option.some.inj (picardStairs_funcNamed.symm.trans hf)|>.symm
 obtain rfl:fn=Tryz.f3:=(Option.some.inj (Tryz.func3.symm.trans hfn)).symm
 refine⟨by kernel_rfl,fun j t ht=> ?_⟩
 have hm:t∈Tryz.f3.params.toList:=by
  have:=Array.mem_of_getElem? ht
  simpa using this
 have hall:(Tryz.f3.params.toList.all fun u=> !Tryz.prog.wantsStandIn u)=true:=by kernel_rfl
 have h2:=List.all_eq_true.1 hall t hm
 exact(show Tryz.prog.wantsStandIn t=false by simpa using h2)
theorem picardStairs_holds :Rows.PicardStairsUptoCardSaid:=
 Claim7.holds_tied_plain_at .later [] _ _ _ _ Q1h (fun _ h=>by cases h) (by kernel_rfl) (fun _ h=>by cases h) picardStairsUpto_row_tie rfl ⟨rfl,rfl⟩ (by kernel_rfl) rfl w0h (by kernel_rfl)
end Go.Proofs.YtagacielooaapaaGreatDoor
