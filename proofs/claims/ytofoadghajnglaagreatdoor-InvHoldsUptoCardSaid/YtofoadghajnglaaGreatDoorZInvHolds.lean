/- For any drawn words of bulk at most 1048576 the law InvHolds returns true, and its argument reads as before. -/
import Derived.Test.YtofoadghajnglaaGreatDoorZFO
import Derived.Test.YtofoadghajnglaaGreatDoorZBL
import Derived.Test.YtofoadghajnglaaGreatDoorCards
import Derived.Test.YtofoadghajnglaaGreatDoorTie
import Derived.SevenTiedAt
set_option linter.unusedVariables false
set_option linter.unusedSimpArgs false
set_option maxRecDepth 100000
namespace Go.Proofs.YtofoadghajnglaaGreatDoor
open Go.Pv Go.ChangeShapes Go.WideShapes Go.ChangeAt Go.RowKit
open Go.Proofs.YtofoadghajnglaaGreatDoor.Rows (uptoBulk uptoBulkAll)
theorem y0b (H:Type) (enc:TypeId×Value→H) (W:World) (base:Nat) (args:Array Value) (ds gs:List (DataW H)) (before:List MemPlace)
 (hval: ∀(j:Nat) t v,Tryz.f5.params[j]?=some t→args[j]?=some v→Value.okWide Tryz.prog W .any base t v)
 (hW:DataW.Whole enc Tryz.prog Tryz.f5.params.toList Rows.invHoldsSpec.vars false W args.toList ds gs before) (hk:Rows.uptoSmall H (ds++gs)=true) (hL:laidMetH Tryz.prog Rows.invHoldsUptoRow.laid W):
 Calls Tryz.prog 5 args W fun e W'=> ∃v,e= .returned v∧Rows.invHoldsSpec.post enc Tryz.prog Tryz.f5 false true false false W args v W':=by
 have hW':=hW
 obtain⟨p,q,hA0,hV,rfl,hfz,hnd⟩:=hW
 have hA:DataW.TrodAll enc Tryz.prog W 0 (fun _=>true) true Tryz.f5.params.toList args.toList ds p:=hA0
 rw [Tryz.params5] at hA hval
 obtain⟨v0,vs0,d0,ds0,p0,q0,ha,rfl,rfl,h0,hA0⟩:=trodAll_cons hA
 obtain⟨rfl,rfl,rfl⟩:=trodAll_nil hA0
 obtain rfl:args= #[v0]:=by cases args;simp_all
 obtain⟨rfl,rfl⟩:=trodVars_none hV
 have hb:=W1z hk
 have b0:uptoBulk d0≤1048576:=Nat.le_trans (K1d (by simp)) hb
 obtain⟨x0,r0,o0⟩:=H2u K2q Tryz.underlying26 (hval 0 26 v0 rfl rfl) h0
 refine(K1c (w1f hL) (J2h x0) (w:=W) ⟨rfl,fun j hj=> ?_⟩).mono fun e W' ⟨he,hbl⟩=>⟨_,he,V1r J1f ?_ rfl hW' rfl hbl rfl Tryz.underlying4⟩
 · match j,hj with
   | 0,_=>exact r0
 · rw [Tryz.params5]
   exact of_decide_eq_true (by kernel_rfl)
theorem U1j (os:Os):laidMet Tryz.prog Rows.invHoldsUptoRow.laid ((z0q os).forCall (fun _ _=>0) ⟨#[],#[.slice none 0 0],[]⟩).memory:=
 laidMet_of_run' 8 (by kernel_rfl) (by kernel_rfl)
theorem K1s (os:Os) {H:Type} (enc:TypeId×Value→H): ∃places,DataW.whole enc Tryz.prog ((z0q os).forCall (fun _ _=>0) ⟨#[],#[.slice none 0 0],[]⟩).memory Tryz.f5.params.toList Rows.invHoldsSpec.vars false #[.slice none 0 0].toList 8=some ([.nil],[],places):=
 ⟨[],by kernel_rfl⟩
theorem J1j (os:Os) (started:os.Started) (H:Type) (enc:TypeId×Value→H) (F:Stop.Interp):
 ReturnsInHanded {} Tryz.checked os 5 .any ((Rows.OpenSpec.upto Rows.invHoldsSpec).preRow enc Tryz.prog Tryz.f5 Rows.invHoldsUptoRow.domain false Rows.invHoldsUptoRow.laid) (((Rows.OpenSpec.upto Rows.invHoldsSpec).at F).post enc Tryz.prog Tryz.f5 false true false false):=by
 obtain⟨places,hx⟩:=K1s os enc
 refine returnsInHanded_of_row (C:=Tryz.checked) (s:=Rows.OpenSpec.upto Rows.invHoldsSpec) q1a started (by kernel_rfl) Tryz.func5
  (witness_row_at (enc:=enc) (C:=Tryz.checked) false (z0q os) #[.slice none 0 0] rfl (by kernel_rfl) (by kernel_rfl) (by kernel_rfl)
   (OpenSpec.preRow_of_cond 8 hx (by kernel_rfl) (fun k hk=>by cases hk;kernel_rfl) (by kernel_rfl) (U1j os))) ?_
 intro W base args ds gs before hval hW _ hcond _ hL _ _
 exact y0b H enc W base args ds gs before hval hW (hcond _ rfl) hL
theorem Q1m :(Rows.invHoldsUptoRow.inPlace==Tryz.pinned.checked.prog.inPlace 5)=true:=by kernel_rfl
theorem j0i :(Rows.invHoldsUptoRow.unfollowed==Tryz.pinned.checked.prog.unfollowed 5)=true:=by kernel_rfl
theorem y0a :(Rows.invHoldsUptoRow.recurses==Tryz.pinned.checked.prog.recurses 5)=true:=by kernel_rfl
theorem v0f :(Rows.invHoldsUptoRow.named==Tryz.pinned.checked.prog.varsNamed 5)=true:=by kernel_rfl
set_option maxHeartbeats 4000000 in
theorem J1k :joinedFacts Tryz.pinned.checked.prog 5 Tryz.f5 (Rows.OpenSpec.upto Rows.invHoldsSpec).bare Rows.invHoldsUptoRow=true:=by
 unfold joinedFacts
 refine Z0e ?_ (by kernel_rfl)
 refine Z0e ?_ (by kernel_rfl)
 refine Z0e ?_ (by kernel_rfl)
 refine Z0e ?_ (by kernel_rfl)
 refine Z0e ?_ (by kernel_rfl)
 refine Z0e ?_ Q2h
 refine Z0e ?_ Q2k
 refine Z0e ?_ Q2j
 refine Z0e ?_ (by kernel_rfl)
 refine Z0e ?_ Q1b
 refine Z0e ?_ (by kernel_rfl)
 refine Z0e ?_ (by kernel_rfl)
 refine Z0e ?_ (by kernel_rfl)
 refine Z0e ?_ (by kernel_rfl)
 refine Z0e ?_ (by kernel_rfl)
 refine Z0e ?_ (by kernel_rfl)
 refine Z0e ?_ (by kernel_rfl)
 refine Z0e ?_ (by kernel_rfl)
 refine Z0e ?_ (by kernel_rfl)
 refine Z0e ?_ v0f
 refine Z0e ?_ y0a
 refine Z0e ?_ j0i
 refine Z0e ?_ Q1m
 refine Z0e ?_ Q2i
 refine Z0e ?_ (by kernel_rfl)
 refine Z0e ?_ Q2g
 refine Z0e ?_ (by kernel_rfl)
 refine Z0e ?_ (by kernel_rfl)
 refine Z0e ?_ (by kernel_rfl)
 refine Z0e ?_ Q1c
 refine Z0e ?_ W1e
 kernel_rfl
theorem invHolds_funcNamed :Tryz.pinned.checked.prog.funcNamed "fathomline/fathomlinelaw8.InvHolds" =some 5:=by kernel_rfl
theorem U1i :Rows.InvHoldsUptoSaid:=
 OpenClaim.holds_of_cond 5 Tryz.f5 rfl rfl rfl rfl rfl rfl rfl ⟨rfl,rfl,rfl,rfl,rfl⟩ rfl rfl rfl rfl rfl invHolds_funcNamed Tryz.func5 J1k
  (of_decide_eq_true (by kernel_rfl)) (by unfold Func.isWrapper;first | (rw [if_pos (by decide+kernel)];kernel_rfl) | (rw [if_neg (by decide+kernel)];exact⟨rfl,rfl⟩))
  (fun os started H enc _ F=>by rw [OpenClaim.pre_eq_preRow];exact J1j os started H enc F)
theorem K1t (f:FuncId) (fn:Func) (hf:Tryz.pinned.checked.prog.funcNamed "fathomline/fathomlinelaw8.InvHolds" =some f) (hfn:Tryz.pinned.checked.prog.funcs[f]?=some fn):
 false=Tryz.pinned.checked.prog.looks []∧ ∀(j:Nat) t,fn.params[j]?=some t→Tryz.pinned.checked.prog.wantsStandIn t=false:=by
 obtain rfl:f=5:=Option.some.inj (invHolds_funcNamed.symm.trans hf)|>.symm
 obtain rfl:fn=Tryz.f5:=(Option.some.inj (Tryz.func5.symm.trans hfn)).symm
 refine⟨by kernel_rfl,fun j t ht=> ?_⟩
 have hm:t∈Tryz.f5.params.toList:=by
  have:=Array.mem_of_getElem? ht
  simpa using this
 have hall:(Tryz.f5.params.toList.all fun u=> !Tryz.prog.wantsStandIn u)=true:=by kernel_rfl
 have h2:=List.all_eq_true.1 hall t hm
 exact(show Tryz.prog.wantsStandIn t=false by simpa using h2)
theorem invHolds_holds :Rows.InvHoldsUptoCardSaid:=
 Claim7.holds_tied_plain_at .later [] _ _ _ _ U1i (fun _ h=>by cases h) (by kernel_rfl) (fun _ h=>by cases h) invHoldsUpto_row_tie rfl ⟨rfl,rfl⟩ (by kernel_rfl) rfl K1t (by kernel_rfl)
end Go.Proofs.YtofoadghajnglaaGreatDoor
