/- For any drawn words of bulk at most 1048576 the law InvTurns returns true, and its argument reads as before. -/
import Derived.Test.YtofoadghajnglaaGreatDoorZFM
import Derived.Test.YtofoadghajnglaaGreatDoorZBL
import Derived.Test.YtofoadghajnglaaGreatDoorCards
import Derived.Test.YtofoadghajnglaaGreatDoorTie
import Derived.SevenTiedAt
set_option linter.unusedVariables false
set_option linter.unusedSimpArgs false
set_option maxRecDepth 100000
namespace Go.Proofs.YtofoadghajnglaaGreatDoor
open Go.Pv Go.ChangeShapes Go.WideShapes Go.ChangeAt Go.RowKit
open Go.Proofs.YtofoadghajnglaaGreatDoor.Rows (uptoBulk uptoBulkAll)
theorem w0z (H:Type) (enc:TypeId×Value→H) (W:World) (base:Nat) (args:Array Value) (ds gs:List (DataW H)) (before:List MemPlace)
 (hval: ∀(j:Nat) t v,Tryz.f6.params[j]?=some t→args[j]?=some v→Value.okWide Tryz.prog W .any base t v)
 (hW:DataW.Whole enc Tryz.prog Tryz.f6.params.toList Rows.invTurnsSpec.vars false W args.toList ds gs before) (hk:Rows.uptoSmall H (ds++gs)=true) (hL:laidMetH Tryz.prog Rows.invTurnsUptoRow.laid W):
 Calls Tryz.prog 6 args W fun e W'=> ∃v,e= .returned v∧Rows.invTurnsSpec.post enc Tryz.prog Tryz.f6 false true false false W args v W':=by
 have hW':=hW
 obtain⟨p,q,hA0,hV,rfl,hfz,hnd⟩:=hW
 have hA:DataW.TrodAll enc Tryz.prog W 0 (fun _=>true) true Tryz.f6.params.toList args.toList ds p:=hA0
 rw [Tryz.params6] at hA hval
 obtain⟨v0,vs0,d0,ds0,p0,q0,ha,rfl,rfl,h0,hA0⟩:=trodAll_cons hA
 obtain⟨rfl,rfl,rfl⟩:=trodAll_nil hA0
 obtain rfl:args= #[v0]:=by cases args;simp_all
 obtain⟨rfl,rfl⟩:=trodVars_none hV
 have hb:=W1z hk
 have b0:uptoBulk d0≤1048576:=Nat.le_trans (K1d (by simp)) hb
 obtain⟨x0,r0,o0⟩:=H2u K2q Tryz.underlying26 (hval 0 26 v0 rfl rfl) h0
 refine(K1c (w1f hL) (J2g x0) (w:=W) ⟨rfl,fun j hj=> ?_⟩).mono fun e W' ⟨he,hbl⟩=>⟨_,he,V1r J1f ?_ rfl hW' rfl hbl rfl Tryz.underlying4⟩
 · match j,hj with
   | 0,_=>exact r0
 · rw [Tryz.params6]
   exact of_decide_eq_true (by kernel_rfl)
theorem U1h (os:Os):laidMet Tryz.prog Rows.invTurnsUptoRow.laid ((z0q os).forCall (fun _ _=>0) ⟨#[],#[.slice none 0 0],[]⟩).memory:=
 laidMet_of_run' 8 (by kernel_rfl) (by kernel_rfl)
theorem K1q (os:Os) {H:Type} (enc:TypeId×Value→H): ∃places,DataW.whole enc Tryz.prog ((z0q os).forCall (fun _ _=>0) ⟨#[],#[.slice none 0 0],[]⟩).memory Tryz.f6.params.toList Rows.invTurnsSpec.vars false #[.slice none 0 0].toList 8=some ([.nil],[],places):=
 ⟨[],by kernel_rfl⟩
theorem J1h (os:Os) (started:os.Started) (H:Type) (enc:TypeId×Value→H) (F:Stop.Interp):
 ReturnsInHanded {} Tryz.checked os 6 .any ((Rows.OpenSpec.upto Rows.invTurnsSpec).preRow enc Tryz.prog Tryz.f6 Rows.invTurnsUptoRow.domain false Rows.invTurnsUptoRow.laid) (((Rows.OpenSpec.upto Rows.invTurnsSpec).at F).post enc Tryz.prog Tryz.f6 false true false false):=by
 obtain⟨places,hx⟩:=K1q os enc
 refine returnsInHanded_of_row (C:=Tryz.checked) (s:=Rows.OpenSpec.upto Rows.invTurnsSpec) q1a started (by kernel_rfl) Tryz.func6
  (witness_row_at (enc:=enc) (C:=Tryz.checked) false (z0q os) #[.slice none 0 0] rfl (by kernel_rfl) (by kernel_rfl) (by kernel_rfl)
   (OpenSpec.preRow_of_cond 8 hx (by kernel_rfl) (fun k hk=>by cases hk;kernel_rfl) (by kernel_rfl) (U1h os))) ?_
 intro W base args ds gs before hval hW _ hcond _ hL _ _
 exact w0z H enc W base args ds gs before hval hW (hcond _ rfl) hL
theorem Q1l :(Rows.invTurnsUptoRow.inPlace==Tryz.pinned.checked.prog.inPlace 6)=true:=by kernel_rfl
theorem j0h :(Rows.invTurnsUptoRow.unfollowed==Tryz.pinned.checked.prog.unfollowed 6)=true:=by kernel_rfl
theorem w0y :(Rows.invTurnsUptoRow.recurses==Tryz.pinned.checked.prog.recurses 6)=true:=by kernel_rfl
theorem v0d :(Rows.invTurnsUptoRow.named==Tryz.pinned.checked.prog.varsNamed 6)=true:=by kernel_rfl
set_option maxHeartbeats 4000000 in
theorem J1i :joinedFacts Tryz.pinned.checked.prog 6 Tryz.f6 (Rows.OpenSpec.upto Rows.invTurnsSpec).bare Rows.invTurnsUptoRow=true:=by
 unfold joinedFacts
 refine Z0e ?_ (by kernel_rfl)
 refine Z0e ?_ (by kernel_rfl)
 refine Z0e ?_ (by kernel_rfl)
 refine Z0e ?_ (by kernel_rfl)
 refine Z0e ?_ (by kernel_rfl)
 refine Z0e ?_ Q2h
 refine Z0e ?_ Q2k
 refine Z0e ?_ Q2j
 refine Z0e ?_ (by kernel_rfl)
 refine Z0e ?_ Q1b
 refine Z0e ?_ (by kernel_rfl)
 refine Z0e ?_ (by kernel_rfl)
 refine Z0e ?_ (by kernel_rfl)
 refine Z0e ?_ (by kernel_rfl)
 refine Z0e ?_ (by kernel_rfl)
 refine Z0e ?_ (by kernel_rfl)
 refine Z0e ?_ (by kernel_rfl)
 refine Z0e ?_ (by kernel_rfl)
 refine Z0e ?_ (by kernel_rfl)
 refine Z0e ?_ v0d
 refine Z0e ?_ w0y
 refine Z0e ?_ j0h
 refine Z0e ?_ Q1l
 refine Z0e ?_ Q2i
 refine Z0e ?_ (by kernel_rfl)
 refine Z0e ?_ Q2g
 refine Z0e ?_ (by kernel_rfl)
 refine Z0e ?_ (by kernel_rfl)
 refine Z0e ?_ (by kernel_rfl)
 refine Z0e ?_ Q1c
 refine Z0e ?_ W1e
 kernel_rfl
theorem invTurns_funcNamed :Tryz.pinned.checked.prog.funcNamed "fathomline/fathomlinelaw8.InvTurns" =some 6:=by kernel_rfl
theorem U1g :Rows.InvTurnsUptoSaid:=
 OpenClaim.holds_of_cond 6 Tryz.f6 rfl rfl rfl rfl rfl rfl rfl ⟨rfl,rfl,rfl,rfl,rfl⟩ rfl rfl rfl rfl rfl invTurns_funcNamed Tryz.func6 J1i
  (of_decide_eq_true (by kernel_rfl)) (by unfold Func.isWrapper;first | (rw [if_pos (by decide+kernel)];kernel_rfl) | (rw [if_neg (by decide+kernel)];exact⟨rfl,rfl⟩))
  (fun os started H enc _ F=>by rw [OpenClaim.pre_eq_preRow];exact J1h os started H enc F)
theorem K1r (f:FuncId) (fn:Func) (hf:Tryz.pinned.checked.prog.funcNamed "fathomline/fathomlinelaw8.InvTurns" =some f) (hfn:Tryz.pinned.checked.prog.funcs[f]?=some fn):
 false=Tryz.pinned.checked.prog.looks []∧ ∀(j:Nat) t,fn.params[j]?=some t→Tryz.pinned.checked.prog.wantsStandIn t=false:=by
 obtain rfl:f=6:=Option.some.inj (invTurns_funcNamed.symm.trans hf)|>.symm
 obtain rfl:fn=Tryz.f6:=(Option.some.inj (Tryz.func6.symm.trans hfn)).symm
 refine⟨by kernel_rfl,fun j t ht=> ?_⟩
 have hm:t∈Tryz.f6.params.toList:=by
  have:=Array.mem_of_getElem? ht
  simpa using this
 have hall:(Tryz.f6.params.toList.all fun u=> !Tryz.prog.wantsStandIn u)=true:=by kernel_rfl
 have h2:=List.all_eq_true.1 hall t hm
 exact(show Tryz.prog.wantsStandIn t=false by simpa using h2)
theorem invTurns_holds :Rows.InvTurnsUptoCardSaid:=
 Claim7.holds_tied_plain_at .later [] _ _ _ _ U1g (fun _ h=>by cases h) (by kernel_rfl) (fun _ h=>by cases h) invTurnsUpto_row_tie rfl ⟨rfl,rfl⟩ (by kernel_rfl) rfl K1r (by kernel_rfl)
end Go.Proofs.YtofoadghajnglaaGreatDoor
