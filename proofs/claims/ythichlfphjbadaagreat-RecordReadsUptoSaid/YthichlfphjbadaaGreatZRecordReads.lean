/- RecordReads: which piece, and which state, any bytes are, or why they are none; in the sizes the statement allows. -/
import Derived.Test.YthichlfphjbadaaGreatZEO
import Derived.Test.YthichlfphjbadaaGreatZK
set_option linter.unusedVariables false
set_option linter.unusedSimpArgs false
set_option maxRecDepth 100000
namespace Go.Proofs.YthichlfphjbadaaGreat
open Go.Pv Go.ChangeShapes Go.WideShapes Go.ChangeAt Go.RowKit
open Go.Proofs.YthichlfphjbadaaGreat.Rows (uptoBulk uptoBulkAll)
theorem j0z (H:Type) (enc:TypeId×Value→H) (W:World) (base:Nat) (args:Array Value) (ds gs:List (DataW H)) (before:List MemPlace)
 (hval: ∀(j:Nat) t v,Tryz.f5.params[j]?=some t→args[j]?=some v→Value.okWide Tryz.prog W .any base t v)
 (hW:DataW.Whole enc Tryz.prog Tryz.f5.params.toList Rows.recordReadsSpec.vars false W args.toList ds gs before) (hk:Rows.uptoSmall H (ds++gs)=true):
 Calls Tryz.prog 5 args W fun e W'=> ∃v,e= .returned v∧Rows.recordReadsSpec.post enc Tryz.prog Tryz.f5 false true false false W args v W':=by
 have hW':=hW
 obtain⟨p,q,hA0,hV,rfl,hfz,hnd⟩:=hW
 have hA:DataW.TrodAll enc Tryz.prog W 0 (fun _=>true) true Tryz.f5.params.toList args.toList ds p:=hA0
 rw [Tryz.params5] at hA hval
 obtain⟨v0,vs0,d0,ds0,p0,q0,ha,rfl,rfl,h0,hA0⟩:=trodAll_cons hA
 obtain⟨rfl,rfl,rfl⟩:=trodAll_nil hA0
 obtain rfl:args= #[v0]:=by cases args;simp_all
 obtain⟨rfl,rfl⟩:=trodVars_none hV
 have hb:=j0s hk
 have b0:uptoBulk d0≤1048576:=Nat.le_trans (U0g (by simp)) hb
 obtain⟨x0,r0,o0⟩:=z1b J3m Tryz.underlying44 (hval 0 44 v0 rfl rfl) h0
 refine(z0e (X1i rfl _ _) (H1k x0 (by omega)) (w:=W) ⟨rfl,fun j hj=> ?_⟩).mono fun e W' ⟨he,hbl⟩=>⟨_,he,j0n q0w ?_ rfl hW' rfl hbl rfl Tryz.underlying4⟩
 · match j,hj with
   | 0,_=>exact r0
 · rw [Tryz.params5]
   exact of_decide_eq_true (by kernel_rfl)
theorem w0l (os:Os) (started:os.Started) (H:Type) (enc:TypeId×Value→H) (F:Stop.Interp):
 ReturnsInHanded {} Tryz.checked os 5 .any ((Rows.OpenSpec.upto Rows.recordReadsSpec).pre6 enc Tryz.prog Tryz.f5 Rows.recordReadsUptoRow.domain false) (((Rows.OpenSpec.upto Rows.recordReadsSpec).at F).post enc Tryz.prog Tryz.f5 false true false false):=by
 refine returnsInHanded_of_cond (C:=Tryz.checked) (s:=Rows.OpenSpec.upto Rows.recordReadsSpec) (k:=Rows.uptoSmall) rfl y0a started (by kernel_rfl) Tryz.func5
  (OpenSpec.witness (enc:=enc) (C:=Tryz.checked) (s:=Rows.OpenSpec.upto Rows.recordReadsSpec) (k:=Rows.uptoSmall) rfl false ⟨#[],#[.slice none 0 0],[]⟩ 8 (by kernel_rfl) (by kernel_rfl) (by kernel_rfl)
   (x:=([.nil],[],[])) (by kernel_rfl) rfl (by kernel_rfl)) ?_
 intro W base args ds gs before hval hW _ hk _
 exact j0z H enc W base args ds gs before hval hW hk
theorem recordReads_holds :Rows.RecordReadsUptoSaid:=
 OpenClaim.holds_of_cond 5 Tryz.f5 rfl rfl rfl rfl rfl rfl rfl ⟨rfl,rfl,rfl,rfl,rfl⟩ rfl rfl rfl rfl rfl (by kernel_rfl) Tryz.func5 (by kernel_rfl)
  (of_decide_eq_true (by kernel_rfl)) (by unfold Func.isWrapper;first | (rw [if_pos (by decide+kernel)];kernel_rfl) | (rw [if_neg (by decide+kernel)];exact⟨rfl,rfl⟩))
  (fun os started H enc _ F=>w0l os started H enc F)
end Go.Proofs.YthichlfphjbadaaGreat
