/- RecordStates: which states are right and the same, and their bytes, any states and drawn ones; in the sizes the statement allows. -/
import Derived.Test.YthichlfphjbadaaGreatZEQ
import Derived.Test.YthichlfphjbadaaGreatZEC
import Derived.Test.YthichlfphjbadaaGreatZK
set_option linter.unusedVariables false
set_option linter.unusedSimpArgs false
set_option maxRecDepth 100000
namespace Go.Proofs.YthichlfphjbadaaGreat
open Go.Pv Go.ChangeShapes Go.WideShapes Go.ChangeAt Go.RowKit
open Go.Proofs.YthichlfphjbadaaGreat.Rows (uptoBulk uptoBulkAll)
theorem q0p (H:Type) (enc:TypeId×Value→H) (W:World) (base:Nat) (args:Array Value) (ds gs:List (DataW H)) (before:List MemPlace)
 (hval: ∀(j:Nat) t v,Tryz.f4.params[j]?=some t→args[j]?=some v→Value.okWide Tryz.prog W .any base t v)
 (hW:DataW.Whole enc Tryz.prog Tryz.f4.params.toList Rows.recordStatesSpec.vars false W args.toList ds gs before) (hk:Rows.uptoSmall H (ds++gs)=true):
 Calls Tryz.prog 4 args W fun e W'=> ∃v,e= .returned v∧Rows.recordStatesSpec.post enc Tryz.prog Tryz.f4 false true false false W args v W':=by
 have hW':=hW
 obtain⟨p,q,hA0,hV,rfl,hfz,hnd⟩:=hW
 have hA:DataW.TrodAll enc Tryz.prog W 0 (fun _=>true) true Tryz.f4.params.toList args.toList ds p:=hA0
 rw [Tryz.params4] at hA hval
 obtain⟨v0,vs0,d0,ds0,p0,q0,ha,rfl,rfl,h0,hA0⟩:=trodAll_cons hA
 obtain⟨v1,vs1,d1,ds1,p1,q1,rfl,rfl,rfl,h1,hA1⟩:=trodAll_cons hA0
 obtain⟨rfl,rfl,rfl⟩:=trodAll_nil hA1
 obtain rfl:args= #[v0,v1]:=by cases args;simp_all
 obtain⟨rfl,rfl⟩:=trodVars_none hV
 have hb:=J2c hk
 have b0:uptoBulk d0≤1048576:=Nat.le_trans (J1y (by simp)) hb
 have b1:uptoBulk d1≤1048576:=Nat.le_trans (J1y (by simp)) hb
 obtain⟨x0,r0,o0⟩:=K3s Q3b Tryz.underlying43 (hval 0 43 v0 rfl rfl) h0
 obtain⟨x1,r1,o1⟩:=K3r J2y Tryz.underlying22 (hval 1 22 v1 rfl rfl) h1
 refine(v1b (H2x rfl _ _) (K1m x0 x1 (Y3f (by omega) o0)) (w:=W) ⟨rfl,fun j hj=> ?_⟩).mono fun e W' ⟨he,hbl⟩=>⟨_,he,Z2r k1g ?_ rfl hW' rfl hbl rfl Tryz.underlying4⟩
 · match j,hj with
   | 0,_=>exact r0
   | 1,_=>exact r1
 · rw [Tryz.params4]
   exact of_decide_eq_true (by kernel_rfl)
theorem j0m (os:Os) (started:os.Started) (H:Type) (enc:TypeId×Value→H) (F:Stop.Interp):
 ReturnsInHanded {} Tryz.checked os 4 .any ((Rows.OpenSpec.upto Rows.recordStatesSpec).pre6 enc Tryz.prog Tryz.f4 Rows.recordStatesUptoRow.domain false) (((Rows.OpenSpec.upto Rows.recordStatesSpec).at F).post enc Tryz.prog Tryz.f4 false true false false):=by
 refine returnsInHanded_of_cond (C:=Tryz.checked) (s:=Rows.OpenSpec.upto Rows.recordStatesSpec) (k:=Rows.uptoSmall) rfl W2g started (by kernel_rfl) Tryz.func4
  (OpenSpec.witness (enc:=enc) (C:=Tryz.checked) (s:=Rows.OpenSpec.upto Rows.recordStatesSpec) (k:=Rows.uptoSmall) rfl false ⟨#[],#[.agg #[.int .i64 0,.bool false,.int .i64 0,.slice none 0 0,.bool false,.int .i64 0,.slice none 0 0,.slice none 0 0,.slice none 0 0,.slice none 0 0],.slice none 0 0],[]⟩ 8 (by kernel_rfl) (by kernel_rfl) (by kernel_rfl)
   (x:=([.agg [.lit (.int .i64 0),.agg [.lit (.bool false),.lit (.int .i64 0),.nil],.agg [.lit (.bool false),.lit (.int .i64 0),.nil],.agg [.nil,.nil,.nil]],.nil],[],[])) (by kernel_rfl) rfl (by kernel_rfl)) ?_
 intro W base args ds gs before hval hW _ hk _
 exact q0p H enc W base args ds gs before hval hW hk
theorem recordStates_holds :Rows.RecordStatesUptoSaid:=
 OpenClaim.holds_of_cond 4 Tryz.f4 rfl rfl rfl rfl rfl rfl rfl ⟨rfl,rfl,rfl,rfl,rfl⟩ rfl rfl rfl rfl rfl (by kernel_rfl) Tryz.func4 (by kernel_rfl)
  (of_decide_eq_true (by kernel_rfl)) (by unfold Func.isWrapper;first | (rw [if_pos (by decide+kernel)];kernel_rfl) | (rw [if_neg (by decide+kernel)];exact⟨rfl,rfl⟩))
  (fun os started H enc _ F=>j0m os started H enc F)
end Go.Proofs.YthichlfphjbadaaGreat
