/- RecordSegs: which pieces are right, which are the same, and their bytes; in the sizes the statement allows. -/
import Derived.Test.YthichlfphjbadaaGreatZEO
import Derived.Test.YthichlfphjbadaaGreatZK
set_option linter.unusedVariables false
set_option linter.unusedSimpArgs false
set_option maxRecDepth 100000
namespace Go.Proofs.YthichlfphjbadaaGreat
open Go.Pv Go.ChangeShapes Go.WideShapes Go.ChangeAt Go.RowKit
open Go.Proofs.YthichlfphjbadaaGreat.Rows (uptoBulk uptoBulkAll)
theorem k0w (H:Type) (enc:TypeId×Value→H) (W:World) (base:Nat) (args:Array Value) (ds gs:List (DataW H)) (before:List MemPlace)
 (hval: ∀(j:Nat) t v,Tryz.f3.params[j]?=some t→args[j]?=some v→Value.okWide Tryz.prog W .any base t v)
 (hW:DataW.Whole enc Tryz.prog Tryz.f3.params.toList Rows.recordSegsSpec.vars false W args.toList ds gs before) (hk:Rows.uptoSmall H (ds++gs)=true):
 Calls Tryz.prog 3 args W fun e W'=> ∃v,e= .returned v∧Rows.recordSegsSpec.post enc Tryz.prog Tryz.f3 false true false false W args v W':=by
 have hW':=hW
 obtain⟨p,q,hA0,hV,rfl,hfz,hnd⟩:=hW
 have hA:DataW.TrodAll enc Tryz.prog W 0 (fun _=>true) true Tryz.f3.params.toList args.toList ds p:=hA0
 rw [Tryz.params3] at hA hval
 obtain⟨v0,vs0,d0,ds0,p0,q0,ha,rfl,rfl,h0,hA0⟩:=trodAll_cons hA
 obtain⟨v1,vs1,d1,ds1,p1,q1,rfl,rfl,rfl,h1,hA1⟩:=trodAll_cons hA0
 obtain⟨v2,vs2,d2,ds2,p2,q2,rfl,rfl,rfl,h2,hA2⟩:=trodAll_cons hA1
 obtain⟨rfl,rfl,rfl⟩:=trodAll_nil hA2
 obtain rfl:args= #[v0,v1,v2]:=by cases args;simp_all
 obtain⟨rfl,rfl⟩:=trodVars_none hV
 have hb:=j0s hk
 have b0:uptoBulk d0≤1048576:=Nat.le_trans (U0g (by simp)) hb
 have b1:uptoBulk d1≤1048576:=Nat.le_trans (U0g (by simp)) hb
 have b2:uptoBulk d2≤1048576:=Nat.le_trans (U0g (by simp)) hb
 obtain⟨x0,r0,o0⟩:=Q2c H3v Tryz.underlying27 (hval 0 27 v0 rfl rfl) h0
 obtain⟨x1,r1,o1⟩:=Q2c H3v Tryz.underlying27 (hval 1 27 v1 rfl rfl) h1
 obtain⟨x2,r2,o2⟩:=z1b H1c Tryz.underlying22 (hval 2 22 v2 rfl rfl) h2
 refine(z0e (X1i rfl _ _) (x1o x0 x1 x2 (H3p (by omega) o0) (H3p (by omega) o1)) (w:=W) ⟨rfl,fun j hj=> ?_⟩).mono fun e W' ⟨he,hbl⟩=>⟨_,he,j0n q0w ?_ rfl hW' rfl hbl rfl Tryz.underlying4⟩
 · match j,hj with
   | 0,_=>exact r0
   | 1,_=>exact r1
   | 2,_=>exact r2
 · rw [Tryz.params3]
   exact of_decide_eq_true (by kernel_rfl)
theorem Q1k (os:Os) (started:os.Started) (H:Type) (enc:TypeId×Value→H) (F:Stop.Interp):
 ReturnsInHanded {} Tryz.checked os 3 .any ((Rows.OpenSpec.upto Rows.recordSegsSpec).pre6 enc Tryz.prog Tryz.f3 Rows.recordSegsUptoRow.domain false) (((Rows.OpenSpec.upto Rows.recordSegsSpec).at F).post enc Tryz.prog Tryz.f3 false true false false):=by
 refine returnsInHanded_of_cond (C:=Tryz.checked) (s:=Rows.OpenSpec.upto Rows.recordSegsSpec) (k:=Rows.uptoSmall) rfl y0a started (by kernel_rfl) Tryz.func3
  (OpenSpec.witness (enc:=enc) (C:=Tryz.checked) (s:=Rows.OpenSpec.upto Rows.recordSegsSpec) (k:=Rows.uptoSmall) rfl false ⟨#[],#[.agg #[.int .i64 0,.int .i64 0,.bool false,.int .i64 0,.slice none 0 0,.bool false,.int .i64 0,.slice none 0 0,.slice none 0 0],.agg #[.int .i64 0,.int .i64 0,.bool false,.int .i64 0,.slice none 0 0,.bool false,.int .i64 0,.slice none 0 0,.slice none 0 0],.slice none 0 0],[]⟩ 8 (by kernel_rfl) (by kernel_rfl) (by kernel_rfl)
   (x:=([.agg [.lit (.int .i64 0),.lit (.int .i64 0),.agg [.lit (.bool false),.lit (.int .i64 0),.nil],.agg [.lit (.bool false),.lit (.int .i64 0),.nil],.nil],.agg [.lit (.int .i64 0),.lit (.int .i64 0),.agg [.lit (.bool false),.lit (.int .i64 0),.nil],.agg [.lit (.bool false),.lit (.int .i64 0),.nil],.nil],.nil],[],[])) (by kernel_rfl) rfl (by kernel_rfl)) ?_
 intro W base args ds gs before hval hW _ hk _
 exact k0w H enc W base args ds gs before hval hW hk
theorem recordSegs_holds :Rows.RecordSegsUptoSaid:=
 OpenClaim.holds_of_cond 3 Tryz.f3 rfl rfl rfl rfl rfl rfl rfl ⟨rfl,rfl,rfl,rfl,rfl⟩ rfl rfl rfl rfl rfl (by kernel_rfl) Tryz.func3 (by kernel_rfl)
  (of_decide_eq_true (by kernel_rfl)) (by unfold Func.isWrapper;first | (rw [if_pos (by decide+kernel)];kernel_rfl) | (rw [if_neg (by decide+kernel)];exact⟨rfl,rfl⟩))
  (fun os started H enc _ F=>Q1k os started H enc F)
end Go.Proofs.YthichlfphjbadaaGreat
