/- RecordSpoilt: bytes changed in one place, cut off or extended; in the sizes the statement allows. -/
import Derived.Test.YthichlfphjbadaaGreatZEQ
import Derived.Test.YthichlfphjbadaaGreatZK
set_option linter.unusedVariables false
set_option linter.unusedSimpArgs false
set_option maxRecDepth 100000
namespace Go.Proofs.YthichlfphjbadaaGreat
open Go.Pv Go.ChangeShapes Go.WideShapes Go.ChangeAt Go.RowKit
open Go.Proofs.YthichlfphjbadaaGreat.Rows (uptoBulk uptoBulkAll)
theorem z0h (H:Type) (enc:TypeId×Value→H) (W:World) (base:Nat) (args:Array Value) (ds gs:List (DataW H)) (before:List MemPlace)
 (hval: ∀(j:Nat) t v,Tryz.f7.params[j]?=some t→args[j]?=some v→Value.okWide Tryz.prog W .any base t v)
 (hW:DataW.Whole enc Tryz.prog Tryz.f7.params.toList Rows.recordSpoiltSpec.vars false W args.toList ds gs before) (hk:Rows.uptoSmall H (ds++gs)=true):
 Calls Tryz.prog 7 args W fun e W'=> ∃v,e= .returned v∧Rows.recordSpoiltSpec.post enc Tryz.prog Tryz.f7 false true false false W args v W':=by
 have hW':=hW
 obtain⟨p,q,hA0,hV,rfl,hfz,hnd⟩:=hW
 have hA:DataW.TrodAll enc Tryz.prog W 0 (fun _=>true) true Tryz.f7.params.toList args.toList ds p:=hA0
 rw [Tryz.params7] at hA hval
 obtain⟨v0,vs0,d0,ds0,p0,q0,ha,rfl,rfl,h0,hA0⟩:=trodAll_cons hA
 obtain⟨v1,vs1,d1,ds1,p1,q1,rfl,rfl,rfl,h1,hA1⟩:=trodAll_cons hA0
 obtain⟨v2,vs2,d2,ds2,p2,q2,rfl,rfl,rfl,h2,hA2⟩:=trodAll_cons hA1
 obtain⟨v3,vs3,d3,ds3,p3,q3,rfl,rfl,rfl,h3,hA3⟩:=trodAll_cons hA2
 obtain⟨rfl,rfl,rfl⟩:=trodAll_nil hA3
 obtain rfl:args= #[v0,v1,v2,v3]:=by cases args;simp_all
 obtain⟨rfl,rfl⟩:=trodVars_none hV
 have hb:=U1u hk
 have b0:uptoBulk d0≤1048576:=Nat.le_trans (H0z (by simp)) hb
 have b1:uptoBulk d1≤1048576:=Nat.le_trans (H0z (by simp)) hb
 have b2:uptoBulk d2≤1048576:=Nat.le_trans (H0z (by simp)) hb
 have b3:uptoBulk d3≤1048576:=Nat.le_trans (H0z (by simp)) hb
 obtain⟨x0,r0,o0⟩:=z2a W2d Tryz.underlying22 (hval 0 22 v0 rfl rfl) h0
 obtain⟨x1,rfl,o1⟩:=W3z Tryz.underlying64 (hval 1 64 v1 rfl rfl) h1
 obtain⟨x2,rfl,o2⟩:=Z3r Tryz.underlying5 (hval 2 5 v2 rfl rfl) h2
 obtain⟨x3,rfl,o3⟩:=Z3r Tryz.underlying5 (hval 3 5 v3 rfl rfl) h3
 refine(V1k (y1k rfl _ _) (W1b x0 x1 x2 x3 o1 o2 o3) (w:=W) ⟨rfl,fun j hj=> ?_⟩).mono fun e W' ⟨he,hbl⟩=>⟨_,he,Y1o K1l ?_ rfl hW' rfl hbl rfl Tryz.underlying4⟩
 · match j,hj with
   | 0,_=>exact r0
   | 1,_=>exact .sc _
   | 2,_=>exact .sc _
   | 3,_=>exact .sc _
 · rw [Tryz.params7]
   exact of_decide_eq_true (by kernel_rfl)
theorem k0e (os:Os) (started:os.Started) (H:Type) (enc:TypeId×Value→H) (F:Stop.Interp):
 ReturnsInHanded {} Tryz.checked os 7 .any ((Rows.OpenSpec.upto Rows.recordSpoiltSpec).pre6 enc Tryz.prog Tryz.f7 Rows.recordSpoiltUptoRow.domain false) (((Rows.OpenSpec.upto Rows.recordSpoiltSpec).at F).post enc Tryz.prog Tryz.f7 false true false false):=by
 refine returnsInHanded_of_cond (C:=Tryz.checked) (s:=Rows.OpenSpec.upto Rows.recordSpoiltSpec) (k:=Rows.uptoSmall) rfl x1m started (by kernel_rfl) Tryz.func7
  (OpenSpec.witness (enc:=enc) (C:=Tryz.checked) (s:=Rows.OpenSpec.upto Rows.recordSpoiltSpec) (k:=Rows.uptoSmall) rfl false ⟨#[],#[.slice none 0 0,.int .u16 0,.int .u8 0,.int .u8 0],[]⟩ 8 (by kernel_rfl) (by kernel_rfl) (by kernel_rfl)
   (x:=([.nil,.lit (.int .u16 0),.lit (.int .u8 0),.lit (.int .u8 0)],[],[])) (by kernel_rfl) rfl (by kernel_rfl)) ?_
 intro W base args ds gs before hval hW _ hk _
 exact z0h H enc W base args ds gs before hval hW hk
theorem recordSpoilt_holds :Rows.RecordSpoiltUptoSaid:=
 OpenClaim.holds_of_cond 7 Tryz.f7 rfl rfl rfl rfl rfl rfl rfl ⟨rfl,rfl,rfl,rfl,rfl⟩ rfl rfl rfl rfl rfl (by kernel_rfl) Tryz.func7 (by kernel_rfl)
  (of_decide_eq_true (by kernel_rfl)) (by unfold Func.isWrapper;first | (rw [if_pos (by decide+kernel)];kernel_rfl) | (rw [if_neg (by decide+kernel)];exact⟨rfl,rfl⟩))
  (fun os started H enc _ F=>k0e os started H enc F)
end Go.Proofs.YthichlfphjbadaaGreat
