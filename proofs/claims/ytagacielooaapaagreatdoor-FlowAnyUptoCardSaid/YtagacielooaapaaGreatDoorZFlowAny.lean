/- For any field, box, interval, order and precision of bulk at most 1048576 the law FlowAny returns true, and its arguments read as before. -/
import Derived.Test.YtagacielooaapaaGreatDoorZCH
import Derived.Test.YtagacielooaapaaGreatDoorZBK
import Derived.Test.YtagacielooaapaaGreatDoorZBL
import Derived.Test.YtagacielooaapaaGreatDoorCards
import Derived.Test.YtagacielooaapaaGreatDoorTie
import Derived.SevenTiedAt
set_option linter.unusedVariables false
set_option linter.unusedSimpArgs false
set_option maxRecDepth 100000
namespace Go.Proofs.YtagacielooaapaaGreatDoor
open Go.Pv Go.ChangeShapes Go.WideShapes Go.ChangeAt Go.RowKit
open Go.Proofs.YtagacielooaapaaGreatDoor.Rows (uptoBulk uptoBulkAll)
theorem X1f (H:Type) (enc:TypeId×Value→H) (W:World) (base:Nat) (args:Array Value) (ds gs:List (DataW H)) (before:List MemPlace)
 (hval: ∀(j:Nat) t v,Tryz.f4.params[j]?=some t→args[j]?=some v→Value.okWide Tryz.prog W .any base t v)
 (hW:DataW.Whole enc Tryz.prog Tryz.f4.params.toList Rows.flowAnySpec.vars false W args.toList ds gs before) (hk:Rows.uptoSmall H (ds++gs)=true) (hL:laidMetH Tryz.prog Rows.flowAnyUptoRow.laid W):
 Calls Tryz.prog 4 args W fun e W'=> ∃v,e= .returned v∧Rows.flowAnySpec.post enc Tryz.prog Tryz.f4 false true false false W args v W':=by
 have hW':=hW
 obtain⟨p,q,hA0,hV,rfl,hfz,hnd⟩:=hW
 have hA:DataW.TrodAll enc Tryz.prog W 0 (fun _=>true) true Tryz.f4.params.toList args.toList ds p:=hA0
 rw [Tryz.params4] at hA hval
 obtain⟨v0,vs0,d0,ds0,p0,q0,ha,rfl,rfl,h0,hA0⟩:=trodAll_cons hA
 obtain⟨v1,vs1,d1,ds1,p1,q1,rfl,rfl,rfl,h1,hA1⟩:=trodAll_cons hA0
 obtain⟨v2,vs2,d2,ds2,p2,q2,rfl,rfl,rfl,h2,hA2⟩:=trodAll_cons hA1
 obtain⟨v3,vs3,d3,ds3,p3,q3,rfl,rfl,rfl,h3,hA3⟩:=trodAll_cons hA2
 obtain⟨v4,vs4,d4,ds4,p4,q4,rfl,rfl,rfl,h4,hA4⟩:=trodAll_cons hA3
 obtain⟨rfl,rfl,rfl⟩:=trodAll_nil hA4
 obtain rfl:args= #[v0,v1,v2,v3,v4]:=by cases args;simp_all
 obtain⟨rfl,rfl⟩:=trodVars_none hV
 have hb:=Z1i hk
 have b0:uptoBulk d0≤1048576:=Nat.le_trans (Y0v (by simp)) hb
 have b1:uptoBulk d1≤1048576:=Nat.le_trans (Y0v (by simp)) hb
 have b2:uptoBulk d2≤1048576:=Nat.le_trans (Y0v (by simp)) hb
 have b3:uptoBulk d3≤1048576:=Nat.le_trans (Y0v (by simp)) hb
 have b4:uptoBulk d4≤1048576:=Nat.le_trans (Y0v (by simp)) hb
 obtain⟨x0,r0,o0⟩:=q1m K3a Tryz.underlying27 (hval 0 27 v0 rfl rfl) h0
 obtain⟨x1,r1,o1⟩:=q1m J4i Tryz.underlying29 (hval 1 29 v1 rfl rfl) h1
 obtain⟨x2,r2,o2⟩:=U3r tyIv Tryz.underlying57 (hval 2 57 v2 rfl rfl) h2
 obtain⟨x3,rfl,o3⟩:=x2r Tryz.underlying3 (hval 3 3 v3 rfl rfl) h3
 obtain⟨x4,rfl,o4⟩:=x2r Tryz.underlying3 (hval 4 3 v4 rfl rfl) h4
 refine(v0l (G1m hL) ((q2v x0 x1 x2 x3 x4 [] (X4w (by omega) o0) (X4x (by omega) o1) (H3w (by omega) o2)).mono fun _ _ h=>h.1) (w:=W) ⟨rfl,fun j hj=> ?_⟩).mono fun e W' ⟨he,hbl⟩=>⟨_,he,Q1k k0w ?_ rfl hW' rfl hbl rfl Tryz.underlying4⟩
 · match j,hj with
   | 0,_=>exact r0
   | 1,_=>exact r1
   | 2,_=>exact r2
   | 3,_=>exact .sc _
   | 4,_=>exact .sc _
 · rw [Tryz.params4]
   exact of_decide_eq_true (by kernel_rfl)
theorem j1i (os:Os):laidMet Tryz.prog Rows.flowAnyUptoRow.laid ((U0h os).forCall (fun _ _=>0) ⟨#[],#[.slice none 0 0,.slice none 0 0,.agg #[.bool false,.int .i64 0,.slice none 0 0,.bool false,.int .i64 0,.slice none 0 0],.int .i64 0,.int .i64 0],[]⟩).memory:=
 laidMet_of_run' 8 (by kernel_rfl) (by kernel_rfl)
theorem H1z (os:Os) {H:Type} (enc:TypeId×Value→H): ∃places,DataW.whole enc Tryz.prog ((U0h os).forCall (fun _ _=>0) ⟨#[],#[.slice none 0 0,.slice none 0 0,.agg #[.bool false,.int .i64 0,.slice none 0 0,.bool false,.int .i64 0,.slice none 0 0],.int .i64 0,.int .i64 0],[]⟩).memory Tryz.f4.params.toList Rows.flowAnySpec.vars false #[.slice none 0 0,.slice none 0 0,.agg #[.bool false,.int .i64 0,.slice none 0 0,.bool false,.int .i64 0,.slice none 0 0],.int .i64 0,.int .i64 0].toList 8=some ([.nil,.nil,.agg [.agg [.lit (.bool false),.lit (.int .i64 0),.nil],.agg [.lit (.bool false),.lit (.int .i64 0),.nil]],.lit (.int .i64 0),.lit (.int .i64 0)],[],places):=
 ⟨[],by kernel_rfl⟩
theorem Y1d (os:Os) (started:os.Started) (H:Type) (enc:TypeId×Value→H) (F:Stop.Interp):
 ReturnsInHanded {} Tryz.checked os 4 .any ((Rows.OpenSpec.upto Rows.flowAnySpec).preRow enc Tryz.prog Tryz.f4 Rows.flowAnyUptoRow.domain false Rows.flowAnyUptoRow.laid) (((Rows.OpenSpec.upto Rows.flowAnySpec).at F).post enc Tryz.prog Tryz.f4 false true false false):=by
 obtain⟨places,hx⟩:=H1z os enc
 refine returnsInHanded_of_row (C:=Tryz.checked) (s:=Rows.OpenSpec.upto Rows.flowAnySpec) K1p started (by kernel_rfl) Tryz.func4
  (witness_row_at (enc:=enc) (C:=Tryz.checked) false (U0h os) #[.slice none 0 0,.slice none 0 0,.agg #[.bool false,.int .i64 0,.slice none 0 0,.bool false,.int .i64 0,.slice none 0 0],.int .i64 0,.int .i64 0] rfl (by kernel_rfl) (by kernel_rfl) (by kernel_rfl)
   (OpenSpec.preRow_of_cond 8 hx (by kernel_rfl) (fun k hk=>by cases hk;kernel_rfl) (by kernel_rfl) (j1i os))) ?_
 intro W base args ds gs before hval hW _ hcond _ hL _ _
 exact X1f H enc W base args ds gs before hval hW (hcond _ rfl) hL
theorem V1o :(Rows.flowAnyUptoRow.inPlace==Tryz.pinned.checked.prog.inPlace 4)=true:=by kernel_rfl
theorem y0f :(Rows.flowAnyUptoRow.unfollowed==Tryz.pinned.checked.prog.unfollowed 4)=true:=by kernel_rfl
theorem X1e :(Rows.flowAnyUptoRow.recurses==Tryz.pinned.checked.prog.recurses 4)=true:=by kernel_rfl
theorem Q1w :(Rows.flowAnyUptoRow.named==Tryz.pinned.checked.prog.varsNamed 4)=true:=by kernel_rfl
set_option maxHeartbeats 4000000 in
theorem Y1e :joinedFacts Tryz.pinned.checked.prog 4 Tryz.f4 (Rows.OpenSpec.upto Rows.flowAnySpec).bare Rows.flowAnyUptoRow=true:=by
 unfold joinedFacts
 refine Q0o ?_ (by kernel_rfl)
 refine Q0o ?_ (by kernel_rfl)
 refine Q0o ?_ (by kernel_rfl)
 refine Q0o ?_ (by kernel_rfl)
 refine Q0o ?_ (by kernel_rfl)
 refine Q0o ?_ H1l
 refine Q0o ?_ H1o
 refine Q0o ?_ H1n
 refine Q0o ?_ (by kernel_rfl)
 refine Q0o ?_ x0i
 refine Q0o ?_ (by kernel_rfl)
 refine Q0o ?_ (by kernel_rfl)
 refine Q0o ?_ (by kernel_rfl)
 refine Q0o ?_ (by kernel_rfl)
 refine Q0o ?_ (by kernel_rfl)
 refine Q0o ?_ (by kernel_rfl)
 refine Q0o ?_ (by kernel_rfl)
 refine Q0o ?_ (by kernel_rfl)
 refine Q0o ?_ (by kernel_rfl)
 refine Q0o ?_ Q1w
 refine Q0o ?_ X1e
 refine Q0o ?_ y0f
 refine Q0o ?_ V1o
 refine Q0o ?_ H1m
 refine Q0o ?_ (by kernel_rfl)
 refine Q0o ?_ H1k
 refine Q0o ?_ (by kernel_rfl)
 refine Q0o ?_ (by kernel_rfl)
 refine Q0o ?_ (by kernel_rfl)
 refine Q0o ?_ x0j
 refine Q0o ?_ Q1r
 kernel_rfl
theorem flowAny_funcNamed :Tryz.pinned.checked.prog.funcNamed "fathomline/fathomlinelaw15.FlowAny" =some 4:=by kernel_rfl
theorem j1h :Rows.FlowAnyUptoSaid:=
 OpenClaim.holds_of_cond 4 Tryz.f4 rfl rfl rfl rfl rfl rfl rfl ⟨rfl,rfl,rfl,rfl,rfl⟩ rfl rfl rfl rfl rfl flowAny_funcNamed Tryz.func4 Y1e
  (of_decide_eq_true (by kernel_rfl)) (by unfold Func.isWrapper;first | (rw [if_pos (by decide+kernel)];kernel_rfl) | (rw [if_neg (by decide+kernel)];exact⟨rfl,rfl⟩))
  (fun os started H enc _ F=>by rw [OpenClaim.pre_eq_preRow];exact Y1d os started H enc F)
theorem q1a (f:FuncId) (fn:Func) (hf:Tryz.pinned.checked.prog.funcNamed "fathomline/fathomlinelaw15.FlowAny" =some f) (hfn:Tryz.pinned.checked.prog.funcs[f]?=some fn):
 false=Tryz.pinned.checked.prog.looks []∧ ∀(j:Nat) t,fn.params[j]?=some t→Tryz.pinned.checked.prog.wantsStandIn t=false:=by
 obtain rfl:f=4:=Option.some.inj (flowAny_funcNamed.symm.trans hf)|>.symm
 obtain rfl:fn=Tryz.f4:=(Option.some.inj (Tryz.func4.symm.trans hfn)).symm
 refine⟨by kernel_rfl,fun j t ht=> ?_⟩
 have hm:t∈Tryz.f4.params.toList:=by
  have:=Array.mem_of_getElem? ht
  simpa using this
 have hall:(Tryz.f4.params.toList.all fun u=> !Tryz.prog.wantsStandIn u)=true:=by kernel_rfl
 have h2:=List.all_eq_true.1 hall t hm
 exact(show Tryz.prog.wantsStandIn t=false by simpa using h2)
theorem flowAny_holds :Rows.FlowAnyUptoCardSaid:=
 Claim7.holds_tied_plain_at .later [] _ _ _ _ j1h (fun _ h=>by cases h) (by kernel_rfl) (fun _ h=>by cases h) flowAnyUpto_row_tie rfl ⟨rfl,rfl⟩ (by kernel_rfl) rfl q1a (by kernel_rfl)
end Go.Proofs.YtagacielooaapaaGreatDoor
