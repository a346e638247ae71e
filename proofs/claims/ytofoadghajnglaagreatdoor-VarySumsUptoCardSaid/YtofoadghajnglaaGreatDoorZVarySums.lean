/- For any list of matrices, deck, interval and precision of bulk at most 1048576 the law VarySums returns true, and its arguments read as before. -/
import Derived.Test.YtofoadghajnglaaGreatDoorZGH
import Derived.Test.YtofoadghajnglaaGreatDoorZBL
import Derived.Test.YtofoadghajnglaaGreatDoorCards
import Derived.Test.YtofoadghajnglaaGreatDoorTie
import Derived.SevenTiedAt
set_option linter.unusedVariables false
set_option linter.unusedSimpArgs false
set_option maxRecDepth 100000
namespace Go.Proofs.YtofoadghajnglaaGreatDoor
open Go.Pv Go.ChangeShapes Go.WideShapes Go.ChangeAt Go.RowKit
open Go.Proofs.YtofoadghajnglaaGreatDoor.Rows (uptoBulk uptoBulkAll)
theorem v0d (H:Type) (enc:TypeId×Value→H) (W:World) (base:Nat) (args:Array Value) (ds gs:List (DataW H)) (before:List MemPlace)
 (hval: ∀(j:Nat) t v,Tryz.f10.params[j]?=some t→args[j]?=some v→Value.okWide Tryz.prog W .any base t v)
 (hW:DataW.Whole enc Tryz.prog Tryz.f10.params.toList Rows.varySumsSpec.vars false W args.toList ds gs before) (hk:Rows.uptoSmall H (ds++gs)=true) (hL:laidMetH Tryz.prog Rows.varySumsUptoRow.laid W):
 Calls Tryz.prog 10 args W fun e W'=> ∃v,e= .returned v∧Rows.varySumsSpec.post enc Tryz.prog Tryz.f10 false true false false W args v W':=by
 have hW':=hW
 obtain⟨p,q,hA0,hV,rfl,hfz,hnd⟩:=hW
 have hA:DataW.TrodAll enc Tryz.prog W 0 (fun _=>true) true Tryz.f10.params.toList args.toList ds p:=hA0
 rw [Tryz.params10] at hA hval
 obtain⟨v0,vs0,d0,ds0,p0,q0,ha,rfl,rfl,h0,hA0⟩:=trodAll_cons hA
 obtain⟨v1,vs1,d1,ds1,p1,q1,rfl,rfl,rfl,h1,hA1⟩:=trodAll_cons hA0
 obtain⟨v2,vs2,d2,ds2,p2,q2,rfl,rfl,rfl,h2,hA2⟩:=trodAll_cons hA1
 obtain⟨v3,vs3,d3,ds3,p3,q3,rfl,rfl,rfl,h3,hA3⟩:=trodAll_cons hA2
 obtain⟨rfl,rfl,rfl⟩:=trodAll_nil hA3
 obtain rfl:args= #[v0,v1,v2,v3]:=by cases args;simp_all
 obtain⟨rfl,rfl⟩:=trodVars_none hV
 have hb:=y1t hk
 have b0:uptoBulk d0≤1048576:=Nat.le_trans (q0n (by simp)) hb
 have b1:uptoBulk d1≤1048576:=Nat.le_trans (q0n (by simp)) hb
 have b2:uptoBulk d2≤1048576:=Nat.le_trans (q0n (by simp)) hb
 have b3:uptoBulk d3≤1048576:=Nat.le_trans (q0n (by simp)) hb
 obtain⟨x0,r0,o0⟩:=Y2d tyCs Tryz.underlying74 (hval 0 74 v0 rfl rfl) h0
 obtain⟨x1,r1,o1⟩:=Y2d Q2q Tryz.underlying26 (hval 1 26 v1 rfl rfl) h1
 obtain⟨x2,r2,o2⟩:=X3f tyIv Tryz.underlying52 (hval 2 52 v2 rfl rfl) h2
 obtain⟨x3,rfl,o3⟩:=X3e Tryz.underlying3 (hval 3 3 v3 rfl rfl) h3
 refine(z1t (U2o hL) (k1u x0 x1 x2 x3 (K3t (by omega) o0) (K3q (by omega) o2)) (w:=W) ⟨rfl,fun j hj=> ?_⟩).mono fun e W' ⟨he,hbl⟩=>⟨_,he,w1e q1u ?_ rfl hW' rfl hbl rfl Tryz.underlying4⟩
 · match j,hj with
   | 0,_=>exact r0
   | 1,_=>exact r1
   | 2,_=>exact r2
   | 3,_=>exact .sc _
 · rw [Tryz.params10]
   exact of_decide_eq_true (by kernel_rfl)
theorem K1p (os:Os):laidMet Tryz.prog Rows.varySumsUptoRow.laid ((K1t os).forCall (fun _ _=>0) ⟨#[],#[.slice none 0 0,.slice none 0 0,.agg #[.bool false,.int .i64 0,.slice none 0 0,.bool false,.int .i64 0,.slice none 0 0],.int .i64 0],[]⟩).memory:=
 laidMet_of_run' 8 (by kernel_rfl) (by kernel_rfl)
theorem X1f (os:Os) {H:Type} (enc:TypeId×Value→H): ∃places,DataW.whole enc Tryz.prog ((K1t os).forCall (fun _ _=>0) ⟨#[],#[.slice none 0 0,.slice none 0 0,.agg #[.bool false,.int .i64 0,.slice none 0 0,.bool false,.int .i64 0,.slice none 0 0],.int .i64 0],[]⟩).memory Tryz.f10.params.toList Rows.varySumsSpec.vars false #[.slice none 0 0,.slice none 0 0,.agg #[.bool false,.int .i64 0,.slice none 0 0,.bool false,.int .i64 0,.slice none 0 0],.int .i64 0].toList 8=some ([.nil,.nil,.agg [.agg [.lit (.bool false),.lit (.int .i64 0),.nil],.agg [.lit (.bool false),.lit (.int .i64 0),.nil]],.lit (.int .i64 0)],[],places):=
 ⟨[],by kernel_rfl⟩
theorem y0u (os:Os) (started:os.Started) (H:Type) (enc:TypeId×Value→H) (F:Stop.Interp):
 ReturnsInHanded {} Tryz.checked os 10 .any ((Rows.OpenSpec.upto Rows.varySumsSpec).preRow enc Tryz.prog Tryz.f10 Rows.varySumsUptoRow.domain false Rows.varySumsUptoRow.laid) (((Rows.OpenSpec.upto Rows.varySumsSpec).at F).post enc Tryz.prog Tryz.f10 false true false false):=by
 obtain⟨places,hx⟩:=X1f os enc
 refine returnsInHanded_of_row (C:=Tryz.checked) (s:=Rows.OpenSpec.upto Rows.varySumsSpec) X2s started (by kernel_rfl) Tryz.func10
  (witness_row_at (enc:=enc) (C:=Tryz.checked) false (K1t os) #[.slice none 0 0,.slice none 0 0,.agg #[.bool false,.int .i64 0,.slice none 0 0,.bool false,.int .i64 0,.slice none 0 0],.int .i64 0] rfl (by kernel_rfl) (by kernel_rfl) (by kernel_rfl)
   (OpenSpec.preRow_of_cond 8 hx (by kernel_rfl) (fun k hk=>by cases hk;kernel_rfl) (by kernel_rfl) (K1p os))) ?_
 intro W base args ds gs before hval hW _ hcond _ hL _ _
 exact v0d H enc W base args ds gs before hval hW (hcond _ rfl) hL
theorem w0z :(Rows.varySumsUptoRow.inPlace==Tryz.pinned.checked.prog.inPlace 10)=true:=by kernel_rfl
theorem x0b :(Rows.varySumsUptoRow.unfollowed==Tryz.pinned.checked.prog.unfollowed 10)=true:=by kernel_rfl
theorem v0c :(Rows.varySumsUptoRow.recurses==Tryz.pinned.checked.prog.recurses 10)=true:=by kernel_rfl
theorem j0d :(Rows.varySumsUptoRow.named==Tryz.pinned.checked.prog.varsNamed 10)=true:=by kernel_rfl
set_option maxHeartbeats 4000000 in
theorem y0v :joinedFacts Tryz.pinned.checked.prog 10 Tryz.f10 (Rows.OpenSpec.upto Rows.varySumsSpec).bare Rows.varySumsUptoRow=true:=by
 unfold joinedFacts
 refine X0t ?_ (by kernel_rfl)
 refine X0t ?_ (by kernel_rfl)
 refine X0t ?_ (by kernel_rfl)
 refine X0t ?_ (by kernel_rfl)
 refine X0t ?_ (by kernel_rfl)
 refine X0t ?_ q2z
 refine X0t ?_ z2c
 refine X0t ?_ z2b
 refine X0t ?_ (by kernel_rfl)
 refine X0t ?_ U1i
 refine X0t ?_ (by kernel_rfl)
 refine X0t ?_ (by kernel_rfl)
 refine X0t ?_ (by kernel_rfl)
 refine X0t ?_ (by kernel_rfl)
 refine X0t ?_ (by kernel_rfl)
 refine X0t ?_ (by kernel_rfl)
 refine X0t ?_ (by kernel_rfl)
 refine X0t ?_ (by kernel_rfl)
 refine X0t ?_ (by kernel_rfl)
 refine X0t ?_ j0d
 refine X0t ?_ v0c
 refine X0t ?_ x0b
 refine X0t ?_ w0z
 refine X0t ?_ z2a
 refine X0t ?_ (by kernel_rfl)
 refine X0t ?_ q2y
 refine X0t ?_ (by kernel_rfl)
 refine X0t ?_ (by kernel_rfl)
 refine X0t ?_ (by kernel_rfl)
 refine X0t ?_ U1j
 refine X0t ?_ w1v
 kernel_rfl
theorem varySums_funcNamed :Tryz.pinned.checked.prog.funcNamed "fathomline/fathomlinelaw16.VarySums" =some 10:=by kernel_rfl
theorem K1o :Rows.VarySumsUptoSaid:=
 OpenClaim.holds_of_cond 10 Tryz.f10 rfl rfl rfl rfl rfl rfl rfl ⟨rfl,rfl,rfl,rfl,rfl⟩ rfl rfl rfl rfl rfl varySums_funcNamed Tryz.func10 y0v
  (of_decide_eq_true (by kernel_rfl)) (by unfold Func.isWrapper;first | (rw [if_pos (by decide+kernel)];kernel_rfl) | (rw [if_neg (by decide+kernel)];exact⟨rfl,rfl⟩))
  (fun os started H enc _ F=>by rw [OpenClaim.pre_eq_preRow];exact y0u os started H enc F)
theorem X1g (f:FuncId) (fn:Func) (hf:Tryz.pinned.checked.prog.funcNamed "fathomline/fathomlinelaw16.VarySums" =some f) (hfn:Tryz.pinned.checked.prog.funcs[f]?=some fn):
 false=Tryz.pinned.checked.prog.looks []∧ ∀(j:Nat) t,fn.params[j]?=some t→Tryz.pinned.checked.prog.wantsStandIn t=false:=by
 obtain rfl:f=10:=Option.some.inj (varySums_funcNamed.symm.trans hf)|>.symm
 obtain rfl:fn=Tryz.f10:=(Option.some.inj (Tryz.func10.symm.trans hfn)).symm
 refine⟨by kernel_rfl,fun j t ht=> ?_⟩
 have hm:t∈Tryz.f10.params.toList:=by
  have:=Array.mem_of_getElem? ht
  simpa using this
 have hall:(Tryz.f10.params.toList.all fun u=> !Tryz.prog.wantsStandIn u)=true:=by kernel_rfl
 have h2:=List.all_eq_true.1 hall t hm
 exact(show Tryz.prog.wantsStandIn t=false by simpa using h2)
theorem varySums_holds :Rows.VarySumsUptoCardSaid:=
 Claim7.holds_tied_plain_at .later [] _ _ _ _ K1o (fun _ h=>by cases h) (by kernel_rfl) (fun _ h=>by cases h) varySumsUpto_row_tie rfl ⟨rfl,rfl⟩ (by kernel_rfl) rfl X1g (by kernel_rfl)
end Go.Proofs.YtofoadghajnglaaGreatDoor
