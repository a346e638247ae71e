/- For any field, box, interval, order and precision of bulk at most 1048576 the law VaryAny returns true, and its arguments read as before. -/
import Derived.Test.YtofoadghajnglaaGreatDoorZGE
import Derived.Test.YtofoadghajnglaaGreatDoorZBK
import Derived.Test.YtofoadghajnglaaGreatDoorZBL
import Derived.Test.YtofoadghajnglaaGreatDoorCards
import Derived.Test.YtofoadghajnglaaGreatDoorTie
import Derived.SevenTiedAt
set_option linter.unusedVariables false
set_option linter.unusedSimpArgs false
set_option maxRecDepth 100000
namespace Go.Proofs.YtofoadghajnglaaGreatDoor
open Go.Pv Go.ChangeShapes Go.WideShapes Go.ChangeAt Go.RowKit
open Go.Proofs.YtofoadghajnglaaGreatDoor.Rows (uptoBulk uptoBulkAll)
theorem Q1p (H:Type) (enc:TypeId×Value->H) (W:World) (base:Nat) (args:Array Value) (ds gs:List (DataW H)) (before:List MemPlace)
 (hval: ∀(j:Nat) t v,Tryz.f8.params[j]?=some t->args[j]?=some v->Value.okWide Tryz.prog W .any base t v)
 (hW:DataW.Whole enc Tryz.prog Tryz.f8.params.toList Rows.varyAnySpec.vars false W args.toList ds gs before) (hk:Rows.uptoSmall H (ds++gs)=true) (hL:laidMetH Tryz.prog Rows.varyAnyUptoRow.laid W):
 Calls Tryz.prog 8 args W fun e W'=> ∃v,e= .returned v/\Rows.varyAnySpec.post enc Tryz.prog Tryz.f8 false true false false W args v W':=by
 have hW':=hW;obtain⟨p,q,hA0,hV,rfl,hfz,hnd⟩:=hW;have hA:DataW.TrodAll enc Tryz.prog W 0 (fun _=>true) true Tryz.f8.params.toList args.toList ds p:=hA0;rw [Tryz.params8] at hA hval;obtain⟨v0,vs0,d0,ds0,p0,q0,ha,rfl,rfl,h0,hA0⟩:=trodAll_cons hA;obtain⟨v1,vs1,d1,ds1,p1,q1,rfl,rfl,rfl,h1,hA1⟩:=trodAll_cons hA0;obtain⟨v2,vs2,d2,ds2,p2,q2,rfl,rfl,rfl,h2,hA2⟩:=trodAll_cons hA1;obtain⟨v3,vs3,d3,ds3,p3,q3,rfl,rfl,rfl,h3,hA3⟩:=trodAll_cons hA2;obtain⟨v4,vs4,d4,ds4,p4,q4,rfl,rfl,rfl,h4,hA4⟩:=trodAll_cons hA3;obtain⟨rfl,rfl,rfl⟩:=trodAll_nil hA4;obtain rfl:args= #[v0,v1,v2,v3,v4]:=(by cases args;simp_all);obtain⟨rfl,rfl⟩:=trodVars_none hV;have hb:=X2y hk;have b0:uptoBulk d0<=1048576:=Nat.le_trans (H0z (by simp)) hb;have b1:uptoBulk d1<=1048576:=Nat.le_trans (H0z (by simp)) hb;have b2:uptoBulk d2<=1048576:=Nat.le_trans (H0z (by simp)) hb;have b3:uptoBulk d3<=1048576:=Nat.le_trans (H0z (by simp)) hb;have b4:uptoBulk d4<=1048576:=Nat.le_trans (H0z (by simp)) hb;obtain⟨x0,r0,o0⟩:=H2i Z3r Tryz.underlying65 (hval 0 65 v0 rfl rfl) h0;obtain⟨x1,r1,o1⟩:=H2i Q4h Tryz.underlying47 (hval 1 47 v1 rfl rfl) h1;obtain⟨x2,r2,o2⟩:=V3o tyIv Tryz.underlying52 (hval 2 52 v2 rfl rfl) h2;obtain⟨x3,rfl,o3⟩:=H2j Tryz.underlying3 (hval 3 3 v3 rfl rfl) h3;obtain⟨x4,rfl,o4⟩:=H2j Tryz.underlying3 (hval 4 3 v4 rfl rfl) h4;refine(k1q (q2x hL) ((J2q x0 x1 x2 x3 x4 [] (y3v (by omega) o0) (y3w (by omega) o1) (U3b (by omega) o2)).mono fun _ _ h=>h.1) (w:=W) ⟨rfl,fun j hj=> ?_⟩).mono fun e W' ⟨he,hbl⟩=>⟨_,he,Z2k j1n ?_ rfl hW' rfl hbl rfl Tryz.underlying4⟩
 match j,hj with
 | 0,_=>exact r0
 | 1,_=>exact r1
 | 2,_=>exact r2
 | 3,_=>exact .sc _
 | 4,_=>exact .sc _
 rw [Tryz.params8];exact of_decide_eq_true (by kernel_rfl)
theorem G1h (os:Os):laidMet Tryz.prog Rows.varyAnyUptoRow.laid ((Y1h os).forCall (fun _ _=>0) ⟨#[],#[.slice none 0 0,.slice none 0 0,.agg #[.bool false,.int .i64 0,.slice none 0 0,.bool false,.int .i64 0,.slice none 0 0],.int .i64 0,.int .i64 0],[]⟩).memory:=
 laidMet_of_run' 8 (by kernel_rfl) (by kernel_rfl)
theorem Y1b (os:Os) {H:Type} (enc:TypeId×Value->H): ∃places,DataW.whole enc Tryz.prog ((Y1h os).forCall (fun _ _=>0) ⟨#[],#[.slice none 0 0,.slice none 0 0,.agg #[.bool false,.int .i64 0,.slice none 0 0,.bool false,.int .i64 0,.slice none 0 0],.int .i64 0,.int .i64 0],[]⟩).memory Tryz.f8.params.toList Rows.varyAnySpec.vars false #[.slice none 0 0,.slice none 0 0,.agg #[.bool false,.int .i64 0,.slice none 0 0,.bool false,.int .i64 0,.slice none 0 0],.int .i64 0,.int .i64 0].toList 8=some ([.nil,.nil,.agg [.agg [.lit (.bool false),.lit (.int .i64 0),.nil],.agg [.lit (.bool false),.lit (.int .i64 0),.nil]],.lit (.int .i64 0),.lit (.int .i64 0)],[],places):=
 ⟨[],by kernel_rfl⟩
theorem K1p (os:Os) (started:os.Started) (H:Type) (enc:TypeId×Value->H) (F:Stop.Interp):
 ReturnsInHanded {} Tryz.checked os 8 .any ((Rows.OpenSpec.upto Rows.varyAnySpec).preRow enc Tryz.prog Tryz.f8 Rows.varyAnyUptoRow.domain false Rows.varyAnyUptoRow.laid) (((Rows.OpenSpec.upto Rows.varyAnySpec).at F).post enc Tryz.prog Tryz.f8 false true false false):=by
 obtain⟨places,hx⟩:=Y1b os enc;refine returnsInHanded_of_row (C:=Tryz.checked) (s:=Rows.OpenSpec.upto Rows.varyAnySpec) V2z started (by kernel_rfl) Tryz.func8
  (witness_row_at (enc:=enc) (C:=Tryz.checked) false (Y1h os) #[.slice none 0 0,.slice none 0 0,.agg #[.bool false,.int .i64 0,.slice none 0 0,.bool false,.int .i64 0,.slice none 0 0],.int .i64 0,.int .i64 0] rfl (by kernel_rfl) (by kernel_rfl) (by kernel_rfl)
   (OpenSpec.preRow_of_cond 8 hx (by kernel_rfl) (fun k hk=>by cases hk;kernel_rfl) (by kernel_rfl) (G1h os))) ?_
 intro W base args ds gs before hval hW _ hcond _ hL _ _;exact Q1p H enc W base args ds gs before hval hW (hcond _ rfl) hL
theorem Z1t :(Rows.varyAnyUptoRow.inPlace==Tryz.pinned.checked.prog.inPlace 8)=true:=by kernel_rfl
theorem k0w :(Rows.varyAnyUptoRow.unfollowed==Tryz.pinned.checked.prog.unfollowed 8)=true:=by kernel_rfl
theorem Q1o :(Rows.varyAnyUptoRow.recurses==Tryz.pinned.checked.prog.recurses 8)=true:=by kernel_rfl
theorem w0r :(Rows.varyAnyUptoRow.named==Tryz.pinned.checked.prog.varsNamed 8)=true:=by kernel_rfl
set_option maxHeartbeats 4000000 in
theorem K1q :joinedFacts Tryz.pinned.checked.prog 8 Tryz.f8 (Rows.OpenSpec.upto Rows.varyAnySpec).bare Rows.varyAnyUptoRow=true:=by
 unfold joinedFacts;refine J0l ?_ (by kernel_rfl);refine J0l ?_ (by kernel_rfl);refine J0l ?_ (by kernel_rfl);refine J0l ?_ (by kernel_rfl);refine J0l ?_ (by kernel_rfl);refine J0l ?_ k2l;refine J0l ?_ k2o;refine J0l ?_ k2n;refine J0l ?_ (by kernel_rfl);refine J0l ?_ H1w;refine J0l ?_ (by kernel_rfl);refine J0l ?_ (by kernel_rfl);refine J0l ?_ (by kernel_rfl);refine J0l ?_ (by kernel_rfl);refine J0l ?_ (by kernel_rfl);refine J0l ?_ (by kernel_rfl);refine J0l ?_ (by kernel_rfl);refine J0l ?_ (by kernel_rfl);refine J0l ?_ (by kernel_rfl);refine J0l ?_ w0r;refine J0l ?_ Q1o;refine J0l ?_ k0w;refine J0l ?_ Z1t;refine J0l ?_ k2m;refine J0l ?_ (by kernel_rfl);refine J0l ?_ k2k;refine J0l ?_ (by kernel_rfl);refine J0l ?_ (by kernel_rfl);refine J0l ?_ (by kernel_rfl);refine J0l ?_ H1x;refine J0l ?_ X2c
 kernel_rfl
theorem varyAny_funcNamed :Tryz.pinned.checked.prog.funcNamed "fathomline/fathomlinelaw16.VaryAny" =some 8:=by kernel_rfl
theorem G1g :Rows.VaryAnyUptoSaid:=
 OpenClaim.holds_of_cond 8 Tryz.f8 rfl rfl rfl rfl rfl rfl rfl ⟨rfl,rfl,rfl,rfl,rfl⟩ rfl rfl rfl rfl rfl varyAny_funcNamed Tryz.func8 K1q
  (of_decide_eq_true (by kernel_rfl)) (by unfold Func.isWrapper;first | (rw [if_pos (by decide+kernel)];kernel_rfl) | (rw [if_neg (by decide+kernel)];exact⟨rfl,rfl⟩))
  (fun os started H enc _ F=>by rw [OpenClaim.pre_eq_preRow];exact K1p os started H enc F)
theorem Y1c (f:FuncId) (fn:Func) (hf:Tryz.pinned.checked.prog.funcNamed "fathomline/fathomlinelaw16.VaryAny" =some f) (hfn:Tryz.pinned.checked.prog.funcs[f]?=some fn):
 false=Tryz.pinned.checked.prog.looks []/\ ∀(j:Nat) t,fn.params[j]?=some t->Tryz.pinned.checked.prog.wantsStandIn t=false:=by
 obtain rfl:f=8:=Option.some.inj (varyAny_funcNamed.symm.trans hf)|>.symm;obtain rfl:fn=Tryz.f8:=(Option.some.inj (Tryz.func8.symm.trans hfn)).symm;refine⟨by kernel_rfl,fun j t ht=> ?_⟩;have hm:t∈Tryz.f8.params.toList:=by have:=Array.mem_of_getElem? ht;simpa using this
 have hall:(Tryz.f8.params.toList.all fun u=> !Tryz.prog.wantsStandIn u)=true:=(by kernel_rfl);have h2:=List.all_eq_true.1 hall t hm;exact(show Tryz.prog.wantsStandIn t=false by simpa using h2)
theorem varyAny_holds :Rows.VaryAnyUptoCardSaid:=
 Claim7.holds_tied_plain_at .later [] _ _ _ _ G1g (fun _ h=>by cases h) (by kernel_rfl) (fun _ h=>by cases h) varyAnyUpto_row_tie rfl ⟨rfl,rfl⟩ (by kernel_rfl) rfl Y1c (by kernel_rfl)
end Go.Proofs.YtofoadghajnglaaGreatDoor
