/- Walk. -/
import Derived.Test.YtfoiagbimnghjaaGreatDoorZHI
import Derived.Test.YtfoiagbimnghjaaGreatDoorZBL
import Derived.Test.YtfoiagbimnghjaaGreatDoorCards
import Derived.Test.YtfoiagbimnghjaaGreatDoorTie
import Derived.SevenTiedAt
set_option linter.all false
section
set_option maxRecDepth 100000
namespace Go.Pv
open Go.Proofs
theorem j0j (l:Lu)(i k:Nat)(st:Qd)(h:atD st k l i)(hi:i<=1000000000000):PCalls Tryz.prog 60 [.gp k 0] st (fun r st'=> ∃neg m e,m<64/\e<9/\r= .agg (Qg (Vq neg m e))/\st'=st.set k (dk l (i+1))):=by refine Qj Tryz.func60 fun E=> ?_;refine(K1i l i k st h hi).q ?_;have hv:=(l.getD i 0).toNat_lt;obtain⟨v,hve⟩: ∃v,v=(l.getD i 0).toNat:=⟨_,rfl⟩;rw[<-hve] at hv;have s1:Xm .u64 (Zq .u64 (v:Int) 1) 63=((UInt64.ofNat (v/2&&&63)).toNat:Int):=(by rw[show(1:Int)=((1:Nat):Int) from rfl,V4 _ _ oG,show(63:Int)=((63:Nat):Int) from rfl,xJ _ _ oG oG,Xn _ (D1 Nat.and_le_right oG)]);have s2:IntKind.i64.wrap (IntKind.i64.wrap ((Zq .u64 (v:Int) 7).tmod 9)-6)=((v/128 % 9:Nat):Int)-6:=(by rw[show(7:Int)=((7:Nat):Int) from rfl,V4 _ _ oG,show(9:Int)=((9:Nat):Int) from rfl,G8,Zd _ oG,Q4 _ oG oG]);simp-dsimp only[go_sem,<-hve,s1,s2];refine(J1p _ [UInt64.ofNat (v/2&&&63)] _ _ (by simp) oG oG).Q ?_;exact⟨_,v/2&&&63,v/128 % 9,D1 Nat.and_le_right (by decide),CG _ (by decide),rfl⟩
theorem x0i {c:Nm}(h:KB c=true):Qh c=true/\Qh (J5 c)=true:=by obtain⟨_,_,_,_,_,⟨_,h6,h7⟩,_,_,_⟩:=Ux h;exact⟨by have:=Uw 0 default c;rwa [h6] at this,by have:=Uw 0 Q7 c;rwa [h7] at this⟩
set_option maxHeartbeats 16000000 in
theorem x0z (l:Lu):PCalls Tryz.prog 9 [.sl .no (Qf l)] [] (fun r st'=>r= .sc (.bool true)):=by
 refine Ql none Tryz.func9 rfl fun E=>Qe (Qb ?_);refine Qr ?_;refine Qa ?_;refine(Y1m _).Q ?_;refine Qa ?_;refine(k1e l _).w ?_;rintro st rfl;refine Qr ?_;refine Qa ?_;refine(j0j l 0 0 [dk l 0] rfl oG).mono ?_;rintro r st ⟨neg,m,e,hm,he,rfl,rfl⟩;have hc:=Z2l neg hm he;generalize Vq neg m e=c at hc⊢;obtain⟨wr,we⟩:=x0i hc;obtain⟨_,_,_,_,_,⟨h5,h6,h7⟩,h8,h9,h10⟩:=Ux hc;have wc:=QC wr;have wp:=Oz c wc;have ws:wSx k19s:=jU (by decide+kernel);have wt:wSx (t1S c):=⟨QC (x:=Q7) (by decide),QC (x:=Q7) (by decide),Mu (j8 h10)⟩;obtain⟨a,ha⟩:=Z1j hc;have c1:=fun st=>Di (Ze c) st wp;have c2:=fun st=>qI 10 (Ze c) k19s st wp ws (zq c);have c3:=fun st=>qI 10 (Ze c) (t1S c) st wp wt (zq c);have c4:=fun st=>J0a (t1S c).f 32 st wt.2.2;have c5:=fun st=>kP c Q7 st wc (QC (by decide));have c6:=fun st=>kR default c st (QC Kq) wc;have c7:=fun st=>kR Q7 c st (QC (by decide)) wc;rw[Z1m hc] at c1;rw[ha] at c2;rw[Z1h hc] at c3;rw[Z1l hc] at c4;rw[h5] at c5;rw[h6] at c6;rw[h7] at c7;refine Qr ?_;refine Qa ?_;refine(Rg c _ wc).q ?_;refine Qr ?_;refine Qa ?_;refine(c1 _).q ?_;have z0:((0:Int) !=0)=false:=rfl;have z9:((9:Int) !=0)=true:=rfl;have z8:((9:Int)==9)=true:=rfl;refine Qr ?_;refine Qe (Qb ?_);simp-dsimp only[go_sem,z0];refine Qa ?_;refine XK [false,false,false,false,true,true,true,false,true] 3 0
  (fun n z=> ∃(k:Nat) (s:Sx),n=1-k/\((k=0/\s=k19s)\/(k=1/\s=t1S c))/\z=⟨[.junk,.junk,.junk,.junk,.lp 0 0,.lp 1 0,.lp 2 0,.junk,.sc (.int .i64 (k:Nat))]++jk 116,[Qg c,XO (Ze c),JM s],[],[dk l 1]⟩) 1 ?_ ?_
 refine Qr ?_;exact⟨0,k19s,rfl,.inl ⟨rfl,rfl⟩,rfl⟩;rintro n z ⟨k,s,rfl,hks,rfl⟩;have hk:k<=1:=oG;have dk5:decide ((k:Int)<5)=true:=q_h oG;refine Qe (Qb ?_);simp-dsimp only[go_sem,dk5];refine Qe (Xx ?_);refine Qa ?_;rcases hks with ⟨rfl,rfl⟩ | ⟨rfl,rfl⟩;rotate_left;refine(c3 _).q ?_;refine Qr ?_;refine Qe (Qb ?_);simp-dsimp only[go_sem,z9,z8];refine(c2 _).q ?_;refine Qr ?_;refine Qe (Qb ?_);simp-dsimp only[go_sem,z0];refine Qa ?_;refine(c4 _).q ?_;refine Qr ?_;refine Qa ?_;refine(c5 _).q ?_;refine Qr ?_;have hb:(Ze c).box= [⟨default,Q7⟩]:=rfl;have hb2:Qk [⟨default,Q7⟩]= [.agg (Qn ⟨default,Q7⟩)]:=rfl;refine VE [false,false,false,false,true,true,true,false,true,false,true,false,true,true,true,true,true,true] 7 0 (fun z=>z=⟨[.junk,.junk,.junk,.junk,.lp 0 0,.lp 1 0,.lp 2 0,.junk,.sc (.int .i64 ((0:Nat):Int)),.junk,.lp 4 0,.junk,.sl .no (Qk [⟨c,J5 c⟩]),.sc (.int .i64 0),.lp 5 0,.sc (.int .i64 0),.lp 6 0,.sc (.int .i64 0)]++jk 107,[Qg c,XO (Ze c),JM k19s,xm ⟨1,1,default,Q7,a⟩,JM (t1S c),Qg c,Qg c],[],[dk l 1]⟩) ?_ ?_
 . refine Q5 125 (Qi [0,1,2,3,4,5] (.alt (.step 6 [1] (Qi [7,8,9] (.step 10 [1,4,5] (.step 11 [] (.step 12 [] (.done)))))) (.step 10 [1,4,5] (.step 6 [1] (Qi [7,8,9,11,12] .done))))) ?_;simp-dsimp only[go_sem,hb,hb2];refine And.intro ?_ ?_
   all_goals
    refine(c6 _).q ?_;refine Qr ?_;rfl
 rintro z rfl;refine VE [false,false,false,false,true,true,true,false,true,false,true,false,true,true,true,true,true,true,true,true] 8 0 (fun z=>z=⟨[.junk,.junk,.junk,.junk,.lp 0 0,.lp 1 0,.lp 2 0,.junk,.sc (.int .i64 ((0:Nat):Int)),.junk,.lp 4 0,.junk,.sl .no (Qk [⟨c,J5 c⟩]),.sc (.int .i64 0),.lp 5 0,.sc (.int .i64 0),.lp 6 0,.sc (.int .i64 0),.lp 7 0,.sc (.int .i64 0)]++jk 105,[Qg c,XO (Ze c),JM k19s,xm ⟨1,1,default,Q7,a⟩,JM (t1S c),Qg c,Qg c,Qg (J5 c)],[],[dk l 1]⟩) ?_ ?_
 . refine Q5 125 (Qi [0,1,2,3,4,5] (.alt (.step 6 [1] (Qi [7,8,9] (.step 10 [1,4,5] (.step 11 [] (.step 12 [] (.done)))))) (.step 10 [1,4,5] (.step 6 [1] (Qi [7,8,9,11,12] .done))))) ?_;simp-dsimp only[go_sem,hb,hb2];refine And.intro ?_ ?_
   all_goals
    refine(c7 _).q ?_;refine Qr ?_;rfl
 rintro z rfl;refine Qe (Qe ?_);refine Q5 125 (Qi [0,1,2,3,4,5,6,7,8,9,10,11,12,13,14,15,16,17,18,19,20,21,22,23,24,25,26,27,28,29,30,31,32,33,34] .done) ?_;have z1:(((1:Nat):Int) !=1)=false:=rfl;have hb3:Qk [⟨c,J5 c⟩]= [.agg (Qn ⟨c,J5 c⟩)]:=rfl;have wi:wI ⟨c,J5 c⟩:=⟨wc,QC we⟩;simp-dsimp only[go_sem,z0,z1,hb3];refine(v9 _ _ _ wi wc).q ?_;rw[h8];simp-dsimp only[go_sem,z0,z1,hb3];refine(v9 _ _ _ wi (QC we)).q ?_;rw[h9];simp-dsimp only[go_sem,z0,z1,hb3];refine Qq ?_;refine Qq ?_;refine Qq ?_;exact⟨0,by decide,1,t1S c,rfl,.inr ⟨rfl,rfl⟩,rfl⟩
end Go.Pv
end
section
set_option maxRecDepth 100000
namespace Go.Proofs.YtfoiagbimnghjaaGreatDoor
open Go.Pv Go.ChangeShapes Go.WideShapes Go.ChangeAt Go.RowKit
open Go.Proofs.YtfoiagbimnghjaaGreatDoor.Rows (uptoBulk uptoBulkAll)
theorem x0x (H:Type)(enc:TypeId×Value->H)(W:Lw)(base:Nat)(args:Lb)(ds gs:List (DataW H))(before:List MemPlace)
 (hval: ∀(j:Nat) t v,Tryz.f9.params[j]?=some t->args[j]?=some v->Value.okWide Tryz.prog W .any base t v)
 (hW:DataW.Whole enc Tryz.prog Tryz.f9.params.toList Rows.stepStraightSpec.vars false W args.toList ds gs before) (hk:Rows.uptoSmall H (ds++gs)=true) (hL:laidMetH Tryz.prog Rows.stepStraightUptoRow.laid W):
 Calls Tryz.prog 9 args W fun e W'=> ∃v,e= .returned v/\Rows.stepStraightSpec.post enc Tryz.prog Tryz.f9 false true false false W args v W':=by
 have hW':=hW;obtain⟨p,q,hA0,hV,rfl,hfz,hnd⟩:=hW;have hA:DataW.TrodAll enc Tryz.prog W 0 (fun _=>true) true Tryz.f9.params.toList args.toList ds p:=hA0;rw[Tryz.params9] at hA hval;obtain⟨v0,vs0,d0,ds0,p0,q0,ha,rfl,rfl,h0,hA0⟩:=trodAll_cons hA;obtain⟨rfl,rfl,rfl⟩:=trodAll_nil hA0;obtain rfl:args= #[v0]:=(by cases args;simp_all);obtain⟨rfl,rfl⟩:=trodVars_none hV;have hb:=y1g hk;have b0:uptoBulk d0<=1048576:=B7 (W0s (by simp)) hb;obtain⟨x0,r0,o0⟩:=Q2w q0k Tryz.underlying22 (hval 0 22 v0 rfl rfl) h0;refine(w1x (z0k hL) (x0z x0) (w:=W) ⟨rfl,fun j hj=> ?_⟩).mono fun e W' ⟨he,hbl⟩=>⟨_,he,Q1u Y1l ?_ rfl hW' rfl hbl rfl Tryz.underlying4⟩
 match j,hj with
 | 0,_=>exact r0
 rw[Tryz.params9];exact q_b (by kernel_rfl)
theorem x0u (os:Os):laidMet Tryz.prog Rows.stepStraightUptoRow.laid ((j6 os).forCall (fun _ _=>0) ⟨#[],#[.slice none 0 0],[]⟩).memory:=
 laidMet_of_run' 8 (by kernel_rfl) (by kernel_rfl)
theorem x0r (os:Os){H:Type}(enc:TypeId×Value->H): ∃places,DataW.whole enc Tryz.prog ((j6 os).forCall (fun _ _=>0) ⟨#[],#[.slice none 0 0],[]⟩).memory Tryz.f9.params.toList Rows.stepStraightSpec.vars false #[.slice none 0 0].toList 8=some ([.nil],[],places):=
 ⟨[],by kernel_rfl⟩
theorem x0t (os:Os)(started:os.Started)(H:Type)(enc:TypeId×Value->H)(F:Stop.Interp):
 ReturnsInHanded {} Tryz.checked os 9 .any ((Rows.OpenSpec.upto Rows.stepStraightSpec).preRow enc Tryz.prog Tryz.f9 Rows.stepStraightUptoRow.domain false Rows.stepStraightUptoRow.laid) (((Rows.OpenSpec.upto Rows.stepStraightSpec).at F).post enc Tryz.prog Tryz.f9 false true false false):=by
 obtain⟨places,hx⟩:=x0r os enc;refine returnsInHanded_of_row (C:=Tryz.checked) (s:=Rows.OpenSpec.upto Rows.stepStraightSpec) X1e started (by kernel_rfl) Tryz.func9
  (witness_row_at (enc:=enc) (C:=Tryz.checked) false (j6 os) #[.slice none 0 0] rfl (by kernel_rfl) (by kernel_rfl) (by kernel_rfl)
   (OpenSpec.preRow_of_cond 8 hx (by kernel_rfl) (fun k hk=>by cases hk;kernel_rfl) (by kernel_rfl) (x0u os))) ?_
 intro W base args ds gs before hval hW _ hcond _ hL _ _;exact x0x H enc W base args ds gs before hval hW (hcond _ rfl) hL
theorem x0v :(Rows.stepStraightUptoRow.inPlace==Tryz.pinned.checked.prog.inPlace 9)=true:=by kernel_rfl
theorem x0o :(Rows.stepStraightUptoRow.unfollowed==Tryz.pinned.checked.prog.unfollowed 9)=true:=by kernel_rfl
theorem x0q :(Rows.stepStraightUptoRow.recurses==Tryz.pinned.checked.prog.recurses 9)=true:=by kernel_rfl
theorem x0n :(Rows.stepStraightUptoRow.named==Tryz.pinned.checked.prog.varsNamed 9)=true:=by kernel_rfl
set_option maxHeartbeats 16000000 in
theorem x0y :joinedFacts Tryz.pinned.checked.prog 9 Tryz.f9 (Rows.OpenSpec.upto Rows.stepStraightSpec).bare Rows.stepStraightUptoRow=true:=by
 unfold joinedFacts;refine ZV ?_ (by kernel_rfl);refine ZV ?_ (by kernel_rfl);refine ZV ?_ (by kernel_rfl);refine ZV ?_ (by kernel_rfl);refine ZV ?_ (by kernel_rfl);refine ZV ?_ Y1u;refine ZV ?_ Y1y;refine ZV ?_ Y1x;refine ZV ?_ (by kernel_rfl);refine ZV ?_ Y1s;refine ZV ?_ (by kernel_rfl);refine ZV ?_ (by kernel_rfl);refine ZV ?_ (by kernel_rfl);refine ZV ?_ (by kernel_rfl);refine ZV ?_ (by kernel_rfl);refine ZV ?_ (by kernel_rfl);refine ZV ?_ (by kernel_rfl);refine ZV ?_ (by kernel_rfl);refine ZV ?_ (by kernel_rfl);refine ZV ?_ x0n;refine ZV ?_ x0q;refine ZV ?_ x0o;refine ZV ?_ x0v;refine ZV ?_ Y1w;refine ZV ?_ (by kernel_rfl);refine ZV ?_ Y1r;refine ZV ?_ (by kernel_rfl);refine ZV ?_ (by kernel_rfl);refine ZV ?_ (by kernel_rfl);refine ZV ?_ Y1t;refine ZV ?_ Y1v
 kernel_rfl
theorem stepStraight_funcNamed :Tryz.pinned.checked.prog.funcNamed "fathomline/fathomlinelaw19.StepStraight" =some 9:=by kernel_rfl
theorem x0p :Rows.StepStraightUptoSaid:=
 OpenClaim.holds_of_cond 9 Tryz.f9 rfl rfl rfl rfl rfl rfl rfl ⟨rfl,rfl,rfl,rfl,rfl⟩ rfl rfl rfl rfl rfl stepStraight_funcNamed Tryz.func9 x0y
  (q_b (by kernel_rfl)) (by unfold Func.isWrapper;first | (rw[BC (by decide+kernel)];kernel_rfl) | (rw[BA (by decide+kernel)];exact⟨rfl,rfl⟩))
  (fun os started H enc _ F=>by rw[OpenClaim.pre_eq_preRow];exact x0t os started H enc F)
theorem x0s (f:FuncId)(fn:Func)(hf:Tryz.pinned.checked.prog.funcNamed "fathomline/fathomlinelaw19.StepStraight" =some f)(hfn:Tryz.pinned.checked.prog.funcs[f]?=some fn):
 false=Tryz.pinned.checked.prog.looks []/\ ∀(j:Nat) t,fn.params[j]?=some t->Tryz.pinned.checked.prog.wantsStandIn t=false:=by
 obtain rfl:f=9:=Option.some.inj (stepStraight_funcNamed.symm.trans hf)|>.symm;obtain rfl:fn=Tryz.f9:=(Option.some.inj (Tryz.func9.symm.trans hfn)).symm;refine⟨by kernel_rfl,fun j t ht=> ?_⟩;have hm:t∈Tryz.f9.params.toList:=by have:=Array.mem_of_getElem? ht;simpa using this
 have hall:(Tryz.f9.params.toList.all fun u=> !Tryz.prog.wantsStandIn u)=true:=(by kernel_rfl);have h2:=List.all_eq_true.1 hall t hm;exact(show Tryz.prog.wantsStandIn t=false by simpa using h2)
end Go.Proofs.YtfoiagbimnghjaaGreatDoor
end
