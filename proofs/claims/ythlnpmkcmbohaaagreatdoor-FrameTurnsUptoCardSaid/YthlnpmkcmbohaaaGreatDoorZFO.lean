/- Parts of the walk: N156, N157. -/
import Derived.Test.YthlnpmkcmbohaaaGreatDoorZFM
set_option linter.unusedVariables false
set_option linter.unusedSimpArgs false
section
set_option maxRecDepth 100000
namespace Go.Pv
open Go.Proofs
set_option maxHeartbeats 4000000 in
theorem W1m (q:List (List Nm))(st:Qf)(hw:wQ q):PR 16 [.sl .no (Z8 q)] st (.sl (.fresh 1) (J5 (Vd q))):=by
 obtain⟨hl,hw⟩:=hw;refine U2m Tryz.func16 fun E=> ?_;refine QQ 3 1 ?_;refine G2s ?_;refine Qd [true,false,false,true,true] 0 1
  (fun m s=> ∃i,m=q.length-i/\i<=q.length/\s=⟨[.sl .no (Z8 q),.junk,.junk,.sl (.own 0) (J5 (Vd (q.take i))),.sc (.int .i64 (i:Nat))]++List.replicate 33 .junk,[],[(i,1)],st⟩) q.length ?_ ?_
 refine G2s ?_;exact⟨0,oG,oG,rfl⟩;rintro m s ⟨i,rfl,hi,rfl⟩;refine U2n (fun h1=> ?_) (fun h1=> ?_);rotate_left;have hge:i=q.length:=(oF h1);subst hge;refine G2s ?_;refine U2i ?_;rw[B0,BC (by simp[Vd])];have hlt:i<q.length:=(oT h1);have x1:=Zw i oG;have eQ:=Xh q i hlt;have hwi:=hw i hlt;have hli:=hwi.1;have lv:(Vd (q.take i)).length=i:=(by unfold Vd;rw[BR,BX];omega);refine G2s ?_;refine QQ 5 3 ?_;refine G2s ?_;refine Qd [true,false,false,true,true,true,true] 0 2
  (fun m s=> ∃j,m=(q.getD i []).length-j/\j<=(q.getD i []).length/\s=⟨[.sl .no (Z8 q),.junk,.junk,.sl (.own 0) (J5 (Vd (q.take i))),.sc (.int .i64 (i:Nat)),.sl (.own 1) (XN (((q.getD i []).take j).map ofN)),.sc (.int .i64 (j:Nat))]++List.replicate 31 .junk,[],[(i,1),(j,3)],st⟩) (q.getD i []).length ?_ ?_
 refine G2s ?_;exact⟨0,oG,oG,rfl⟩;rintro m s ⟨j,rfl,hj,rfl⟩;simp-dsimp only[go_sem,eQ];refine⟨oG,?_⟩;refine ck (fun h2=> ?_) (fun h2=> ?_);rotate_left
 . have hge:j=(q.getD i []).length:=oF h2
   subst hge;have hsn:Vd (q.take (i+1))=Vd (q.take i)++ [(q.getD i []).map ofN]:=by unfold Vd;rw[V9 [] q hlt,E5];rfl
   refine G2s ?_;refine Qa ?_;simp-dsimp only[go_sem,lv];refine⟨⟨oG,oG⟩,Qa ?_⟩;simp-dsimp only[go_sem,x1];refine⟨q.length-(i+1),oG,i+1,rfl,oG,?_⟩;rw[hsn,B0]
   try simp
 have hjn:j<(q.getD i []).length:=oT h2
 have x2:=Zw j oG;have eN:=QG (q.getD i []) j hjn;have hwj:=hwi.2 j hjn;have lj:(((q.getD i []).take j).map ofN).length=j:=(by rw[BR,BX];omega);unfold wN at hwj;simp-dsimp only[go_sem,eQ,eN];refine⟨oG,⟨oG,hjn⟩,?_⟩;refine(yn _ _ oG).w ?_;rintro st' rfl;have lj2:((q.getD i []).take j).length=j:=(by rw[BX];omega);have hsn:((q.getD i []).take (j+1)).map ofN=((q.getD i []).take j).map ofN++ [ofN ((q.getD i []).getD j default)]:=by rw[V9 default _ hjn,E5];rfl
 simp-dsimp only[go_sem,x2,lj,lj2];refine⟨⟨oG,oG⟩,(q.getD i []).length-(j+1),oG,j+1,rfl,oG,?_⟩;rw[hsn];simp[XN,Vb]
theorem v0j (n r:Nat):(but n r).length<=n:=by unfold but;exact B7 (List.length_filter_le _ _) (by simp)
set_option maxHeartbeats 4000000 in
theorem z0o (u:List (List Vl))(n r c:Nat)(st:Qf)(hu:u.length=n)(hr: ∀i,i<n->(u.getD i []).length=n)(h4:n<=4):PCalls Tryz.prog 70 [.sl .no (J5 u),.sc (.int .i64 r),.sc (.int .i64 c)] st (fun res st'=>res= .sl (.fresh 1) (J5 (U0j u n (but n r) c))/\st'=st):=by
 refine U2m Tryz.func70 fun E=> ?_;refine QQ 7 1 ?_;refine G2s ?_;refine Qd [true,true,true,false,false,false,false,true,true] 0 1
  (fun m s=> ∃i,m=n-i/\i<=n/\s=⟨[.sl .no (J5 u),.sc (.int .i64 r),.sc (.int .i64 c),.junk,.junk,.junk,.junk,.sl (.own 0) (J5 (U0j u n (but i r) c)),.sc (.int .i64 (i:Nat))]++List.replicate 35 .junk,[],[((but i r).length,1)],st⟩) n ?_ ?_
 refine G2s ?_;exact⟨0,oG,oG,rfl⟩;rintro m s ⟨i,rfl,hi,rfl⟩;have lm:(U0j u n (but i r) c).length=(but i r).length:=(by unfold U0j;rw[BR]);have bl:=v0j i r;simp-dsimp only[go_sem,hu];refine ck (fun h1=> ?_) (fun h1=> ?_);rotate_left;have hge:i=n:=(oF h1);subst hge;refine G2s ?_;refine U2i ?_;rw[BC lm.symm];have hlt:i<n:=(oT h1);have x1:=Zw i oG;have eU:=qG u i oG;have hbs:=K0l i r;refine U2n (fun h2=> ?_) (fun h2=> ?_);have hir:i=r:=Int.ofNat_inj.1 (by simpa using h2);rw[BC hir,B9] at hbs;simp-dsimp only[go_sem,x1];refine Qa ?_;simp-dsimp only[go_sem,x1];refine⟨n-(i+1),oG,i+1,rfl,oG,?_⟩;rw[hbs];have hir:i≠r:=fun e=>(by subst e;simp at h2);rw[BA hir] at hbs;refine G2s ?_;refine QQ 9 3 ?_;refine G2s ?_;refine Qd [true,true,true,false,false,false,false,true,true,true,true] 0 2
  (fun m s=> ∃j,m=n-j/\j<=n/\s=⟨[.sl .no (J5 u),.sc (.int .i64 r),.sc (.int .i64 c),.junk,.junk,.junk,.junk,.sl (.own 0) (J5 (U0j u n (but i r) c)),.sc (.int .i64 (i:Nat)),.sl (.own 1) (XN (Q1b u i (but j c))),.sc (.int .i64 (j:Nat))]++List.replicate 33 .junk,[],[((but i r).length,1),((but j c).length,3)],st⟩) n ?_ ?_
 refine G2s ?_;exact⟨0,oG,oG,rfl⟩;rintro m s ⟨j,rfl,hj,rfl⟩;have lj:(Q1b u i (but j c)).length=(but j c).length:=(by unfold Q1b;rw[BR]);have bj:=v0j j c;simp-dsimp only[go_sem,hu];refine ck (fun h3=> ?_) (fun h3=> ?_);rotate_left
 . have hge:j=n:=oF h3
   subst hge;have hsn:U0j u j (but (i+1) r) c=U0j u j (but i r) c++ [Q1b u i (but j c)]:=by unfold U0j;rw[hbs,E5];rfl
   have hbl:(but (i+1) r).length=(but i r).length+1:=by rw[hbs];simp
   refine G2s ?_;refine Qa ?_;simp-dsimp only[go_sem,lm,lj];refine⟨⟨oG,oG⟩,Qa ?_⟩;simp-dsimp only[go_sem,x1];refine⟨j-(i+1),oG,i+1,rfl,oG,?_⟩;rw[hsn,hbl]
   try simp
 have hjn:j<n:=oT h3
 have x2:=Zw j oG;have hbj:=K0l j c;refine U2n (fun h4=> ?_) (fun h4=> ?_);have hjc:j≠c:=fun e=>(by subst e;simp at h4);rw[BA hjc] at hbj;have eV:=Vz (u.getD i []) j (by rw[hr i hlt];exact hjn);have hri:=hr i hlt;have hsn:Q1b u i (but (j+1) c)=Q1b u i (but j c)++ [(u.getD i []).getD j default]:=by unfold Q1b;rw[hbj,E5];rfl
 have hbl:(but (j+1) c).length=(but j c).length+1:=by rw[hbj];simp
 simp-dsimp only[go_sem,eU,eV,hri,hu,lj,x2];refine⟨⟨oG,hlt⟩,⟨oG,hjn⟩,⟨oG,oG⟩,n-(j+1),oG,j+1,rfl,oG,?_⟩;rw[hsn,hbl];simp[XN,Vb];have hjc:j=c:=Int.ofNat_inj.1 (by simpa using h4);rw[BC hjc,B9] at hbj;simp-dsimp only[go_sem,x2];refine⟨n-(j+1),oG,j+1,rfl,oG,?_⟩;rw[hbj]
theorem RV.detS {f:Nat->Nat->Rat}{D:Nat->Rat}{j:Nat}{t v:Vl}(ht:RV (detS f D j) t)(hv:RV (f 0 j*D j) v):RV (detS f D (j+1)) (Jc t (if j % 2=1 then Xa v else v)):=by rw[Go.Pv.detS];refine RV.plus ht ?_;unfold kd;split;exact hv.turn;exact hv
set_option maxHeartbeats 8000000 in
theorem K1z {L U:Nat}(hLU:L+U<=50000): ∀(n:Nat),n<=4-> ∀(f:Nat->Nat->Rat) (u:List (List Vl)) (st:Qf),RU n f u->luF n L U f->
 PCalls Tryz.prog 23 [.sl .no (J5 u)] st (fun res st'=> ∃v,RV (Jg n f) v/\res= .agg (Vb v)/\st'=st)
 | 0,_,f,u,st,hu,hf=>by have hl:u.length=0:=hu.1;refine Qb none Tryz.func23 rfl fun E=>Qa ?_;have z0:(((u.length:Nat):Int)==0)=true:=(by rw[hl];rfl);simp-dsimp only[go_sem,z0];refine(xH 1 _ oG).w ?_;rintro st' rfl;refine G2s ?_;exact⟨_,RV.whole 1,rfl⟩
 | n+1,h4,f,u,st,hu,hf=>by
  have hl:u.length=n+1:=hu.1;have z0:(((u.length:Nat):Int)==0)=false:=CL.2 oG;have hD: ∀j,j<n+1->luQ (n*L) (n*(U+4)) (Jg n fun i k=>f (i+1) (ZI j k)):=fun j hj=>J0u n oG _ fun i k hi hk=>hf _ _ oG (YP (n:=n+1) hk);have hS:=Q0m (D:=fun j=>Jg n fun i k=>f (i+1) (ZI j k)) hf oG hD;refine Qb none Tryz.func23 rfl fun E=>Qa ?_;simp-dsimp only[go_sem,z0];refine ZN 1 ?_;refine G2s ?_;refine QF [true,false,true,true,true] 2 0
   (fun m s=> ∃(j:Nat) (t:Vl),m=n+1-j/\j<=n+1/\RV (detS f (fun j=>Jg n fun i k=>f (i+1) (ZI j k)) j) t/\
    s=⟨[.sl .no (J5 u),.junk,.lp 0 0,.lp 1 0,.sc (.int .i64 (j:Nat))]++List.replicate 31 .junk,[[.sc (.bool false),.sl .full [],.sc (.int .i64 0)],Vb t],[],st⟩) (n+1) ?_ ?_
  refine G2s ?_;have dz:Qj 0= []:=(by decide+kernel);exact⟨0,⟨false,0,0⟩,oG,oG,RV.zero,by simp[dz,ZR]⟩;rintro m s ⟨j,t,rfl,hj,ht,rfl⟩;refine Qe (Qa ?_);simp-dsimp only[go_sem,hl];refine ck (fun h1=> ?_) (fun h1=> ?_);rotate_left;have hge:j=n+1:=(oF h1);subst hge;refine G2s ?_;refine U2i ?_;exact⟨t,ht,rfl⟩;have hlt:j<n+1:=(oT h1);have x1:=Zw j oG;have hU0:=hu.2 0 oG;have eU:=qG u 0 oG;have eV:=Vz (u.getD 0 []) j (by rw[hU0.1];exact hlt);have hfv:=hU0.2 j hlt;have lf:=hf 0 j oG hlt;have sf:=hfv.sm lf oG;have cM:=(z0o u (n+1) 0 j st hl (fun i hi=>(hu.2 i hi).1) h4).plain;have hm:=hu.minor h4 (r:=0) (c:=j) oG hlt;rw[show n+1-1=n from rfl] at hm;have hfm:(fun i k=>f (ZI 0 i) (ZI j k))=fun i k=>f (i+1) (ZI j k):=rfl;rw[hfm] at hm;have cD:=K1z hLU n oG (fun i k=>f (i+1) (ZI j k)) (U0j u (n+1) (but (n+1) 0) j) st hm fun i k hi hk=>hf _ _ oG (YP (n:=n+1) hk);have hDj:=hD j hlt;have hn3:n<=3:=oG;have hnL:n*L<=3*L:=BG _ hn3;have hnU:n*(U+4)<=3*(U+4):=BG _ hn3;refine G2s ?_;refine Qe (Zp ?_);refine Xd [true,false,true,true,true,true] 3 0
   (fun s=> ∃v,RV (f 0 j*Jg n fun i k=>f (i+1) (ZI j k)) v/\s=⟨[.sl .no (J5 u),.junk,.lp 0 0,.lp 1 0,.sc (.int .i64 (j:Nat)),.lp 2 0]++List.replicate 30 .junk,[[.sc (.bool false),.sl .full [],.sc (.int .i64 0)],Vb t,Vb v],[],st⟩) ?_ ?_
  . refine G2s ?_;refine Qm QH 36 (X0p [0,1,2,3,4,5,6,7] (.alt (.step 8 [2,5] (.alt (.step 9 [2,5] (.alt (.step 10 [] (.step 11 [2,5] (.step 12 [] (.done)))) (.step 11 [2,5] (.step 10 [] (.step 12 [] (.done)))))) (.step 11 [2,5] (.step 9 [2,5] (.step 10 [] (.step 12 [] (.done))))))) (.step 11 [2,5] (.step 8 [2,5] (.step 9 [2,5] (.step 10 [] (.step 12 [] (.done)))))))) (by decide+kernel) (by simp) ?_;simp-dsimp only[go_sem,eU,eV,hU0.1,hl];refine⟨⟨oG,oG⟩,?_⟩;refine And.intro ?_ ?_
    . refine cM.w ?_;rintro st1 rfl;simp-dsimp only[go_sem,eU,eV,hU0.1,hl];refine And.intro ?_ ?_
      . refine cD.mono ?_;rintro res st2 ⟨d,hd,rfl,rfl⟩;have sd:=hd.sm hDj oG;simp-dsimp only[go_sem,eU,eV,hU0.1,hl];refine And.intro ?_ ?_
        all_goals
         refine(w0r _ d _ sf sd).w ?_;rintro st3 rfl;simp-dsimp only[go_sem,eU,eV,hU0.1,hl];exact⟨_,RV.by hfv hd,rfl⟩
      refine cD.mono ?_;rintro res st2 ⟨d,hd,rfl,rfl⟩;have sd:=hd.sm hDj oG;simp-dsimp only[go_sem,eU,eV,hU0.1,hl];refine(w0r _ d _ sf sd).w ?_;rintro st3 rfl;simp-dsimp only[go_sem,eU,eV,hU0.1,hl];exact⟨_,RV.by hfv hd,rfl⟩
    refine cM.w ?_;rintro st1 rfl;simp-dsimp only[go_sem,eU,eV,hU0.1,hl];refine cD.mono ?_;rintro res st2 ⟨d,hd,rfl,rfl⟩;have sd:=hd.sm hDj oG;simp-dsimp only[go_sem,eU,eV,hU0.1,hl];refine(w0r _ d _ sf sd).w ?_;rintro st3 rfl;simp-dsimp only[go_sem,eU,eV,hU0.1,hl];exact⟨_,RV.by hfv hd,rfl⟩
  rintro s ⟨v,hv,rfl⟩;have htD:=ht;have hj1:=hS j oG;have st1:=ht.sm hj1 oG;have sv:=hv.sm (JF lf hDj) oG;have svt:=hv.turn.sm (Hd (JF lf hDj)) oG;have hstep:=RV.detS ht hv;have xr:(j:Int).tmod 2=((j % 2:Nat):Int):=(by rw[Int.tmod_eq_emod_of_nonneg oG];omega);refine U2i ?_;refine ck (fun h2=> ?_) (fun h2=> ?_);have e2:j % 2=1:=by rw[xr] at h2;have:=FQ.1 h2;omega
  rw[BC e2] at hstep;refine G2s ?_;refine(UB v _).w ?_;rintro st2 rfl;refine G2s ?_;refine(IK t (Xa v) _ st1 svt).w ?_;rintro st2 rfl;simp-dsimp only[go_sem,x1];refine Qa ?_;simp-dsimp only[go_sem,x1];exact⟨n+1-(j+1),oG,j+1,_,rfl,oG,hstep,rfl⟩;have e2: ¬j % 2=1:=fun e=>by rw[xr,e] at h2;exact absurd h2 (by decide)
  rw[BA e2] at hstep;refine G2s ?_;refine(IK t v _ st1 sv).w ?_;rintro st2 rfl;simp-dsimp only[go_sem,x1];refine Qa ?_;simp-dsimp only[go_sem,x1];exact⟨n+1-(j+1),oG,j+1,_,rfl,oG,hstep,rfl⟩
theorem Y0w {L U:Nat}(hLU:L+U<=50000){n:Nat}(h1:1<=n)(h4:n<=4)(f:Nat->Nat->Rat)(u:List (List Vl))(i j:Nat)(st:Qf)(hu:RU n f u)(hf:luF n L U f)(hi:i<n)(hj:j<n):
 PCalls Tryz.prog 71 [.sl .no (J5 u),.sc (.int .i64 (i:Nat)),.sc (.int .i64 (j:Nat))] st (fun res st'=> ∃v,RV (WK n f i j) v/\res= .agg (Vb v)/\st'=st):=by
 have cD:=K1z hLU (n-1) oG (fun a b=>f (ZI j a) (ZI i b)) (U0j u n (but n j) i) st (hu.minor h4 hj hi) (hf.minor j i);have w1:IntKind.i64.wrap ((i:Int)+(j:Int))=((i+j:Nat):Int):=(by rw[show((i:Int)+j)=((i+j:Nat):Int) by omega,Qn _ oG]);have xr:((i+j:Nat):Int).tmod 2=(((i+j) % 2:Nat):Int):=(by rw[Int.tmod_eq_emod_of_nonneg oG];omega);refine U2m Tryz.func71 fun E=> ?_;refine(z0o u n j i _ hu.1 (fun i hi=>(hu.2 i hi).1) h4).plain.w ?_;rintro st1 rfl;refine G2s ?_;refine cD.mono ?_;rintro res st2 ⟨v,hv,rfl,rfl⟩;simp-dsimp only[go_sem,w1];unfold WK kd;refine ck (fun h2=> ?_) (fun h2=> ?_);have e2:(i+j) % 2=1:=by rw[xr] at h2;have:=FQ.1 h2;omega
 rw[BC e2];refine G2s ?_;refine(UB v _).w ?_;rintro st1 rfl;refine G2s ?_;exact⟨_,hv.turn,rfl⟩;have e2: ¬(i+j) % 2=1:=fun e=>by rw[xr,e] at h2;exact absurd h2 (by decide)
 rw[BA e2];refine G2s ?_;exact⟨_,hv,rfl⟩
theorem X0f {n:Nat}{a:List (List Nm)}(h:sqR n a):RU n (fun i j=>qN (QM a i j)) (Vd a):=by
 refine⟨by unfold Vd;rw[BR];exact h.1,fun i hi=> ?_⟩;have e:(Vd a).getD i []=(a.getD i []).map ofN:=by unfold Vd;rw[q_a,B8,q_a,BB (show i<a.length by rw[h.1];exact hi)];rfl
 have hr:=h.row hi;rw[e];refine⟨by rw[BR];exact hr.1,fun j hj=> ?_⟩;have e2:((a.getD i []).map ofN).getD j default=ofN (QM a i j):=by unfold QM;rw[q_a,B8,q_a (l:=a.getD i []),BB (show j<(a.getD i []).length by rw[hr.1];exact hj)];rfl
 rw[e2];exact RV.num (h.ent hi hj)
theorem z6 {x y:Rat}{v w:Vl}{a:Ivl}(hv:RV x v)(hw:RV y w)(hy:0<y)(h:XD (x/y) a):V6 v w a=true:=by unfold V6;rw[q_i];refine⟨q_h ((Ww _ _).2 ?_),q_h ((Ww _ _).2 ?_)⟩;rw[Wd,QL,hv.2,hw.2];have h1:qN a.lo*y<=x/y*y:=D5 h.1 (by grind);have h2:x/y*y=x:=(by grind);rwa [h2] at h1;rw[Wd,QL,hv.2,hw.2];have h1:x/y*y<=qN a.hi*y:=D5 h.2 (by grind);have h2:x/y*y=x:=(by grind);rwa [h2] at h1
theorem RV.bd {x:Rat}{v:Vl}(h:RV x v){L U:Nat}(hl:luQ L U x)(hb:L+U<=50000000):bdV 100000000 100000000 v:=by rw[<-h.2] at hl;have:=z0v h.1 hl;exact⟨by have:=this.1;omega,by have:=this.2.1;omega,by have:=this.2.2;omega⟩
end Go.Pv
end
