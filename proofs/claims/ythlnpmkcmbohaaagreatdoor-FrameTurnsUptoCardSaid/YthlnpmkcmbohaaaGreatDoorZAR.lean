/- Parts of the walk: N34, N35, N36, N37, N38, N39, N40, N41, N42, N43, M39, M40, N44, M41. -/
import Derived.Test.YthlnpmkcmbohaaaGreatDoorZAQ
import Derived.Test.YthlnpmkcmbohaaaGreatDoorZAM
set_option linter.unusedVariables false
set_option linter.unusedSimpArgs false
section
set_option maxRecDepth 100000
namespace Go.Pv
open Go.Proofs
theorem Z1m (n:Nat)(st:Qf)(hn:n<9223372036854775808):PR 75 [.sc (.int .i64 n)] st (.agg (Q9 (mkX false [UInt64.ofNat n] 0).1)):=by
 have g1:decide ((n:Int)<0)=false:=q_g oG;have g2:IntKind.u64.wrap (n:Int)=n:=JM n oG;have g3: [PV.sc (.int .u64 n)]=Q2 [UInt64.ofNat n]:=by simp only[Q2,DX,F5];rw[UInt64.toNat_ofNat_of_lt' (show n<UInt64.size by unfold UInt64.size;omega)]
 refine Qb none Tryz.func75 rfl fun E=>Qa ?_;simp-dsimp only[go_sem,g1,g2];rw[g3];refine(Ga false _ 0 _ (by simp) oG oG).Q0
theorem Z1d :(mkX false [1] 0).1=oneN:=by decide+kernel
theorem Vp (st:Qf):PR 75 [.sc (.int .i64 1)] st (.agg (Q9 oneN)):=by have:=Z1m 1 st oG;rw[show UInt64.ofNat 1=1 from rfl,Z1d] at this;exact this
theorem Z0b (x:Nm)(st:Qf):PR 199 [.agg (Q9 x)] st (.agg (Q9 (jz x))):=by
 refine Qb none Tryz.func199 rfl fun E=>Qa ?_;simp-dsimp only[go_sem]
 try rfl
theorem W1s {x:Nm}(h:sm x):sm (jz x):=h
theorem x0i (a:Ivl)(st:Qf)(ha:wI a):PR 194 [.agg (ZQ a)] st (.agg (Q9 (HH a))):=by
 refine Qb none Tryz.func194 rfl fun E=>Qa ?_;unfold HH;refine G2s ?_;refine(XS a _ ha).q ?_;cases h:Qs a with
 | false=>simp-dsimp only[go_sem];rfl
 | true=>
  obtain⟨r1,r2,_⟩:=Q1 h;rw[BC rfl];refine G2s ?_;refine Qm QH 15 (X0p [0,1,3,4] (.step 2 [4] (X0p [5,6,7,8] .done))) (by decide+kernel) (by simp) ?_;refine G2s ?_;refine(Z0b a.lo _).Q ?_;refine(Z0b a.hi _).Q ?_;refine(Hf _ _ _ (W1s (Q6 r1)) (W1s (Q6 r2))).Q ?_;refine(jQ _ _ (Gn (P:=wN) (Y1 (Q6 (Yp r1))) (Y1 (Q6 (Yp r2))))).Q0
theorem X1q (i j:Nat)(st:Qf):PR 74 ([.sc (.int .i64 i),.sc (.int .i64 j)]++ []) st (.tup [.agg (ZQ (if i=j then⟨oneN,oneN⟩ else default)),.sc (.int .i64 0)]):=by refine Qb none Tryz.func74 rfl fun E=>Qa ?_;by_cases h:i=j;have f1:((i:Int)==(j:Int))=true:=(by rw[h];simp);rw[BC h];simp-dsimp only[go_sem,f1];refine(Vp _).Q ?_;refine(xd oneN _ (by unfold wN;decide)).Q0;have f1:((i:Int)==(j:Int))=false:=(by rw[CL];omega);rw[BA h];simp-dsimp only[go_sem,f1];rfl
theorem J1j {n:Nat}(h1:1<=n)(h4:n<=4):Km (fun i j=>((if i=j then⟨oneN,oneN⟩ else default:Ivl),0)) n=(idM (n:Int),0):=by have:n=1\/n=2\/n=3\/n=4:=oG;rcases this with rfl | rfl | rfl | rfl<;>decide+kernel
theorem qe (n:Int)(st:Qf):PR 28 [.sc (.int .i64 n)] st (.sl .no (XE (idM n))):=by refine Qb none Tryz.func28 rfl fun E=>Qa ?_;by_cases h1:n<1;have f1:decide (n<1)=true:=q_h h1;simp-dsimp only[go_sem,f1];rw[idM,BA oG];rfl;have f1:decide (n<1)=false:=q_g h1;by_cases h4:n>4;have f2:decide (n>4)=true:=q_h h4;simp-dsimp only[go_sem,f1,f2];rw[idM,BA oG];rfl;have f2:decide (n>4)=false:=q_g h4;obtain⟨k,rfl⟩:=EG (show 0<=n by omega);simp-dsimp only[go_sem,f1,f2];refine(YY _ [] (fun i j=>((if i=j then⟨oneN,oneN⟩ else default:Ivl),0)) k st rfl oG rfl rfl rfl rfl (fun _=>rfl) fun i j hi hj=>X1q i j st).q ?_;rw[J1j oG oG];exact G2r
set_option maxHeartbeats 16000000 in
theorem vD (m:Mx)(p:Int)(st:Qf)(hm:wM m):PR 172 [.sl .no (XE m),.sc (.int .i64 p)] st (.tup [.agg (Q9 (Z1 m p).1),.sc (.int .i64 (Z1 m p).2)]):=by
 refine U2m Tryz.func172 fun E=> ?_;refine(Vs m m p _ hm hm).q ?_;cases hv:U6 m m p with
 | false=>
  refine G2s ?_;rw[Z1,BA (fun hh=>by rw[validM_iff.2 ⟨hh.1,hh.1,rfl,hh.2⟩] at hv;cases hv)];rfl
 | true=>
  obtain⟨v1,v2,v3,v4⟩:=validM_iff.1 hv;have hl:=QI v1;have hM:Z1 m p=Xy m p m.length:=BC ⟨v1,v4⟩;rw[hM];refine G2s ?_;refine ZN 1 ?_;refine G2s ?_;refine Qd ([false,true,false,false,true,false,true]++rF 13++ [true,true,true]) 2 0
   (fun k s=> ∃i,k=m.length-i/\i<=m.length/\(Xy m p i).2=0/\
    s=⟨[.junk,.sc (.int .i64 p),.junk,.junk,.lp 0 0,.junk,.lp 1 0]++jk 13++ [.sl .no (XE m),.sc (.int .i64 m.length),.sc (.int .i64 (i:Nat))]++jk 35,
     [[.sc (.bool false),.sc (.int .i64 0),.sl .full []],Q9 (Xy m p i).1],[],st⟩) m.length ?_ ?_
  refine G2s ?_;exact⟨0,oG,oG,rfl,rfl⟩
  . rintro k s ⟨i,rfl,hi,hz,rfl⟩;refine U2n (fun h'=> ?_) (fun h'=> ?_)
    . have hlt:i<m.length:=by have:=q_b h';omega
      have e1:=Kn m i hlt;have e3:=Zw i oG;obtain⟨q1,q2⟩:=Z3 v1 hlt;have hrl:=Jk q2;have e2:=Zl (m.getD i []) 0 oG;simp-dsimp only[go_sem,e1,e2];refine⟨oG,oG,?_⟩;refine(x0i _ _ ((hm.2 i hlt).2 0 oG)).Q ?_;have t1:(m.getD i []).take (m.getD i []).length=m.getD i []:=B0;have t2:((m.getD i []).drop 1).length=m.length-1:=(by rw[DM,q1]);have hs0:VD (atM m i) p 0=(HH ((m.getD i []).getD 0 default),0):=rfl;generalize hR:(m.getD i []).drop 1=R at*
      have hget: ∀j,j<R.length->R.getD j default=atM m i (j+1):=fun j hj=>by rw[<-hR];unfold atM;simp only[q_a,DH];rw[EZ 1 j]
      simp-dsimp only[go_sem,t1,hR];refine⟨oG,?_⟩;refine Qd ([false,true,false,false,true,false,true,false,false,true]++rF 10++ [true,true,true]++rF 8++ [true,true,true]) 3 0
       (fun k s=> ∃j,k=R.length-j/\j<=R.length/\(VD (atM m i) p j).2=0/\
        s=⟨[.junk,.sc (.int .i64 p),.junk,.junk,.lp 0 0,.junk,.lp 1 0,.junk,.junk,.lp 2 0]++jk 10++ [.sl .no (XE m),.sc (.int .i64 m.length),.sc (.int .i64 (i:Nat)),.junk,.junk,.junk,.junk,.junk,.junk,.junk,.junk,.sl .no (QE R),.sc (.int .i64 R.length),.sc (.int .i64 (j:Nat))]++jk 24,
         [[.sc (.bool false),.sc (.int .i64 0),.sl .full []],Q9 (Xy m p i).1,Q9 (VD (atM m i) p j).1],[],st⟩) R.length ?_ ?_
      refine G2s ?_;exact⟨0,oG,oG,by rw[hs0],by rw[hs0];rfl⟩
      . rintro k s ⟨j,rfl,hj,hsz,rfl⟩;refine U2n (fun h2=> ?_) (fun h2=> ?_)
        . have hlt2:j<R.length:=oT h2
          have f1:=Zl R j hlt2;have f3:=Zw j oG;have f4:=Wm hsz;have f5:=hget j hlt2;have wx:wI (atM m i (j+1)):=(hm.2 i hlt).2 (j+1) oG;simp-dsimp only[go_sem,f1];refine⟨oG,?_⟩;refine Qm QH 58 (X0p [0,1,3] (.alt (.step 2 [0] (.alt (X0p [4,5,6,7] (.step 8 [0,1] (.step 9 [] (.step 10 [] (.done))))) (.step 8 [0,1] (X0p [4,5,6,7,9,10] .done)))) (.step 8 [0,1] (.step 2 [0] (X0p [4,5,6,7,9,10] .done))))) (by decide+kernel) (by simp) ?_;refine G2s ?_;have wm:=Y1 (Q6 (Yq (atM m i (j+1))));have ws:=Y1 (Q6 (WW (atM m i) p j));rw[<-f5] at wx;refine And.intro ?_ ?_
          all_goals
           refine(x0i _ _ wx).q ?_;rw[f5];simp-dsimp only[go_sem]
          refine And.intro ?_ ?_
          all_goals
           refine(jc _ _ p true _ ws wm).q ?_;refine U2n (fun h3=> ?_) (fun h3=> ?_);have hne:=VT h3;refine G2s ?_;rw[z0c (j:=j+1) hne hlt oG hz (by rw[f4])];rfl;have he:=Wh h3;simp-dsimp only[go_sem,f3];exact⟨R.length-(j+1),oG,j+1,rfl,oG,by rw[f4];exact he,by rw[f4]⟩
        have hge:j=R.length:=oF h2
        subst hge;have hnx:=Yn hz (by rw[<-t2];exact hsz);rw[<-t2] at hnx;have w1:=Y1 (Q6 (WW (atM m i) p R.length));have w2:=Y1 (Q6 (VJ m p i));refine G2s ?_;refine U2i ?_;refine(Ib _ _ _ (by unfold wN at w1;omega) (by unfold wN at w2;omega)).Q ?_;refine ck (fun h3=> ?_) (fun h3=> ?_);have hc:=q_b h3;rw[BC hc] at hnx;refine G2s ?_;refine Qa ?_;simp-dsimp only[go_sem,e3];exact⟨m.length-(i+1),oG,i+1,rfl,oG,by rw[hnx],by rw[hnx]⟩;have hc:=q_c h3;rw[BA hc] at hnx;refine G2s ?_;refine Qa ?_;simp-dsimp only[go_sem,e3];exact⟨m.length-(i+1),oG,i+1,rfl,oG,by rw[hnx],by rw[hnx]⟩
    have hge:i=m.length:=by have:=q_c h';omega
    subst hge;refine G2s ?_;refine U2i ?_;rw[hz]
theorem Iz {α:Type}(f:Nat->α)(n i:Nat)(h:i<n):((List.range n).map f).take (i+1)=((List.range n).map f).take i++ [f i]:=by rw[<-List.map_take,<-List.map_take,List.take_range,List.take_range,DA oG,DA oG,List.range_succ,E5];rfl
theorem J0g (f:PV->PV)(l:List PV)(o:Nat)(r:List PV):(Zx l o r).map f=Zx (l.map f) o (r.map f):=by simp[Zx,List.map_take,List.map_drop]
theorem jf (f:PV->PV)(n:Nat)(z:List PV):(GR n z).map f=GR n (z.map f):=by unfold GR;rw[List.map_flatten,List.map_replicate]
theorem x0y {l r:List PV}{o:Nat}(h1:VN l=true)(h2:VN r=true):VN (Zx l o r)=true:=by
 unfold VN at*
 rw[q_d] at*
 intro p hp;simp only[Zx,DN] at hp;rcases hp with (hp | hp) | hp;exact h1 p (List.mem_of_mem_take hp);exact h2 p hp;exact h1 p (List.mem_of_mem_drop hp)
theorem x0x {n:Nat}{z:List PV}(h:VN z=true):VN (GR n z)=true:=by
 unfold VN at*
 rw[q_d] at*
 intro p hp;simp only[GR,List.mem_flatten,List.mem_replicate] at hp;obtain⟨l,⟨_,rfl⟩,hp⟩:=hp;exact h p hp
theorem H0o (n:Nat):GR n (Q9 default)=flat (Qy (List.replicate n default)):=by simp[GR,flat,Qy,PV.cells]
def HU (n i:Nat):List Nm:=(List.replicate n default).set i oneN
def U4 (k:Nat):List (List Nm):=(List.range k).map (HU k)
theorem X5 (k:Nat):(U4 k).length=k:=by simp[U4]
def U0i (n:Int):List (List Nm):=if 1<=n/\n<=4 then U4 n.toNat else []
theorem H1n (n:Int):ofM (U0i n)=idM n:=by unfold U0i idM;split;rename_i h;have:n=1\/n=2\/n=3\/n=4:=oG;rcases this with rfl | rfl | rfl | rfl<;>decide+kernel;rfl
theorem VH (n i:Nat):(HU n i).length=n:=by simp[HU]
def smM (m:Mx):Prop:=1<=m.length/\m.length<=4/\ ∀i,i<m.length->(m.getD i []).length=m.length/\ ∀j,j<m.length->smI (atM m i j)
theorem smM.right {m:Mx}(h:smM m):rightM m=true:=rightM_iff.2 ⟨fun i hi=>⟨(h.2.2 i hi).1,Xj (fun j hj=>by have:=(h.2.2 i hi).2 j (by rw[<-(h.2.2 i hi).1];exact hj);exact this.1) (by rw[(h.2.2 i hi).1];exact h.1) (by rw[(h.2.2 i hi).1];exact h.2.1)⟩,h.1,h.2.1⟩
theorem Wp {m:Mx}(h:rightM m=true):wM m:=⟨by have:=QI h;omega,fun i hi=>JQ (Z3 h hi).2⟩
theorem k0o (l:List UInt64)(i k n:Nat)(st:Qf)(h:atD st k l i)(hi:i<=800000000)(hn:n<=1000):PCalls Tryz.prog 11 [.gp k 0,.sc (.int .i64 n)] st
 (fun r st'=> ∃m j,m.length=n/\(∀q,q<n->(m.getD q []).length=n/\ ∀j,j<n->smI (atM m q j))/\i<=j/\j<=i+3*n*n/\r= .sl .no (XE m)/\st'=st.set k (dk l j)):=by
 refine Qb none Tryz.func11 rfl fun E=>Qa ?_;have hnn:3*n*n<=3000000:=by have:n*n<=1000*1000:=DW hn hn;rw[BW];omega
 refine G2s ?_;refine QQ 5 1 ?_;refine G2s ?_;refine Qd [true,true,false,false,false,true,true] 0 1 (fun c s=> ∃(m:Mx) (j:Nat),c=n-m.length/\m.length<=n/\(∀q,q<m.length->(m.getD q []).length=n/\ ∀j,j<n->smI (atM m q j))/\i<=j/\j<=i+3*n*m.length/\
  s=⟨[.gp k 0,.sc (.int .i64 n),.junk,.junk,.junk,.sl (.own 0) (XE m),.sc (.int .i64 (m.length:Nat))]++jk 12,[],[(m.length,1)],st.set k (dk l j)⟩) n ?_ ?_
 refine G2s ?_;refine⟨[],i,by simp,by simp,fun m hm=>by simp at hm,oG,oG,?_⟩;rw[h.same];rfl;rintro c s ⟨m,j,rfl,hb,hr,hj,hj2,rfl⟩;refine U2n (fun h1=> ?_) (fun h1=> ?_);have hlt:m.length<n:=(oT h1);have x1:=Zw m.length oG;have hjb:3*n*m.length+3*n<=3*n*n:=by have:3*n*(m.length+1)<=3*n*n:=DP _ hlt;rw[CE,EK] at this;exact this
 refine G2s ?_;refine(VF l j k n _ (h.set j) oG oG).mono ?_;rintro r st' ⟨x,j',hx1,hx2,hj3,hj4,rfl,rfl⟩;simp-dsimp only[go_sem,Vi,x1];refine⟨⟨oG,oG⟩,n-(m.length+1),oG,m++ [x],j',by simp,by simp;omega,fun q hq=> ?_,oG,?_,by simp⟩;by_cases hm2:q<m.length;unfold atM;rw[kz _ _ _ _ hm2];exact hr q hm2;have e:q=m.length:=(by simp at hq;omega);unfold atM;rw[e,H2];exact⟨hx1,fun j hj=>hx2 j oG⟩;rw[BH,List.length_singleton,CE,EK];omega;have hge:m.length=n:=(oF h1);refine G2s ?_;refine XR [false,false,false,false,false,true] (Qa ?_);refine G2s ?_;exact⟨m,j,hge,fun q hq=>hr q oG,hj,by rw[hge] at hj2;exact hj2,rfl,rfl⟩
def inQ (m:Mx)(q:List (List Nm)):Prop:=q.length=m.length/\ ∀i,i<m.length->(q.getD i []).length=m.length/\ ∀j,j<m.length-> ∃n,n<=8/\(q.getD i []).getD j default=inN (atM m i j) n
theorem Z0g (l:List UInt64)(i k:Nat)(m:Mx)(st:Qf)(h:atD st k l i)(hi:i<=10000000)(hm:rightM m=true):PCalls Tryz.prog 17 [.gp k 0,.sl .no (XE m)] st
 (fun r st'=> ∃q,inQ m q/\r= .sl .no (Z8 q)/\st'=st.set k (dk l (i+m.length*m.length))):=by
 have hl:=QI hm;have hb: ∀i,i<m.length-> ∀j,j<(m.getD i []).length->Qs ((m.getD i []).getD j default)=true:=fun i hi j hj=>Ky (Z3 hm hi).2 hj;refine U2m Tryz.func17 fun E=> ?_;refine QQ 5 1 ?_;refine G2s ?_;refine Qd [true,true,false,false,false,true,true] 0 1 (fun c s=> ∃(q:List (List Nm)),c=m.length-q.length/\q.length<=m.length/\(∀i,i<q.length->(q.getD i []).length=m.length/\ ∀j,j<m.length-> ∃n,n<=8/\(q.getD i []).getD j default=inN (atM m i j) n)/\
  s=⟨[.gp k 0,.sl .no (XE m),.junk,.junk,.junk,.sl (.own 0) (Z8 q),.sc (.int .i64 (q.length:Nat))]++jk 16,[],[(q.length,1)],st.set k (dk l (i+q.length*m.length))⟩) m.length ?_ ?_
 refine G2s ?_;refine⟨[],by simp,by simp,(fun j hj=>by simp at hj),?_⟩;rw[show i+([]:List (List Nm)).length*m.length=i from by simp,h.same];rfl;rintro c s ⟨q,rfl,hq,hr,rfl⟩;refine U2n (fun h1=> ?_) (fun h1=> ?_);have hlt:q.length<m.length:=(oT h1);have e1:=Kn m q.length hlt;have x1:=Zw q.length oG;obtain⟨q1,q2⟩:=Z3 hm hlt;have hb1:q.length*m.length<=4*4:=DW oG oG;simp-dsimp only[go_sem,e1];refine⟨⟨oG,hlt⟩,?_⟩;refine(Gl l (i+q.length*m.length) k _ _ (h.set _) oG oG (hb _ hlt)).mono ?_;rintro r st' ⟨x,hx1,hx2,rfl,rfl⟩;have e5:i+q.length*m.length+(m.getD q.length []).length=i+(q++ [x]).length*m.length:=by rw[q1,BH,List.length_singleton,BQ,CY];omega
 rw[e5];simp-dsimp only[go_sem,Vi,x1];refine⟨⟨oG,oG⟩,m.length-(q.length+1),oG,q++ [x],by simp,by simp;omega,fun j hj=> ?_,by simp⟩;by_cases hj2:j<q.length;rw[kz _ _ _ _ hj2];exact hr j hj2;have e:j=q.length:=(by simp at hj;omega);rw[e,H2];exact⟨by rw[hx1,q1],fun p hp=>hx2 p (by rw[q1];exact hp)⟩;have hge:q.length=m.length:=(oF h1);refine G2s ?_;refine XR [false,false,false,false,false,true] (Qa ?_);refine G2s ?_;exact⟨q,⟨hge,fun i hi=>hr i oG⟩,rfl,by rw[hge]⟩
theorem k1k {m:Mx}(h1:m.length<=100000000000)(h2: ∀r∈m,wB r):wM m:=⟨h1,fun i hi=>h2 _ (Qq _ _ _ hi)⟩
theorem k1m {b:List Ivl}(h1:b.length<=100000000000)(h2: ∀x∈b,wI x):wB b:=⟨h1,fun i hi=>h2 _ (Qq _ _ _ hi)⟩
theorem G0j {G:Nat->Ivl×Int}{n:Nat}(hn:n<=100000)(h: ∀i,wI (G i).1):wB (XZ G 0 n []).1:=by refine k1m ?_ (VA wI n 0 [] (fun i _ _=>h i) (fun x hx=>by cases hx));have:=UE (G:=G) n 0 [];simp at this;omega
theorem K0c {G:Nat->Nat->Ivl×Int}{n:Nat}(hn:n<=100000)(h: ∀i j,wI (G i j).1):wM (Km G n).1:=by refine k1k ?_ (VA wB n 0 [] (fun i _ _=>G0j hn (h i)) (fun x hx=>by cases hx));have:=UE (G:=fun i=>XZ (fun j=>G i j) 0 n []) n 0 [];simp at this;unfold Km;omega
theorem W1h :wM []:=⟨by simp,fun i hi=>by simp at hi⟩
theorem v1p (k:Nat)(a b:Mx)(p:Int):wM (opM k a b p).1:=by unfold opM;split;rename_i h;have:=QI h.1;exact K0c oG fun i j=>KE (JT _ _ _ _);exact W1h
theorem Q0d (a b:Mx)(p:Int):wM (XW a b p).1:=by unfold XW;split;rename_i h;have:=QI h.1;exact K0c oG fun i j=>KE (Kv _ _ _ _);exact W1h
theorem yu (a:Mx)(b:List Ivl)(p:Int):wB (V4 a b p).1:=by unfold V4;split;rename_i h;have:=QI h.1;exact G0j oG fun i=>KE (Kv _ _ _ _);exact k1l
theorem X1k (b:List Ivl)(p:Int):wNs (Xc b p).1:=by unfold Xc;split;rename_i h;have hl:=Jk h.1;rw[Ku];have h1:=UE (G:=fun j=>Ki (b.getD j default) p) b.length 0 [];have h2:=VA wN (G:=fun j=>Ki (b.getD j default) p) b.length 0 [] (fun i _ _=>Y1 (Q6 (Jm _ _))) (fun x hx=>by cases hx);rw[D8,CU] at h1;exact⟨oG,fun i hi=>h2 _ (Qq _ _ _ hi)⟩;exact⟨by simp,fun i hi=>by simp at hi⟩
theorem q1c (a:Mx)(p:Int):wQ (IY a p).1:=by unfold IY;split;rename_i h;have hl:=QI h.1;have h1:=UE (G:=fun j=>Xc (a.getD j []) p) a.length 0 [];have h2:=VA wNs (G:=fun j=>Xc (a.getD j []) p) a.length 0 [] (fun i _ _=>X1k _ _) (fun x hx=>by cases hx);rw[D8,CU] at h1;exact⟨oG,fun i hi=>h2 _ (Qq _ _ _ hi)⟩;exact⟨by simp,fun i hi=>by simp at hi⟩
theorem v1t {q:List Nm}(h:wNs q):wB (ofB q):=by refine⟨by unfold ofB;rw[BR];exact h.1,fun i hi=> ?_⟩;have hi':i<q.length:=(by simpa[ofB] using hi);have e:(ofB q).getD i default=⟨q.getD i default,q.getD i default⟩:=(by simp[ofB,q_a,hi']);rw[e];exact⟨h.2 i hi',h.2 i hi'⟩
theorem H1q (q:List (List Nm))(i:Nat)(h:i<q.length):(ofM q).getD i []=ofB (q.getD i []):=by simp[ofM,q_a,h]
theorem q0t {q:List (List Nm)}(h:wQ q):wM (ofM q):=by refine⟨by unfold ofM;rw[BR];exact h.1,fun i hi=> ?_⟩;have hi':i<q.length:=(by simpa[ofM] using hi);rw[H1q q i hi'];exact v1t (h.2 i hi')
theorem W0g :Qg oneN=true:=by decide
theorem Q1a (n i j:Nat)(h:j<n):(HU n i).getD j default=if i=j then oneN else default:=by unfold HU;rw[J1x _ _ _ _ _ (by simpa using h)];split;rfl;simp[q_a,h]
theorem q0r (n:Int):wQ (U0i n):=by unfold U0i;split;rename_i h;refine⟨by rw[X5];omega,fun i hi=> ?_⟩;rw[X5] at hi;have e:(U4 n.toNat).getD i []=HU n.toNat i:=(by simp[U4,q_a,hi]);rw[e];refine⟨by rw[VH];omega,fun j hj=> ?_⟩;rw[VH] at hj;rw[Q1a _ _ _ hj];split;exact Y1 (Q6 W0g);exact Y1 (Q6 X0);exact⟨by simp,fun i hi=>by simp at hi⟩
theorem x0s {m:Mx}{q:List (List Nm)}(hm:rightM m=true)(h:inQ m q): ∀i j,i<m.length->j<m.length->Qg ((q.getD i []).getD j default)=true/\XD (qN ((q.getD i []).getD j default)) (atM m i j):=fun i j hi hj=>by obtain⟨n,hn,e⟩:=(h.2 i hi).2 j hj;have hr:=Wq hm hi hj;rw[e];exact⟨Gk n hr,Q0s hr hn⟩
theorem w1m {m:Mx}{q:List (List Nm)}(hm:rightM m=true)(h:inQ m q):wQ q:=by have hl:=QI hm;refine⟨by rw[h.1];omega,fun i hi=> ?_⟩;rw[h.1] at hi;have h2:=(h.2 i hi).1;refine⟨by rw[h2];omega,fun j hj=> ?_⟩;rw[h2] at hj;exact Y1 (Q6 (x0s hm h i j hi hj).1)
def luQ (L U:Nat)(x:Rat):Prop:= ∃z:Int,x=qM z (-(L:Int))/\z.natAbs<=2^(L+U)
theorem Xw (L U:Nat):luQ L U 0:=⟨0,(Zs _).symm,CX _⟩
theorem luQ.up {L U U':Nat}{x:Rat}(h:luQ L U x)(hu:U<=U'):luQ L U' x:=by obtain⟨z,h1,h2⟩:=h;exact⟨z,h1,B7 h2 (BS oG oG)⟩
theorem luQ.down {L L' U:Nat}{x:Rat}(h:luQ L U x)(hl:L<=L'):luQ L' U x:=by obtain⟨z,h1,h2⟩:=h;refine⟨z*2^(L'-L),?_,?_⟩;rw[XQ,h1];congr 1;omega;have e:(z*2^(L'-L)).natAbs=z.natAbs*2^(L'-L):=(by rw[Int.natAbs_mul,Int.natAbs_pow];rfl);rw[e,show L'+U=(L+U)+(L'-L) from oG,B2];exact BG _ h2
theorem luQ.mono {L U L' U':Nat}{x:Rat}(h:luQ L U x)(hl:L<=L')(hu:U<=U'):luQ L' U' x:=(h.down hl).up hu
theorem Hd {L U:Nat}{x:Rat}(h:luQ L U x):luQ L U (-x):=by obtain⟨z,h1,h2⟩:=h;exact⟨-z,by rw[YE,h1],by rw[Int.natAbs_neg];exact h2⟩
theorem Jz {L U:Nat}{x y:Rat}(hx:luQ L U x)(hy:luQ L U y):luQ L (U+1) (x+y):=by obtain⟨z,h1,h2⟩:=hx;obtain⟨w,h3,h4⟩:=hy;refine⟨z+w,by rw[vg,h1,h3],?_⟩;have:=Int.natAbs_add_le z w;rw[show L+(U+1)=(L+U)+1 from oG,B5];omega
theorem KV {L U:Nat}{x y:Rat}(hx:luQ L U x)(hy:luQ L U y):luQ L (U+1) (x-y):=by have:=Jz hx (Hd hy);rwa [<-Rat.sub_eq_add_neg] at this
theorem JF {L U L' U':Nat}{x y:Rat}(hx:luQ L U x)(hy:luQ L' U' y):luQ (L+L') (U+U') (x*y):=by obtain⟨z,h1,h2⟩:=hx;obtain⟨w,h3,h4⟩:=hy;refine⟨z*w,?_,?_⟩;rw[show(-((L+L':Nat):Int))= -(L:Int)+ -(L':Int) from oG,vf,h1,h3];rw[Int.natAbs_mul,show L+L'+(U+U')=(L+U)+(L'+U') from oG,B2];exact DW h2 h4
theorem Kk (v:Vl):(Zq v).natAbs=v.m:=by unfold Zq;split<;>simp
theorem Gf {n k:Nat}{v:Vl}(h:bdV n k v):luQ k (n+k) (qV v):=by obtain⟨h1,h2,h3⟩:=h;have hm:=bitlen_le_iff.1 h1;refine⟨Zq v*2^(v.e+k).toNat,?_,?_⟩;rw[XQ];unfold qV;congr 1;omega;have e:(Zq v*2^(v.e+k).toNat).natAbs=v.m*2^(v.e+k).toNat:=(by rw[Int.natAbs_mul,Int.natAbs_pow,Kk];rfl);rw[e,show k+(n+k)=n+2*k from oG,B2];exact DW (F4 hm) (BS oG oG)
theorem z0x {z:Int}{n:Nat}(h:z.natAbs<=2^n)(L:Nat):luQ L n (qM z 0):=by have:luQ 0 n (qM z 0):=⟨z,rfl,by rw[CU];exact h⟩;exact this.down (CX _)
theorem KK {L U:Nat}{v:Vl}(hc:Xm v)(h:luQ L U (qV v)):v.m=0\/(-(L:Int)<=v.e/\v.e+(Qh v.m:Int)<=(U:Int)+1):=by
 rcases hc with hm | rfl;rotate_left;exact .inl rfl;refine .inr ?_;obtain⟨z,h1,h2⟩:=h;have hz:Zq v≠0:=fun e=>(by have:=Kk v;rw[e] at this;simp at this;omega);have hge: -(L:Int)<=v.e:=by
  apply LA.1;intro hlt;obtain⟨d,hd⟩: ∃d:Nat, -(L:Int)=v.e+((d+1:Nat):Int):=⟨(-(L:Int)-v.e-1).toNat,oG⟩;have e1:qM z (-(L:Int))=qM (z*2^(d+1)) v.e:=(by rw[XQ,hd]);have e2:Zq v=z*2^(d+1):=qM_eq.1 (h1.trans e1);have e3:v.m=z.natAbs*2^d*2:=by have:=Kk v;rw[e2,Int.natAbs_mul,Int.natAbs_pow,B5] at this;rw[<-this,BW];rfl
  omega
 refine⟨hge,?_⟩;have e1:Zq v*2^(v.e+L).toNat=z:=by
  have:qM (Zq v*2^(v.e+L).toNat) (-(L:Int))=qM z (-(L:Int)):=by rw[XQ,<-h1];unfold qV;congr 1;omega
  exact qM_eq.1 this
 have e2:v.m*2^(v.e+L).toNat<=2^(L+U):=by
  have:(Zq v*2^(v.e+L).toNat).natAbs=v.m*2^(v.e+L).toNat:=by rw[Int.natAbs_mul,Int.natAbs_pow,Kk];rfl
  rw[<-this,e1];exact h2
 have e3:Qh (v.m*2^(v.e+L).toNat)<=L+U+1:=bitlen_le_iff.2 (D3 e2 (Nat.pow_lt_pow_right oG oG));rw[XV _ _ oG] at e3;omega
theorem z0v {L U:Nat}{v:Vl}(hc:Xm v)(h:luQ L U (qV v)):bdV (L+U+1) (L+U+1) v:=by rcases KK hc h with h0 | ⟨h1,h2⟩;rcases hc with hm | rfl;omega;refine⟨?_,?_,?_⟩;show Qh 0<=_;rw[Zv];omega;show -((L+U+1:Nat):Int)<=0;omega;show(0:Int)<=((L+U+1:Nat):Int);omega;exact⟨oG,oG,oG⟩
theorem Ie {L U:Nat}{v:Vl}(hc:Xm v)(h:luQ L U (qV v))(hb:L+U+1<=4096):(Kg v).2=0:=UZ (z0v hc h) hb oG
theorem Xf {m:Nat}(h:m≠0):2^(Qh m-1)<=m:=by apply F6;intro hlt;have:=bitlen_le_iff.2 hlt;have:=ZK h;omega
theorem X7 {L U:Nat}{v:Vl}(hc:Xm v)(h:luQ L U (qV v))(p:Nat)(hp:1<=p)(up:Bool):luQ L (U+1) (qV (QX v p up)):=by
 unfold QX;split;exact h.up oG;rename_i hlt;have h0:v.m≠0:=fun e=>(by rw[e,Zv] at hlt;omega);rcases KK hc h with h1 | ⟨h1,h2⟩;exact absurd h1 h0;obtain⟨z,hz1,hz2⟩:=h;have e1:Zq v*2^(v.e+L).toNat=z:=by
  have:qM (Zq v*2^(v.e+L).toNat) (-(L:Int))=qM z (-(L:Int)):=by rw[XQ,<-hz1];unfold qV;congr 1;omega
  exact qM_eq.1 this
 have e2:v.m*2^(v.e+L).toNat<=2^(L+U):=by
  have:(Zq v*2^(v.e+L).toNat).natAbs=v.m*2^(v.e+L).toNat:=by rw[Int.natAbs_mul,Int.natAbs_pow,Kk];rfl
  rw[<-this,e1];exact hz2
 rw[VX,Yc];generalize hd:Qh v.m-p=d at*
 generalize hc':(if v.m % 2^d≠0/\up≠v.neg then 1 else 0)=c;have hcl:c<=1:=(by rw[<-hc'];split<;>omega);have hb1:(v.m/2^d+c)*2^d<=2*v.m:=by
  have a1:=LC v.m (2^d);have a2:2^d<=v.m:=B7 (BS oG oG) (Xf h0);have a3:c*2^d<=2^d:=by have:=BG (2^d) hcl;omega
  rw[BQ];omega
 refine⟨(if v.neg then -(((v.m/2^d+c)*2^d:Nat):Int) else(((v.m/2^d+c)*2^d:Nat):Int))*2^(v.e+L).toNat,?_,?_⟩;rw[XQ];congr 1;omega;have e3:((if v.neg then -(((v.m/2^d+c)*2^d:Nat):Int) else(((v.m/2^d+c)*2^d:Nat):Int))*2^(v.e+L).toNat).natAbs=(v.m/2^d+c)*2^d*2^(v.e+L).toNat:=by rw[Int.natAbs_mul,Int.natAbs_pow];generalize (v.m/2^d+c)*2^d=M;split;rw[Int.natAbs_neg];rfl;rfl
 rw[e3,show L+(U+1)=(L+U)+1 from oG,B5];have:=BG (2^(v.e+L).toNat) hb1;rw[BW 2] at this;omega
def luI (L U:Nat)(a:Ivl):Prop:=Qs a=true/\luQ L U (qN a.lo)/\luQ L U (qN a.hi)
theorem luI.mono {L U L' U':Nat}{a:Ivl}(h:luI L U a)(hl:L<=L')(hu:U<=U'):luI L' U' a:=⟨h.1,h.2.1.mono hl hu,h.2.2.mono hl hu⟩
theorem J0w (L U:Nat):luI L U default:=by have e:qN (default:Ivl).lo=0:=Zs 0;have e2:qN (default:Ivl).hi=0:=Zs 0;exact⟨by decide,by rw[e];exact Xw _ _,by rw[e2];exact Xw _ _⟩
theorem k9 {a:Ivl}(h:smI a):luI 12 18 a:=⟨h.1,Gf h.2.1,Gf h.2.2⟩
theorem X3 {p:Int}(h:Q4 p=true):1<=p.toNat:=by unfold Q4 at h;simp only[q_i,BN] at h;omega
theorem K1o {L U:Nat}{lo hi:Vl}(h1:Xm lo)(h2:Xm hi)(q1:luQ L U (qV lo))(q2:luQ L U (qV hi))(hb:L+U+1<=4096)(hle:qV lo<=qV hi):(WD lo hi).2=0/\luI L U (WD lo hi).1:=by have f1:=Ie h1 q1 hb;have f2:=Ie h2 q2 hb;have hr:=Ut h1 h2 hle;unfold WD at hr⊢;rw[BC ⟨f1,f2⟩] at hr⊢;refine⟨rfl,hr,?_,?_⟩;rw[(ZA h1 f1).2];exact q1;rw[(ZA h2 f2).2];exact q2
theorem X1t {L U L' U':Nat}{x y u v:Vl}(hx:luQ L U (qV x))(hy:luQ L U (qV y))(hu:luQ L' U' (qV u))(hv:luQ L' U' (qV v)):luQ (L+L') (U+U') (qV (J0 x y u v)):=by
 rcases Yr x y u v with h | h | h | h
 all_goals rw[h,Wd];exact JF (by assumption) (by assumption)
theorem X1u {L U L' U':Nat}{x y u v:Vl}(hx:luQ L U (qV x))(hy:luQ L U (qV y))(hu:luQ L' U' (qV u))(hv:luQ L' U' (qV v)):luQ (L+L') (U+U') (qV (VZ x y u v)):=by
 rcases xj x y u v with h | h | h | h
 all_goals rw[h];exact JF (by assumption) (by assumption)
theorem v1r {k L U:Nat}{a b:Ivl}{p:Int}(hk:k<2)(ha:luI L U a)(hb:luI L U b)(hp:Q4 p=true)(hbd:L+U+3<=4096):(opI k a b p).2=0/\luI L (U+2) (opI k a b p).1:=by
 have ca:=Hx ha.1;have cb:=Hx hb.1;have pp:=X3 hp;have hlo:luQ L (U+1) (qV (loV k (ofN a.lo) (ofN a.hi) (ofN b.lo) (ofN b.hi))):=by unfold loV;split;rw[Jb];exact Jz ha.2.1 hb.2.1;rw[BC oG,Kc];exact KV ha.2.1 hb.2.2
 have hhi:luQ L (U+1) (qV (hiV k (ofN a.lo) (ofN a.hi) (ofN b.lo) (ofN b.hi))):=by unfold hiV;split;rw[Jb];exact Jz ha.2.2 hb.2.2;rw[BC oG,Kc];exact KV ha.2.2 hb.2.1
 have c1:=VR k ca.1 ca.2 cb.1 cb.2;have c2:=VS k ca.1 ca.2 cb.1 cb.2;unfold opI;rw[BC ⟨ha.1,hb.1,hp⟩];exact K1o (QW c1 _ _) (QW c2 _ _) (X7 c1 hlo _ pp _) (X7 c2 hhi _ pp _) oG (X1z k ha.1 hb.1 _)
def Zj (X Y:Nat->Rat):Nat->Rat
 | 0=>0
 | n+1=>Zj X Y n+X n*Y n
theorem qg {L U L' U':Nat}{X Y:Nat->Rat} : ∀n,(∀k,k<n->luQ L U (X k)/\luQ L' U' (Y k))->luQ (L+L') (U+U'+n) (Zj X Y n)
 | 0,_=>Xw _ _
 | n+1,h=>by have h1:=qg n fun k hk=>h k oG;have h2:=JF (h n oG).1 (h n oG).2;exact Jz h1 (h2.up (show U+U'<=U+U'+n by omega))
theorem qc :XD 0 default:=by have e:qN (default:Ivl).lo=0:=Zs 0;have e2:qN (default:Ivl).hi=0:=Zs 0;exact⟨by rw[e];exact CB,by rw[e2];exact CB⟩
theorem Ii {x y:Nat->Ivl}{p:Int}{X Y:Nat->Rat} : ∀n,(JZ x y p n).2=0->(∀k,k<n->XD (X k) (x k)/\XD (Y k) (y k))->XD (Zj X Y n) (JZ x y p n).1
 | 0,_,_=>qc
 | n+1,h,hm=>by rw[JZ] at h⊢;by_cases c1:(JZ x y p n).2≠0;rw[BC c1] at h;exact absurd h c1;rw[BA c1] at h⊢;have c1:=C8.1 c1;by_cases c2:(opI 2 (x n) (y n) p).2≠0;rw[BC c2] at h;exact absurd h c2;rw[BA c2] at h⊢;have c2:=C8.1 c2;have ih:=Ii n c1 fun k hk=>hm k oG;have hp:=IT 2 c2 (hm n oG).1 (hm n oG).2;rw[j0q] at hp;by_cases c3:n=0;rw[BC c3] at h⊢;subst c3;show XD (0+X 0*Y 0) _;rw[Rat.zero_add];exact hp;rw[BA c3] at h⊢;by_cases c4:(opI 0 (JZ x y p n).1 (opI 2 (x n) (y n) p).1 p).2≠0;rw[BC c4] at h;exact absurd h c4;rw[BA c4] at h⊢;have:=IT 0 h ih hp;rw[Y0p] at this;exact this
def V6 (v w:Vl)(a:Ivl):Bool:=decide (J7 (byV (ofN a.lo) w) v<=0)&&decide (J7 v (byV (ofN a.hi) w)<=0)
def j1n :Vl:=XH false 1 0
theorem W1x :qV j1n=1:=by unfold j1n;rw[HW];rfl
theorem V0b {v:Vl}{a:Ivl}(h:XD (qV v) a):V6 v j1n a=true:=by unfold V6;simp only[q_i,BN];refine⟨(Ww _ _).2 ?_,(Ww _ _).2 ?_⟩;rw[Wd,W1x,Rat.mul_one,QL];exact h.1;rw[Wd,W1x,Rat.mul_one,QL];exact h.2
theorem xG (v w:Vl)(a:Ivl)(st:Qf)(hv:bdV 100000000 100000000 v)(hw:bdV 100000000 100000000 w)(ha:Qs a=true):PR 36 [.agg (Vb v),.agg (Vb w),.agg (ZQ a)] st (.sc (.bool (V6 v w a))):=by
 obtain⟨r1,r2,_⟩:=Q1 ha;have l1:=(Q6 r1).1;have l2:=(Q6 r2).1;have b1:=x9 (Uz r1) hw;have b2:=x9 (Uz r2) hw;have s1:=xX (Q6 r1);have s2:=xX (Q6 r2);have sv:=YB hv oG oG;have sw:=YB hw oG oG;have t1:=YB b1 oG oG;have t2:=YB b2 oG oG;refine Qb none Tryz.func36 rfl fun E=>Qa ?_;unfold V6;refine G2s ?_;refine Qm QH 25 (X0p [0,1,3,5] (.step 2 [3,5] (.step 4 [5] (X0p [6,7,8,9,10,11,13] (.step 12 [1,3,9,13] (.step 14 [1,3,9] (.step 15 [1,3] (X0p [16,17,18] .done)))))))) (by decide+kernel) (by simp) ?_;refine G2s ?_;refine(yn a.lo _ oG).Q ?_;refine(w0r _ _ _ s1 sw).Q ?_;refine(yU _ _ _ t1 sv).q ?_;cases h:decide (J7 (byV (ofN a.lo) w) v<=0) with
 | false=>simp-dsimp only[go_sem,h];try rfl
 | true=>
  simp-dsimp only[go_sem,h];refine(yn a.hi _ oG).Q ?_;refine(w0r _ _ _ s2 sw).Q ?_;refine(yU _ _ _ sv t2).q ?_;simp-dsimp only[go_sem]
  try rfl
theorem K2q {a:Ivl}{n:Nat}(ha:smI a)(hn:n<=8):Qg (inN a n)=true/\XD (qN (inN a n)) a/\luQ 62 105 (qN (inN a n)):=by obtain⟨h1,h2,h3⟩:=K2p ha hn;exact⟨h1,h2,Gf h3⟩
theorem x1q :bdV 100000000 100000000 j1n:=(WT (k:=1) oG).mono oG oG
theorem KI :qN oneN=1:=by have:qN oneN=qM 1 0:=rfl;rw[this];unfold qM;rw[IP,Rat.intCast_one,Rat.mul_one]
theorem Kd :qN (default:Nm)=0:=Zs 0
theorem G1p :smI ⟨oneN,oneN⟩:=by
 have hb:bdV 6 12 (ofN oneN):=by refine⟨bitlen_le_iff.2 (by decide),?_,?_⟩;show -((12:Nat):Int)<=0;omega;show(0:Int)<=((12:Nat):Int);omega
 exact⟨by decide,hb,hb⟩
theorem y0n :smI default:=⟨by decide,Io,Io⟩
theorem xh {n i j:Nat}(h1:1<=n)(h4:n<=4)(hi:i<n)(hj:j<n):(idM (n:Int)).length=n/\((idM (n:Int)).getD i []).length=n/\atM (idM (n:Int)) i j=if i=j then⟨oneN,oneN⟩ else default:=by
 have e:idM (n:Int)=(List.range n).map fun i=>(List.range n).map fun j=>if i=j then⟨oneN,oneN⟩ else default:=by rw[idM,BC oG];rfl
 rw[e];have e2:((List.range n).map fun i=>(List.range n).map fun j=>if i=j then(⟨oneN,oneN⟩:Ivl) else default).getD i []=(List.range n).map fun j=>if i=j then(⟨oneN,oneN⟩:Ivl) else default:=(by simp[q_a,hi]);refine⟨by simp,by rw[e2];simp,?_⟩;unfold atM;rw[e2];simp[q_a,hj]
theorem k7 {n:Nat}(h1:1<=n)(h4:n<=4):smM (idM (n:Int))/\(idM (n:Int)).length=n:=by have hl:=(xh h1 h4 (i:=0) (j:=0) oG oG).1;refine⟨⟨oG,oG,fun i hi=> ?_⟩,hl⟩;rw[hl] at hi⊢;refine⟨(xh h1 h4 hi hi).2.1,fun j hj=> ?_⟩;rw[(xh h1 h4 hi hj).2.2];split;exact G1p;exact y0n
def QZ (i k:Nat):Rat:=if i=k then 1 else 0
theorem IZ {n i k:Nat}(h1:1<=n)(h4:n<=4)(hi:i<n)(hk:k<n):XD (QZ i k) (atM (idM (n:Int)) i k):=by rw[(xh h1 h4 hi hk).2.2];unfold QZ;split;exact⟨by show qN oneN<=1;rw[KI];exact CB,by show 1<=qN oneN;rw[KI];exact CB⟩;exact qc
theorem JY {X Y:Nat->Rat} : ∀n,(∀k,k<n->X k*Y k=0)->Zj X Y n=0
 | 0,_=>rfl
 | n+1,h=>by rw[Zj,JY n fun k hk=>h k oG,h n oG];exact Rat.add_zero 0
theorem Jp {Y:Nat->Rat}{i:Nat} : ∀n,i<n->Zj (QZ i) Y n=Y i
 | 0,h=>by omega
 | n+1,h=>by rw[Zj];by_cases e:i=n;subst e;rw[JY i fun k hk=>by unfold QZ;rw[BA oG,Rat.zero_mul]];unfold QZ;rw[BC rfl,Rat.zero_add,Rat.one_mul];rw[Jp n oG];unfold QZ;rw[BA e,Rat.zero_mul,Rat.add_zero]
theorem V1 (X Y:Nat->Rat): ∀n,Zj X Y n=Zj Y X n
 | 0=>rfl
 | n+1=>by rw[Zj,Zj,V1 X Y n,Rat.mul_comm]
theorem x0r {a b:Ivl}(ha:Qs a=true)(hb:Qs b=true)(h1:XD (qN a.lo) b)(h2:XD (qN a.hi) b):inI a b=true:=w1n ha hb h1.1 h2.2
theorem w1c {a:Ivl}(h:Qs a=true):XD (qN a.lo) a:=⟨CB,by have:=Vm h;rwa [QL,QL] at this⟩
def GE (A x:Rat):Prop:= -A<=x/\x<=A
theorem J1h {A B x y:Rat}(hx:GE A x)(hy:GE B y):GE (A*B) (x*y):=by obtain⟨x1,x2⟩:=hx;obtain⟨y1,y2⟩:=hy;have a1:=X6 (a:=A-x) (b:=B+y) (by grind) (by grind);have a2:=X6 (a:=A+x) (b:=B-y) (by grind) (by grind);have a3:=X6 (a:=A-x) (b:=B-y) (by grind) (by grind);have a4:=X6 (a:=A+x) (b:=B+y) (by grind) (by grind);exact⟨by grind,by grind⟩
def xR (A:Nat->Rat):Nat->Rat
 | 0=>0
 | n+1=>xR A n+A n
theorem Hr {X Y A:Nat->Rat}{B:Rat} : ∀n,(∀k,k<n->GE (A k) (X k)/\GE B (Y k))->GE (xR A n*B) (Zj X Y n)
 | 0,_=>by show GE (0*B) 0;rw[Rat.zero_mul];exact⟨by grind,by grind⟩
 | n+1,h=>by obtain⟨a1,a2⟩:=Hr n fun k hk=>h k oG;obtain⟨b1,b2⟩:=J1h (h n oG).1 (h n oG).2;show GE ((xR A n+A n)*B) (Zj X Y n+X n*Y n);exact⟨by grind,by grind⟩
theorem W1z (x:Nm):qN x<=qN (jz x)/\ -qN x<=qN (jz x)/\0<=qN (jz x):=by
 have e:Kt (jz x)=(Qi x.w:Int):=by unfold Kt jz;simp
 have e2:qN (jz x)=qM (Qi x.w:Int) x.exp:=by unfold qN;rw[e];rfl
 rw[e2];have h0:(0:Rat)=qM 0 x.exp:=(Zs _).symm;refine⟨?_,?_,?_⟩;unfold qN Kt;rw[qM_le];split<;>omega;unfold qN Kt;rw[<-YE,qM_le];split<;>omega;rw[h0,qM_le];omega
theorem Q0l {a:Ivl}{X:Rat}(ha:Qs a=true)(h:XD X a):GE (qN (HH a)) X/\0<=qN (HH a):=by unfold HH;rw[BC ha];obtain⟨g1,g2,_⟩:=J0b (jz a.lo) (jz a.hi);obtain⟨l1,l2,l3⟩:=W1z a.lo;obtain⟨u1,u2,u3⟩:=W1z a.hi;obtain⟨m1,m2⟩:=h;exact⟨⟨by grind,by grind⟩,by grind⟩
theorem Q0k {L U:Nat}{a:Ivl}(h:luI L U a):luQ L U (qN (HH a)):=by
 unfold HH;rw[BC h.1];have key: ∀x,luQ L U (qN x)->luQ L U (qN (jz x)):=fun x hx=>by
  have e:qN (jz x)=qN x\/qN (jz x)= -qN x:=by
   unfold qN Kt jz;cases hn:x.neg with
   | true=>right;simp[YE]
   | false=>left;simp
  rcases e with e | e;rw[e];exact hx;rw[e];exact Hd hx
 unfold Z4;split;exact key _ h.2.2;exact key _ h.2.1
end Go.Pv
end
