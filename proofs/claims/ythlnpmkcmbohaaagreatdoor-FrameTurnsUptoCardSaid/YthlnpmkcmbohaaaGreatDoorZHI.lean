/- Parts of the walk: N184, N185, N186, N187, N188, N189, N190, N191. -/
import Derived.Test.YthlnpmkcmbohaaaGreatDoorZHD
import Derived.Test.YthlnpmkcmbohaaaGreatDoorZFJ
set_option linter.unusedVariables false
set_option linter.unusedSimpArgs false
section
set_option maxRecDepth 100000
namespace Go.Pv
open Go.Proofs
theorem H1r {x y:List Nm}(h:ofB x=ofB y):x=y:=by
 have hl:x.length=y.length:=by have:=B4 List.length h;simpa[ofB] using this
 refine C9 hl fun i h1 h2=> ?_;have:=B4 (fun l:List Ivl=>(l.getD i default).lo) h;simp only[Wx h1,Wx h2] at this;rwa [q_a,BB h1,q_a,BB h2] at this
theorem j0a (x y:List Nm)(st:Qf)(hx:U1v x)(hy:U1v y):PR 88 [.sl .no (Qy x),.sl .no (Qy y)] st (.sc (.bool (decide (x=y)))):=by refine U2m Tryz.func88 fun E=> ?_;refine(WS x _ hx).plain.w ?_;rintro st' rfl;refine G2s ?_;refine(WS y _ hy).plain.w ?_;rintro st' rfl;refine G2s ?_;refine(ye (ofB x) (ofB y) _ (YL hx) (YL hy)).w ?_;rintro st' rfl;refine G2s ?_;have:(ofB x=ofB y)<->x=y:=⟨H1r,fun h=>by rw[h]⟩;simp only[this]
set_option maxHeartbeats 4000000 in
theorem K1b (a b:Fm)(st:Qf)(ha:wFm a)(hb:wFm b):PR 41 [.agg (JI a),.agg (JI b)] st (.sc (.bool (decide (a=b)))):=by
 obtain⟨am,⟨aal,aa⟩,ar⟩:=ha;obtain⟨bm,⟨bal,ba⟩,br⟩:=hb;have aml:=am.1;have bml:=bm.1;refine Qb none Tryz.func41 rfl fun E=>Qa ?_;by_cases h1:a.m.length=b.m.length;rotate_left;have z1:((a.m.length:Int) !=(b.m.length:Int))=true:=BV.2 oG;simp-dsimp only[go_sem,z1];rw[q_g (fun e=>h1 (by rw[e]))];have z1:((a.m.length:Int) !=(b.m.length:Int))=false:=(by rw[h1];simp);by_cases h2:a.a.length=b.a.length;rotate_left;have z2:((a.a.length:Int) !=(b.a.length:Int))=true:=BV.2 oG;simp-dsimp only[go_sem,z1,z2];rw[q_g (fun e=>h2 (by rw[e]))];have z2:((a.a.length:Int) !=(b.a.length:Int))=false:=(by rw[h2];simp);simp-dsimp only[go_sem,z1,z2];refine(ye a.r b.r _ ar br).w ?_;rintro st' rfl;by_cases h3:a.r=b.r;rotate_left;have z3:decide (a.r=b.r)=false:=q_g h3;simp-dsimp only[go_sem,z3];rw[q_g (fun e=>h3 (by rw[e]))];have z3:decide (a.r=b.r)=true:=q_h h3;simp-dsimp only[go_sem,z3];refine Qd ([false,false,true,true,false,true]++List.replicate 27 false++ [true,true]) 2 0
  (fun c s=> ∃i:Nat,c=a.a.length-i/\i<=a.a.length/\(∀j,j<i->a.a.getD j []=b.a.getD j [])/\
   s=⟨[.junk,.junk,.lp 0 0,.lp 1 0,.junk,.fn (.func 88) [] []]++jk 27++ [.sc (.int .i64 a.a.length),.sc (.int .i64 (i:Nat))]++jk 22,[JI a,JI b],[],st'⟩) a.a.length ?_ ?_
 refine G2s ?_;exact⟨0,oG,oG,fun j hj=>absurd hj (CD j),rfl⟩;rintro c s ⟨i,rfl,hi,heq,rfl⟩;refine U2n (fun h=> ?_) (fun h=> ?_);have hlt:i<a.a.length:=(oT h);have g1:=Xh a.a i hlt;have g2:=Xh b.a i oG;have e3:=Zw i oG;refine G2s ?_;refine Qm QH 57 (X0p [0,1,2,3,4,5,6,7,8,9,10,11,12] .done) (by decide+kernel) (by simp) ?_;simp-dsimp only[go_sem,g1,g2];refine⟨oG,oG,?_⟩;refine(j0a (a.a.getD i []) (b.a.getD i []) _ (aa i hlt) (ba i oG)).w ?_;rintro st' rfl;by_cases h4:a.a.getD i []=b.a.getD i [];have z4:decide (a.a.getD i []=b.a.getD i [])=true:=q_h h4;simp-dsimp only[go_sem,z4,e3];refine⟨a.a.length-(i+1),oG,i+1,rfl,oG,fun j hj=> ?_,rfl⟩;by_cases e:j=i;rw[e];exact h4;exact heq j oG;have z4:decide (a.a.getD i []=b.a.getD i [])=false:=q_g h4;simp-dsimp only[go_sem,z4];rw[q_g (fun e=>h4 (by rw[e]))];have hge:i=a.a.length:=(oF h);subst hge;have hA:a.a=b.a:=C9 h2 fun k h4 h5=>by have:=heq k h4;rwa [q_a,BB h4,q_a,BB h5] at this
 refine G2s ?_;refine U2i ?_;refine(j0a a.m b.m _ am bm).w ?_;rintro st' rfl;refine G2s ?_;have:(a=b)<->a.m=b.m:=(by rw[V2x];exact⟨fun h=>h.1,fun h=>⟨h,hA,h3⟩⟩);simp only[this]
theorem K0b (k:Nat)(st:Qf)(hk:k<=100000):PR 72 [.sc (.int .i64 k)] st (.sl .no (Z8 (U4 k))):=by
 refine U2m Tryz.func72 fun E=> ?_;refine QQ 3 1 ?_;refine G2s ?_;refine QF [true,false,false,true,false,false,true,true] 0 1
  (fun m s=> ∃i,m=k-i/\i<=k/\s=⟨[.sc (.int .i64 k),.junk,.junk,.sl (.own 0) (Z8 ((U4 k).take i)),.junk,.junk,.sc (.int .i64 k),.sc (.int .i64 (i:Nat))]++jk 14,[],[(((U4 k).take i).length,1)],st⟩) k ?_ ?_
 refine G2s ?_;exact⟨0,oG,oG,rfl⟩;rintro m s ⟨i,rfl,hi,rfl⟩;refine U2h ?_;refine U2h ?_;refine ck (fun h'=> ?_) (fun h'=> ?_);have hlt:i<k:=(by have:=q_b h';omega);have e3:=Zw i oG;have ll:((U4 k).take i).length=i:=(by rw[BX,X5];omega);have e5:(U4 k).take (i+1)=(U4 k).take i++ [HU k i]:=Iz _ _ _ hlt;have e6:flat (Qy (HU k i))=Zx (flat (Qy (List.replicate k default))) (i*3) (Q9 oneN):=(vX _ i oneN (by simpa using hlt)).symm;refine G2s ?_;refine Qe (Zp ?_);refine U2h ?_;refine U2h ?_;refine⟨⟨oG,oG⟩,?_⟩;refine Qe (Qa ?_);simp-dsimp only[go_sem,VI];refine(Vp _).w ?_;rintro st' rfl;simp-dsimp only[go_sem,VI];refine⟨⟨oG,hlt⟩,⟨oG,oG⟩,?_⟩;have r0:GR k [.sc (.bool false),.sc (.int .i64 0),.sl .no []]=flat (Qy (List.replicate k default)):=H0o k;have r1:Zx (flat (Qy (List.replicate k default))) (i*3) [.sc (.bool oneN.neg),.sc (.int .i64 oneN.exp),.sl .no (Q2 oneN.w)]=flat (Qy (HU k i)):=e6.symm;have r2:=K0k (HU k i) k (VH k i).symm;have r3:=VH k i;have hone:Q2 oneN.w= [.sc (.int .u64 1)]:=rfl;refine IH 0 3 ?_ ?_;refine G2s ?_;exact x0y (x0x rfl) rfl;simp-dsimp only[go_sem,J0g,jf,r0,r1,r2,r3];refine U2i ?_;refine⟨⟨oG,oG⟩,Qa ?_⟩;simp-dsimp only[go_sem,e3];refine⟨k-(i+1),oG,i+1,rfl,oG,?_⟩;rw[e5];simp;have hge:i=k:=(by have:=q_c h';omega);have ht:(U4 k).take i=U4 k:=BF (by rw[X5];omega);rw[ht];refine G2s ?_;refine XR [false,false,false,true] (Qa ?_);exact G2r
theorem j0b (b:List Ivl)(p:Int)(st:Qf)(hb:wB b):PCalls Tryz.prog 26 [.sl .no (QE b),.sc (.int .i64 p)] st
 (fun r st'=>r= .tup [.agg (JI (KN b p).1),.sc (.int .i64 (KN b p).2)]/\st'=st):=by
 refine Qb none Tryz.func26 rfl fun E=>Qe (Qa ?_);have wm:=U0x b p hb;have wo:=YL wm;refine G2s ?_;refine U2h ?_;refine(jW b p st hb).Q ?_;refine Qe (Qa ?_);unfold KN;by_cases h1:(Xc b p).2=0;rotate_left;have d1:((Xc b p).2 !=0)=true:=BV.2 h1;rw[BC h1];simp-dsimp only[go_sem,d1];rfl;have d1:((Xc b p).2 !=0)=false:=(by rw[h1];rfl);have c1: ¬((Xc b p).2≠0):=fun h=>h h1;rw[BA c1];simp-dsimp only[go_sem,d1];refine U2h ?_;refine(WS (Xc b p).1 st wm).plain.Q ?_;refine(K0o b (ofB (Xc b p).1) p st hb wo).Q ?_;refine Qe (Qa ?_);by_cases h2:(opB 1 b (ofB (Xc b p).1) p).2=0;rotate_left;have d2:((opB 1 b (ofB (Xc b p).1) p).2 !=0)=true:=BV.2 h2;rw[BC h2];simp-dsimp only[go_sem,d2];rfl;have d2:((opB 1 b (ofB (Xc b p).1) p).2 !=0)=false:=(by rw[h2];rfl);have c2: ¬((opB 1 b (ofB (Xc b p).1) p).2≠0):=fun h=>h h2;rw[BA c2];have hl:=J0s h1;simp-dsimp only[go_sem,d2];refine U2i ?_;refine(K0b b.length st oG).Q ?_;rfl
theorem k1j {q:List (List Nm)}(h:wQs q):wM (ofM q):=by obtain⟨h1,h2⟩:=h;refine⟨by simpa[ofM] using h1,fun i hi=> ?_⟩;have hi':i<q.length:=(by simpa[ofM] using hi);rw[Ia hi'];exact YL (h2 i hi')
theorem J1l {f:Fm}{p:Int}(h:Zb f=true/\Q4 p=true):Kl f p=if (V4 (ofM f.a) f.r p).2≠0 then([],(V4 (ofM f.a) f.r p).2) else opB 0 (ofB f.m) (V4 (ofM f.a) f.r p).1 p:=by unfold Kl;rw[BC h]
theorem vI {f:Fm}{p:Int}(h: ¬(Zb f=true/\Q4 p=true)):Kl f p=([],1):=by unfold Kl;rw[BA h]
theorem If (f:Fm)(p:Int)(st:Qf)(hf:wFm f):PCalls Tryz.prog 29 [.agg (JI f),.sc (.int .i64 p)] st
 (fun r st'=>r= .tup [.sl .no (QE (Kl f p).1),.sc (.int .i64 (Kl f p).2)]/\st'=st):=by
 obtain⟨wm,wa,wr⟩:=hf;refine Qb none Tryz.func29 rfl fun E=>Qe (Qa ?_);refine G2s ?_;refine U2h ?_;refine(KM f _ ⟨wm,wa,wr⟩).w ?_;rintro st' rfl;cases hr:Zb f with
 | false=>
  rw[vI (fun h=>by rw[hr] at h;cases h.1)];exact G2r
 | true=>
 refine G2s ?_;refine(Xp p _).w ?_;rintro st' rfl;cases hp:Q4 p with
 | false=>
  rw[vI (fun h=>by rw[hp] at h;cases h.2)];exact G2r
 | true=>
 rw[J1l ⟨hr,hp⟩];refine G2s ?_;refine Qe ?_;refine Qm QH 37 (X0p [0,1,3,4,5] (.step 2 [4] (X0p [6,7,8,9,10,11] .done))) (by decide+kernel) (by simp) ?_;refine G2s ?_;refine(Q0i f.a _ wa).plain.w ?_;rintro st' rfl;refine G2s ?_;refine(jw (ofM f.a) f.r p _ (k1j wa) wr).w ?_;rintro st' rfl;have wv:=yu (ofM f.a) f.r p;generalize V4 (ofM f.a) f.r p=V at*
 refine G2s ?_;refine Qe (Qa ?_);by_cases h1:V.2=0;rotate_left;have d1:(V.2 !=0)=true:=BV.2 h1;rw[BC h1];simp-dsimp only[go_sem,d1];have d1:(V.2 !=0)=false:=(by rw[h1];rfl);rw[BA (fun e=>e h1)];simp-dsimp only[go_sem,d1];refine U2i ?_;refine(WS f.m _ wm).plain.w ?_;rintro st' rfl;refine G2s ?_;refine(K0q (ofB f.m) V.1 p _ (YL wm) wv).w ?_;rintro st' rfl;exact G2r
theorem K1c (v c:Mx)(r z:List Ivl)(p:Int)(st:Qf)(wv:wM v)(wc:wM c)(wr:wB r)(wz:wB z):PCalls Tryz.prog 56 [.sl .no (XE v),.sl .no (XE c),.sl .no (QE r),.sl .no (QE z),.sc (.int .i64 p)] st
 (fun x st'=>x= .tup [.sl .no (QE (zq v c r z p).1),.sc (.int .i64 (zq v c r z p).2)]/\st'=st):=by
 refine Qb none Tryz.func56 rfl fun E=>Qe (Qa ?_);unfold zq;refine G2s ?_;refine U2h ?_;refine(jx v c p _ wv wc).w ?_;rintro st' rfl;have wm:=Q0d v c p;generalize XW v c p=M at*
 refine G2s ?_;refine Qe (Qa ?_);by_cases h1:M.2=0;rotate_left;have d1:(M.2 !=0)=true:=BV.2 h1;rw[BC h1];simp-dsimp only[go_sem,d1];have d1:(M.2 !=0)=false:=(by rw[h1];rfl);rw[BA (fun e=>e h1)];simp-dsimp only[go_sem,d1];refine U2h ?_;refine(jw M.1 r p _ wm wr).w ?_;rintro st' rfl;have wx:=yu M.1 r p;generalize V4 M.1 r p=X at*
 refine G2s ?_;refine Qe (Qa ?_);by_cases h2:X.2=0;rotate_left;have d2:(X.2 !=0)=true:=BV.2 h2;rw[BC h2];simp-dsimp only[go_sem,d2];have d2:(X.2 !=0)=false:=(by rw[h2];rfl);rw[BA (fun e=>e h2)];simp-dsimp only[go_sem,d2];refine U2h ?_;refine(jw v z p _ wv wz).w ?_;rintro st' rfl;have wy:=yu v z p;generalize V4 v z p=Y at*
 refine G2s ?_;refine Qe (Qa ?_);by_cases h3:Y.2=0;rotate_left;have d3:(Y.2 !=0)=true:=BV.2 h3;rw[BC h3];simp-dsimp only[go_sem,d3];have d3:(Y.2 !=0)=false:=(by rw[h3];rfl);rw[BA (fun e=>e h3)];simp-dsimp only[go_sem,d3];refine U2i ?_;refine(K0q X.1 Y.1 p _ wx wy).w ?_;rintro st' rfl;exact G2r
def w1z (t:List (List Nm)×Mx):List PV:= [.sl .no (Z8 t.1),.sl .no (XE t.2)]
attribute [go_sem] w1z
theorem k0y {a:List (List Nm)}{p:Int}(h:(XU a p).2=0):wQs (XU a p).1:=by have hs:=K0h h;have h4:=(rightQ_iff.1 (K0i h).1).2;refine⟨by rw[hs.1];omega,fun i hi=> ?_⟩;rw[hs.1] at hi;have:=hs.row hi;exact⟨by rw[this.1];omega,fun j hj=>Qr (this.2 _ (Qq _ _ _ hj))⟩
theorem G1h (c:Mx)(p:Int)(st:Qf)(wc:wM c):PCalls Tryz.prog 101 [.ep [.sl .no (XE c)] 0,.ep [.sc (.int .i64 p)] 0] st
 (fun r st'=>r= .tup [.agg (w1z (vj c p).1),.sc (.int .i64 (vj c p).2)]/\st'=st):=by
 refine Qb none Tryz.func101 rfl fun E=>Qe (Qa ?_);unfold vj;refine G2s ?_;refine U2h ?_;refine(X1p c p _ wc).w ?_;rintro st' rfl;have wq:=q1c c p;generalize IY c p=M at*
 refine G2s ?_;refine Qe (Qa ?_);by_cases h1:M.2=0;rotate_left;have d1:(M.2 !=0)=true:=BV.2 h1;rw[BC h1];simp-dsimp only[go_sem,d1];have d1:(M.2 !=0)=false:=(by rw[h1];rfl);rw[BA (fun e=>e h1)];simp-dsimp only[go_sem,d1];refine U2h ?_;refine(zu M.1 p _ wq).w ?_;rintro st' rfl;have wcq:=k0y (a:=M.1) (p:=p);generalize XU M.1 p=B at*
 refine G2s ?_;refine Qe (Qa ?_);by_cases h2:B.2=0;rotate_left;have d2:(B.2 !=0)=true:=BV.2 h2;rw[BC h2];simp-dsimp only[go_sem,d2];have d2:(B.2 !=0)=false:=(by rw[h2];rfl);rw[BA (fun e=>e h2)];simp-dsimp only[go_sem,d2];refine U2h ?_;refine(x0n B.1 p _ (wcq h2)).w ?_;rintro st' rfl;generalize Xr B.1 p=V at*
 refine G2s ?_;refine Qa ?_;simp-dsimp only[go_sem]
 try rfl
theorem G1g (c:Mx)(st:Qf)(hc:c.length<=1000):PCalls Tryz.prog 105 [.ep [.sl .no (XE c)] 0] st
 (fun r st'=>r= .tup [.agg (w1z (U4 c.length,idM c.length)),.sc (.int .i64 0)]/\st'=st):=by
 refine Qb none Tryz.func105 rfl fun E=>Qe (Qa ?_);refine G2s ?_;refine Qe ?_;refine Qm QH 10 (X0p [0,1,3,4] (.step 2 [3] (X0p [5,6,7,8] .done))) (by decide+kernel) (by simp) ?_;refine G2s ?_;refine(K0b c.length _ oG).w ?_;rintro st' rfl;refine G2s ?_;refine(qe (c.length:Int) _).w ?_;rintro st' rfl;refine G2s ?_;refine Qa ?_;simp-dsimp only[go_sem]
 try rfl
def W1p (c:Mx)(p:Int):Nat->(List (List Nm)×Mx)×Int
 | 0=>(([],[]),3)
 | 1=>vj c p
 | _=>JA c p
theorem K1a (c:Mx)(p:Int)(st:Qf)(wc:wM c)(rc:rightM c=true):PCalls Tryz.prog 54 [.sl .no (XE c),.sc (.int .i64 p)] st
 (fun r st'=>r= .tup [.agg (w1z (JA c p).1),.sc (.int .i64 (JA c p).2)]/\st'=st):=by
 have hl:=QI rc;have ho:U0i (c.length:Int)=U4 c.length:=(by rw[U0i,BC oG];rfl);refine Qb none Tryz.func54 rfl fun E=>Qe (Qa ?_);refine G2s ?_;refine QD 0 ?_ ?_;exact G2r;refine G2s ?_;refine QD 1 ?_ ?_;exact G2r;refine G2s ?_;refine U2h ?_;refine U2h ?_;refine U2h ?_;refine U2h ?_;refine ZN 3 ?_;refine G2s ?_;refine U2i ?_;refine Qd [false,false,false,false,true,false,false,false,true,true,false,false,false,false,false,false,true,true,true] 4 0
  (fun m s=> ∃i:Nat,m=2-i/\i<=2/\
   s=⟨[.junk,.junk,.junk,.junk,.lp 2 0,.junk,.junk,.junk,.sc (.int .i64 (W1p c p i).2),.lp 3 0]++jk 6++ [.sl .full [.fn (.func 101) [] [.ep [.sl .no (XE c)] 0,.ep [.sc (.int .i64 p)] 0],.fn (.func 105) [] [.ep [.sl .no (XE c)] 0]],.sc (.int .i64 2),.sc (.int .i64 (i:Nat))]++jk 13,
    [[],[],[.sl .full [],.sl .full []],w1z (W1p c p i).1],[],st⟩) 2 ?_ ?_
 refine G2s ?_;exact⟨0,oG,oG,rfl⟩;rintro m s ⟨i,rfl,hi,rfl⟩;refine U2n (fun h=> ?_) (fun h=> ?_);rotate_left
 . have hge:i=2:=oF h
   subst hge;refine G2s ?_;refine Qa ?_;simp-dsimp only[go_sem]
   try rfl
 have hlt:i=0\/i=1:=oT h
 rcases hlt with rfl | rfl;have z1:((W1p c p 0).2==3)=true:=rfl;have x1:IntKind.i64.wrap (((0:Nat):Int)+1)=((1:Nat):Int):=(by decide);simp-dsimp only[go_sem,z1];refine⟨oG,?_⟩;refine(G1h c p _ wc).w ?_;rintro st' rfl;simp-dsimp only[go_sem,x1];exact⟨1,oG,1,rfl,oG,rfl⟩;have x1:IntKind.i64.wrap (((1:Nat):Int)+1)=((2:Nat):Int):=(by decide);by_cases h3:(vj c p).2=3;have z1:((W1p c p 1).2==3)=true:=(by show((vj c p).2==3)=true;rw[h3];rfl);have ht:JA c p=((U4 c.length,idM c.length),0):=(by unfold JA;rw[BC h3,ho]);have e2:W1p c p 2=((U4 c.length,idM c.length),0):=ht;simp-dsimp only[go_sem,z1];refine⟨oG,?_⟩;refine(G1g c _ oG).w ?_;rintro st' rfl;simp-dsimp only[go_sem,x1];exact⟨0,oG,2,rfl,oG,by rw[e2]⟩;have z1:((W1p c p 1).2==3)=false:=(by show((vj c p).2==3)=false;simpa using h3);have e2:W1p c p 2=W1p c p 1:=(by show JA c p=vj c p;unfold JA;rw[BA h3]);simp-dsimp only[go_sem,z1,x1];refine⟨oG,?_⟩;exact⟨0,oG,2,rfl,oG,by rw[e2]⟩
theorem Ks {f:Fm}{z:List Ivl}{s:Mx}{p:Int}(h: ¬(Zb f=true/\rightB z=true/\rightM s=true/\z.length=f.m.length/\s.length=f.m.length/\Q4 p=true)):XJ f z s p=(default,1):=by unfold XJ;rw[BA (fun e=>h (H9 e))]
theorem z0g {f:Fm}{z:List Ivl}{s:Mx}{p:Int}(h1:Zb f=true)(h2:rightB z=true)(h3:rightM s=true)(h4:z.length=f.m.length)(h5:s.length=f.m.length)(h6:Q4 p=true):XJ f z s p=z0f f z s p:=by unfold XJ Gb;rw[BC (by rw[h1,h2,h3,h4,h5,h6];simp)]
theorem k1v {n:Nat}{c:Mx}{p:Int}(rc:rightM c=true)(h:(JA c p).2=0):wM (JA c p).1.2:=by unfold JA at h⊢;split;have hl:=QI rc;obtain⟨si,hil⟩:=k7 hl.1 hl.2;exact Wp si.right;rename_i c3;rw[BA c3] at h;unfold vj at h⊢;split at h;rename_i c;exact absurd h c;rename_i c;rw[BA c];split at h;rename_i c;exact absurd h c;rename_i c;rw[BA c];exact Wp (I0 h)
set_option maxHeartbeats 16000000 in
theorem Gx (f:Fm)(z:List Ivl)(s:Mx)(p:Int)(st:Qf)(hf:wFm f)(wz:wB z)(ws:wM s):PCalls Tryz.prog 13 [.agg (JI f),.sl .no (QE z),.sl .no (XE s),.sc (.int .i64 p)] st
 (fun r st'=>r= .tup [.agg (JI (XJ f z s p).1),.sc (.int .i64 (XJ f z s p).2)]/\st'=st):=by
 obtain⟨wm,wa,wr⟩:=hf;have wml:=wm.1;have wzl:=wz.1;have wsl:=ws.1;refine Qb none Tryz.func13 rfl fun E=>Qe (Qa ?_);refine G2s ?_;refine U2h ?_;refine(KM f _ ⟨wm,wa,wr⟩).w ?_;rintro st' rfl;cases h1:Zb f with
 | false=>
  rw[Ks (fun h=>by rw[h1] at h;cases h.1)];simp-dsimp only[go_sem]
  try rfl
 | true=>
 refine G2s ?_;refine(Jq z _ wz).w ?_;rintro st' rfl;cases h2:rightB z with
 | false=>
  rw[Ks (fun h=>by rw[h2] at h;cases h.2.1)];simp-dsimp only[go_sem]
  try rfl
 | true=>
 refine G2s ?_;refine(Ha s _ ws).w ?_;rintro st' rfl;cases h3:rightM s with
 | false=>
  rw[Ks (fun h=>by rw[h3] at h;cases h.2.2.1)];simp-dsimp only[go_sem]
  try rfl
 | true=>
 by_cases h4:z.length=f.m.length;rotate_left
 . have z4:((z.length:Int) !=(f.m.length:Int))=true:=BV.2 oG;rw[Ks (fun h=>h4 h.2.2.2.1)];simp-dsimp only[go_sem,z4]
   try rfl
 have z4:((z.length:Int) !=(f.m.length:Int))=false:=by rw[h4];simp
 by_cases h5:s.length=f.m.length;rotate_left
 . have z5:((s.length:Int) !=(f.m.length:Int))=true:=BV.2 oG;rw[Ks (fun h=>h5 h.2.2.2.2.1)];simp-dsimp only[go_sem,z4,z5]
   try rfl
 have z5:((s.length:Int) !=(f.m.length:Int))=false:=by rw[h5];simp
 simp-dsimp only[go_sem,z4,z5];refine(Xp p _).w ?_;rintro st' rfl;cases h6:Q4 p with
 | false=>
  rw[Ks (fun h=>by rw[h6] at h;cases h.2.2.2.2.2)];simp-dsimp only[go_sem]
  try rfl
 | true=>
 rw[z0g h1 h2 h3 h4 h5 h6];unfold z0f;refine G2s ?_
 --the middle
 refine U2h ?_;refine(jW z p _ wz).w ?_;rintro st' rfl;have wmid:=U0x z p wz;generalize Xc z p=M at*
 refine G2s ?_;refine Qe (Qa ?_);by_cases e1:M.2=0;rotate_left
 . have d1:(M.2 !=0)=true:=BV.2 e1;rw[BC e1];simp-dsimp only[go_sem,d1]
   try rfl
 have d1:(M.2 !=0)=false:=by rw[e1];rfl
 rw[BA (fun e=>e e1)];unfold Z1u;simp-dsimp only[go_sem,d1]
 --the product
 refine U2h ?_;refine(Q0i f.a _ wa).plain.w ?_;rintro st' rfl;refine G2s ?_;refine(jx s (ofM f.a) p _ ws (k1j wa)).w ?_;rintro st' rfl;have wc:=Q0d s (ofM f.a) p;have rc:=jr (a:=s) (b:=ofM f.a) (p:=p);generalize XW s (ofM f.a) p=C at*
 refine G2s ?_;refine Qe (Qa ?_);by_cases e2:C.2=0;rotate_left
 . have d2:(C.2 !=0)=true:=BV.2 e2;rw[BC e2];simp-dsimp only[go_sem,d2]
   try rfl
 have d2:(C.2 !=0)=false:=by rw[e2];rfl
 rw[BA (fun e=>e e2)];unfold Z1q;have rc:=(rc e2).1;simp-dsimp only[go_sem,d2]
 --the columns
 refine U2h ?_;refine(K1a C.1 p _ wc rc).w ?_;rintro st' rfl;have wt:=k1v (n:=0) (p:=p) rc;generalize JA C.1 p=T at*
 obtain⟨⟨tb,tv⟩,te⟩:=T;refine G2s ?_;refine Qe (Qa ?_);by_cases e3:te=0;rotate_left
 . have d3:(te !=0)=true:=BV.2 e3;rw[BC e3];simp-dsimp only[go_sem,d3]
   try rfl
 have d3:(te !=0)=false:=by rw[e3];rfl
 rw[BA (fun e=>e e3)];have wt:=wt e3;unfold Z1t;simp-dsimp only[go_sem,d3]
 --what is left
 refine U2h ?_;refine(WS M.1 _ wmid).plain.w ?_;rintro st' rfl;refine G2s ?_;refine(K0o z (ofB M.1) p _ wz (YL wmid)).w ?_;rintro st' rfl;have wd:=fun h=>JQ (GY (k:=1) (a:=z) (b:=ofB M.1) (p:=p) h);generalize opB 1 z (ofB M.1) p=D at*
 refine G2s ?_;refine Qe (Qa ?_);by_cases e4:D.2=0;rotate_left
 . have d4:(D.2 !=0)=true:=BV.2 e4;rw[BC e4];simp-dsimp only[go_sem,d4]
   try rfl
 have d4:(D.2 !=0)=false:=by rw[e4];rfl
 rw[BA (fun e=>e e4)];have wd:=wd e4;unfold z0e;simp-dsimp only[go_sem,d4];refine U2h ?_;refine(K1c tv C.1 f.r D.1 p _ wt wc wr wd).w ?_;rintro st' rfl;generalize zq tv C.1 f.r D.1 p=R at*
 refine G2s ?_;refine Qe (Qa ?_);by_cases e5:R.2=0;rotate_left
 . have d5:(R.2 !=0)=true:=BV.2 e5;rw[BC e5];simp-dsimp only[go_sem,d5]
   try rfl
 have d5:(R.2 !=0)=false:=by rw[e5];rfl
 rw[BA (fun e=>e e5)];simp-dsimp only[go_sem,d5];refine Qa ?_;simp-dsimp only[go_sem]
 try rfl
theorem q1d {z:List Ivl}{p:Int}(h:(Xc z p).2=0):(Xc z p).1.length=z.length/\ ∀x∈(Xc z p).1,Qg x=true:=by unfold Xc at h⊢;split at h;rename_i c;rw[BC c];rw[Ku] at h⊢;exact⟨(Js h).1,VA (fun x=>Qg x=true) _ 0 [] (fun j _ _=>Jm _ _) (fun x hx=>by cases hx)⟩;exact absurd h (by decide)
theorem J9 :wFm default:=⟨⟨CX _,fun i hi=>absurd hi (CD i)⟩,⟨CX _,fun i hi=>absurd hi (CD i)⟩,⟨CX _,fun i hi=>absurd hi (CD i)⟩⟩
theorem H1u {f:Fm}{m:List Nm}{c:Mx}{t:List (List Nm)×Mx}{d:List Ivl}{p:Int}(hm:U1v m)(ht:wQs t.1):wFm (z0e f m c t d p).1:=by unfold z0e;split;exact J9;rename_i h;have h:=C8.1 h;unfold zq at h⊢;split at h;rename_i c;exact absurd h c;rename_i c1;rw[BA c1];split at h;rename_i c;exact absurd h c;rename_i c2;rw[BA c2];split at h;rename_i c;exact absurd h c;rename_i c3;rw[BA c3];exact⟨hm,ht,JQ (GY h)⟩
theorem G1f {c:Mx}{p:Int}(h:(JA c p).2=0):wQs (JA c p).1.1:=by unfold JA at h⊢;split;exact q0r _;rename_i c3;rw[BA c3] at h;unfold vj at h⊢;split at h;rename_i c;exact absurd h c;rename_i c1;rw[BA c1];split at h;rename_i c;exact absurd h c;rename_i c2;rw[BA c2];exact k0y (C8.1 c2)
theorem Z1s (f:Fm)(z:List Ivl)(s:Mx)(p:Int):wFm (XJ f z s p).1:=by unfold XJ;split;rotate_left;exact J9;unfold z0f;split;exact J9;rename_i h1;have h1:=C8.1 h1;have hl:=J0s h1;have hm:=q1d h1;unfold Z1u;split;exact J9;unfold Z1q;split;exact J9;rename_i h3;unfold Z1t;split;exact J9;exact H1u ⟨oG,fun i hi=>Qr (hm.2 _ (Qq _ _ _ hi))⟩ (G1f (C8.1 h3))
def ZZ :Nm:=⟨false,1,[1]⟩
def k18f :Fm:=⟨[⟨false,0,[1]⟩],[[⟨false,0,[1]⟩]],[⟨⟨true,0,[1]⟩,⟨false,0,[1]⟩⟩]⟩
def k18n :Fm:=⟨[⟨false,1,[1]⟩],[[⟨false, -1,[1]⟩]],[⟨⟨true,2,[1]⟩,⟨false,2,[1]⟩⟩]⟩
theorem G2z :KN [⟨default,ZZ⟩] 16=(k18f,0):=by decide+kernel
theorem G2y :Kl k18f 16=([⟨default,ZZ⟩],0):=by decide+kernel
theorem G2x :XJ k18f [⟨ZZ,ZZ⟩] [[⟨ZZ,ZZ⟩]] 16=(k18n,0):=by decide+kernel
theorem U2t :Zb k18f=true:=by decide+kernel
theorem U0y {a:Ivl}(h:wI a):wB [a]:=⟨by simp,fun i hi=>by have:i=0:=(by simpa using hi);subst this;exact h⟩
theorem Y0e (x:Nm)(st:Qf)(hx:wN x):PR 40 [.agg (Q9 x)] st (.sc (.bool (decide (x=default)))):=by unfold wN at hx;refine U2m Tryz.func40 fun E=> ?_;refine(Wt x default _ oG (by decide)).w ?_;rintro st' rfl;exact G2r
set_option maxHeartbeats 16000000 in
theorem qj (st:Qf):PR 6 [] st (.sc (.bool true)):=by
 have wt:wN ZZ:=Qr (by decide);have wd:wN default:=Qr (by decide);have wf:=Vk U2t;have c1:=j0b [⟨default,ZZ⟩] 16 st (U0y ⟨wd,wt⟩);have c2:=If k18f 16 st wf;have c3:=Gx k18f [⟨ZZ,ZZ⟩] [[⟨ZZ,ZZ⟩]] 16 st wf (U0y ⟨wt,wt⟩) ⟨by simp,fun i hi=>by have:i=0:=(by simpa using hi);subst this;exact U0y ⟨wt,wt⟩⟩;rw[G2z] at c1;rw[G2y] at c2;rw[G2x] at c3;refine Qb none Tryz.func6 rfl fun E=>Qe (Qa ?_);refine G2s ?_;refine U2h ?_;refine U2h ?_;refine c1.w ?_;rintro st' rfl;refine G2s ?_;refine U2h ?_;refine c2.w ?_;rintro st' rfl;refine G2s ?_;refine Qe ?_;refine Qm QH 124 (X0p [0,1,4] (.alt (.step 2 [0,4] (.step 3 [] (.alt (.step 5 [0] (.step 6 [] (.step 7 [] (.alt (X0p [8,9,10,11] (.step 12 [0,1,4] (.step 13 [] (.step 14 [] (.done))))) (.step 12 [0,1,4] (X0p [8,9,10,11,13,14] .done)))))) (.step 12 [0,1,4] (.step 5 [0] (X0p [6,7,8,9,10,11,13,14] .done)))))) (.step 12 [0,1,4] (.step 2 [0,4] (.step 3 [] (.step 5 [0] (X0p [6,7,8,9,10,11,13,14] .done))))))) (by decide+kernel) (by simp) ?_;refine G2s ?_;refine And.intro ?_ ?_
 all_goals
  refine(xd ZZ _ wt).w ?_;rintro st' rfl;simp-dsimp only[go_sem]
  try refine And.intro ?_ ?_
 all_goals
  refine(xd ZZ _ wt).w ?_;rintro st' rfl;simp-dsimp only[go_sem]
  try refine And.intro ?_ ?_
 all_goals
  refine c3.w ?_;rintro st' rfl;simp-dsimp only[go_sem]
 all_goals
  have z0:((0:Int)==0)=true:=rfl;have z1:(((1:Nat):Int)==1)=true:=rfl;have f1:k18f.m= [⟨false,0,[1]⟩]:=rfl;have f2:(Qy [⟨false,0,[1]⟩]).getD 0 .junk= .agg (Q9 ⟨false,0,[1]⟩):=rfl;have f3:(QE [(⟨default,ZZ⟩:Ivl)]).getD 0 .junk= .agg (ZQ ⟨default,ZZ⟩):=rfl;have f4:k18n.m= [ZZ]:=rfl;have f5:(Qy [ZZ]).getD 0 .junk= .agg (Q9 ZZ):=rfl;have f6:k18n.a.length=1:=rfl;have f7:(Z8 k18n.a).getD 0 .junk= .sl .no (Qy [⟨false, -1,[1]⟩]):=rfl;have f8:k18n.r.length=1:=rfl;refine Qe ?_;refine q0d QH 124 [⟨0,0,false,false⟩,⟨1,1,false,false⟩,⟨2,2,false,false⟩,⟨3,4,false,false⟩,⟨4,12,false,false⟩,⟨5,20,false,false⟩,⟨6,36,false,false⟩,⟨7,64,false,false⟩,⟨8,192,false,false⟩,⟨9,320,false,false⟩,⟨10,576,false,false⟩,⟨11,1024,false,false⟩,⟨12,3072,true,false⟩,⟨13,5120,false,false⟩,⟨14,9216,false,false⟩,⟨15,17408,false,false⟩,⟨16,33792,false,false⟩,⟨17,65536,false,false⟩,⟨18,196608,true,false⟩,⟨19,327680,false,false⟩,⟨20,589824,true,false⟩,⟨21,65536,true,false⟩,⟨22,3211264,false,true⟩,⟨23,4259840,false,false⟩,⟨24,12582912,false,false⟩,⟨25,16777216,false,false⟩,⟨26,50331648,false,false⟩,⟨27,83886080,false,false⟩,⟨28,150994944,false,false⟩,⟨29,285212672,false,false⟩,⟨30,536870912,false,false⟩,⟨31,1610612736,false,false⟩,⟨32,2684354560,false,false⟩,⟨33,4831838208,true,false⟩,⟨34,536870912,true,false⟩,⟨35,26306674688,false,true⟩,⟨36,34896609280,false,false⟩,⟨37,103079215104,false,false⟩,⟨38,137438953472,false,false⟩,⟨39,412316860416,false,false⟩,⟨40,687194767360,false,false⟩,⟨41,1236950581248,true,false⟩,⟨42,2336462209024,false,true⟩,⟨43,4535485464576,false,false⟩,⟨44,13194139533312,false,false⟩,⟨45,17592186044416,true,false⟩,⟨46,52776558133248,false,true⟩,⟨47,87960930222080,false,false⟩,⟨48,211106232532992,false,false⟩,⟨49,281474976710656,true,false⟩,⟨50,281474976710656,true,false⟩,⟨51,1970324836974592,false,true⟩,⟨52,2533274790395904,false,false⟩,⟨53,6755399441055744,false,false⟩,⟨54,9007199254740992,false,false⟩,⟨55,27021597764222976,true,false⟩,⟨56,45035996273704960,false,false⟩,⟨57,81064793292668928,false,false⟩,⟨58,153122387330596864,false,false⟩,⟨59,297237575406452736,false,false⟩,⟨60,576460752303423488,false,false⟩,⟨61,1729382256910270464,true,false⟩,⟨62,2882303761517117440,false,false⟩,⟨63,5188146770730811392,true,false⟩,⟨64,576460752303423488,true,false⟩,⟨65,28246576862867750912,false,true⟩,⟨66,37469948899722526720,false,false⟩,⟨67,110680464442257309696,false,false⟩,⟨68,147573952589676412928,false,false⟩,⟨69,442721857769029238784,true,false⟩,⟨70,737869762948382064640,false,false⟩,⟨71,1328165573307087716352,false,false⟩,⟨72,2508757194024499019776,false,false⟩,⟨73,4869940435459321626624,false,false⟩,⟨74,9444732965739290427392,false,false⟩,⟨75,28334198897217871282176,true,false⟩,⟨76,47223664828696452136960,false,false⟩,⟨77,85002596691653613846528,true,false⟩,⟨78,160560460417567937265664,false,false⟩,⟨79,311676187869396584103936,false,false⟩,⟨80,613907642773053877780480,false,false⟩,⟨81,1218370552580368465133568,false,false⟩,⟨82,2417851639229258349412352,false,false⟩,⟨83,7253554917687775048237056,true,false⟩,⟨84,12089258196146291747061760,false,false⟩,⟨85,21760664753063325144711168,false,false⟩,⟨86,41103477866897391940009984,false,false⟩,⟨87,154742504910672534362390527,false,false⟩] (.step 0 [] (.step 1 [] (.step 2 [] (.step 3 [] (.step 4 [] (.step 5 [] (.step 6 [] (.step 7 [] (.step 8 [] (.step 9 [] (.step 10 [] (.step 11 [] (.step 12 [] (.step 13 [] (.step 14 [] (.step 15 [] (.step 16 [] (.step 17 [] (.step 18 [] (.step 19 [] (.step 20 [] (.step 21 [] (.step 22 [12] (.step 23 [] (.step 24 [] (.step 25 [] (.step 26 [] (.step 27 [] (.step 28 [] (.step 29 [] (.step 30 [] (.step 31 [] (.step 32 [] (.step 33 [] (.step 34 [] (.step 35 [12,18,20,21] (.step 36 [] (.step 37 [] (.step 38 [] (.step 39 [] (.step 40 [] (.step 41 [] (.step 42 [12,18,20,21] (.step 43 [] (.step 44 [] (.step 45 [] (.step 46 [12,18,20,21,33,34] (.step 47 [] (.step 48 [] (.step 49 [] (.step 50 [] (.step 51 [12,18,20,21,33,34,41] (.step 52 [] (.step 53 [] (.step 54 [] (.step 55 [] (.step 56 [] (.step 57 [] (.step 58 [] (.step 59 [] (.step 60 [] (.step 61 [] (.step 62 [] (.step 63 [] (.step 64 [] (.step 65 [12,18,20,21,33,34,41,45,49,50,55] (.step 66 [] (.step 67 [] (.step 68 [] (.step 69 [] (.step 70 [] (.step 71 [] (.step 72 [] (.step 73 [] (.step 74 [] (.step 75 [] (.step 76 [] (.step 77 [] (.step 78 [] (.step 79 [] (.step 80 [] (.step 81 [] (.step 82 [] (.step 83 [] (.step 84 [] (.step 85 [] (.step 86 [] (.step 87 [] (.done))))))))))))))))))))))))))))))))))))))))))))))))))))))))))))))))))))))))))))))))))))))))) (by decide+kernel) (by decide+kernel) (by simp) ?_;simp-dsimp only[go_sem,z0,z1,f1,f2,f3,f4,f5,f6,f7,f8,zh,U0,FU,EJ,CQ];refine(Wt ⟨false,0,[1]⟩ ⟨false,0,[1]⟩ _ (by decide) (by decide)).w ?_;rintro st' rfl;rw[q_h (rfl:(⟨false,0,[1]⟩:Nm)=⟨false,0,[1]⟩)];simp-dsimp only[go_sem,z0,z1,f1,f2,f3,f4,f5,f6,f7,f8,zh,U0,FU,EJ,CQ];refine(Wt ZZ ZZ _ (by decide) (by decide)).w ?_;rintro st' rfl;rw[q_h (rfl:ZZ=ZZ)];simp-dsimp only[go_sem,z0,z1,f1,f2,f3,f4,f5,f6,f7,f8,zh,U0,FU,EJ,CQ];refine(Y0e default _ wd).w ?_;rintro st' rfl;rw[q_h (rfl:(default:Nm)=default)];simp-dsimp only[go_sem,z0,z1,f1,f2,f3,f4,f5,f6,f7,f8,zh,U0,FU,EJ,CQ];refine(KM k18f _ wf).w ?_;rintro st' rfl;rw[U2t];simp-dsimp only[go_sem,z0,z1,f1,f2,f3,f4,f5,f6,f7,f8,zh,U0,FU,EJ,CQ];refine(K1b k18f k18f _ wf wf).w ?_;rintro st' rfl;rw[q_h (rfl:k18f=k18f)];simp-dsimp only[go_sem,z0,z1,f1,f2,f3,f4,f5,f6,f7,f8,zh,U0,FU,EJ,CQ];refine(Wt ZZ ZZ _ (by decide) (by decide)).w ?_;rintro st' rfl;rw[q_h (rfl:ZZ=ZZ)];simp-dsimp only[go_sem,z0,z1,f1,f2,f3,f4,f5,f6,f7,f8,zh,U0,FU,EJ,CQ];refine Qa ?_;simp-dsimp only[go_sem]
end Go.Pv
end
