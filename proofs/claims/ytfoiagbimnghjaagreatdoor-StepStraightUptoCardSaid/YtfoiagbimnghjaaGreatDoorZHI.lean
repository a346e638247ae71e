/- Walk. -/
import Derived.Test.YtfoiagbimnghjaaGreatDoorZHG
import Derived.Test.YtfoiagbimnghjaaGreatDoorZFH
set_option linter.all false
section
set_option maxRecDepth 100000
namespace Go.Pv
open Go.Proofs
theorem J1i {x y:Lx}(h:ofB x=ofB y):x=y:=by
 have hl:x.length=y.length:=by have:=B4 List.length h;simpa[ofB] using this
 refine C9 hl fun i h1 h2=> ?_;have:=B4 (fun l:List Ivl=>(l.getD i default).lo) h;simp only[Tl h1,Tl h2] at this;rwa [q_a,BB h1,q_a,BB h2] at this
theorem X0x (x y:Lx)(st:Qd)(hx:Yb x)(hy:Yb y):PR 156 [.sl .no (Qy x),.sl .no (Qy y)] st (.sc (.bool (decide (x=y)))):=by refine Qj Tryz.func156 fun E=> ?_;refine(Gp x _ hx).plain.Q ?_;refine(Gp y _ hy).plain.Q ?_;refine(W0x (ofB x) (ofB y) _ (Y8 hx) (Y8 hy)).Q ?_;have:(ofB x=ofB y)<->x=y:=⟨J1i,fun h=>by rw[h]⟩;simp only[this]
set_option maxHeartbeats 4000000 in
theorem H1s (a b:Fm)(st:Qd)(ha:wFm a)(hb:wFm b):PR 85 [.agg (Wu a),.agg (Wu b)] st (.sc (.bool (decide (a=b)))):=by
 obtain⟨am,⟨aal,aa⟩,ar⟩:=ha;obtain⟨bm,⟨bal,ba⟩,br⟩:=hb;have aml:=am.1;have bml:=bm.1;refine Ql none Tryz.func85 rfl fun E=>Qb ?_;by_cases h1:a.m.length=b.m.length;rotate_left;have z1:((a.m.length:Int) !=(b.m.length:Int))=true:=BV.2 oG;simp-dsimp only[go_sem,z1];rw[q_g (fun e=>h1 (by rw[e]))];have z1:((a.m.length:Int) !=(b.m.length:Int))=false:=(by rw[h1];simp);by_cases h2:a.a.length=b.a.length;rotate_left;have z2:((a.a.length:Int) !=(b.a.length:Int))=true:=BV.2 oG;simp-dsimp only[go_sem,z1,z2];rw[q_g (fun e=>h2 (by rw[e]))];have z2:((a.a.length:Int) !=(b.a.length:Int))=false:=(by rw[h2];simp);simp-dsimp only[go_sem,z1,z2];refine(W0x a.r b.r _ ar br).w ?_;rintro st' rfl;by_cases h3:a.r=b.r;rotate_left;have z3:decide (a.r=b.r)=false:=q_g h3;simp-dsimp only[go_sem,z3];rw[q_g (fun e=>h3 (by rw[e]))];have z3:decide (a.r=b.r)=true:=q_h h3;simp-dsimp only[go_sem,z3];refine Q3 ([false,false,true,true,false,true]++List.replicate 27 false++ [true,true]) 2 0
  (fun c s=> ∃i:Nat,c=a.a.length-i/\i<=a.a.length/\(∀j,j<i->a.a.getD j []=b.a.getD j [])/\
   s=⟨[.junk,.junk,.lp 0 0,.lp 1 0,.junk,.fn (.func 156) [] []]++jk 27++ [.sc (.int .i64 a.a.length),.sc (.int .i64 (i:Nat))]++jk 22,[Wu a,Wu b],[],st'⟩) a.a.length ?_ ?_
 refine Qr ?_;exact⟨0,oG,oG,fun j hj=>absurd hj (CD j),rfl⟩;rintro c s ⟨i,rfl,hi,heq,rfl⟩;refine QM ?_ ?_<;>intro h;have hlt:i<a.a.length:=(oT h);have g1:=Wt a.a i hlt;have g2:=Wt b.a i oG;have e3:=QN i oG;refine Qr ?_;refine Q5 57 (Qi [0,1,2,3,4,5,6,7,8,9,10,11,12] .done) ?_;simp-dsimp only[go_sem,g1,g2];refine⟨oG,oG,?_⟩;refine(X0x (a.a.getD i []) (b.a.getD i []) _ (aa i hlt) (ba i oG)).q ?_;by_cases h4:a.a.getD i []=b.a.getD i [];have z4:decide (a.a.getD i []=b.a.getD i [])=true:=q_h h4;simp-dsimp only[go_sem,z4,e3];refine⟨a.a.length-(i+1),oG,i+1,rfl,oG,fun j hj=> ?_,rfl⟩;by_cases e:j=i;rw[e];exact h4;exact heq j oG;have z4:decide (a.a.getD i []=b.a.getD i [])=false:=q_g h4;simp-dsimp only[go_sem,z4];rw[q_g (fun e=>h4 (by rw[e]))];have hge:i=a.a.length:=(oF h);subst hge;have hA:a.a=b.a:=C9 h2 fun k h4 h5=>by have:=heq k h4;rwa [q_a,BB h4,q_a,BB h5] at this
 refine Qr ?_;refine Qq ?_;refine(X0x a.m b.m _ am bm).Q ?_;have:(a=b)<->a.m=b.m:=(by rw[H1z];exact⟨fun h=>h.1,fun h=>⟨h,hA,h3⟩⟩);simp only[this]
theorem X0y (k:Nat)(st:Qd)(hk:k<=100000):PR 160 [.sc (.int .i64 k)] st (.sl .no (QL (Xc k))):=by
 refine Qj Tryz.func160 fun E=> ?_;refine X7 3 1 ?_;refine Qr ?_;refine XK [true,false,false,true,false,false,true,true] 0 1
  (fun m s=> ∃i,m=k-i/\i<=k/\s=⟨[.sc (.int .i64 k),.junk,.junk,.sl (.own 0) (QL ((Xc k).take i)),.junk,.junk,.sc (.int .i64 k),.sc (.int .i64 (i:Nat))]++jk 14,[],[(((Xc k).take i).length,1)],st⟩) k ?_ ?_
 refine Qr ?_;exact⟨0,oG,oG,rfl⟩;rintro m s ⟨i,rfl,hi,rfl⟩;refine Qa ?_;refine Qa ?_;refine ck ?_ ?_<;>intro h';have hlt:i<k:=(by have:=q_b h';omega);have e3:=QN i oG;have ll:((Xc k).take i).length=i:=(by rw[BX,YQ];omega);have e5:(Xc k).take (i+1)=(Xc k).take i++ [XJ k i]:=z0i _ _ _ hlt;have e6:flat (Qy (XJ k i))=Qu (flat (Qy (List.replicate k default))) (i*3) (Qg oneN):=(J0l _ i oneN (by simpa using hlt)).symm;refine Qr ?_;refine Qe (Xx ?_);refine Qa ?_;refine Qa ?_;refine⟨⟨oG,oG⟩,?_⟩;refine Qe (Qb ?_);simp-dsimp only[go_sem,Ik];refine(UL _).q ?_;simp-dsimp only[go_sem,Ik];refine⟨⟨oG,hlt⟩,⟨oG,oG⟩,?_⟩;have r0:ZZ k [.sc (.bool false),.sc (.int .i64 0),.sl .no []]=flat (Qy (List.replicate k default)):=kg k;have r1:Qu (flat (Qy (List.replicate k default))) (i*3) [.sc (.bool oneN.neg),.sc (.int .i64 oneN.exp),.sl .no (Qf oneN.w)]=flat (Qy (XJ k i)):=e6.symm;have r2:=W0h (XJ k i) k (qT k i).symm;have r3:=qT k i;have hone:Qf oneN.w= [.sc (.int .u64 1)]:=rfl;refine kv 0 3 ?_ ?_;refine Qr ?_;exact vK (vJ rfl) rfl;simp-dsimp only[go_sem,kD,zg,r0,r1,r2,r3];refine Qq ?_;refine⟨⟨oG,oG⟩,Qb ?_⟩;simp-dsimp only[go_sem,e3];refine⟨k-(i+1),oG,i+1,rfl,oG,?_⟩;rw[e5];simp;have hge:i=k:=(by have:=q_c h';omega);have ht:(Xc k).take i=Xc k:=BF (by rw[YQ];omega);rw[ht];refine Qr ?_;refine WF [false,false,false,true] (Qb ?_);exact QA
theorem H1u (b:Li)(p:Int)(st:Qd)(hb:wB b):PR 92 [.sl .no (Qk b),.sc (.int .i64 p)] st (.tup [.agg (Wu (Wq b p).1),.sc (.int .i64 (Wq b p).2)]):=by
 refine Ql none Tryz.func92 rfl fun E=>Qe (Qb ?_);have wm:=yR b p hb;have wo:=Y8 wm;refine Qr ?_;refine Qa ?_;refine(yt b p st hb).Q ?_;refine Qe (Qb ?_);unfold Wq;by_cases h1:(Zk b p).2=0;rotate_left;have d1:((Zk b p).2 !=0)=true:=BV.2 h1;rw[BC h1];simp-dsimp only[go_sem,d1];rfl;have d1:((Zk b p).2 !=0)=false:=(by rw[h1];rfl);have c1: ¬((Zk b p).2≠0):=fun h=>h h1;rw[BA c1];simp-dsimp only[go_sem,d1];refine Qa ?_;refine(Gp (Zk b p).1 st wm).plain.Q ?_;refine(W0w b (ofB (Zk b p).1) p st hb wo).Q ?_;refine Qe (Qb ?_);by_cases h2:(opB 1 b (ofB (Zk b p).1) p).2=0;rotate_left;have d2:((opB 1 b (ofB (Zk b p).1) p).2 !=0)=true:=BV.2 h2;rw[BC h2];simp-dsimp only[go_sem,d2];rfl;have d2:((opB 1 b (ofB (Zk b p).1) p).2 !=0)=false:=(by rw[h2];rfl);have c2: ¬((opB 1 b (ofB (Zk b p).1) p).2≠0):=fun h=>h h2;rw[BA c2];have hl:=Q0p h1;simp-dsimp only[go_sem,d2];refine Qq ?_;refine(X0y b.length st oG).Q ?_;rfl
theorem yU {q:Ly}(h:wQs q):wM (ofM q):=by obtain⟨h1,h2⟩:=h;refine⟨by simpa[ofM] using h1,fun i hi=> ?_⟩;have hi':i<q.length:=(by simpa[ofM] using hi);rw[z6 hi'];exact Y8 (h2 i hi')
theorem G1c {f:Fm}{p:Int}(h:X4 f=true/\Qt p=true):Kz f p=if (Xt (ofM f.a) f.r p).2≠0 then([],(Xt (ofM f.a) f.r p).2) else opB 0 (ofB f.m) (Xt (ofM f.a) f.r p).1 p:=by unfold Kz;rw[BC h]
theorem Z0x {f:Fm}{p:Int}(h: ¬(X4 f=true/\Qt p=true)):Kz f p=([],1):=by unfold Kz;rw[BA h]
theorem J0a (f:Fm)(p:Int)(st:Qd)(hf:wFm f):PR 36 [.agg (Wu f),.sc (.int .i64 p)] st (.tup [.sl .no (Qk (Kz f p).1),.sc (.int .i64 (Kz f p).2)]):=by
 obtain⟨wm,wa,wr⟩:=hf;refine Ql none Tryz.func36 rfl fun E=>Qe (Qb ?_);refine Qr ?_;refine Qa ?_;refine(vO f _ ⟨wm,wa,wr⟩).q ?_;cases hr:X4 f with
 | false=>
  rw[Z0x (fun h=>by rw[hr] at h;cases h.1)];exact QA
 | true=>
 refine Qr ?_;refine(JY p _).q ?_;cases hp:Qt p with
 | false=>
  rw[Z0x (fun h=>by rw[hp] at h;cases h.2)];exact QA
 | true=>
 rw[G1c ⟨hr,hp⟩];refine Qr ?_;refine Qe ?_;refine Q5 37 (Qi [0,1,3,4,5] (.step 2 [4] (Qi [6,7,8,9,10,11] .done))) ?_;refine Qr ?_;refine(vl f.a _ wa).plain.Q ?_;refine(vk (ofM f.a) f.r p _ (yU wa) wr).q ?_;have wv:=jc (ofM f.a) f.r p;generalize Xt (ofM f.a) f.r p=V at*
 refine Qr ?_;refine Qe (Qb ?_);by_cases h1:V.2=0;rotate_left;have d1:(V.2 !=0)=true:=BV.2 h1;rw[BC h1];simp-dsimp only[go_sem,d1];have d1:(V.2 !=0)=false:=(by rw[h1];rfl);rw[BA (fun e=>e h1)];simp-dsimp only[go_sem,d1];refine Qq ?_;refine(Gp f.m _ wm).plain.Q ?_;refine(yu (ofB f.m) V.1 p _ (Y8 wm) wv).Q0
theorem H1t (v c:Mx)(r z:Li)(p:Int)(st:Qd)(wv:wM v)(wc:wM c)(wr:wB r)(wz:wB z):PCalls Tryz.prog 202 [.sl .no (Qw v),.sl .no (Qw c),.sl .no (Qk r),.sl .no (Qk z),.sc (.int .i64 p)] st
 (fun x st'=>x= .tup [.sl .no (Qk (Ym v c r z p).1),.sc (.int .i64 (Ym v c r z p).2)]/\st'=st):=by
 refine Ql none Tryz.func202 rfl fun E=>Qe (Qb ?_);unfold Ym;refine Qr ?_;refine Qa ?_;refine(vm v c p _ wv wc).q ?_;have wm:=vd v c p;generalize Zc v c p=M at*
 refine Qr ?_;refine Qe (Qb ?_);by_cases h1:M.2=0;rotate_left;have d1:(M.2 !=0)=true:=BV.2 h1;rw[BC h1];simp-dsimp only[go_sem,d1];have d1:(M.2 !=0)=false:=(by rw[h1];rfl);rw[BA (fun e=>e h1)];simp-dsimp only[go_sem,d1];refine Qa ?_;refine(vk M.1 r p _ wm wr).q ?_;have wx:=jc M.1 r p;generalize Xt M.1 r p=X at*
 refine Qr ?_;refine Qe (Qb ?_);by_cases h2:X.2=0;rotate_left;have d2:(X.2 !=0)=true:=BV.2 h2;rw[BC h2];simp-dsimp only[go_sem,d2];have d2:(X.2 !=0)=false:=(by rw[h2];rfl);rw[BA (fun e=>e h2)];simp-dsimp only[go_sem,d2];refine Qa ?_;refine(vk v z p _ wv wz).q ?_;have wy:=jc v z p;generalize Xt v z p=Y at*
 refine Qr ?_;refine Qe (Qb ?_);by_cases h3:Y.2=0;rotate_left;have d3:(Y.2 !=0)=true:=BV.2 h3;rw[BC h3];simp-dsimp only[go_sem,d3];have d3:(Y.2 !=0)=false:=(by rw[h3];rfl);rw[BA (fun e=>e h3)];simp-dsimp only[go_sem,d3];refine Qq ?_;refine(yu X.1 Y.1 p _ wx wy).Q0
def IG (t:List (List Nm)×Mx):List PV:= [.sl .no (QL t.1),.sl .no (Qw t.2)]
attribute [go_sem] IG
theorem V0z {a:Ly}{p:Int}(h:(Jj a p).2=0):wQs (Jj a p).1:=by have hs:=k1x h;have h4:=(rightQ_iff.1 (V0y h).1).2;refine⟨by rw[hs.1];omega,fun i hi=> ?_⟩;rw[hs.1] at hi;have:=hs.row hi;exact⟨by rw[this.1];omega,fun j hj=>QC (this.2 _ (Q8 _ _ _ hj))⟩
theorem q0q (c:Mx)(p:Int)(st:Qd)(wc:wM c):PR 267 [.ep [.sl .no (Qw c)] 0,.ep [.sc (.int .i64 p)] 0] st (.tup [.agg (IG (VI c p).1),.sc (.int .i64 (VI c p).2)]):=by
 refine Ql none Tryz.func267 rfl fun E=>Qe (Qb ?_);unfold VI;refine Qr ?_;refine Qa ?_;refine(W1h c p _ wc).q ?_;have wq:=V1q c p;generalize KX c p=M at*
 refine Qr ?_;refine Qe (Qb ?_);by_cases h1:M.2=0;rotate_left;have d1:(M.2 !=0)=true:=BV.2 h1;rw[BC h1];simp-dsimp only[go_sem,d1];have d1:(M.2 !=0)=false:=(by rw[h1];rfl);rw[BA (fun e=>e h1)];simp-dsimp only[go_sem,d1];refine Qa ?_;refine(X1o M.1 p _ wq).q ?_;have wcq:=V0z (a:=M.1) (p:=p);generalize Jj M.1 p=B at*
 refine Qr ?_;refine Qe (Qb ?_);by_cases h2:B.2=0;rotate_left;have d2:(B.2 !=0)=true:=BV.2 h2;rw[BC h2];simp-dsimp only[go_sem,d2];have d2:(B.2 !=0)=false:=(by rw[h2];rfl);rw[BA (fun e=>e h2)];simp-dsimp only[go_sem,d2];refine Qa ?_;refine(U1i B.1 p _ (wcq h2)).q ?_;generalize ZX B.1 p=V at*
 refine Qr ?_;refine Qb ?_;simp-dsimp only[go_sem]
 try rfl
theorem q0p (c:Mx)(st:Qd)(hc:c.length<=1000):PR 271 [.ep [.sl .no (Qw c)] 0] st (.tup [.agg (IG (Xc c.length,idM c.length)),.sc (.int .i64 0)]):=by
 refine Ql none Tryz.func271 rfl fun E=>Qe (Qb ?_);refine Qr ?_;refine Qe ?_;refine Q5 10 (Qi [0,1,3,4] (.step 2 [3] (Qi [5,6,7,8] .done))) ?_;refine Qr ?_;refine(X0y c.length _ oG).Q ?_;refine(vn (c.length:Int) _).Q ?_;refine Qb ?_;simp-dsimp only[go_sem]
 try rfl
def YD (c:Mx)(p:Int):Nat->(List (List Nm)×Mx)×Int
 | 0=>(([],[]),3)
 | 1=>VI c p
 | _=>JE c p
theorem H1r (c:Mx)(p:Int)(st:Qd)(wc:wM c)(rc:rightM c=true):PR 201 [.sl .no (Qw c),.sc (.int .i64 p)] st (.tup [.agg (IG (JE c p).1),.sc (.int .i64 (JE c p).2)]):=by
 have hl:=Jl rc;have ho:UI (c.length:Int)=Xc c.length:=(by rw[UI,BC oG];rfl);refine Ql none Tryz.func201 rfl fun E=>Qe (Qb ?_);refine Qr ?_;refine Zz 0 ?_ ?_;exact QA;refine Qr ?_;refine Zz 1 ?_ ?_;exact QA;refine Qr ?_;refine Qa ?_;refine Qa ?_;refine Qa ?_;refine Qa ?_;refine Vm 3 ?_;refine Qr ?_;refine Qq ?_;refine Q3 [false,false,false,false,true,false,false,false,true,true,false,false,false,false,false,false,true,true,true] 4 0
  (fun m s=> ∃i:Nat,m=2-i/\i<=2/\
   s=⟨[.junk,.junk,.junk,.junk,.lp 2 0,.junk,.junk,.junk,.sc (.int .i64 (YD c p i).2),.lp 3 0]++jk 6++ [.sl .full [.fn (.func 267) [] [.ep [.sl .no (Qw c)] 0,.ep [.sc (.int .i64 p)] 0],.fn (.func 271) [] [.ep [.sl .no (Qw c)] 0]],.sc (.int .i64 2),.sc (.int .i64 (i:Nat))]++jk 13,
    [[],[],[.sl .full [],.sl .full []],IG (YD c p i).1],[],st⟩) 2 ?_ ?_
 refine Qr ?_;exact⟨0,oG,oG,rfl⟩;rintro m s ⟨i,rfl,hi,rfl⟩;refine QM ?_ ?_<;>intro h;rotate_left
 . have hge:i=2:=oF h
   subst hge;refine Qr ?_;refine Qb ?_;simp-dsimp only[go_sem]
   try rfl
 have hlt:i=0\/i=1:=oT h
 rcases hlt with rfl | rfl;have z1:((YD c p 0).2==3)=true:=rfl;have x1:IntKind.i64.wrap (((0:Nat):Int)+1)=((1:Nat):Int):=(by decide);simp-dsimp only[go_sem,z1];refine⟨oG,?_⟩;refine(q0q c p _ wc).q ?_;simp-dsimp only[go_sem,x1];exact⟨1,oG,1,rfl,oG,rfl⟩;have x1:IntKind.i64.wrap (((1:Nat):Int)+1)=((2:Nat):Int):=(by decide);by_cases h3:(VI c p).2=3;have z1:((YD c p 1).2==3)=true:=(by show((VI c p).2==3)=true;rw[h3];rfl);have ht:JE c p=((Xc c.length,idM c.length),0):=(by unfold JE;rw[BC h3,ho]);have e2:YD c p 2=((Xc c.length,idM c.length),0):=ht;simp-dsimp only[go_sem,z1];refine⟨oG,?_⟩;refine(q0p c _ oG).q ?_;simp-dsimp only[go_sem,x1];exact⟨0,oG,2,rfl,oG,by rw[e2]⟩;have z1:((YD c p 1).2==3)=false:=(by show((VI c p).2==3)=false;simpa using h3);have e2:YD c p 2=YD c p 1:=(by show JE c p=VI c p;unfold JE;rw[BA h3]);simp-dsimp only[go_sem,z1,x1];refine⟨oG,?_⟩;exact⟨0,oG,2,rfl,oG,by rw[e2]⟩
theorem Hh {f:Fm}{z:Li}{s:Mx}{p:Int}(h: ¬(X4 f=true/\rightB z=true/\rightM s=true/\z.length=f.m.length/\s.length=f.m.length/\Qt p=true)):Vr f z s p=(default,1):=by unfold Vr;rw[BA (fun e=>h (K1l e))]
theorem K1n {f:Fm}{z:Li}{s:Mx}{p:Int}(h1:X4 f=true)(h2:rightB z=true)(h3:rightM s=true)(h4:z.length=f.m.length)(h5:s.length=f.m.length)(h6:Qt p=true):Vr f z s p=Ix f z s p:=by unfold Vr Hg;rw[BC (by rw[h1,h2,h3,h4,h5,h6];simp)]
theorem q0n {n:Nat}{c:Mx}{p:Int}(rc:rightM c=true)(h:(JE c p).2=0):wM (JE c p).1.2:=by unfold JE at h⊢;split;have hl:=Jl rc;obtain⟨si,hil⟩:=j0k hl.1 hl.2;exact jX si.right;rename_i c3;rw[BA c3] at h;unfold VI at h⊢;split at h;rename_i c;exact absurd h c;rename_i c;rw[BA c];split at h;rename_i c;exact absurd h c;rename_i c;rw[BA c];exact jX (z0p h)
set_option maxHeartbeats 16000000 in
theorem H1v (f:Fm)(z:Li)(s:Mx)(p:Int)(st:Qd)(hf:wFm f)(wz:wB z)(ws:wM s):PR 137 [.agg (Wu f),.sl .no (Qk z),.sl .no (Qw s),.sc (.int .i64 p)] st (.tup [.agg (Wu (Vr f z s p).1),.sc (.int .i64 (Vr f z s p).2)]):=by
 obtain⟨wm,wa,wr⟩:=hf;have wml:=wm.1;have wzl:=wz.1;have wsl:=ws.1;refine Ql none Tryz.func137 rfl fun E=>Qe (Qb ?_);refine Qr ?_;refine Qa ?_;refine(vO f _ ⟨wm,wa,wr⟩).q ?_;cases h1:X4 f with
 | false=>
  rw[Hh (fun h=>by rw[h1] at h;cases h.1)];simp-dsimp only[go_sem]
  try rfl
 | true=>
 refine Qr ?_;refine(K7 z _ wz).q ?_;cases h2:rightB z with
 | false=>
  rw[Hh (fun h=>by rw[h2] at h;cases h.2.1)];simp-dsimp only[go_sem]
  try rfl
 | true=>
 refine Qr ?_;refine(zQ s _ ws).q ?_;cases h3:rightM s with
 | false=>
  rw[Hh (fun h=>by rw[h3] at h;cases h.2.2.1)];simp-dsimp only[go_sem]
  try rfl
 | true=>
 by_cases h4:z.length=f.m.length;rotate_left
 . have z4:((z.length:Int) !=(f.m.length:Int))=true:=BV.2 oG;rw[Hh (fun h=>h4 h.2.2.2.1)];simp-dsimp only[go_sem,z4]
   try rfl
 have z4:((z.length:Int) !=(f.m.length:Int))=false:=by rw[h4];simp
 by_cases h5:s.length=f.m.length;rotate_left
 . have z5:((s.length:Int) !=(f.m.length:Int))=true:=BV.2 oG;rw[Hh (fun h=>h5 h.2.2.2.2.1)];simp-dsimp only[go_sem,z4,z5]
   try rfl
 have z5:((s.length:Int) !=(f.m.length:Int))=false:=by rw[h5];simp
 simp-dsimp only[go_sem,z4,z5];refine(JY p _).q ?_;cases h6:Qt p with
 | false=>
  rw[Hh (fun h=>by rw[h6] at h;cases h.2.2.2.2.2)];simp-dsimp only[go_sem]
  try rfl
 | true=>
 rw[K1n h1 h2 h3 h4 h5 h6];unfold Ix;refine Qr ?_
 --the middle
 refine Qa ?_;refine(yt z p _ wz).q ?_;have wmid:=yR z p wz;generalize Zk z p=M at*
 refine Qr ?_;refine Qe (Qb ?_);by_cases e1:M.2=0;rotate_left
 . have d1:(M.2 !=0)=true:=BV.2 e1;rw[BC e1];simp-dsimp only[go_sem,d1]
   try rfl
 have d1:(M.2 !=0)=false:=by rw[e1];rfl
 rw[BA (fun e=>e e1)];unfold zL;simp-dsimp only[go_sem,d1]
 --the product
 refine Qa ?_;refine(vl f.a _ wa).plain.Q ?_;refine(vm s (ofM f.a) p _ ws (yU wa)).q ?_;have wc:=vd s (ofM f.a) p;have rc:=V1c (a:=s) (b:=ofM f.a) (p:=p);generalize Zc s (ofM f.a) p=C at*
 refine Qr ?_;refine Qe (Qb ?_);by_cases e2:C.2=0;rotate_left
 . have d2:(C.2 !=0)=true:=BV.2 e2;rw[BC e2];simp-dsimp only[go_sem,d2]
   try rfl
 have d2:(C.2 !=0)=false:=by rw[e2];rfl
 rw[BA (fun e=>e e2)];unfold zJ;have rc:=(rc e2).1;simp-dsimp only[go_sem,d2]
 --the columns
 refine Qa ?_;refine(H1r C.1 p _ wc rc).q ?_;have wt:=q0n (n:=0) (p:=p) rc;generalize JE C.1 p=T at*
 obtain⟨⟨tb,tv⟩,te⟩:=T;refine Qr ?_;refine Qe (Qb ?_);by_cases e3:te=0;rotate_left
 . have d3:(te !=0)=true:=BV.2 e3;rw[BC e3];simp-dsimp only[go_sem,d3]
   try rfl
 have d3:(te !=0)=false:=by rw[e3];rfl
 rw[BA (fun e=>e e3)];have wt:=wt e3;unfold zK;simp-dsimp only[go_sem,d3]
 --what is left
 refine Qa ?_;refine(Gp M.1 _ wmid).plain.Q ?_;refine(W0w z (ofB M.1) p _ wz (Y8 wmid)).q ?_;have wd:=fun h=>zc (zx (k:=1) (a:=z) (b:=ofB M.1) (p:=p) h);generalize opB 1 z (ofB M.1) p=D at*
 refine Qr ?_;refine Qe (Qb ?_);by_cases e4:D.2=0;rotate_left
 . have d4:(D.2 !=0)=true:=BV.2 e4;rw[BC e4];simp-dsimp only[go_sem,d4]
   try rfl
 have d4:(D.2 !=0)=false:=by rw[e4];rfl
 rw[BA (fun e=>e e4)];have wd:=wd e4;unfold Iw;simp-dsimp only[go_sem,d4];refine Qa ?_;refine(H1t tv C.1 f.r D.1 p _ wt wc wr wd).q ?_;generalize Ym tv C.1 f.r D.1 p=R at*
 refine Qr ?_;refine Qe (Qb ?_);by_cases e5:R.2=0;rotate_left
 . have d5:(R.2 !=0)=true:=BV.2 e5;rw[BC e5];simp-dsimp only[go_sem,d5]
   try rfl
 have d5:(R.2 !=0)=false:=by rw[e5];rfl
 rw[BA (fun e=>e e5)];simp-dsimp only[go_sem,d5];refine Qb ?_;simp-dsimp only[go_sem]
 try rfl
theorem V1t {z:Li}{p:Int}(h:(Zk z p).2=0):(Zk z p).1.length=z.length/\ ∀x∈(Zk z p).1,Qh x=true:=by unfold Zk at h⊢;split at h;rename_i c;rw[BC c];rw[Gc] at h⊢;exact⟨(KA h).1,KS (fun x=>Qh x=true) _ 0 [] (fun j _ _=>vj _ _) (fun x hx=>by cases hx)⟩;exact absurd h (by decide)
theorem G2 :wFm default:=⟨⟨CX _,fun i hi=>absurd hi (CD i)⟩,⟨CX _,fun i hi=>absurd hi (CD i)⟩,⟨CX _,fun i hi=>absurd hi (CD i)⟩⟩
theorem K1k {f:Fm}{m:Lx}{c:Mx}{t:List (List Nm)×Mx}{d:Li}{p:Int}(hm:Yb m)(ht:wQs t.1):wFm (Iw f m c t d p).1:=by unfold Iw;split;exact G2;rename_i h;have h:=C8.1 h;unfold Ym at h⊢;split at h;rename_i c;exact absurd h c;rename_i c1;rw[BA c1];split at h;rename_i c;exact absurd h c;rename_i c2;rw[BA c2];split at h;rename_i c;exact absurd h c;rename_i c3;rw[BA c3];exact⟨hm,ht,zc (zx h)⟩
theorem q0m {c:Mx}{p:Int}(h:(JE c p).2=0):wQs (JE c p).1.1:=by unfold JE at h⊢;split;exact Tb _;rename_i c3;rw[BA c3] at h;unfold VI at h⊢;split at h;rename_i c;exact absurd h c;rename_i c1;rw[BA c1];split at h;rename_i c;exact absurd h c;rename_i c2;rw[BA c2];exact V0z (C8.1 c2)
theorem K1m (f:Fm)(z:Li)(s:Mx)(p:Int):wFm (Vr f z s p).1:=by unfold Vr;split;rotate_left;exact G2;unfold Ix;split;exact G2;rename_i h1;have h1:=C8.1 h1;have hl:=Q0p h1;have hm:=V1t h1;unfold zL;split;exact G2;unfold zJ;split;exact G2;rename_i h3;unfold zK;split;exact G2;exact K1k ⟨oG,fun i hi=>QC (hm.2 _ (Q8 _ _ _ hi))⟩ (q0m (C8.1 h3))
theorem G1b (f:Fm)(p:Int):wB (Kz f p).1:=by
 unfold Kz;split;split;exact⟨CX _,fun i hi=>absurd hi (CD i)⟩;by_cases hh:(opB 0 (ofB f.m) (Xt (ofM f.a) f.r p).1 p).2=0;exact zc (zx hh);have he:(opB 0 (ofB f.m) (Xt (ofM f.a) f.r p).1 p).1= []:=by unfold opB at hh⊢;split at hh;rename_i c;rw[BC c];rw[Gc] at hh⊢;exact Cm _ _ _ hh;rename_i c;rw[BA c]
 rw[he];exact⟨CX _,fun i hi=>absurd hi (CD i)⟩;exact⟨CX _,fun i hi=>absurd hi (CD i)⟩
theorem yV {a:Ivl}(h:wI a):wB [a]:=⟨by simp,fun i hi=>by have:i=0:=(by simpa using hi);subst this;exact h⟩
theorem G1h (x:Nm)(st:Qd)(hx:wN x):PR 56 [.agg (Qg x)] st (.sc (.bool (decide (x=default)))):=by unfold wN at hx;refine Qj Tryz.func56 fun E=> ?_;refine(Il x default _ oG (by decide)).Q0
theorem JC {x:Nm}(h:wN x):x.w.length<=100000000000:=h
theorem Z2p (x:Nm)(h:Qh x=true):decide (0<QJ (XD x))=decide (0<Q9 x default):=by
 have e:XD x=x:=by unfold XD;rw[BC h]
 rw[e,IQ h Kq];have h1:=GN x;have h2:=cmpN_lt (a:=default) (b:=x);have h3:=xx default x;rw[YJ] at h2;exact FH.2 ⟨fun h=>by have:=h2.2 (h1.1 h);omega,fun h=>h1.2 (h2.1 oG)⟩
theorem ky (x:Nm)(st:Qd)(hx:wN x):PR 150 [.agg (Qg x)] st (.sc (.bool (Qh x&&decide (0<Q9 x default)))):=by
 have wl:=JC hx;refine Qj Tryz.func150 fun E=> ?_;refine(XE x st oG).q ?_;cases h:Qh x with
 | false=>simp-dsimp only[go_sem];try rfl
 | true=>
 refine Qr ?_;refine(Iu x st oG).q ?_;have e:=Z2p x h;refine Qr ?_;exact B4 (fun b=>PV.sc (.bool b)) e
theorem kx (n a b:Int)(st:Qd):PR 151 [.sc (.int .i64 n),.sc (.int .i64 a),.sc (.int .i64 b)] st (.sc (.bool (decide (a<=n)&&decide (n<=b)))):=by
 refine Ql none Tryz.func151 rfl fun E=>Qb ?_;by_cases h:a<=n
 . have e:decide (n>=a)=true:=q_h h;rw[q_h h];simp-dsimp only[go_sem,e]
   try rfl
 . have e:decide (n>=a)=false:=q_g h;rw[q_g h];simp-dsimp only[go_sem,e]
   try rfl
theorem Ou (p:Pb)(st:Qd)(hw:wPb p):PR 80 [.agg (XO p)] st (.sc (.bool (We p))):=by
 obtain⟨wf,wb,w1,w2,w3⟩:=hw;have wfl:=wf.1;have wbl:=wb.1;have v1:=JC w1;have v2:=JC w2;have v3:=JC w3;have no: ¬We p=true->We p=false:=fun h=>(by simpa using h);have parts:=rightPb_parts (p:=p);refine Ql none Tryz.func80 rfl fun E=>Qe (Qb ?_);refine Qr ?_;refine Qa ?_;refine(ID p.fld st wf).q ?_;cases q1:Xh p.fld with
 | false=>
  refine Qr ?_;rw[no fun e=>by have:=(parts.1 e).1;rw[q1] at this;cases this]
 | true=>
 refine Qr ?_;refine(K7 p.box st wb).q ?_;cases q2:rightB p.box with
 | false=>
  refine Qr ?_;rw[no fun e=>by have:=(parts.1 e).2.1;rw[q2] at this;cases this]
 | true=>
 by_cases q3:p.box.length=p.fld.length;rotate_left;have d3:((p.box.length:Int) !=(p.fld.length:Int))=true:=BV.2 oG;simp-dsimp only[go_sem,d3];rw[no fun e=>q3 (parts.1 e).2.2.1];have d3:((p.box.length:Int) !=(p.fld.length:Int))=false:=(by rw[q3];simp);simp-dsimp only[go_sem,d3];refine(ky p.until' st w1).q ?_;cases a1:(Qh p.until'&&decide (0<Q9 p.until' default)) with
 | false=>
  refine Qr ?_;rw[no fun e=>by have:=parts.1 e;rw[this.2.2.2.1,q_h this.2.2.2.2.2.2.1] at a1;cases a1]
 | true=>
 rw[q_i,BN] at a1;refine Qr ?_;refine(ky p.most st w2).q ?_;cases a2:(Qh p.most&&decide (0<Q9 p.most default)) with
 | false=>
  refine Qr ?_;rw[no fun e=>by have:=parts.1 e;rw[this.2.2.2.2.1,q_h ((yf this.2.2.2.2.1 Kq).2 (by have h1:=(yf this.2.2.2.2.2.1 Kq).1 this.2.2.2.2.2.2.2.1;have h2:=(ye this.2.2.2.2.2.1 this.2.2.2.2.1).1 (by have:=yg this.2.2.2.2.2.1 this.2.2.2.2.1;omega);grind))] at a2;cases a2]
 | true=>
 rw[q_i,BN] at a2;refine Qr ?_;refine(ky p.least st w3).q ?_;cases a3:(Qh p.least&&decide (0<Q9 p.least default)) with
 | false=>
  refine Qr ?_;rw[no fun e=>by have:=parts.1 e;rw[this.2.2.2.2.2.1,q_h this.2.2.2.2.2.2.2.1] at a3;cases a3]
 | true=>
 rw[q_i,BN] at a3;refine Qr ?_;refine(VJ p.least p.most st oG oG).q ?_;have hfl:=yg a3.1 a2.1;by_cases a4:Q9 p.least p.most>0;have d4:decide (Q9 p.least p.most>0)=true:=q_h a4;simp-dsimp only[go_sem,d4];rw[no fun e=>by have:=(parts.1 e).2.2.2.2.2.2.2.2.1;omega];have d4:decide (Q9 p.least p.most>0)=false:=q_g a4;simp-dsimp only[go_sem,d4];refine Qq ?_;refine(kx p.prec 8 256 st).q ?_;have e5:(decide ((8:Int)<=p.prec)&&decide (p.prec<=256))=Qt p.prec:=rfl;rw[e5];cases a5:Qt p.prec with
 | false=>
  refine Qr ?_;rw[no fun e=>by have:=(parts.1 e).2.2.2.2.2.2.2.2.2.1;rw[a5] at this;cases this]
 | true=>
 refine Qr ?_;refine(kx p.order 2 10 st).q ?_;cases a6:(decide ((2:Int)<=p.order)&&decide (p.order<=10)) with
 | false=>
  refine Qr ?_;rw[no fun e=>by have:=(parts.1 e).2.2.2.2.2.2.2.2.2.2;rw[q_h this.1,q_h this.2.1] at a6;cases a6]
 | true=>
 simp only[q_i,BN] at a6;refine Qr ?_;refine(kx p.budget 1 4096 st).Q ?_;refine B4 (fun b=>PV.sc (.bool b)) ?_;rw[E6,parts];simp only[q_i,BN];exact⟨fun h=>⟨q1,q2,q3,a1.1,a2.1,a3.1,a1.2,a3.2,oG,a5,a6.1,a6.2,h.1,h.2⟩,fun h=>h.2.2.2.2.2.2.2.2.2.2.2.2⟩
theorem Dh (x a b:Nm)(st:Qd)(hx:wN x)(ha:wN a)(hb:wN b):PR 81 [.agg (Qg x),.agg (Qg a),.agg (Qg b)] st (.sc (.bool (Qh x&&decide (Q9 a x<=0)&&decide (Q9 x b<=0)))):=by
 have v1:=JC hx;have v2:=JC ha;have v3:=JC hb;refine Qj Tryz.func81 fun E=> ?_;refine(XE x st oG).q ?_;cases h:Qh x with
 | false=>simp-dsimp only[go_sem];try rfl
 | true=>
 refine Qr ?_;refine(VJ a x st oG oG).q ?_;cases h2:decide (Q9 a x<=0) with
 | false=>simp-dsimp only[go_sem,h2];try rfl
 | true=>
 simp-dsimp only[go_sem,h2];refine(VJ x b st oG oG).q ?_;simp-dsimp only[go_sem]
 try rfl
theorem V0m {t:Nm}(h:Qh t=true):decide (Q9 default t<=0)= !t.neg:=by
 have h1:=ye Kq h;rw[YJ] at h1;have h2:=qO t;unfold QJ at h2;cases hn:t.neg with
 | false=>
  refine q_h (h1.2 (Rat.not_lt.1 fun e=> ?_));have:=h2.2 e;rw[hn] at this;split at this;omega;simp at this
 | true=>
  refine q_g fun e=> ?_;have h3:=h1.1 e;have hw: ¬Qc t.w=0:=fun e2=>by have e3:=(KO h).1 e2;unfold Qh at h;rw[BC e3,hn] at h;cases h
  have:=h2.1 (by rw[BA hw,hn];decide);grind
theorem jE (p:Pb)(s:Sx)(st:Qd)(wp:wPb p)(ws:wSx s):PR 19 [.agg (XO p),.agg (JM s)] st (.sc (.bool (KU p s))):=by
 have hp:=Ou p;obtain⟨wf,wb,w1,w2,w3⟩:=wp;obtain⟨wt,wh,wm⟩:=ws;have wbl:=wb.1;have wml:=wm.1.1;have no: ¬KU p s=true->KU p s=false:=fun h=>(by simpa using h);have parts:=rightSt_parts (p:=p) (s:=s);refine Ql none Tryz.func19 rfl fun E=>Qe (Qb ?_);refine Qr ?_;refine Qa ?_;refine(hp st ⟨wf,wb,w1,w2,w3⟩).q ?_;cases q1:We p with
 | false=>
  refine Qr ?_;rw[no fun e=>by have:=(parts.1 e).1;rw[q1] at this;cases this]
 | true=>
 by_cases q2:s.idx<0;have d2:decide (s.idx<0)=true:=q_h q2;simp-dsimp only[go_sem,d2];rw[no fun e=>by have:=(parts.1 e).2.1;omega];have d2:decide (s.idx<0)=false:=q_g q2;by_cases q3:s.idx>p.budget;have d3:decide (s.idx>p.budget)=true:=q_h q3;simp-dsimp only[go_sem,d2,d3];rw[no fun e=>by have:=(parts.1 e).2.2.1;omega];have d3:decide (s.idx>p.budget)=false:=q_g q3;simp-dsimp only[go_sem,d2,d3];have wd:wN (default:Nm):=QC Kq;refine(Dh s.t default p.until' st wt wd w1).q ?_;cases q4:(Qh s.t&&decide (Q9 default s.t<=0)&&decide (Q9 s.t p.until'<=0)) with
 | false=>
  refine Qr ?_;rw[no fun e=>by have:=(parts.1 e).2.2.2.1;rw[V0m this.1,this.1,this.2.1,q_h this.2.2] at q4;cases q4]
 | true=>
 simp only[q_i] at q4;rw[V0m q4.1.1,EL,BN] at q4;refine Qr ?_;refine(Dh s.h p.least p.most st wh w3 w2).q ?_;cases q5:(Qh s.h&&decide (Q9 p.least s.h<=0)&&decide (Q9 s.h p.most<=0)) with
 | false=>
  refine Qr ?_;rw[no fun e=>by have:=(parts.1 e).2.2.2.2.1;rw[this.1,q_h this.2.1,q_h this.2.2] at q5;cases q5]
 | true=>
 simp only[q_i,BN] at q5;refine Qr ?_;refine Qq ?_;refine(vO s.f st wm).q ?_;cases q6:X4 s.f with
 | false=>
  refine Qr ?_;rw[no fun e=>by have:=(parts.1 e).2.2.2.2.2.1;rw[q6] at this;cases this]
 | true=>
 refine Qr ?_;refine B4 (fun b=>PV.sc (.bool b)) ?_;rw[E6,parts,FT];exact⟨fun h=>⟨q1,oG,oG,⟨q4.1.1,q4.1.2,q4.2⟩,⟨q5.1.1,q5.1.2,q5.2⟩,q6,oG⟩,fun h=>by have:=h.2.2.2.2.2.2;omega⟩
theorem jF (p:Pb)(s:Sx)(st:Qd)(wp:wPb p)(ws:wSx s):PR 23 [.agg (XO p),.agg (JM s)] st (.sc (.bool (Ww p s))):=by
 have hr:=jE p s st wp ws;obtain⟨wf,wb,w1,w2,w3⟩:=wp;obtain⟨wt,wh,wm⟩:=ws;have v1:=JC w1;have v2:=JC wt;refine Qj Tryz.func23 fun E=> ?_;refine hr.q ?_;unfold Ww;cases q:KU p s with
 | false=>simp-dsimp only[go_sem];try rfl
 | true=>
 refine Qr ?_;refine(VJ s.t p.until' st oG oG).Q ?_;rfl
theorem j0c (a b:Sx)(st:Qd)(ha:wSx a)(hb:wSx b):PR 21 [.agg (JM a),.agg (JM b)] st (.sc (.bool (decide (a=b)))):=by obtain⟨a1,a2,a3⟩:=ha;obtain⟨b1,b2,b3⟩:=hb;refine Ql none Tryz.func21 rfl fun E=>Qb ?_;have no: ¬a=b->decide (a=b)=false:=q_g;by_cases h1:a.idx=b.idx;rotate_left;have d1:(a.idx==b.idx)=false:=CL.2 h1;simp-dsimp only[go_sem,d1];rw[no fun e=>h1 (by rw[e])];have d1:(b.idx==b.idx)=true:=EG _;simp-dsimp only[go_sem,h1,d1];refine(zE a.t b.t st a1 b1).q ?_;by_cases h2:a.t=b.t;rotate_left;rw[q_g h2,no fun e=>h2 (by rw[e])];exact QA;rw[q_h h2];refine Qr ?_;refine(zE a.h b.h st a2 b2).q ?_;by_cases h3:a.h=b.h;rotate_left;rw[q_g h3,no fun e=>h3 (by rw[e])];exact QA;rw[q_h h3];refine Qr ?_;refine(H1s a.f b.f st a3 b3).Q ?_;refine B4 (fun b=>PV.sc (.bool b)) ?_;exact FH.2 ⟨fun h=>sx_eq.2 ⟨h1,h2,h3,h⟩,fun h=>by rw[h]⟩
theorem Di (p:Pb)(st:Qd)(wp:wPb p):PR 29 [.agg (XO p)] st (.tup [.agg (JM (H9 p).1),.sc (.int .i64 (H9 p).2)]):=by
 have hr:=Ou p st wp;obtain⟨wf,wb,w1,w2,w3⟩:=wp;refine Ql none Tryz.func29 rfl fun E=>Qe (Qb ?_);refine Qr ?_;refine Qa ?_;refine hr.q ?_;unfold H9;cases q:We p with
 | false=>
  rw[BA Bool.false_ne_true];refine Qr ?_;rfl
 | true=>
 rw[BC rfl];refine Qr ?_;refine Qa ?_;refine(H1u p.box p.prec st wb).Q ?_;refine Qe (Qb ?_);by_cases h1:(Wq p.box p.prec).2=0;rotate_left;have d1:((Wq p.box p.prec).2 !=0)=true:=BV.2 h1;rw[BC h1];simp-dsimp only[go_sem,d1];rfl;have d1:((Wq p.box p.prec).2 !=0)=false:=(by rw[h1];rfl);rw[BA (fun e=>e h1)];simp-dsimp only[go_sem,d1];refine Qe ?_;refine Q5 28 (Qi [0,1,4] (.step 2 [4] (Qi [3,5,6,7] .done))) ?_;refine Qr ?_;refine(KI p.most st w2).Q ?_;refine Qb ?_;simp-dsimp only[go_sem]
 try rfl
def WT (t:Sz):List PV:= [.sc (.bool t.h.neg),.sc (.int .i64 t.h.exp),.sl .no (Qf t.h.w),.sl .no (Qk t.a),.sc (.bool t.first)]
attribute [go_sem] WT
theorem qp (x:Nm)(k:Int):wN (Z5 x k).1:=QC (qR x k)
set_option maxHeartbeats 8000000 in
theorem j0b (K:Nat)(p:Pb)(s:Sx)(x:Li)(st:Qd)(wp:wPb p)(ws:wSx s)(wx:wB x)(hr:Qh p.least=true)(h0:0<qN p.least)(hK:qN s.h<qN p.least*p2 (K:Int))(hrh:Qh s.h=true):
 PR 73 [.agg (XO p),.agg (JM s),.sl .no (Qk x)] st (.tup [.agg (WT (Wc (K+1) p s x).1),.sc (.int .i64 (Wc (K+1) p s x).2)]):=by
 obtain⟨wf,wb,w1,w2,w3⟩:=wp;obtain⟨wt,wh,wm⟩:=ws;have v2:=JC wh;have v3:=JC w3;have c0:=J1q p.until' s.t st w1 wt;have hx0:qN (YY p s)<qN p.least*p2 (K:Int):=by unfold YY;split;exact hK;rename_i h;have:=Rat.not_lt.1 fun e=>h ((IR hrh (Uw 1 p.until' s.t)).2 e);grind
 have wfh:wN (YY p s):=by unfold YY;split;exact wh;exact QC (Uw 1 p.until' s.t)
 have hfi:YY p s=if Q9 s.h (Za 1 p.until' s.t).1<0 then s.h else(Za 1 p.until' s.t).1:=rfl;have wl:wN (Za 1 p.until' s.t).1:=QC (Uw 1 p.until' s.t);unfold Wc;generalize YY p s=h0' at*
 generalize Za 1 p.until' s.t=D at*
 generalize hRES:Uz p x (K+1) h0' true=RES;refine Ql none Tryz.func73 rfl fun E=>Qe (Qb ?_);refine Qr ?_;refine zk (Qe (Qb ?_));refine Qr ?_;refine c0.Q ?_;refine Qa ?_;by_cases h1:D.2=0;rotate_left;have d1:(D.2 !=0)=true:=BV.2 h1;rw[BC h1];simp-dsimp only[go_sem,d1];rfl;have d1:(D.2 !=0)=false:=(by rw[h1];rfl);rw[BA (fun e=>e h1)];simp-dsimp only[go_sem,d1];have wll:=JC wl;refine VE [false,false,true,true,false,false,true,false,true] 4 0 (fun z=>z=⟨[.junk,.junk,.sl .no (Qk x),.lp 0 0,.junk,.junk,.lp 2 0,.junk,.lp 3 0]++jk 59,[XO p,JM s,[.sc (.bool false),.sc (.int .i64 0),.sl .full [],.sl .full [],.sc (.bool false)],Qg h0'],[],st⟩) ?_ ?_;refine Qr ?_;refine(VJ s.h D.1 _ oG oG).Q ?_;refine ck ?_ ?_<;>intro h;have hc:=q_b h;have hfi:=hfi.trans (BC hc);subst hfi;refine Qr ?_;refine(KI s.h _ wh).Q0;have hc:=q_c h;have hfi:=hfi.trans (BA hc);subst hfi;exact QA;rintro z rfl;clear hfi c0;refine Qa ?_;refine Qa ?_;refine Vm 4 ?_;refine Qr ?_;refine Qq ?_;refine Q3 [false,false,true,true,false,false,true,false,false,false,true] 5 0
  (fun c z=> ∃(h:Nm) (l:Li) (b:Bool),c<=K/\wN h/\qN h<qN p.least*p2 (c:Int)/\RES=Uz p x (c+1) h b/\
   z=⟨[.junk,.junk,.sl .no (Qk x),.lp 0 0,.junk,.junk,.lp 2 0,.junk,.junk,.junk,.lp 4 0]++jk 57,[XO p,JM s,[.sc (.bool false),.sc (.int .i64 0),.sl .full [],.sl .full [],.sc (.bool false)],Qg h0',WT ⟨h,l,b⟩],[],st⟩) K ?_ ?_
 refine Qr ?_;exact⟨h0',[],true,wfh,hx0,hRES.symm,rfl⟩;rintro c z ⟨h,l,b,hc,wh2,hq,hs,rfl⟩;have wh3:=JC wh2;rw[Uz] at hs;refine Qr ?_;refine(Z1s p.fld x h p.prec _ wf wx wh2).Q ?_;cases hf:(VV p.fld x h p.prec).2 with
 | true=>
  rw[BC hf] at hs;refine Qr ?_;refine Qq ?_;rw[hs]
  try rfl
 | false=>
 rw[BA (by rw[hf];decide)] at hs;refine Qr ?_;refine(zD h (-1) _ wh2).q ?_;have wsc:=qp h (-1);have hhq:=G1l (h:=h);have hsr:=qR h (-1);generalize Z5 h (-1)=W at*
 refine Qr ?_;by_cases h2:W.2=0;rotate_left;have d2:(W.2 !=0)=true:=BV.2 h2;rw[BC h2] at hs;rw[hs];simp-dsimp only[go_sem,d2];rfl;have d2:(W.2 !=0)=false:=(by rw[h2];rfl);rw[BA (fun e=>e h2)] at hs;simp-dsimp only[go_sem,d2];have wsl:=JC wsc;refine(VJ W.1 p.least _ oG oG).q ?_;by_cases h3:Q9 W.1 p.least<0;have d3:decide (Q9 W.1 p.least<0)=true:=q_h h3;rw[BC h3] at hs;rw[hs];simp-dsimp only[go_sem,d3];rfl;have d3:decide (Q9 W.1 p.least<0)=false:=q_g h3;rw[BA h3] at hs;have hge:=Rat.not_lt.1 fun e=>h3 ((IR hsr hr).2 e);have hhq:=hhq h2;cases c with
 | zero=>
  exfalso;rw[show((0:Nat):Int)=0 from rfl,zu] at hq;grind
 | succ c=>
 simp-dsimp only[go_sem,d3];refine⟨c,Nat.lt_succ_self c,W.1,(VV p.fld x h p.prec).1,false,oG,wsc,?_,hs,rfl⟩;rw[show((c+1:Nat):Int)=(c:Int)+1 from rfl,X1c] at hq;grind
def wSz (t:Sz):Prop:=wN t.h/\wB t.a
theorem x0m (p:Pb)(t:Sz)(st:Qd)(wp:wPb p)(wt:wSz t):
 PR 138 [.agg (XO p),.agg (WT t)] st (.tup [.agg (Qg (VZ p t).1),.sc (.int .i64 (VZ p t).2)]):=by
 obtain⟨wf,wb,w1,w2,w3⟩:=wp;have v2:=JC w2;have v3:=JC w3;obtain⟨wh,wa⟩:=wt;have ws:=qp t.h 1;have cs:=zD t.h 1 st wh;have hW:VZ p t=if t.first=true/\(Z5 t.h 1).2≠0 then(default,(Z5 t.h 1).2) else(W3 p (if t.first=true then(Z5 t.h 1).1 else t.h),0):=by unfold VZ;split;rename_i e;split;rename_i e2;rw[BC ⟨e,e2⟩];rename_i e2;rw[BA fun h=>e2 h.2];rename_i e;rw[BA fun h=>e h.1]
 rw[hW];clear hW;generalize Z5 t.h 1=W at*
 refine Ql none Tryz.func138 rfl fun E=>Qe (Qb ?_);refine Qr ?_;refine Qa ?_;refine VE [false,false,true,false,true,false,true] 4 0 (fun z=> ¬(t.first=true/\W.2≠0)/\z=⟨[.junk,.junk,.lp 0 0,.junk,.lp 2 0,.junk,.lp 3 0]++jk 35,[XO p,WT t,[.sc (.bool false),.sc (.int .i64 0),.sl .full []],Qg (if t.first=true then W.1 else t.h)],[],st⟩) ?_ ?_
 . cases hf:t.first with
   | false=>
    simp-dsimp only[go_sem,hf];exact fun h=>h.1.elim
   | true=>
   simp-dsimp only[go_sem,hf];refine cs.q ?_;by_cases h2:W.2=0;rotate_left;have d2:(W.2 !=0)=true:=BV.2 h2;simp-dsimp only[go_sem,d2];rw[BC h2];rfl;have d2:(W.2 !=0)=false:=(by rw[h2];rfl);simp-dsimp only[go_sem,d2];exact⟨fun h=>h h2,by rw[hf]⟩
 rintro z ⟨hn,rfl⟩;rw[BA hn];have wx:wN (if t.first=true then W.1 else t.h):=by split;exact ws;exact wh
 generalize (if t.first=true then W.1 else t.h)=x at*
 have v4:=JC wx;refine VE [false,false,false,false,true,false,true] 4 0 (fun z=>z=⟨[.junk,.junk,.junk,.junk,.lp 2 0,.junk,.lp 3 0]++jk 35,[XO p,WT t,[.sc (.bool false),.sc (.int .i64 0),.sl .full []],Qg (W3 p x)],[],st⟩) ?_ ?_;refine Qr ?_;refine(VJ x p.least _ oG oG).q ?_;unfold W3;by_cases h3:Q9 x p.least<0;have d3:decide (Q9 x p.least<0)=true:=q_h h3;rw[BC h3];simp-dsimp only[go_sem,d3];have d3:decide (Q9 x p.least<0)=false:=q_g h3;rw[BA h3];simp-dsimp only[go_sem,d3];refine(VJ x p.most _ oG oG).q ?_;by_cases h4:0<Q9 x p.most;have d4:decide (Q9 x p.most>0)=true:=q_h h4;rw[BC h4];simp-dsimp only[go_sem,d4];have d4:decide (Q9 x p.most>0)=false:=q_g h4;rw[BA h4];simp-dsimp only[go_sem,d4];rintro z rfl;have wc:wN (W3 p x):=by unfold W3;split;exact w3;split;exact w2;exact wx
 refine Qq ?_;refine(KI (W3 p x) _ wc).q ?_;simp-dsimp only[go_sem]
 try rfl
theorem j0a (p:Pb)(x:Li)(t:Sz)(st:Qd)(wp:wPb p)(wx:wB x)(wt:wSz t)(ho:2<=p.order/\p.order<=10):
 PR 136 [.agg (XO p),.sl .no (Qk x),.agg (WT t)] st (.tup [.sl .no (Qw (W7 p x t).1),.sc (.int .i64 (W7 p x t).2)]):=by
 obtain⟨wf,wb,w1,w2,w3⟩:=wp;have e1:IntKind.i64.wrap (p.order-1)=p.order-1:=Q4 _ oG oG;have hc:=H0f p.fld x (p.order-1) p.prec st wf wx;have hw:=yX p.fld x (p.order-1) p.prec;unfold W7;generalize K9 p.fld x (p.order-1) p.prec=V at*
 refine Ql none Tryz.func136 rfl fun E=>Qe (Qb ?_);refine Qr ?_;refine Qe (Qb ?_);simp-dsimp only[go_sem,e1];refine hc.Q ?_;refine Qe (Qb ?_);unfold jG;by_cases h1:V.2=0;rotate_left
 . have d1:(V.2 !=0)=true:=BV.2 h1;rw[BC h1];simp-dsimp only[go_sem,d1]
   try rfl
 have d1:(V.2 !=0)=false:=by rw[h1];rfl
 rw[BA (fun e=>e h1)];simp-dsimp only[go_sem,d1];refine Qe ?_;refine Q5 34 (Qi [0,1,2,4,5] (.step 3 [5] (Qi [6,7,8,9,10] .done))) ?_;refine Qr ?_;refine(KI t.h st wt.1).Q ?_;refine(x0b V.1 ⟨t.h,t.h⟩ p.prec st hw ⟨wt.1,wt.1⟩).Q ?_;refine Qb ?_;simp-dsimp only[go_sem]
 try rfl
def Wd (l far:List (List Ivl))(k i:Nat)(j:Nat):List Ivl:=if j<i then l.getD j []++ [(far.getD j []).getD k default] else l.getD j []
theorem v0i (l far:Lj)(k i:Nat): ∀j,Ve (Wd l far k i) i (Wd l far k i i++ [(far.getD i []).getD k default]) j=Wd l far k (i+1) j:=fun j=>by unfold Ve Wd;by_cases e:j=i;subst e;rw[BC rfl,BA (Nat.lt_irrefl j),BC (Nat.lt_succ_self j)];rw[BA e];by_cases h:j<i;rw[BC h,BC oG];rw[BA h,BA oG]
theorem v0j (l far:Lj)(k n:Nat)(h:l.length=n):(List.range n).map (Wd l far k n)=WA l far k:=by unfold WA;rw[h];refine C4 fun i hi=> ?_;unfold Wd;rw[BC (E0.1 hi)]
theorem El {l far:Lj}{k n:Nat}(hl:l.length=n)(hn:n<=4)(h1:wXs l)(h2:wXs far)(h3: ∀i,i<n->(l.getD i []).length<=100):wXs (WA l far k):=by
 refine⟨by unfold WA;simp;omega,fun i hi=> ?_⟩;have hi':i<l.length:=(by unfold WA at hi;simpa using hi);have e:(WA l far k).getD i []=l.getD i []++ [(far.getD i []).getD k default]:=by unfold WA;simp[q_a,hi']
 rw[e];refine⟨by rw[BH,List.length_singleton];have:=h3 i oG;omega,fun y hy=> ?_⟩;rw[DN,C0] at hy;rcases hy with hy | rfl;exact(h1.2 i hi').2 y hy;by_cases hk:i<far.length/\k<(far.getD i []).length;exact(h2.2 i hk.1).2 _ (Q8 _ _ _ hk.2);have:(far.getD i []).getD k default=default:=by by_cases h:i<far.length;rw[q_a,C2 (by have: ¬k<(far.getD i []).length:=fun e=>hk ⟨h,e⟩;omega)];rfl;rw[show far.getD i []= [] by rw[q_a,C2 oG];rfl];rfl
 rw[this];exact JD
set_option maxHeartbeats 16000000 in
theorem j0d (p:Pb)(m:Lx)(t:Sz)(st:Qd)(wp:wPb p)(wm:Yb m)(wt:wSz t)(ho:2<=p.order/\p.order<=10):
 PR 135 [.agg (XO p),.sl .no (Qy m),.agg (WT t)] st (.tup [.sl .no (Qk (VU p m t).1),.sc (.int .i64 (VU p m t).2)]):=by
 obtain⟨wf,wb,w1,w2,w3⟩:=wp;refine Iq (Q:=fun r=>r= .tup [.sl .no (Qk (VU p m t).1),.sc (.int .i64 (VU p m t).2)]) ?_;have e1:IntKind.i64.wrap (p.order-1)=p.order-1:=Q4 _ oG oG;have wom:=Y8 wm;have hc:=J0f p.fld (ofB m) (p.order-1) p.prec;have hcl:=xe (f:=p.fld) (x:=ofB m) (order:=p.order-1) (p:=p.prec) wom;have hd:=fun S=>J0e p.fld t.a p.order p.prec S wf wt.2;have hdl:=xe (f:=p.fld) (x:=t.a) (order:=p.order) (p:=p.prec) wt.2;have hcw:=(xd p.fld (ofB m) (p.order-1) p.prec wom).1;have hdw:=(xd p.fld t.a p.order p.prec wt.2).1;unfold VU;generalize Zx p.fld (ofB m) (p.order-1) p.prec=C at*
 generalize Zx p.fld t.a p.order p.prec=D at*
 refine Ql none Tryz.func135 rfl fun E=>Qe (Qb ?_);refine Qr ?_;refine Qe ?_;refine Q5 75 (Qi [0,1,2,4,5,6,7,8] (.step 3 [1,5,8] (Qi [9,10,11,12,13,14] .done))) ?_;simp-dsimp only[go_sem,e1];refine(Gp m st wm).plain.w ?_;rintro st0 rfl;simp-dsimp only[go_sem,e1];refine(hc _ wf wom).mono ?_;rintro r S ⟨hk,⟨he,rfl⟩ | ⟨he,rfl,S0,id,cap,hO⟩⟩;have d1:(C.2 !=0)=true:=BV.2 he;refine Qr ?_;refine Qe (Qb ?_);simp-dsimp only[go_sem,d1];obtain⟨X,rfl⟩:=hk.app;unfold H6;rw[BC he];exact SeenRet.err rfl;have d1:((0:Int) !=0)=false:=rfl;refine Qr ?_;refine Qe (Qb ?_);simp-dsimp only[go_sem,d1];refine Qa ?_;refine(hd S).q ?_;refine Qr ?_;refine Qe (Qb ?_);by_cases h2:D.2=0;rotate_left;have d2:(D.2 !=0)=true:=BV.2 h2;simp-dsimp only[go_sem,d2];obtain⟨X,rfl⟩:=hk.app;unfold H6;rw[BA (fun e=>e he),BC h2];exact SeenRet.err rfl;have d2:(D.2 !=0)=false:=(by rw[h2];rfl);obtain⟨hC1,hn4,hn0,hC0,hC10,hC2⟩:=hcl he;obtain⟨hD1,_,_,_,_,hD2⟩:=hdl h2;have hrw:=El (k:=p.order.toNat) hC1 hn4 hcw hdw fun i hi=>(by rw[hC2 i hi];omega);obtain⟨q,hq⟩:=EE (show 0<=p.order by omega);simp-dsimp only[go_sem,d2];refine Qa ?_;generalize hn:p.fld.length=n at*
 have hfu: ∀i,i<n->(fun _:Nat=>decide (p.order-1=0)) i=(fun _:Nat=>false) i:=fun i hi=>q_g oG;have hO:=hO.ext hfu fun i hi=>(show C.1.getD i []=Wd C.1 D.1 q 0 i by unfold Wd;rw[BA (CD i)]);have hS0: ∀x,x<st0.length->S0.getD x []=st0.getD x []:=fun x hx=>by rw[<-hO.old.2 x (by have:=hO.o.1;omega) oG];exact hk.2 x hx
 have hO1:=hO.o.1;have hkp: ∀S' id cap val,OutI S0 S' st0.length n (fun _=>false) id cap val->Kept st0 S':=fun S' id cap val h=>⟨by have:=h.old.1;omega,fun x hx=>(h.old.2 x oG oG).trans (hS0 x hx)⟩;refine XK ([false,false,false,true,false,true,false,false,true]++List.replicate 35 false++ [true,true,true]) 2 0
  (fun c s=> ∃(i:Nat) (S:Qd) (id cap:Nat->Nat),c=n-i/\i<=n/\OutI S0 S st0.length n (fun _=>false) id cap (Wd C.1 D.1 q i)/\
   s=⟨[.junk,.junk,.junk,.lp 0 0,.junk,.lp 1 0,.junk,.junk,.ms true st0.length 0 n]++jk 35++ [.sl .no (Qw D.1),.sc (.int .i64 n),.sc (.int .i64 (i:Nat))]++jk 28,[XO p,WT t],[],S⟩) n ?_ ?_
 simp-dsimp only[go_sem,hD1];exact⟨0,S,id,cap,oG,oG,hO,rfl⟩;clear hO hk;rintro c s ⟨i,S,id,cap,rfl,hi,hO,rfl⟩;refine Qa ?_;refine Qa ?_;refine ck ?_ ?_<;>intro h;rotate_left;have hge:i=n:=(oF h);subst hge;refine Qr ?_;refine hO.plain 8 rfl fun S' hl' hx'=> ?_;have hkS:=hkp _ _ _ _ hO;have hk':Kept st0 S':=⟨by rw[hl'];exact hkS.1,fun x hx=>(hx' x hx).trans (hkS.2 x hx)⟩;rw[v0j C.1 D.1 q i hC1];have hce:H6 p t C D=W6 (WA C.1 D.1 q) ⟨t.h,t.h⟩ p.prec:=by unfold H6;rw[BA (fun e=>e he),BA (fun e=>e h2),show p.order.toNat=q by omega]
 rw[show p.order.toNat=q by omega] at hrw;refine Qe ?_;refine Q5 75 (Qi [0,1,2,4,5] (.step 3 [5] (Qi [6,7,8,9,10] .done))) ?_;refine Qr ?_;refine(KI t.h _ wt.1).q ?_;refine Qr ?_;refine(q1a (WA C.1 D.1 q) ⟨t.h,t.h⟩ p.prec _ hrw ⟨wt.1,wt.1⟩).q ?_;refine Qr ?_;refine Qq ?_;refine SeenRet.plain hk' (qE _ _) ?_;rw[hce];have hlt:i<n:=(oT h);have e4:=J2u i oG;have gD:=Kj D.1 i oG;refine Qr ?_;refine Qe (Xx (Qe (Qb ?_)));simp-dsimp only[go_sem,gD,hD1];refine⟨⟨oG,hlt⟩,?_⟩;obtain⟨o1,o2,o3⟩:=hO.o;have gC:=o3 i hlt;rw[BA Bool.false_ne_true] at gC;have hr:=hO.r i hlt rfl;have hr1:=hr.1;have hv:(Wd C.1 D.1 q i i).length=q:=(by unfold Wd;rw[BA (Nat.lt_irrefl i),hC2 i hlt];omega);have hdl2:(D.1.getD i []).length=q+1:=(by rw[hD2 i hlt];omega);have ht:p.order.toNat=q:=oG;have gI:=Zt (D.1.getD i []) p.order.toNat oG;refine Yr (rF 12++ [true]) Q1 75 (.step 0 [] (.step 1 [] (.step 2 [] (.step 3 [] (.step 4 [] (.step 5 [] (.step 6 [] (.step 7 [] (.step 8 [] (.step 9 [] (.step 10 [] (.step 11 [] (.step 12 [8] (.step 13 [] (.step 14 [] (.done)))))))))))))))) (by decide+kernel) (by simp) ?_;simp-dsimp only[go_sem,gC,gI];refine⟨⟨oG,hlt⟩,oG,⟨oG,oG⟩,GrowOK.mk_one rfl (by decide) hr.len oG (by decide) rfl rfl,fun K' cap' S1 hG=> ?_⟩;obtain⟨p1,p2,p3,p4⟩:=X0f (x:=(D.1.getD i []).getD p.order.toNat default) hr hG;have hp:=hO.put hlt p2 (fun q hq hne=>p3 q hq (hne rfl)) p1 (p4.symm.imp (fun e=>oG) fun e=>⟨rfl,e⟩);have hSO:S1.getD st0.length []=S.getD st0.length []:=p3 _ (by have:=hO.old.1;omega) oG;refine⟨⟨oG,hlt⟩,⟨by rw[hSO];omega,by rw[hSO];omega⟩,?_⟩;refine Qb ?_;simp-dsimp only[go_sem,e4];refine⟨n-(i+1),oG,i+1,_,_,_,rfl,oG,hp.ext (fun j hj=> ?_) (fun j hj=> ?_),rfl⟩;unfold Ve;split<;>rfl;rw[ht];exact v0i C.1 D.1 q i j
theorem w1o (p:Pb)(m:Lx)(t:Sz)(wm:Yb m)(wt:wSz t):wB (VU p m t).1:=by have wom:=Y8 wm;unfold VU H6;split;exact JT;rename_i h1;split;exact JT;rename_i h2;obtain⟨a1,a2,_,_,a3,a4⟩:=xe wom (C8.1 h1);exact x0e (El a1 a2 (xd _ _ _ _ wom).1 (xd _ _ _ _ wt.2).1 fun i hi=>by rw[a4 i hi];omega)
theorem j0g (p:Pb)(x:Li)(t:Sz):wM (W7 p x t).1:=by unfold W7 jG;split;exact Us;exact x0d (yX _ _ _ _)
set_option maxHeartbeats 16000000 in
theorem j0e (p:Pb)(s:Sx)(x:Li)(t:Sz)(st:Qd)(wp:wPb p)(ws:wSx s)(wx:wB x)(wt:wSz t)(ho:2<=p.order/\p.order<=10)(hi:0<=s.idx/\s.idx<=4096):
 PR 74 [.agg (XO p),.agg (JM s),.sl .no (Qk x),.agg (WT t)] st (.tup [.agg (JM (Uh p s x t).1),.sc (.int .i64 (Uh p s x t).2)]):=by
 have c1:=j0d p s.f.m t st wp ws.2.2.1 wt ho;have c2:=j0a p x t st wp wx wt ho;have c5:=x0m p t st wp wt;have c4:=kR s.t t.h st ws.1 wt.1;have e1:IntKind.i64.wrap (s.idx+1)=s.idx+1:=Q4 _ oG oG;have wz:wB (VU p s.f.m t).1:=w1o p s.f.m t ws.2.2.1 wt;have wv:wM (W7 p x t).1:=j0g p x t;have c3:=fun z v wz wv=>H1v s.f z v p.prec st ws.2.2 wz wv;unfold Uh;generalize VU p s.f.m t=Z at*
 refine Ql none Tryz.func74 rfl fun E=>Qe (Qb ?_);refine Qr ?_;refine Qa ?_;refine c1.q ?_;refine Qr ?_;refine Qe (Qb ?_);unfold xE;by_cases h1:Z.2=0;rotate_left;have d1:(Z.2 !=0)=true:=BV.2 h1;rw[BC h1];simp-dsimp only[go_sem,d1];rfl;have d1:(Z.2 !=0)=false:=(by rw[h1];rfl);rw[BA (fun e=>e h1)];simp-dsimp only[go_sem,d1];refine Qa ?_;generalize W7 p x t=V at*
 refine c2.q ?_;refine Qr ?_;refine Qe (Qb ?_);unfold xG;by_cases h2:V.2=0;rotate_left;have d2:(V.2 !=0)=true:=BV.2 h2;rw[BC h2];simp-dsimp only[go_sem,d2];rfl;have d2:(V.2 !=0)=false:=(by rw[h2];rfl);rw[BA (fun e=>e h2)];simp-dsimp only[go_sem,d2];refine Qa ?_;have c3:=c3 Z.1 V.1 wz wv;generalize Vr s.f Z.1 V.1 p.prec=F at*
 refine c3.q ?_;refine Qr ?_;refine Qe (Qb ?_);unfold xI;by_cases h3:F.2=0;rotate_left;have d3:(F.2 !=0)=true:=BV.2 h3;rw[BC h3];simp-dsimp only[go_sem,d3];rfl;have d3:(F.2 !=0)=false:=(by rw[h3];rfl);rw[BA (fun e=>e h3)];simp-dsimp only[go_sem,d3];refine Qa ?_;generalize Za 0 s.t t.h=T at*
 refine c4.q ?_;refine Qr ?_;refine Qe (Qb ?_);unfold xH;by_cases h4:T.2=0;rotate_left;have d4:(T.2 !=0)=true:=BV.2 h4;rw[BC h4];simp-dsimp only[go_sem,d4];rfl;have d4:(T.2 !=0)=false:=(by rw[h4];rfl);rw[BA (fun e=>e h4)];simp-dsimp only[go_sem,d4];refine Qa ?_;generalize VZ p t=W at*
 refine c5.q ?_;refine Qr ?_;refine Qe (Qb ?_);unfold xF;by_cases h5:W.2=0;rotate_left;have d5:(W.2 !=0)=true:=BV.2 h5;rw[BC h5];simp-dsimp only[go_sem,d5];rfl;have d5:(W.2 !=0)=false:=(by rw[h5];rfl);rw[BA (fun e=>e h5)];simp-dsimp only[go_sem,d5];refine Qb ?_;simp-dsimp only[go_sem,e1]
 try rfl
theorem G0s :wSx default:=⟨QC Kq,QC Kq,⟨⟨by simp[default,instInhabitedSx],fun i hi=>absurd hi (CD i)⟩,⟨by simp[default],fun i hi=>absurd hi (CD i)⟩,JT⟩⟩
theorem Dm (p:Pb)(x:Li)(wx:wB x): ∀(n:Nat) (h:Nm) (b:Bool),wN h->wSz (Uz p x n h b).1
 | 0,_,_,_=>⟨QC Kq,JT⟩
 | n+1,h,b,wh=>by rw[Uz];split;exact⟨wh,y1s _ _ _ _ wx⟩;split;exact⟨QC Kq,JT⟩;split;exact⟨QC Kq,JT⟩;exact Dm p x wx n _ _ (qp h (-1))
theorem j0x (K:Nat)(p:Pb)(s:Sx)(x:Li)(wx:wB x)(ws:wN s.h):wSz (Wc K p s x).1:=by unfold Wc;split;exact⟨QC Kq,JT⟩;refine Dm p x wx K _ _ ?_;unfold YY;split;exact ws;exact QC (Uw 1 p.until' s.t)
theorem yL (p:Pb)(h:Nm)(wp:wPb p)(wh:wN h):wN (W3 p h):=by unfold W3;split;exact wp.2.2.2.2;split;exact wp.2.2.2.1;exact wh
theorem G0b (p:Pb)(t:Sz)(wp:wPb p)(wt:wSz t):wN (VZ p t).1:=by unfold VZ;split;split;exact QC Kq;exact yL p _ wp (qp t.h 1);exact yL p _ wp wt.1
theorem Q2p (p:Pb)(s:Sx)(x:Li)(t:Sz)(wp:wPb p)(wt:wSz t):wSx (Uh p s x t).1:=by
 unfold Uh xE xG xI xH xF
 repeat' split
 all_goals first | exact G0s | exact⟨QC (Uw 0 s.t t.h),G0b p t wp wt,K1m _ _ _ _⟩
set_option maxHeartbeats 16000000 in
theorem qI (K:Nat)(p:Pb)(s:Sx)(st:Qd)(wp:wPb p)(ws:wSx s)(hK:vV p K):
 PR 17 [.agg (XO p),.agg (JM s)] st (.tup [.agg (xm (Wj (K+1) p s).1),.agg (JM (Wj (K+1) p s).2.1),.sc (.int .i64 (Wj (K+1) p s).2.2)]):=by
 have c1:=jE p s st wp ws;have c2:=jF p s st wp ws;have c3:=J0a s.f p.prec st ws.2.2;have wx:=G1b s.f p.prec;refine Ql none Tryz.func17 rfl fun E=>Qe (Qb ?_);refine Qr ?_;refine Qa ?_;refine c1.q ?_;unfold Wj;cases q1:KU p s with
 | false=>
  rw[BC rfl];simp-dsimp only[go_sem]
  try rfl
 | true=>
 rw[BA (by decide)];refine Qr ?_;refine c2.q ?_;cases q2:Ww p s with
 | true=>
  rw[BC rfl];simp-dsimp only[go_sem]
  try rfl
 | false=>
 rw[BA (by decide)];by_cases q3:s.idx=p.budget
 . have d3:(s.idx==p.budget)=true:=by rw[q3];exact EG _
   rw[BC q3];simp-dsimp only[go_sem,d3]
   try rfl
 have d3:(s.idx==p.budget)=false:=CL.2 q3;rw[BA q3];simp-dsimp only[go_sem,d3];obtain⟨rp,i0,i1,⟨t1,t2,t3⟩,⟨u1,u2,u3⟩,rf,rl⟩:=rightSt_parts.1 q1;obtain⟨_,_,_,p1,p2,p3,p4,p5,p6,p7,p8,p9,p10,p11⟩:=rightPb_parts.1 rp;refine Qa ?_;have c4:=j0b K p s (Kz s.f p.prec).1 st wp ws wx p3 ((yf p3 Kq).1 p5|>fun h=>by rw[YJ] at h;exact h) (by have:=(ye u1 p2).1 u3;unfold vV at hK;grind) u1;have wsz:=j0x (K+1) p s (Kz s.f p.prec).1 wx ws.2.1;generalize Kz s.f p.prec=X at*
 refine c3.q ?_;refine Qr ?_;refine Qe (Qb ?_);unfold kV;by_cases h1:X.2=0;rotate_left
 . have d1:(X.2 !=0)=true:=BV.2 h1;rw[BC h1];simp-dsimp only[go_sem,d1]
   try rfl
 have d1:(X.2 !=0)=false:=by rw[h1];rfl
 rw[BA (fun e=>e h1)];simp-dsimp only[go_sem,d1];refine Qa ?_;have c5:=j0e p s X.1 (Wc (K+1) p s X.1).1 st wp ws wx wsz ⟨p8,p9⟩ ⟨i0,oG⟩;have wbh:=Q2p p s X.1 (Wc (K+1) p s X.1).1 wp wsz;generalize Wc (K+1) p s X.1=Z at*
 refine c4.q ?_;refine Qr ?_;refine Qe (Qb ?_);unfold kU;by_cases h2:Z.2=0;rotate_left
 . have d2:(Z.2 !=0)=true:=BV.2 h2;rw[BC h2];simp-dsimp only[go_sem,d2]
   try rfl
 have d2:(Z.2 !=0)=false:=by rw[h2];rfl
 rw[BA (fun e=>e h2)];simp-dsimp only[go_sem,d2];refine Qa ?_;generalize Uh p s X.1 Z.1=B at*
 refine c5.q ?_;refine Qr ?_;refine Qe (Qb ?_);unfold kX;by_cases h3:B.2=0;rotate_left
 . have d3:(B.2 !=0)=true:=BV.2 h3;rw[BC h3];simp-dsimp only[go_sem,d3]
   try rfl
 have d3:(B.2 !=0)=false:=by rw[h3];rfl
 rw[BA (fun e=>e h3)];simp-dsimp only[go_sem,d3];refine Qe ?_;refine Q5 86 (Qi [0,1,2,3,4,5,8,9,12,13,15] (.step 6 [1,3,9,13,15] (.step 7 [] (.step 10 [1,3,13,15] (.step 11 [] (.step 14 [] (.step 16 [15] (.step 17 [] (.step 18 [] (.done)))))))))) ?_;refine Qr ?_;refine(KI s.t _ ws.1).q ?_;refine Qr ?_;refine(KI B.1.t _ wbh.1).q ?_;refine Qr ?_;refine Qb ?_;simp-dsimp only[go_sem]
 try rfl
def Q7 :Nm:=⟨false,0,[1]⟩
def WP :Nm:=⟨false, -4,[1]⟩
def Ze (c:Nm):Pb:=⟨if c.w= [] then [[]] else [[⟨c,[0]⟩]],[⟨default,Q7⟩],Q7,Q7,WP,32,2,5⟩
def k19s :Sx:=⟨0,default,Q7,⟨[⟨false, -1,[1]⟩],[[Q7]],[⟨⟨true, -1,[1]⟩,⟨false, -1,[1]⟩⟩]⟩⟩
def k19t :Sx:=⟨1,Q7,Q7,⟨[⟨false, -1,[1]⟩],[[⟨false, -1,[1]⟩]],[⟨⟨true,0,[1]⟩,Q7⟩]⟩⟩
def k19g :Sg:=⟨1,1,default,Q7,[⟨default,Q7⟩]⟩
theorem Y1q :H9 (Ze default)=(k19s,0):=by decide+kernel
theorem Y1p :Wj 11 (Ze default) k19s=(k19g,k19t,0):=by decide+kernel
theorem Y1o :Wj 11 (Ze default) k19t=(default,default,9):=by decide+kernel
theorem k19d :KU (Ze default) k19s=true/\Ww (Ze default) k19s=false/\Ww (Ze default) k19t=true:=by decide+kernel
theorem zq (c:Nm):vV (Ze c) 10:=by show qN Q7<qN WP*p2 ((10:Nat):Int);have e1:qN Q7=1:=(by decide+kernel);have e2:qN WP*p2 ((10:Nat):Int)=64:=(by decide+kernel);rw[e1,e2];decide
theorem Rd {c:Nm}{st:Qd}{es:Lp}(ht:Tame (.sl .no es))(he:QV (Ze c).fld= [.sl .no es]):
 SeenRet st (fun r=>r= .agg (XO (Ze c))) (.agg (.gr st.length 1 1::(XO (Ze c)).drop 1)) (st++ [[.sl .no es]]):=by
 have hO:(st++ [[PV.sl .no es]]).getD st.length []= [.sl .no es]:=by rw[Zl _ _ _ _ (BD _),DD];rfl
 have hl:st.length<(st++ [[PV.sl .no es]]).length:=(by simp);refine⟨_,.agg (XO (Ze c)),Hw (st++ [[PV.sl .no es]]).length st.length 1,rfl,.agg rfl fun j hj=> ?_,fun k hk=> ?_,fun k hk=> ?_,rfl,rfl,rfl⟩
 match j,hj with
 | 0,_=>
  show Seen _ _ _ (.sl .no (QV (Ze c).fld));rw[he];refine .ms (sz:=1) (.inr ⟨1,rfl⟩) hl rfl (fun i hi=> ?_) (by rw[Hv hl,BC rfl];exact BD _) fun i j hi hj=> ?_;have:i=0:=oG;subst this;rfl;have:i=0:=oG;subst this;have:j=0:=oG;subst this;rw[hO];exact .same ht
 | 1,_=>exact .same (qE _ _)
 | 2,_=>exact .same (.sc _)
 | 3,_=>exact .same (.sc _)
 | 4,_=>exact .same (G9 _ _)
 | 5,_=>exact .same (.sc _)
 | 6,_=>exact .same (.sc _)
 | 7,_=>exact .same (G9 _ _)
 | 8,_=>exact .same (.sc _)
 | 9,_=>exact .same (.sc _)
 | 10,_=>exact .same (G9 _ _)
 | 11,_=>exact .same (.sc _)
 | 12,_=>exact .same (.sc _)
 | 13,_=>exact .same (.sc _)
 rw[Hv hk];split;rename_i e;rw[e,hO];exact BD 1;omega;rw[Hv (by simp;omega),BA oG]
set_option maxHeartbeats 8000000 in
theorem Rg (c:Nm)(st:Qd)(wc:wN c):PR 61 [.agg (Qg c)] st (.agg (XO (Ze c))):=by
 have wl:=JC wc;refine Iq (Q:=fun r=>r= .agg (XO (Ze c))) ?_;refine Ql none Tryz.func61 rfl fun E=>Qe (Qb ?_);refine Qr ?_;refine Qa ?_;refine Qe (Yq [true] ?_);refine Qr ?_;refine Qa ?_;by_cases hw:c.w= [];have d1:decide ((c.w.length:Int)>0)=false:=q_g (by rw[hw];decide);simp-dsimp only[go_sem,d1];refine Qq ?_;exact Rd (.sl fun e he=>by cases he) (by show QV (if c.w= [] then [[]] else [[⟨c,[0]⟩]])=_;rw[BC hw];rfl);have d1:decide ((c.w.length:Int)>0)=true:=q_h (by have:=EM.2 hw;omega);simp-dsimp only[go_sem,d1];have hO:(st++ [[PV.sl .no []]]).getD st.length []= [.sl .no []]:=(by rw[Zl _ _ _ _ (BD _),DD];rfl);have hset: ∀X:List PV,List.set (st++ [[PV.sl .no []]]) st.length (Qu ((st++ [[PV.sl .no []]]).getD st.length []) 0 [.sl .no X])=st++ [[.sl .no X]]:=fun X=>by rw[hO,CJ _ _ (BD _),DD];rfl
 refine⟨⟨by rw[hO];exact BD 1,by rw[hO];exact Nat.zero_lt_one⟩,?_⟩;rw[hset];refine Qq ?_;exact Rd (.sl fun e he=>by rw[C0.1 he];exact .agg (Cg ⟨c,[0]⟩)) (by show QV (if c.w= [] then [[]] else [[⟨c,[0]⟩]])=_;rw[BA hw];rfl)
theorem Oz (c:Nm)(hc:wN c):wPb (Ze c):=by have w1:wN Q7:=QC (by decide);refine⟨?_,yV ⟨QC Kq,w1⟩,w1,w1,QC (by show Qh WP=true;decide)⟩;show wF (if c.w= [] then [[]] else [[⟨c,[0]⟩]]);split;refine⟨by simp,fun i hi=> ?_⟩;have:i=0:=(by simpa using hi);subst this;exact⟨by simp,fun i hi=>absurd hi (CD i)⟩;refine⟨by simp,fun i hi=> ?_⟩;have:i=0:=(by simpa using hi);subst this;refine⟨by simp,fun i hi=> ?_⟩;have:i=0:=(by simpa using hi);subst this;refine⟨hc,by show([0]:Pq).length<=_;simp,fun i hi=> ?_⟩;have:i=0:=(by simpa using hi);subst this;show -9223372036854775808<=(0:Int)/\(0:Int)<=9223372036854775807;omega
set_option maxHeartbeats 16000000 in
theorem Y1m (st:Qd):PR 10 [] st (.sc (.bool true)):=by have wd:wN (default:Nm):=QC Kq;have w1:wN Q7:=QC (by decide);have wp:=Oz default wd;have ws:wSx k19s:=jU (by decide+kernel);have wt:wSx k19t:=jU (by decide+kernel);have c1:=Di (Ze default) st wp;have c2:=qI 10 (Ze default) k19s st wp ws (zq default);have c3:=qI 10 (Ze default) k19t st wp wt (zq default);have c4:=jF (Ze default) k19t st wp wt;have c5:=jF (Ze default) k19s st wp ws;have c6:=jE (Ze default) k19s st wp ws;have c7:=j0c k19s k19s st ws ws;rw[Y1q] at c1;rw[Y1p] at c2;rw[Y1o] at c3;rw[k19d.2.2] at c4;rw[k19d.2.1] at c5;rw[k19d.1] at c6;have wb:wB [(⟨default,Q7⟩:Ivl)]:=yV ⟨wd,w1⟩;refine Ql none Tryz.func10 rfl fun E=>Qe (Qb ?_);refine Qr ?_;refine Qa ?_;refine(Rg default st wd).q ?_;refine Qr ?_;refine Qa ?_;refine c1.q ?_;refine Qr ?_;refine Qa ?_;refine c2.q ?_;refine Qr ?_;refine Qa ?_;refine c3.q ?_;have z1:((0:Int)==0)=true:=rfl;have z2:((9:Int)==9)=true:=rfl;have z3:(k19g.fr==1)=true:=rfl;have z4:(k19g.to==1)=true:=rfl;have z5:(k19t.idx==1)=true:=rfl;refine Qr ?_;refine Qb ?_;simp-dsimp only[go_sem,z1,z2,z3,z4,Y6,Y5,FW,EH,CQ];refine(G1h k19g.t0 st wd).q ?_;rw[show decide (k19g.t0=default)=true by decide];simp-dsimp only[go_sem,z1,z2,z3,z4,z5,Y6,Y5,FW,EH,CQ];refine(Il k19g.t1 Q7 st (by decide) (by decide)).q ?_;rw[show decide (k19g.t1=Q7)=true by decide];simp-dsimp only[go_sem,z1,z2,z3,z4,z5,Y6,Y5,FW,EH,CQ];refine(k0v k19g.box [⟨default,Q7⟩] st wb wb).q ?_;rw[show decide (k19g.box= [⟨default,Q7⟩])=true by decide];simp-dsimp only[go_sem,z1,z2,z3,z4,z5,Y6,Y5,FW,EH,CQ];refine c4.q ?_;simp-dsimp only[go_sem,z1,z2,z3,z4,z5,Y6,Y5,FW,EH,CQ];refine c5.q ?_;simp-dsimp only[go_sem,z1,z2,z3,z4,z5,Y6,Y5,FW,EH,CQ];refine c6.q ?_;simp-dsimp only[go_sem,z1,z2,z3,z4,z5,Y6,Y5,FW,EH,CQ];refine c7.q ?_;rw[show decide (k19s=k19s)=true by decide];simp-dsimp only[go_sem,z1,z2,z3,z4,z5,Y6,Y5,FW,EH,CQ];refine(Il k19t.h Q7 st (by decide) (by decide)).q ?_;rw[show decide (k19t.h=Q7)=true by decide];simp-dsimp only[go_sem,z1,z2,z3,z4,z5,Y6,Y5,FW,EH,CQ]
theorem K1j {K:Nat}{p:Pb}{s:Sx}{x:Li}{t:Sz}{z:Li}{v:Mx}{f:Fm}{to h:Nm}(h1:KU p s=true)(h2:Ww p s=false)(h3:s.idx≠p.budget)(h4:Kz s.f p.prec=(x,0))(h5:Wc K p s x=(t,0))(h6:VU p s.f.m t=(z,0))(h7:W7 p x t=(v,0))
 (h8:Vr s.f z v p.prec=(f,0)) (h9:Za 0 s.t t.h=(to,0)) (h10:VZ p t=(h,0)):Wj K p s=(⟨s.idx+1,s.idx+1,s.t,to,t.a⟩,⟨s.idx+1,to,h,f⟩,0):=by
 have e: ∀ {α:Type} {a b:α},(if (0:Int)≠0 then a else b)=b:=fun {α a b} =>BA (fun h=>h rfl);rw[Wj,BA (by rw[h1];decide),BA (by rw[h2];decide),BA h3,h4,kV,e,h5,kU,e,Uh,h6,xE,e,h7,xG,e,h8,xI,e,h9,xH,e,h10,xF,e,kX,e]
def WQ :Nm:=⟨false, -1,[1]⟩
def Z8 (c:Nm):Nm:=(Za 0 WQ c).1
def J5 (c:Nm):Nm:=(Za 0 Q7 c).1
def t1S (c:Nm):Sx:=⟨1,Q7,Q7,⟨[Z8 c],[[WQ]],[⟨⟨true,0,[1]⟩,Q7⟩]⟩⟩
def xB1 :List Ivl:= [⟨default,Q7⟩]
def aW (c:Nm):List Ivl:= [if c.neg=true then⟨c,Q7⟩ else⟨default,J5 c⟩]
def jH (a:List Ivl)(S:Sz×Int):Bool:=match S with
 | (⟨h,b,f⟩,e)=>f&&decide (e=0)&&decide (h=Q7)&&decide (b=a)
theorem j0y {a:Li}{S:Sz×Int}(h:jH a S=true):S=(⟨Q7,a,true⟩,0):=by obtain⟨⟨x,b,f⟩,e⟩:=S;unfold jH at h;simp only[q_i,BN] at h;obtain⟨⟨⟨h1,h2⟩,h3⟩,h4⟩:=h;rw[h1,h2,h3,h4]
def jD (c:Nm):Bool:=jH (aW c) (Wc 11 (Ze c) k19s xB1)&&decide (VU (Ze c) [WQ] ⟨Q7,aW c,true⟩=([⟨Z8 c,Z8 c⟩],0))&&decide (W7 (Ze c) xB1 ⟨Q7,aW c,true⟩=([[⟨Q7,Q7⟩]],0))
def KB (c:Nm):Bool:=Xh (Ze c).fld&&jD c&&decide (Zk [⟨Z8 c,Z8 c⟩] 32=([Z8 c],0))&&decide (opB 1 [⟨Z8 c,Z8 c⟩] [⟨Z8 c,Z8 c⟩] 32=([⟨default,default⟩],0))&&
 decide (opB 0 [⟨Z8 c,Z8 c⟩] [⟨⟨true, -1,[1]⟩,WQ⟩] 32=([⟨c,J5 c⟩],0))&&decide (Za 2 c Q7=(c,0)/\Za 0 default c=(c,0)/\Za 0 Q7 c=(J5 c,0))&&Kf ⟨c,J5 c⟩ c&&Kf ⟨c,J5 c⟩ (J5 c)&&Qh (Z8 c)
def YC :Nm:=⟨false,1,[1]⟩
theorem Z1k (c:Nm):(Ze c).fld.length=1:=by show(if c.w= [] then [[]] else [[(⟨c,[0]⟩:Mn)]]).length=1;split<;>rfl
theorem Rc {c:Nm}(h:Xh (Ze c).fld=true):We (Ze c)=true:=
 rightPb_parts.2 ⟨h,by show rightB xB1=true;decide+kernel,by rw[Z1k];rfl,by show Qh Q7=true;decide,by show Qh Q7=true;decide,by show Qh WP=true;decide,by show 0<Q9 Q7 default;decide+kernel,by show 0<Q9 WP default;decide+kernel,by show 0<=Q9 Q7 WP;decide+kernel,
  by show Qt 32=true;decide,by show(2:Int)<=2;decide,by show(2:Int)<=10;decide,by show(1:Int)<=5;decide,by show(5:Int)<=4096;decide⟩
theorem Rb {c:Nm}{s:Sx}(h:Xh (Ze c).fld=true)(hi:0<=s.idx/\s.idx<=5)(ht:s.t=default\/s.t=Q7)(hh:s.h=Q7)(hf:X4 s.f=true)(hl:s.f.m.length=1):KU (Ze c) s=true:=by refine rightSt_parts.2 ⟨Rc h,hi.1,hi.2,?_,?_,hf,hl⟩;show Qh s.t=true/\s.t.neg=false/\Q9 s.t Q7<=0;rcases ht with e | e<;>rw[e]<;>decide+kernel;show Qh s.h=true/\Q9 WP s.h<=0/\Q9 s.h Q7<=0;rw[hh];decide+kernel
theorem Ux {c:Nm}(h:KB c=true):Xh (Ze c).fld=true/\jD c=true/\Zk [⟨Z8 c,Z8 c⟩] 32=([Z8 c],0)/\opB 1 [⟨Z8 c,Z8 c⟩] [⟨Z8 c,Z8 c⟩] 32=([⟨default,default⟩],0)/\
 opB 0 [⟨Z8 c,Z8 c⟩] [⟨⟨true, -1,[1]⟩,WQ⟩] 32=([⟨c,J5 c⟩],0)/\(Za 2 c Q7=(c,0)/\Za 0 default c=(c,0)/\Za 0 Q7 c=(J5 c,0))/\Kf ⟨c,J5 c⟩ c=true/\Kf ⟨c,J5 c⟩ (J5 c)=true/\Qh (Z8 c)=true:=by
 unfold KB at h;simp only[q_i,BN,and_assoc] at h;simpa only[and_assoc] using h
theorem j8 {c:Nm}(h:Qh (Z8 c)=true):X4 (t1S c).f=true:=by show(decide (1<=1)&&decide (1<=4)&&ZC [Z8 c] 1&&decide (1=1)&&decide (1=1)&& [[WQ]].all (fun x=>ZC x 1)&& [(⟨⟨true,0,[1]⟩,Q7⟩:Ivl)].all (fun x=>Kf x default))=true;have e1:ZC [Z8 c] 1=true:=(by unfold ZC;simp[h]);have e2: [[WQ]].all (fun x=>ZC x 1)=true:=(by decide+kernel);have e3: [(⟨⟨true,0,[1]⟩,Q7⟩:Ivl)].all (fun x=>Kf x default)=true:=(by decide+kernel);rw[e1,e2,e3];rfl
theorem Z1m {c:Nm}(h:KB c=true):H9 (Ze c)=(k19s,0):=by
 have e:Wq (Ze c).box (Ze c).prec=(k19s.f,0):=by show Wq xB1 32=_;decide+kernel
 unfold H9;rw[BC (Rc (Ux h).1),e,BA (fun h=>h rfl)];rfl
theorem Z1i {c:Nm}(h:KB c=true):Vr k19s.f [⟨Z8 c,Z8 c⟩] [[⟨Q7,Q7⟩]] 32=((t1S c).f,0):=by
 obtain⟨_,_,h3,h4,_,_,_,_,h9⟩:=Ux h;have e: ∀ {α:Type} {a b:α},(if (0:Int)≠0 then a else b)=b:=fun {α a b} =>BA (fun h=>h rfl);have hz:rightB [(⟨Z8 c,Z8 c⟩:Ivl)]=true:=by refine GV (fun i hi=> ?_) (by simp) (by simp);have:i=0:=(by simp at hi;omega);subst this;exact Ig h9 h9 (cmpN_le.2 CB)
 have o:Hg k19s.f [⟨Z8 c,Z8 c⟩] [[⟨Q7,Q7⟩]] 32=true:=by unfold Hg;rw[hz,show X4 k19s.f=true by decide+kernel,show rightM [[(⟨Q7,Q7⟩:Ivl)]]=true by decide+kernel];rfl
 have m1:Zc [[⟨Q7,Q7⟩]] (ofM k19s.f.a) 32=([[⟨Q7,Q7⟩]],0):=(by decide+kernel);have m2:JE [[⟨Q7,Q7⟩]] 32=(([[WQ]],[[⟨YC,YC⟩]]),0):=(by decide+kernel);have m3:Ym [[⟨YC,YC⟩]] [[⟨Q7,Q7⟩]] k19s.f.r [⟨default,default⟩] 32=([⟨⟨true,0,[1]⟩,Q7⟩],0):=(by decide+kernel);rw[Vr,BC o,Ix,h3,e,zL,m1,e,zJ,m2,e,zK,show ofB [Z8 c]= [⟨Z8 c,Z8 c⟩] from rfl,h4,e,Iw,m3,e];rfl
theorem Z1l {c:Nm}(h:KB c=true):Kz (t1S c).f 32=([⟨c,J5 c⟩],0):=by obtain⟨_,_,_,_,h5,_,_,_,h9⟩:=Ux h;have e:Xt (ofM (t1S c).f.a) (t1S c).f.r 32=([⟨⟨true, -1,[1]⟩,WQ⟩],0):=(by show Xt (ofM [[WQ]]) [⟨⟨true,0,[1]⟩,Q7⟩] 32=_;decide+kernel);rw[Kz,BC ⟨j8 h9,by decide⟩,e,BA (fun h=>h rfl)];exact h5
theorem Z1j {c:Nm}(h:KB c=true): ∃a,Wj 11 (Ze c) k19s=(⟨1,1,default,Q7,a⟩,t1S c,0):=by
 obtain⟨h1,h2,_,_,_,_,_,_,_⟩:=Ux h;unfold jD at h2;simp only[q_i,BN] at h2;obtain⟨⟨s1,s4⟩,s5⟩:=h2;have s0:=j0y s1;have r:KU (Ze c) k19s=true:=Rb h1 (by decide) (.inl rfl) rfl (by decide+kernel) rfl;have d:Ww (Ze c) k19s=false:=by unfold Ww;rw[r,show decide (Q9 k19s.t (Ze c).until'=0)=false by show decide (Q9 default Q7=0)=false;decide+kernel];rfl
 have w:VZ (Ze c) ⟨Q7,aW c,true⟩=(Q7,0):=by unfold VZ;rw[BC rfl,show Z5 Q7 1=(YC,0) by decide+kernel,BA (fun h=>h rfl)];show(if Q9 YC WP<0 then WP else if 0<Q9 YC Q7 then Q7 else YC,(0:Int))=(Q7,0);decide+kernel
 exact⟨_,K1j (x:=xB1) r d (by show(0:Int)≠5;decide) (by show Kz k19s.f 32=_;decide+kernel) s0 s4 s5 (Z1i h) (by show Za 0 default Q7=(Q7,0);decide+kernel) w⟩
theorem Z1h {c:Nm}(h:KB c=true):Wj 11 (Ze c) (t1S c)=(default,default,9):=by
 obtain⟨h1,_,_,_,_,_,_,_,h9⟩:=Ux h;have r:KU (Ze c) (t1S c)=true:=Rb h1 (by show(0:Int)<=1/\(1:Int)<=5;decide) (.inr rfl) rfl (j8 h9) rfl;have d:Ww (Ze c) (t1S c)=true:=by unfold Ww;rw[r,show decide (Q9 (t1S c).t (Ze c).until'=0)=true by show decide (Q9 Q7 Q7=0)=true;decide+kernel];rfl
 rw[Wj,BA (by rw[r];decide),BC d];rfl
def Vq (neg:Bool)(m e:Nat):Nm:=(YS neg [UInt64.ofNat m] ((e:Int)-6)).1
def Wy (neg:Bool)(a n:Nat):Bool:=(List.range n).all fun k=>(List.range 14).all fun e=>decide (8<e/\64<=(2*(a+k)+1)*2^(e-8))||KB (Vq neg (2*(a+k)+1) e)
theorem w1n :KB (Vq false 0 0)=true:=by decide+kernel
theorem w1m :Wy false 0 8=true:=by decide+kernel
theorem w1l :Wy false 8 8=true:=by decide+kernel
theorem w1k :Wy false 16 8=true:=by decide+kernel
theorem w1j :Wy false 24 8=true:=by decide+kernel
theorem w1i :Wy true 0 8=true:=by decide+kernel
theorem w1h :Wy true 8 8=true:=by decide+kernel
theorem w1g :Wy true 16 8=true:=by decide+kernel
theorem w1f :Wy true 24 8=true:=by decide+kernel
theorem w1e {neg:Bool}{a n:Nat}(h:Wy neg a n=true){k e:Nat}(hk:k<n)(he:e<14)(hb:e<=8\/(2*(a+k)+1)*2^(e-8)<64):KB (Vq neg (2*(a+k)+1) e)=true:=by unfold Wy at h;rw[q_d] at h;have h1:=h k (E0.2 hk);rw[q_d] at h1;have h2:=h1 e (E0.2 he);rw[q_g oG,Bool.false_or] at h2;exact h2
theorem J1l (neg:Bool){k e:Nat}(hk:k<32)(he:e<14)(hb:e<=8\/(2*k+1)*2^(e-8)<64):KB (Vq neg (2*k+1) e)=true:=by
 have go: ∀a,a<=k->k<a+8->Wy neg a 8=true->KB (Vq neg (2*k+1) e)=true:=fun a h1 h2 h=>by have:=w1e h (k:=k-a) (e:=e) oG he (by rw[show a+(k-a)=k by omega];exact hb);rwa [show a+(k-a)=k by omega] at this
 cases neg;by_cases h1:k<8;exact go 0 oG oG w1m;by_cases h2:k<16;exact go 8 oG oG w1l;by_cases h3:k<24;exact go 16 oG oG w1k;exact go 24 oG oG w1j;by_cases h1:k<8;exact go 0 oG oG w1i;by_cases h2:k<16;exact go 8 oG oG w1h;by_cases h3:k<24;exact go 16 oG oG w1g;exact go 24 oG oG w1f
def K0b :Bool:= [false,true].all fun neg=>(List.range 32).all fun k=>(List.range 14).all fun e=>decide (k=0)||decide (Vq neg (2*k) e=Vq neg k (e+1))
def yG :Bool:= [false,true].all fun neg=>(List.range 9).all fun e=>decide (Vq neg 0 e=Vq false 0 0)
theorem z1o :K0b=true:=by decide+kernel
theorem U0q :yG=true:=by decide+kernel
theorem Q0r (b:Bool):b∈ [false,true]:=by cases b<;>simp
theorem Oy (neg:Bool): ∀(n m e:Nat),m<=n->0<m->m<64->e<14->(e<=8\/m*2^(e-8)<64)->KB (Vq neg m e)=true
 | 0,m,e,h,h0,_,_,_=>by omega
 | n+1,m,e,h,h0,h1,h2,h3=>by
  rcases Nat.mod_two_eq_zero_or_one m with hm | hm;have ht:=z1o;unfold K0b at ht;rw[q_d] at ht;have ht:=ht neg (Q0r neg);rw[q_d] at ht;have ht:=ht (m/2) (E0.2 oG);rw[q_d] at ht;have ht:=ht e (E0.2 h2);rw[q_g oG,Bool.false_or,BN,show 2*(m/2)=m by omega] at ht;rw[ht];have hp:(m/2)*2^(e+1-8)<64:=by by_cases h8:e<8;rw[show e+1-8=0 by omega];omega;rw[show e+1-8=(e-8)+1 by omega,B5,BM (2^(e-8)) 2,<-BW,show m/2*2=m by omega];rcases h3 with h3 | h3;rw[show e-8=0 by omega];omega;exact h3
  refine Oy neg n (m/2) (e+1) oG oG oG ?_ (.inr hp);refine EV fun h9=> ?_;have:2^6<=2^(e+1-8):=BS (by decide) oG;have:=DW (show 1<=m/2 by omega) this;omega;have:=J1l neg (k:=m/2) (e:=e) oG h2 (by rw[show 2*(m/2)+1=m by omega];exact h3);rwa [show 2*(m/2)+1=m by omega] at this
theorem Z2l (neg:Bool){m e:Nat}(hm:m<64)(he:e<9):KB (Vq neg m e)=true:=by rcases Nat.eq_zero_or_pos m with h0 | h0;have ht:=U0q;unfold yG at ht;rw[q_d] at ht;have ht:=ht neg (Q0r neg);rw[q_d] at ht;have ht:=ht e (E0.2 he);rw[BN] at ht;rw[h0,ht];exact w1n;exact Oy neg m m e (BD m) h0 hm oG (.inl oG)
end Go.Pv
end
