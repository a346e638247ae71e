/- Parts of the walk: N184, N185, N186. -/
import Derived.Test.YtldalepagmhnmaaGreatDoorZHG
import Derived.Test.YtldalepagmhnmaaGreatDoorZHD
import Derived.Test.YtldalepagmhnmaaGreatDoorZFJ
set_option linter.unusedVariables false
set_option linter.unusedSimpArgs false
section
set_option maxRecDepth 100000
namespace Go.Pv
open Go.Proofs
theorem U3i {x y:List Nm}(h:ofB x=ofB y):x=y:=by
 have hl:x.length=y.length:=by have:=congrArg List.length h;simpa[ofB] using this
 refine List.ext_getElem hl fun i h1 h2=> ?_;have:=congrArg (fun l:List Ivl=>(l.getD i default).lo) h;simp only[w1z h1,w1z h2] at this;rwa [q_a,List.getElem?_eq_getElem h1,q_a,List.getElem?_eq_getElem h2] at this
theorem z2g (x y:List Nm)(st:Q0g)(hx:wNs' x)(hy:wNs' y):PR 96 [.sl .no (Q0t x),.sl .no (Q0t y)] st (.sc (.bool (decide (x=y)))):=by refine J4z Tryz.func96 fun E=> ?_;refine(X1a x _ hx).plain.w ?_;rintro st' rfl;refine K4w ?_;refine(X1a y _ hy).plain.w ?_;rintro st' rfl;refine K4w ?_;refine(v1k (ofB x) (ofB y) _ (q0z hx) (q0z hy)).w ?_;rintro st' rfl;refine K4w ?_;have:(ofB x=ofB y)<->x=y:=⟨U3i,fun h=>by rw[h]⟩;simp only[this]
set_option maxHeartbeats 4000000 in
theorem q1f (a b:Fm)(st:Q0g)(ha:wFm a)(hb:wFm b):PR 33 [.agg (K0u a),.agg (K0u b)] st (.sc (.bool (decide (a=b)))):=by
 obtain⟨am,⟨aal,aa⟩,ar⟩:=ha;obtain⟨bm,⟨bal,ba⟩,br⟩:=hb;have aml:=am.1;have bml:=bm.1;refine Q0b none Tryz.func33 rfl fun E=>Q0a ?_;by_cases h1:a.m.length=b.m.length;rotate_left;have z1:((a.m.length:Int) !=(b.m.length:Int))=true:=bne_iff_ne.2 oG;simp-dsimp only[go_sem,z1];rw[q_g (fun e=>h1 (by rw[e]))];have z1:((a.m.length:Int) !=(b.m.length:Int))=false:=(by rw[h1];simp);by_cases h2:a.a.length=b.a.length;rotate_left;have z2:((a.a.length:Int) !=(b.a.length:Int))=true:=bne_iff_ne.2 oG;simp-dsimp only[go_sem,z1,z2];rw[q_g (fun e=>h2 (by rw[e]))];have z2:((a.a.length:Int) !=(b.a.length:Int))=false:=(by rw[h2];simp);simp-dsimp only[go_sem,z1,z2];refine(v1k a.r b.r _ ar br).w ?_;rintro st' rfl;by_cases h3:a.r=b.r;rotate_left;have z3:decide (a.r=b.r)=false:=q_g h3;simp-dsimp only[go_sem,z3];rw[q_g (fun e=>h3 (by rw[e]))];have z3:decide (a.r=b.r)=true:=q_h h3;simp-dsimp only[go_sem,z3];refine Q0d ([false,false,true,true,false,true]++List.replicate 27 false++ [true,true]) 2 0
  (fun c s=> ∃i:Nat,c=a.a.length-i/\i<=a.a.length/\(∀j,j<i->a.a.getD j []=b.a.getD j [])/\
   s=⟨[.junk,.junk,.lp 0 0,.lp 1 0,.junk,.fn (.func 96) [] []]++jk 27++ [.sc (.int .i64 a.a.length),.sc (.int .i64 (i:Nat))]++jk 22,[K0u a,K0u b],[],st'⟩) a.a.length ?_ ?_
 refine K4w ?_;exact⟨0,oG,oG,fun j hj=>absurd hj (Nat.not_lt_zero j),rfl⟩;rintro c s ⟨i,rfl,hi,heq,rfl⟩;refine K4a (fun h=> ?_) (fun h=> ?_);have hlt:i<a.a.length:=(oT h);have g1:=X0z a.a i hlt;have g2:=X0z b.a i oG;have e3:=Z0s i oG;refine K4w ?_;refine Q0k Z0c 57 (Z2k [0,1,2,3,4,5,6,7,8,9,10,11,12] .done) (by decide+kernel) (by simp) ?_;simp-dsimp only[go_sem,g1,g2];refine⟨oG,oG,?_⟩;refine(z2g (a.a.getD i []) (b.a.getD i []) _ (aa i hlt) (ba i oG)).w ?_;rintro st' rfl;by_cases h4:a.a.getD i []=b.a.getD i [];have z4:decide (a.a.getD i []=b.a.getD i [])=true:=q_h h4;simp-dsimp only[go_sem,z4,e3];refine⟨a.a.length-(i+1),oG,i+1,rfl,oG,fun j hj=> ?_,rfl⟩;by_cases e:j=i;rw[e];exact h4;exact heq j oG;have z4:decide (a.a.getD i []=b.a.getD i [])=false:=q_g h4;simp-dsimp only[go_sem,z4];rw[q_g (fun e=>h4 (by rw[e]))];have hge:i=a.a.length:=(oF h);subst hge;have hA:a.a=b.a:=List.ext_getElem h2 fun k h4 h5=>by have:=heq k h4;rwa [q_a,List.getElem?_eq_getElem h4,q_a,List.getElem?_eq_getElem h5] at this
 refine K4w ?_;refine J4y ?_;refine(z2g a.m b.m _ am bm).w ?_;rintro st' rfl;refine K4w ?_;have:(a=b)<->a.m=b.m:=(by rw[fm_eq];exact⟨fun h=>h.1,fun h=>⟨h,hA,h3⟩⟩);simp only[this]
theorem J2f (k:Nat)(st:Q0g)(hk:k<=100000):PR 121 [.sc (.int .i64 k)] st (.sl .no (encQ (oneL k))):=by
 refine J4z Tryz.func121 fun E=> ?_;refine Z0j 3 1 ?_;refine K4w ?_;refine Z0f [true,false,false,true,false,false,true,true] 0 1
  (fun m s=> ∃i,m=k-i/\i<=k/\s=⟨[.sc (.int .i64 k),.junk,.junk,.sl (.own 0) (encQ ((oneL k).take i)),.junk,.junk,.sc (.int .i64 k),.sc (.int .i64 (i:Nat))]++jk 14,[],[(((oneL k).take i).length,1)],st⟩) k ?_ ?_
 refine K4w ?_;exact⟨0,oG,oG,rfl⟩;rintro m s ⟨i,rfl,hi,rfl⟩;refine J4x ?_;refine J4x ?_;refine ck (fun h'=> ?_) (fun h'=> ?_);have hlt:i<k:=(by have:=q_b h';omega);have e3:=Z0s i oG;have ll:((oneL k).take i).length=i:=(by rw[List.length_take,X0v];omega);have e5:(oneL k).take (i+1)=(oneL k).take i++ [rowQ k i]:=G0h _ _ _ hlt;have e6:flat (Q0t (rowQ k i))=over (flat (Q0t (List.replicate k default))) (i*3) (encN oneN):=(W1f _ i oneN (by simpa using hlt)).symm;refine K4w ?_;refine Q0c (Z0y ?_);refine J4x ?_;refine J4x ?_;refine⟨⟨oG,oG⟩,?_⟩;refine Q0c (Q0a ?_);simp-dsimp only[go_sem,G0l];refine(q0k _).w ?_;rintro st' rfl;simp-dsimp only[go_sem,G0l];refine⟨⟨oG,hlt⟩,⟨oG,oG⟩,?_⟩;have r0:repC k [.sc (.bool false),.sc (.int .i64 0),.sl .no []]=flat (Q0t (List.replicate k default)):=Z2s k;have r1:over (flat (Q0t (List.replicate k default))) (i*3) [.sc (.bool oneN.neg),.sc (.int .i64 oneN.exp),.sl .no (encW oneN.w)]=flat (Q0t (rowQ k i)):=e6.symm;have r2:=q1s (rowQ k i) k (Y0q k i).symm;have r3:=Y0q k i;have hone:encW oneN.w= [.sc (.int .u64 1)]:=rfl;refine v0i 0 3 ?_ ?_;refine K4w ?_;exact q1c (q1a rfl) rfl;simp-dsimp only[go_sem,J1c,w0z,r0,r1,r2,r3];refine J4y ?_;refine⟨⟨oG,oG⟩,Q0a ?_⟩;simp-dsimp only[go_sem,e3];refine⟨k-(i+1),oG,i+1,rfl,oG,?_⟩;rw[e5];simp;have hge:i=k:=(by have:=q_c h';omega);have ht:(oneL k).take i=oneL k:=List.take_of_length_le (by rw[X0v];omega);rw[ht];refine K4w ?_;refine U0l [false,false,false,true] (Q0a ?_);exact K4v
theorem V3a (b:List Ivl)(p:Int)(st:Q0g)(hb:wB b):PCalls Tryz.prog 52 [.sl .no (Q0z b),.sc (.int .i64 p)] st
 (fun r st'=>r= .tup [.agg (K0u (k0v b p).1),.sc (.int .i64 (k0v b p).2)]/\st'=st):=by
 refine Q0b none Tryz.func52 rfl fun E=>Q0c (Q0a ?_);have wm:=G1o b p hb;have wo:=q0z wm;refine K4w ?_;refine J4x ?_;refine(z1a b p st hb).Q ?_;refine Q0c (Q0a ?_);unfold k0v;by_cases h1:(midB b p).2=0;rotate_left;have d1:((midB b p).2 !=0)=true:=bne_iff_ne.2 h1;rw[if_pos h1];simp-dsimp only[go_sem,d1];rfl;have d1:((midB b p).2 !=0)=false:=(by rw[h1];rfl);have c1: ¬((midB b p).2≠0):=fun h=>h h1;rw[if_neg c1];simp-dsimp only[go_sem,d1];refine J4x ?_;refine(X1a (midB b p).1 st wm).plain.Q ?_;refine(J2t b (ofB (midB b p).1) p st hb wo).Q ?_;refine Q0c (Q0a ?_);by_cases h2:(opB 1 b (ofB (midB b p).1) p).2=0;rotate_left;have d2:((opB 1 b (ofB (midB b p).1) p).2 !=0)=true:=bne_iff_ne.2 h2;rw[if_pos h2];simp-dsimp only[go_sem,d2];rfl;have d2:((opB 1 b (ofB (midB b p).1) p).2 !=0)=false:=(by rw[h2];rfl);have c2: ¬((opB 1 b (ofB (midB b p).1) p).2≠0):=fun h=>h h2;rw[if_neg c2];have hl:=J1i h1;simp-dsimp only[go_sem,d2];refine J4y ?_;refine(J2f b.length st oG).Q ?_;rfl
theorem k2r {q:List (List Nm)}(h:wQs q):wM (ofM q):=by obtain⟨h1,h2⟩:=h;refine⟨by simpa[ofM] using h1,fun i hi=> ?_⟩;have hi':i<q.length:=(by simpa[ofM] using hi);rw[J1d hi'];exact q0z (h2 i hi')
theorem X2y {f:Fm}{p:Int}(h:X0n f=true/\Z0b p=true):X1r f p=if (vecM (ofM f.a) f.r p).2≠0 then([],(vecM (ofM f.a) f.r p).2) else opB 0 (ofB f.m) (vecM (ofM f.a) f.r p).1 p:=by unfold X1r;rw[if_pos h]
theorem y0q {f:Fm}{p:Int}(h: ¬(X0n f=true/\Z0b p=true)):X1r f p=([],1):=by unfold X1r;rw[if_neg h]
theorem J2h (f:Fm)(p:Int)(st:Q0g)(hf:wFm f):PCalls Tryz.prog 55 [.agg (K0u f),.sc (.int .i64 p)] st
 (fun r st'=>r= .tup [.sl .no (Q0z (X1r f p).1),.sc (.int .i64 (X1r f p).2)]/\st'=st):=by
 obtain⟨wm,wa,wr⟩:=hf;refine Q0b none Tryz.func55 rfl fun E=>Q0c (Q0a ?_);refine K4w ?_;refine J4x ?_;refine(H0p f _ ⟨wm,wa,wr⟩).w ?_;rintro st' rfl;cases hr:X0n f with
 | false=>
  rw[y0q (fun h=>by rw[hr] at h;cases h.1)];exact K4v
 | true=>
 refine K4w ?_;refine(K0x p _).w ?_;rintro st' rfl;cases hp:Z0b p with
 | false=>
  rw[y0q (fun h=>by rw[hp] at h;cases h.2)];exact K4v
 | true=>
 rw[X2y ⟨hr,hp⟩];refine K4w ?_;refine Q0c ?_;refine Q0k Z0c 37 (Z2k [0,1,3,4,5] (.step 2 [4] (Z2k [6,7,8,9,10,11] .done))) (by decide+kernel) (by simp) ?_;refine K4w ?_;refine(y1k f.a _ wa).plain.w ?_;rintro st' rfl;refine K4w ?_;refine(H1v (ofM f.a) f.r p _ (k2r wa) wr).w ?_;rintro st' rfl;have wv:=Q1i (ofM f.a) f.r p;generalize vecM (ofM f.a) f.r p=V at*
 refine K4w ?_;refine Q0c (Q0a ?_);by_cases h1:V.2=0;rotate_left;have d1:(V.2 !=0)=true:=bne_iff_ne.2 h1;rw[if_pos h1];simp-dsimp only[go_sem,d1];have d1:(V.2 !=0)=false:=(by rw[h1];rfl);rw[if_neg (fun e=>e h1)];simp-dsimp only[go_sem,d1];refine J4y ?_;refine(X1a f.m _ wm).plain.w ?_;rintro st' rfl;refine K4w ?_;refine(J2u (ofB f.m) V.1 p _ (q0z wm) wv).w ?_;rintro st' rfl;exact K4v
theorem Z3n (v c:Mx)(r z:List Ivl)(p:Int)(st:Q0g)(wv:wM v)(wc:wM c)(wr:wB r)(wz:wB z):PCalls Tryz.prog 107 [.sl .no (encM v),.sl .no (encM c),.sl .no (Q0z r),.sl .no (Q0z z),.sc (.int .i64 p)] st
 (fun x st'=>x= .tup [.sl .no (Q0z (H1d v c r z p).1),.sc (.int .i64 (H1d v c r z p).2)]/\st'=st):=by
 refine Q0b none Tryz.func107 rfl fun E=>Q0c (Q0a ?_);unfold H1d;refine K4w ?_;refine J4x ?_;refine(H1w v c p _ wv wc).w ?_;rintro st' rfl;have wm:=Z1e v c p;generalize mulM v c p=M at*
 refine K4w ?_;refine Q0c (Q0a ?_);by_cases h1:M.2=0;rotate_left;have d1:(M.2 !=0)=true:=bne_iff_ne.2 h1;rw[if_pos h1];simp-dsimp only[go_sem,d1];have d1:(M.2 !=0)=false:=(by rw[h1];rfl);rw[if_neg (fun e=>e h1)];simp-dsimp only[go_sem,d1];refine J4x ?_;refine(H1v M.1 r p _ wm wr).w ?_;rintro st' rfl;have wx:=Q1i M.1 r p;generalize vecM M.1 r p=X at*
 refine K4w ?_;refine Q0c (Q0a ?_);by_cases h2:X.2=0;rotate_left;have d2:(X.2 !=0)=true:=bne_iff_ne.2 h2;rw[if_pos h2];simp-dsimp only[go_sem,d2];have d2:(X.2 !=0)=false:=(by rw[h2];rfl);rw[if_neg (fun e=>e h2)];simp-dsimp only[go_sem,d2];refine J4x ?_;refine(H1v v z p _ wv wz).w ?_;rintro st' rfl;have wy:=Q1i v z p;generalize vecM v z p=Y at*
 refine K4w ?_;refine Q0c (Q0a ?_);by_cases h3:Y.2=0;rotate_left;have d3:(Y.2 !=0)=true:=bne_iff_ne.2 h3;rw[if_pos h3];simp-dsimp only[go_sem,d3];have d3:(Y.2 !=0)=false:=(by rw[h3];rfl);rw[if_neg (fun e=>e h3)];simp-dsimp only[go_sem,d3];refine J4y ?_;refine(J2u X.1 Y.1 p _ wx wy).w ?_;rintro st' rfl;exact K4v
def encT (t:List (List Nm)×Mx):List PV:= [.sl .no (encQ t.1),.sl .no (encM t.2)]
attribute [go_sem] encT
theorem Q2g {a:List (List Nm)}{p:Int}(h:(W0q a p).2=0):wQs (W0q a p).1:=by have hs:=J2o h;have h4:=(rightQ_iff.1 (J2p h).1).2;refine⟨by rw[hs.1];omega,fun i hi=> ?_⟩;rw[hs.1] at hi;have:=hs.row hi;exact⟨by rw[this.1];omega,fun j hj=>Q0o (this.2 _ (Q0q _ _ _ hj))⟩
theorem W3v (c:Mx)(p:Int)(st:Q0g)(wc:wM c):PCalls Tryz.prog 181 [.ep [.sl .no (encM c)] 0,.ep [.sc (.int .i64 p)] 0] st
 (fun r st'=>r= .tup [.agg (encT (ownF c p).1),.sc (.int .i64 (ownF c p).2)]/\st'=st):=by
 refine Q0b none Tryz.func181 rfl fun E=>Q0c (Q0a ?_);unfold ownF;refine K4w ?_;refine J4x ?_;refine(y2z c p _ wc).w ?_;rintro st' rfl;have wq:=H2x c p;generalize midM c p=M at*
 refine K4w ?_;refine Q0c (Q0a ?_);by_cases h1:M.2=0;rotate_left;have d1:(M.2 !=0)=true:=bne_iff_ne.2 h1;rw[if_pos h1];simp-dsimp only[go_sem,d1];have d1:(M.2 !=0)=false:=(by rw[h1];rfl);rw[if_neg (fun e=>e h1)];simp-dsimp only[go_sem,d1];refine J4x ?_;refine(Y1j M.1 p _ wq).w ?_;rintro st' rfl;have wcq:=Q2g (a:=M.1) (p:=p);generalize W0q M.1 p=B at*
 refine K4w ?_;refine Q0c (Q0a ?_);by_cases h2:B.2=0;rotate_left;have d2:(B.2 !=0)=true:=bne_iff_ne.2 h2;rw[if_pos h2];simp-dsimp only[go_sem,d2];have d2:(B.2 !=0)=false:=(by rw[h2];rfl);rw[if_neg (fun e=>e h2)];simp-dsimp only[go_sem,d2];refine J4x ?_;refine(q2x B.1 p _ (wcq h2)).w ?_;rintro st' rfl;generalize V0l B.1 p=V at*
 refine K4w ?_;refine Q0a ?_;simp-dsimp only[go_sem]
 try rfl
theorem W3u (c:Mx)(st:Q0g)(hc:c.length<=1000):PCalls Tryz.prog 185 [.ep [.sl .no (encM c)] 0] st
 (fun r st'=>r= .tup [.agg (encT (oneL c.length,idM c.length)),.sc (.int .i64 0)]/\st'=st):=by
 refine Q0b none Tryz.func185 rfl fun E=>Q0c (Q0a ?_);refine K4w ?_;refine Q0c ?_;refine Q0k Z0c 10 (Z2k [0,1,3,4] (.step 2 [3] (Z2k [5,6,7,8] .done))) (by decide+kernel) (by simp) ?_;refine K4w ?_;refine(J2f c.length _ oG).w ?_;rintro st' rfl;refine K4w ?_;refine(q2d (c.length:Int) _).w ?_;rintro st' rfl;refine K4w ?_;refine Q0a ?_;simp-dsimp only[go_sem]
 try rfl
def tryT (c:Mx)(p:Int):Nat->(List (List Nm)×Mx)×Int
 | 0=>(([],[]),3)
 | 1=>ownF c p
 | _=>W0x c p
theorem Z3m (c:Mx)(p:Int)(st:Q0g)(wc:wM c)(rc:rightM c=true):PCalls Tryz.prog 105 [.sl .no (encM c),.sc (.int .i64 p)] st
 (fun r st'=>r= .tup [.agg (encT (W0x c p).1),.sc (.int .i64 (W0x c p).2)]/\st'=st):=by
 have hl:=Z0x rc;have ho:oneQ (c.length:Int)=oneL c.length:=(by rw[oneQ,if_pos oG];rfl);refine Q0b none Tryz.func105 rfl fun E=>Q0c (Q0a ?_);refine K4w ?_;refine Z0l 0 ?_ ?_;exact K4v;refine K4w ?_;refine Z0l 1 ?_ ?_;exact K4v;refine K4w ?_;refine J4x ?_;refine J4x ?_;refine J4x ?_;refine J4x ?_;refine J0v 3 ?_;refine K4w ?_;refine J4y ?_;refine Q0d [false,false,false,false,true,false,false,false,true,true,false,false,false,false,false,false,true,true,true] 4 0
  (fun m s=> ∃i:Nat,m=2-i/\i<=2/\
   s=⟨[.junk,.junk,.junk,.junk,.lp 2 0,.junk,.junk,.junk,.sc (.int .i64 (tryT c p i).2),.lp 3 0]++jk 6++ [.sl .full [.fn (.func 181) [] [.ep [.sl .no (encM c)] 0,.ep [.sc (.int .i64 p)] 0],.fn (.func 185) [] [.ep [.sl .no (encM c)] 0]],.sc (.int .i64 2),.sc (.int .i64 (i:Nat))]++jk 13,
    [[],[],[.sl .full [],.sl .full []],encT (tryT c p i).1],[],st⟩) 2 ?_ ?_
 refine K4w ?_;exact⟨0,oG,oG,rfl⟩;rintro m s ⟨i,rfl,hi,rfl⟩;refine K4a (fun h=> ?_) (fun h=> ?_);rotate_left;have hge:i=2:=(oF h);subst hge;refine K4w ?_;refine Q0a ?_;simp-dsimp only[go_sem]
 try rfl
 have hlt:i=0\/i=1:=oT h
 rcases hlt with rfl | rfl;have z1:((tryT c p 0).2==3)=true:=rfl;have x1:IntKind.i64.wrap (((0:Nat):Int)+1)=((1:Nat):Int):=(by decide);simp-dsimp only[go_sem,z1];refine⟨oG,?_⟩;refine(W3v c p _ wc).w ?_;rintro st' rfl;simp-dsimp only[go_sem,x1];exact⟨1,oG,1,rfl,oG,rfl⟩;have x1:IntKind.i64.wrap (((1:Nat):Int)+1)=((2:Nat):Int):=(by decide);by_cases h3:(ownF c p).2=3;have z1:((tryT c p 1).2==3)=true:=(by show((ownF c p).2==3)=true;rw[h3];rfl);have ht:W0x c p=((oneL c.length,idM c.length),0):=(by unfold W0x;rw[if_pos h3,ho]);have e2:tryT c p 2=((oneL c.length,idM c.length),0):=ht;simp-dsimp only[go_sem,z1];refine⟨oG,?_⟩;refine(W3u c _ oG).w ?_;rintro st' rfl;simp-dsimp only[go_sem,x1];exact⟨0,oG,2,rfl,oG,by rw[e2]⟩;have z1:((tryT c p 1).2==3)=false:=(by show((ownF c p).2==3)=false;simpa using h3);have e2:tryT c p 2=tryT c p 1:=(by show W0x c p=ownF c p;unfold W0x;rw[if_neg h3]);simp-dsimp only[go_sem,z1,x1];refine⟨oG,?_⟩;exact⟨0,oG,2,rfl,oG,by rw[e2]⟩
theorem J0r {f:Fm}{z:List Ivl}{s:Mx}{p:Int}(h: ¬(X0n f=true/\rightB z=true/\rightM s=true/\z.length=f.m.length/\s.length=f.m.length/\Z0b p=true)):z0u f z s p=(default,1):=by unfold z0u;rw[if_neg (fun e=>h (j1i e))]
theorem j1j {f:Fm}{z:List Ivl}{s:Mx}{p:Int}(h1:X0n f=true)(h2:rightB z=true)(h3:rightM s=true)(h4:z.length=f.m.length)(h5:s.length=f.m.length)(h6:Z0b p=true):z0u f z s p=H2n f z s p:=by unfold z0u X2q;rw[if_pos (by rw[h1,h2,h3,h4,h5,h6];simp)]
theorem K3a {n:Nat}{c:Mx}{p:Int}(rc:rightM c=true)(h:(W0x c p).2=0):wM (W0x c p).1.2:=by unfold W0x at h⊢;split;have hl:=Z0x rc;obtain⟨si,hil⟩:=K3e hl.1 hl.2;exact K1h si.right;rename_i c3;rw[if_neg c3] at h;unfold ownF at h⊢;split at h;rename_i c;exact absurd h c;rename_i c;rw[if_neg c];split at h;rename_i c;exact absurd h c;rename_i c;rw[if_neg c];exact K1h (J1v h)
set_option maxHeartbeats 16000000 in
theorem J2g (f:Fm)(z:List Ivl)(s:Mx)(p:Int)(st:Q0g)(hf:wFm f)(wz:wB z)(ws:wM s):PCalls Tryz.prog 42 [.agg (K0u f),.sl .no (Q0z z),.sl .no (encM s),.sc (.int .i64 p)] st
 (fun r st'=>r= .tup [.agg (K0u (z0u f z s p).1),.sc (.int .i64 (z0u f z s p).2)]/\st'=st):=by
 obtain⟨wm,wa,wr⟩:=hf;have wml:=wm.1;have wzl:=wz.1;have wsl:=ws.1;refine Q0b none Tryz.func42 rfl fun E=>Q0c (Q0a ?_);refine K4w ?_;refine J4x ?_;refine(H0p f _ ⟨wm,wa,wr⟩).w ?_;rintro st' rfl;cases h1:X0n f with
 | false=>
  rw[J0r (fun h=>by rw[h1] at h;cases h.1)];simp-dsimp only[go_sem]
  try rfl
 | true=>
 refine K4w ?_;refine(G0f z _ wz).w ?_;rintro st' rfl;cases h2:rightB z with
 | false=>
  rw[J0r (fun h=>by rw[h2] at h;cases h.2.1)];simp-dsimp only[go_sem]
  try rfl
 | true=>
 refine K4w ?_;refine(Z1g s _ ws).w ?_;rintro st' rfl;cases h3:rightM s with
 | false=>
  rw[J0r (fun h=>by rw[h3] at h;cases h.2.2.1)];simp-dsimp only[go_sem]
  try rfl
 | true=>
 by_cases h4:z.length=f.m.length;rotate_left;have z4:((z.length:Int) !=(f.m.length:Int))=true:=bne_iff_ne.2 oG;rw[J0r (fun h=>h4 h.2.2.2.1)];simp-dsimp only[go_sem,z4]
 try rfl
 have z4:((z.length:Int) !=(f.m.length:Int))=false:=by rw[h4];simp
 by_cases h5:s.length=f.m.length;rotate_left;have z5:((s.length:Int) !=(f.m.length:Int))=true:=bne_iff_ne.2 oG;rw[J0r (fun h=>h5 h.2.2.2.2.1)];simp-dsimp only[go_sem,z4,z5]
 try rfl
 have z5:((s.length:Int) !=(f.m.length:Int))=false:=by rw[h5];simp
 simp-dsimp only[go_sem,z4,z5];refine(K0x p _).w ?_;rintro st' rfl;cases h6:Z0b p with
 | false=>
  rw[J0r (fun h=>by rw[h6] at h;cases h.2.2.2.2.2)];simp-dsimp only[go_sem]
  try rfl
 | true=>
 rw[j1j h1 h2 h3 h4 h5 h6];unfold H2n;refine K4w ?_
 --the middle
 refine J4x ?_;refine(z1a z p _ wz).w ?_;rintro st' rfl;have wmid:=G1o z p wz;generalize midB z p=M at*
 refine K4w ?_;refine Q0c (Q0a ?_);by_cases e1:M.2=0;rotate_left;have d1:(M.2 !=0)=true:=bne_iff_ne.2 e1;rw[if_pos e1];simp-dsimp only[go_sem,d1]
 try rfl
 have d1:(M.2 !=0)=false:=by rw[e1];rfl
 rw[if_neg (fun e=>e e1)];unfold y2f;simp-dsimp only[go_sem,d1]
 --the product
 refine J4x ?_;refine(y1k f.a _ wa).plain.w ?_;rintro st' rfl;refine K4w ?_;refine(H1w s (ofM f.a) p _ ws (k2r wa)).w ?_;rintro st' rfl;have wc:=Z1e s (ofM f.a) p;have rc:=y1e (a:=s) (b:=ofM f.a) (p:=p);generalize mulM s (ofM f.a) p=C at*
 refine K4w ?_;refine Q0c (Q0a ?_);by_cases e2:C.2=0;rotate_left;have d2:(C.2 !=0)=true:=bne_iff_ne.2 e2;rw[if_pos e2];simp-dsimp only[go_sem,d2]
 try rfl
 have d2:(C.2 !=0)=false:=by rw[e2];rfl
 rw[if_neg (fun e=>e e2)];unfold y2c;have rc:=(rc e2).1;simp-dsimp only[go_sem,d2]
 --the columns
 refine J4x ?_;refine(Z3m C.1 p _ wc rc).w ?_;rintro st' rfl;have wt:=K3a (n:=0) (p:=p) rc;generalize W0x C.1 p=T at*
 obtain⟨⟨tb,tv⟩,te⟩:=T;refine K4w ?_;refine Q0c (Q0a ?_);by_cases e3:te=0;rotate_left;have d3:(te !=0)=true:=bne_iff_ne.2 e3;rw[if_pos e3];simp-dsimp only[go_sem,d3]
 try rfl
 have d3:(te !=0)=false:=by rw[e3];rfl
 rw[if_neg (fun e=>e e3)];have wt:=wt e3;unfold H2o;simp-dsimp only[go_sem,d3]
 --what is left
 refine J4x ?_;refine(X1a M.1 _ wmid).plain.w ?_;rintro st' rfl;refine K4w ?_;refine(J2t z (ofB M.1) p _ wz (q0z wmid)).w ?_;rintro st' rfl;have wd:=fun h=>q0i (G0a (k:=1) (a:=z) (b:=ofB M.1) (p:=p) h);generalize opB 1 z (ofB M.1) p=D at*
 refine K4w ?_;refine Q0c (Q0a ?_);by_cases e4:D.2=0;rotate_left;have d4:(D.2 !=0)=true:=bne_iff_ne.2 e4;rw[if_pos e4];simp-dsimp only[go_sem,d4]
 try rfl
 have d4:(D.2 !=0)=false:=by rw[e4];rfl
 rw[if_neg (fun e=>e e4)];have wd:=wd e4;unfold H2m;simp-dsimp only[go_sem,d4];refine J4x ?_;refine(Z3n tv C.1 f.r D.1 p _ wt wc wr wd).w ?_;rintro st' rfl;generalize H1d tv C.1 f.r D.1 p=R at*
 refine K4w ?_;refine Q0c (Q0a ?_);by_cases e5:R.2=0;rotate_left;have d5:(R.2 !=0)=true:=bne_iff_ne.2 e5;rw[if_pos e5];simp-dsimp only[go_sem,d5]
 try rfl
 have d5:(R.2 !=0)=false:=by rw[e5];rfl
 rw[if_neg (fun e=>e e5)];simp-dsimp only[go_sem,d5];refine Q0a ?_;simp-dsimp only[go_sem]
 try rfl
end Go.Pv
end
