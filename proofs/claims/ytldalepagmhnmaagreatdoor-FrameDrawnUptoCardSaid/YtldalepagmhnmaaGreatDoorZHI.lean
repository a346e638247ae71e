/- Parts of the walk: N184, N185, N186. -/
import Derived.Test.YtldalepagmhnmaaGreatDoorZHG
import Derived.Test.YtldalepagmhnmaaGreatDoorZHD
set_option linter.unusedVariables false
set_option linter.unusedSimpArgs false
section
set_option maxRecDepth 100000
namespace Go.Pv
open Go.Proofs
theorem H3m {x y:List Nm}(h:ofB x=ofB y):x=y:=by
 have hl:x.length=y.length:=by have:=congrArg List.length h;simpa[ofB] using this
 refine List.ext_getElem hl fun i h1 h2=> ?_;have:=congrArg (fun l:List Ivl=>(l.getD i default).lo) h;simp only[Q2d h1,Q2d h2] at this;rwa [q_a,List.getElem?_eq_getElem h1,q_a,List.getElem?_eq_getElem h2] at this
theorem j2e (x y:List Nm)(st:Q0f)(hx:wNs' x)(hy:wNs' y):PR 96 [.sl .no (Q0u x),.sl .no (Q0u y)] st (.sc (.bool (decide (x=y)))):=by refine W4y Tryz.func96 fun E=> ?_;refine(X1q x _ hx).plain.w ?_;rintro st' rfl;refine Y4w ?_;refine(X1q y _ hy).plain.w ?_;rintro st' rfl;refine Y4w ?_;refine(w1l (ofB x) (ofB y) _ (z0p hx) (z0p hy)).w ?_;rintro st' rfl;refine Y4w ?_;have:(ofB x=ofB y)<->x=y:=⟨H3m,fun h=>by rw[h]⟩;simp only[this]
set_option maxHeartbeats 4000000 in
theorem J3t (a b:Fm)(st:Q0f)(ha:wFm a)(hb:wFm b):PR 33 [.agg (Y0p a),.agg (Y0p b)] st (.sc (.bool (decide (a=b)))):=by
 obtain⟨am,⟨aal,aa⟩,ar⟩:=ha;obtain⟨bm,⟨bal,ba⟩,br⟩:=hb;have aml:=am.1;have bml:=bm.1;refine Q0b none Tryz.func33 rfl fun E=>Q0a ?_;by_cases h1:a.m.length=b.m.length;rotate_left;have z1:((a.m.length:Int) !=(b.m.length:Int))=true:=bne_iff_ne.2 oG;simp-dsimp only[go_sem,z1];rw[q_g (fun e=>h1 (by rw[e]))];have z1:((a.m.length:Int) !=(b.m.length:Int))=false:=(by rw[h1];simp);by_cases h2:a.a.length=b.a.length;rotate_left;have z2:((a.a.length:Int) !=(b.a.length:Int))=true:=bne_iff_ne.2 oG;simp-dsimp only[go_sem,z1,z2];rw[q_g (fun e=>h2 (by rw[e]))];have z2:((a.a.length:Int) !=(b.a.length:Int))=false:=(by rw[h2];simp);simp-dsimp only[go_sem,z1,z2];refine(w1l a.r b.r _ ar br).w ?_;rintro st' rfl;by_cases h3:a.r=b.r;rotate_left;have z3:decide (a.r=b.r)=false:=q_g h3;simp-dsimp only[go_sem,z3];rw[q_g (fun e=>h3 (by rw[e]))];have z3:decide (a.r=b.r)=true:=q_h h3;simp-dsimp only[go_sem,z3];refine Q0e ([false,false,true,true,false,true]++List.replicate 27 false++ [true,true]) 2 0
  (fun c s=> ∃i:Nat,c=a.a.length-i/\i<=a.a.length/\(∀j,j<i->a.a.getD j []=b.a.getD j [])/\
   s=⟨[.junk,.junk,.lp 0 0,.lp 1 0,.junk,.fn (.func 96) [] []]++jk 27++ [.sc (.int .i64 a.a.length),.sc (.int .i64 (i:Nat))]++jk 22,[Y0p a,Y0p b],[],st'⟩) a.a.length ?_ ?_
 refine Y4w ?_;exact⟨0,oG,oG,fun j hj=>absurd hj (Nat.not_lt_zero j),rfl⟩;rintro c s ⟨i,rfl,hi,heq,rfl⟩;refine W4z (fun h=> ?_) (fun h=> ?_);have hlt:i<a.a.length:=(oT h);have g1:=J0d a.a i hlt;have g2:=J0d b.a i oG;have e3:=Z0x i oG;refine Y4w ?_;refine Q0k Z0b 57 (X2p [0,1,2,3,4,5,6,7,8,9,10,11,12] .done) (by decide+kernel) (by simp) ?_;simp-dsimp only[go_sem,g1,g2];refine⟨oG,oG,?_⟩;refine(j2e (a.a.getD i []) (b.a.getD i []) _ (aa i hlt) (ba i oG)).w ?_;rintro st' rfl;by_cases h4:a.a.getD i []=b.a.getD i [];have z4:decide (a.a.getD i []=b.a.getD i [])=true:=q_h h4;simp-dsimp only[go_sem,z4,e3];refine⟨a.a.length-(i+1),oG,i+1,rfl,oG,fun j hj=> ?_,rfl⟩;by_cases e:j=i;rw[e];exact h4;exact heq j oG;have z4:decide (a.a.getD i []=b.a.getD i [])=false:=q_g h4;simp-dsimp only[go_sem,z4];rw[q_g (fun e=>h4 (by rw[e]))];have hge:i=a.a.length:=(oF h);subst hge;have hA:a.a=b.a:=List.ext_getElem h2 fun k h4 h5=>by have:=heq k h4;rwa [q_a,List.getElem?_eq_getElem h4,q_a,List.getElem?_eq_getElem h5] at this
 refine Y4w ?_;refine W4u ?_;refine(j2e a.m b.m _ am bm).w ?_;rintro st' rfl;refine Y4w ?_;have:(a=b)<->a.m=b.m:=(by rw[fm_eq];exact⟨fun h=>h.1,fun h=>⟨h,hA,h3⟩⟩);simp only[this]
theorem K2m (k:Nat)(st:Q0f)(hk:k<=100000):PR 121 [.sc (.int .i64 k)] st (.sl .no (encQ (oneL k))):=by
 refine W4y Tryz.func121 fun E=> ?_;refine Z0d 3 1 ?_;refine Y4w ?_;refine Z0e [true,false,false,true,false,false,true,true] 0 1
  (fun m s=> ∃i,m=k-i/\i<=k/\s=⟨[.sc (.int .i64 k),.junk,.junk,.sl (.own 0) (encQ ((oneL k).take i)),.junk,.junk,.sc (.int .i64 k),.sc (.int .i64 (i:Nat))]++jk 14,[],[(((oneL k).take i).length,1)],st⟩) k ?_ ?_
 refine Y4w ?_;exact⟨0,oG,oG,rfl⟩;rintro m s ⟨i,rfl,hi,rfl⟩;refine W4t ?_;refine W4t ?_;refine ck (fun h'=> ?_) (fun h'=> ?_);have hlt:i<k:=(by have:=q_b h';omega);have e3:=Z0x i oG;have ll:((oneL k).take i).length=i:=(by rw[List.length_take,X0y];omega);have e5:(oneL k).take (i+1)=(oneL k).take i++ [rowQ k i]:=G0t _ _ _ hlt;have e6:flat (Q0u (rowQ k i))=over (flat (Q0u (List.replicate k default))) (i*3) (encN oneN):=(W1s _ i oneN (by simpa using hlt)).symm;refine Y4w ?_;refine Q0d (X0b ?_);refine W4t ?_;refine W4t ?_;refine⟨⟨oG,oG⟩,?_⟩;refine Q0d (Q0a ?_);simp-dsimp only[go_sem,G0w];refine(z0b _).w ?_;rintro st' rfl;simp-dsimp only[go_sem,G0w];refine⟨⟨oG,hlt⟩,⟨oG,oG⟩,?_⟩;have r0:repC k [.sc (.bool false),.sc (.int .i64 0),.sl .no []]=flat (Q0u (List.replicate k default)):=X2x k;have r1:over (flat (Q0u (List.replicate k default))) (i*3) [.sc (.bool oneN.neg),.sc (.int .i64 oneN.exp),.sl .no (encW oneN.w)]=flat (Q0u (rowQ k i)):=e6.symm;have r2:=z1n (rowQ k i) k (Y0z k i).symm;have r3:=Y0z k i;have hone:encW oneN.w= [.sc (.int .u64 1)]:=rfl;refine v0u 0 3 ?_ ?_;refine Y4w ?_;exact q1z (q1y rfl) rfl;simp-dsimp only[go_sem,J1u,y0n,r0,r1,r2,r3];refine W4u ?_;refine⟨⟨oG,oG⟩,Q0a ?_⟩;simp-dsimp only[go_sem,e3];refine⟨k-(i+1),oG,i+1,rfl,oG,?_⟩;rw[e5];simp;have hge:i=k:=(by have:=q_c h';omega);have ht:(oneL k).take i=oneL k:=List.take_of_length_le (by rw[X0y];omega);rw[ht];refine Y4w ?_;refine K0w [false,false,false,true] (Q0a ?_);exact Y4v
theorem Y3h (b:List Ivl)(p:Int)(st:Q0f)(hb:wB b):PCalls Tryz.prog 52 [.sl .no (Q0z b),.sc (.int .i64 p)] st
 (fun r st'=>r= .tup [.agg (Y0p (v0k b p).1),.sc (.int .i64 (v0k b p).2)]/\st'=st):=by
 refine Q0b none Tryz.func52 rfl fun E=>Q0d (Q0a ?_);have wm:=H1i b p hb;have wo:=z0p wm;refine Y4w ?_;refine W4t ?_;refine(z1w b p st hb).Q ?_;refine Q0d (Q0a ?_);unfold v0k;by_cases h1:(midB b p).2=0;rotate_left;have d1:((midB b p).2 !=0)=true:=bne_iff_ne.2 h1;rw[if_pos h1];simp-dsimp only[go_sem,d1];rfl;have d1:((midB b p).2 !=0)=false:=(by rw[h1];rfl);have c1: ¬((midB b p).2≠0):=fun h=>h h1;rw[if_neg c1];simp-dsimp only[go_sem,d1];refine W4t ?_;refine(X1q (midB b p).1 st wm).plain.Q ?_;refine(V2a b (ofB (midB b p).1) p st hb wo).Q ?_;refine Q0d (Q0a ?_);by_cases h2:(opB 1 b (ofB (midB b p).1) p).2=0;rotate_left;have d2:((opB 1 b (ofB (midB b p).1) p).2 !=0)=true:=bne_iff_ne.2 h2;rw[if_pos h2];simp-dsimp only[go_sem,d2];rfl;have d2:((opB 1 b (ofB (midB b p).1) p).2 !=0)=false:=(by rw[h2];rfl);have c2: ¬((opB 1 b (ofB (midB b p).1) p).2≠0):=fun h=>h h2;rw[if_neg c2];have hl:=K1a h1;simp-dsimp only[go_sem,d2];refine W4u ?_;refine(K2m b.length st oG).Q ?_;rfl
theorem w2p {q:List (List Nm)}(h:wQs q):wM (ofM q):=by obtain⟨h1,h2⟩:=h;refine⟨by simpa[ofM] using h1,fun i hi=> ?_⟩;have hi':i<q.length:=(by simpa[ofM] using hi);rw[J1v hi'];exact z0p (h2 i hi')
theorem K2e {f:Fm}{p:Int}(h:X0m f=true/\Z0c p=true):J1h f p=if (vecM (ofM f.a) f.r p).2≠0 then([],(vecM (ofM f.a) f.r p).2) else opB 0 (ofB f.m) (vecM (ofM f.a) f.r p).1 p:=by unfold J1h;rw[if_pos h]
theorem Q1d {f:Fm}{p:Int}(h: ¬(X0m f=true/\Z0c p=true)):J1h f p=([],1):=by unfold J1h;rw[if_neg h]
theorem K2o (f:Fm)(p:Int)(st:Q0f)(hf:wFm f):PCalls Tryz.prog 55 [.agg (Y0p f),.sc (.int .i64 p)] st
 (fun r st'=>r= .tup [.sl .no (Q0z (J1h f p).1),.sc (.int .i64 (J1h f p).2)]/\st'=st):=by
 obtain⟨wm,wa,wr⟩:=hf;refine Q0b none Tryz.func55 rfl fun E=>Q0d (Q0a ?_);refine Y4w ?_;refine W4t ?_;refine(Y0h f _ ⟨wm,wa,wr⟩).w ?_;rintro st' rfl;cases hr:X0m f with
 | false=>
  rw[Q1d (fun h=>by rw[hr] at h;cases h.1)];exact Y4v
 | true=>
 refine Y4w ?_;refine(V0b p _).w ?_;rintro st' rfl;cases hp:Z0c p with
 | false=>
  rw[Q1d (fun h=>by rw[hp] at h;cases h.2)];exact Y4v
 | true=>
 rw[K2e ⟨hr,hp⟩];refine Y4w ?_;refine Q0d ?_;refine Q0k Z0b 37 (X2p [0,1,3,4,5] (.step 2 [4] (X2p [6,7,8,9,10,11] .done))) (by decide+kernel) (by simp) ?_;refine Y4w ?_;refine(q1s f.a _ wa).plain.w ?_;rintro st' rfl;refine Y4w ?_;refine(q1r (ofM f.a) f.r p _ (w2p wa) wr).w ?_;rintro st' rfl;have wv:=Q1z (ofM f.a) f.r p;generalize vecM (ofM f.a) f.r p=V at*
 refine Y4w ?_;refine Q0d (Q0a ?_);by_cases h1:V.2=0;rotate_left;have d1:(V.2 !=0)=true:=bne_iff_ne.2 h1;rw[if_pos h1];simp-dsimp only[go_sem,d1];have d1:(V.2 !=0)=false:=(by rw[h1];rfl);rw[if_neg (fun e=>e h1)];simp-dsimp only[go_sem,d1];refine W4u ?_;refine(X1q f.m _ wm).plain.w ?_;rintro st' rfl;refine Y4w ?_;refine(V2b (ofB f.m) V.1 p _ (z0p wm) wv).w ?_;rintro st' rfl;exact Y4v
theorem J3u (v c:Mx)(r z:List Ivl)(p:Int)(st:Q0f)(wv:wM v)(wc:wM c)(wr:wB r)(wz:wB z):PCalls Tryz.prog 107 [.sl .no (encM v),.sl .no (encM c),.sl .no (Q0z r),.sl .no (Q0z z),.sc (.int .i64 p)] st
 (fun x st'=>x= .tup [.sl .no (Q0z (H1x v c r z p).1),.sc (.int .i64 (H1x v c r z p).2)]/\st'=st):=by
 refine Q0b none Tryz.func107 rfl fun E=>Q0d (Q0a ?_);unfold H1x;refine Y4w ?_;refine W4t ?_;refine(q1t v c p _ wv wc).w ?_;rintro st' rfl;have wm:=Z1v v c p;generalize mulM v c p=M at*
 refine Y4w ?_;refine Q0d (Q0a ?_);by_cases h1:M.2=0;rotate_left;have d1:(M.2 !=0)=true:=bne_iff_ne.2 h1;rw[if_pos h1];simp-dsimp only[go_sem,d1];have d1:(M.2 !=0)=false:=(by rw[h1];rfl);rw[if_neg (fun e=>e h1)];simp-dsimp only[go_sem,d1];refine W4t ?_;refine(q1r M.1 r p _ wm wr).w ?_;rintro st' rfl;have wx:=Q1z M.1 r p;generalize vecM M.1 r p=X at*
 refine Y4w ?_;refine Q0d (Q0a ?_);by_cases h2:X.2=0;rotate_left;have d2:(X.2 !=0)=true:=bne_iff_ne.2 h2;rw[if_pos h2];simp-dsimp only[go_sem,d2];have d2:(X.2 !=0)=false:=(by rw[h2];rfl);rw[if_neg (fun e=>e h2)];simp-dsimp only[go_sem,d2];refine W4t ?_;refine(q1r v z p _ wv wz).w ?_;rintro st' rfl;have wy:=Q1z v z p;generalize vecM v z p=Y at*
 refine Y4w ?_;refine Q0d (Q0a ?_);by_cases h3:Y.2=0;rotate_left;have d3:(Y.2 !=0)=true:=bne_iff_ne.2 h3;rw[if_pos h3];simp-dsimp only[go_sem,d3];have d3:(Y.2 !=0)=false:=(by rw[h3];rfl);rw[if_neg (fun e=>e h3)];simp-dsimp only[go_sem,d3];refine W4u ?_;refine(V2b X.1 Y.1 p _ wx wy).w ?_;rintro st' rfl;exact Y4v
def encT (t:List (List Nm)×Mx):List PV:= [.sl .no (encQ t.1),.sl .no (encM t.2)]
attribute [go_sem] encT
theorem Z2j {a:List (List Nm)}{p:Int}(h:(W0x a p).2=0):wQs (W0x a p).1:=by have hs:=K2v h;have h4:=(rightQ_iff.1 (K2w h).1).2;refine⟨by rw[hs.1];omega,fun i hi=> ?_⟩;rw[hs.1] at hi;have:=hs.row hi;exact⟨by rw[this.1];omega,fun j hj=>Q0o (this.2 _ (Q0r _ _ _ hj))⟩
theorem U3z (c:Mx)(p:Int)(st:Q0f)(wc:wM c):PCalls Tryz.prog 181 [.ep [.sl .no (encM c)] 0,.ep [.sc (.int .i64 p)] 0] st
 (fun r st'=>r= .tup [.agg (encT (ownF c p).1),.sc (.int .i64 (ownF c p).2)]/\st'=st):=by
 refine Q0b none Tryz.func181 rfl fun E=>Q0d (Q0a ?_);unfold ownF;refine Y4w ?_;refine W4t ?_;refine(X3g c p _ wc).w ?_;rintro st' rfl;have wq:=z2t c p;generalize midM c p=M at*
 refine Y4w ?_;refine Q0d (Q0a ?_);by_cases h1:M.2=0;rotate_left;have d1:(M.2 !=0)=true:=bne_iff_ne.2 h1;rw[if_pos h1];simp-dsimp only[go_sem,d1];have d1:(M.2 !=0)=false:=(by rw[h1];rfl);rw[if_neg (fun e=>e h1)];simp-dsimp only[go_sem,d1];refine W4t ?_;refine(Y1y M.1 p _ wq).w ?_;rintro st' rfl;have wcq:=Z2j (a:=M.1) (p:=p);generalize W0x M.1 p=B at*
 refine Y4w ?_;refine Q0d (Q0a ?_);by_cases h2:B.2=0;rotate_left;have d2:(B.2 !=0)=true:=bne_iff_ne.2 h2;rw[if_pos h2];simp-dsimp only[go_sem,d2];have d2:(B.2 !=0)=false:=(by rw[h2];rfl);rw[if_neg (fun e=>e h2)];simp-dsimp only[go_sem,d2];refine W4t ?_;refine(x2s B.1 p _ (wcq h2)).w ?_;rintro st' rfl;generalize V0o B.1 p=V at*
 refine Y4w ?_;refine Q0a ?_;simp-dsimp only[go_sem]
 try rfl
theorem U3y (c:Mx)(st:Q0f)(hc:c.length<=1000):PCalls Tryz.prog 185 [.ep [.sl .no (encM c)] 0] st
 (fun r st'=>r= .tup [.agg (encT (oneL c.length,idM c.length)),.sc (.int .i64 0)]/\st'=st):=by
 refine Q0b none Tryz.func185 rfl fun E=>Q0d (Q0a ?_);refine Y4w ?_;refine Q0d ?_;refine Q0k Z0b 10 (X2p [0,1,3,4] (.step 2 [3] (X2p [5,6,7,8] .done))) (by decide+kernel) (by simp) ?_;refine Y4w ?_;refine(K2m c.length _ oG).w ?_;rintro st' rfl;refine Y4w ?_;refine(z2y (c.length:Int) _).w ?_;rintro st' rfl;refine Y4w ?_;refine Q0a ?_;simp-dsimp only[go_sem]
 try rfl
def tryT (c:Mx)(p:Int):Nat->(List (List Nm)×Mx)×Int
 | 0=>(([],[]),3)
 | 1=>ownF c p
 | _=>Y0j c p
theorem J3s (c:Mx)(p:Int)(st:Q0f)(wc:wM c)(rc:rightM c=true):PCalls Tryz.prog 105 [.sl .no (encM c),.sc (.int .i64 p)] st
 (fun r st'=>r= .tup [.agg (encT (Y0j c p).1),.sc (.int .i64 (Y0j c p).2)]/\st'=st):=by
 have hl:=Z0u rc;have ho:oneQ (c.length:Int)=oneL c.length:=(by rw[oneQ,if_pos oG];rfl);refine Q0b none Tryz.func105 rfl fun E=>Q0d (Q0a ?_);refine Y4w ?_;refine Z0j 0 ?_ ?_;exact Y4v;refine Y4w ?_;refine Z0j 1 ?_ ?_;exact Y4v;refine Y4w ?_;refine W4t ?_;refine W4t ?_;refine W4t ?_;refine W4t ?_;refine J0q 3 ?_;refine Y4w ?_;refine W4u ?_;refine Q0e [false,false,false,false,true,false,false,false,true,true,false,false,false,false,false,false,true,true,true] 4 0
  (fun m s=> ∃i:Nat,m=2-i/\i<=2/\
   s=⟨[.junk,.junk,.junk,.junk,.lp 2 0,.junk,.junk,.junk,.sc (.int .i64 (tryT c p i).2),.lp 3 0]++jk 6++ [.sl .full [.fn (.func 181) [] [.ep [.sl .no (encM c)] 0,.ep [.sc (.int .i64 p)] 0],.fn (.func 185) [] [.ep [.sl .no (encM c)] 0]],.sc (.int .i64 2),.sc (.int .i64 (i:Nat))]++jk 13,
    [[],[],[.sl .full [],.sl .full []],encT (tryT c p i).1],[],st⟩) 2 ?_ ?_
 refine Y4w ?_;exact⟨0,oG,oG,rfl⟩;rintro m s ⟨i,rfl,hi,rfl⟩;refine W4z (fun h=> ?_) (fun h=> ?_);rotate_left;have hge:i=2:=(oF h);subst hge;refine Y4w ?_;refine Q0a ?_;simp-dsimp only[go_sem]
 try rfl
 have hlt:i=0\/i=1:=oT h
 rcases hlt with rfl | rfl;have z1:((tryT c p 0).2==3)=true:=rfl;have x1:IntKind.i64.wrap (((0:Nat):Int)+1)=((1:Nat):Int):=(by decide);simp-dsimp only[go_sem,z1];refine⟨oG,?_⟩;refine(U3z c p _ wc).w ?_;rintro st' rfl;simp-dsimp only[go_sem,x1];exact⟨1,oG,1,rfl,oG,rfl⟩;have x1:IntKind.i64.wrap (((1:Nat):Int)+1)=((2:Nat):Int):=(by decide);by_cases h3:(ownF c p).2=3;have z1:((tryT c p 1).2==3)=true:=(by show((ownF c p).2==3)=true;rw[h3];rfl);have ht:Y0j c p=((oneL c.length,idM c.length),0):=(by unfold Y0j;rw[if_pos h3,ho]);have e2:tryT c p 2=((oneL c.length,idM c.length),0):=ht;simp-dsimp only[go_sem,z1];refine⟨oG,?_⟩;refine(U3y c _ oG).w ?_;rintro st' rfl;simp-dsimp only[go_sem,x1];exact⟨0,oG,2,rfl,oG,by rw[e2]⟩;have z1:((tryT c p 1).2==3)=false:=(by show((ownF c p).2==3)=false;simpa using h3);have e2:tryT c p 2=tryT c p 1:=(by show Y0j c p=ownF c p;unfold Y0j;rw[if_neg h3]);simp-dsimp only[go_sem,z1,x1];refine⟨oG,?_⟩;exact⟨0,oG,2,rfl,oG,by rw[e2]⟩
theorem J0x {f:Fm}{z:List Ivl}{s:Mx}{p:Int}(h: ¬(X0m f=true/\rightB z=true/\rightM s=true/\z.length=f.m.length/\s.length=f.m.length/\Z0c p=true)):x0l f z s p=(default,1):=by unfold x0l;rw[if_neg (fun e=>h (k1g e))]
theorem k1h {f:Fm}{z:List Ivl}{s:Mx}{p:Int}(h1:X0m f=true)(h2:rightB z=true)(h3:rightM s=true)(h4:z.length=f.m.length)(h5:s.length=f.m.length)(h6:Z0c p=true):x0l f z s p=z2j f z s p:=by unfold x0l J2w;rw[if_pos (by rw[h1,h2,h3,h4,h5,h6];simp)]
theorem W3h {n:Nat}{c:Mx}{p:Int}(rc:rightM c=true)(h:(Y0j c p).2=0):wM (Y0j c p).1.2:=by unfold Y0j at h⊢;split;have hl:=Z0u rc;obtain⟨si,hil⟩:=W3l hl.1 hl.2;exact y0k si.right;rename_i c3;rw[if_neg c3] at h;unfold ownF at h⊢;split at h;rename_i c;exact absurd h c;rename_i c;rw[if_neg c];split at h;rename_i c;exact absurd h c;rename_i c;rw[if_neg c];exact y0k (K1l h)
set_option maxHeartbeats 16000000 in
theorem K2n (f:Fm)(z:List Ivl)(s:Mx)(p:Int)(st:Q0f)(hf:wFm f)(wz:wB z)(ws:wM s):PCalls Tryz.prog 42 [.agg (Y0p f),.sl .no (Q0z z),.sl .no (encM s),.sc (.int .i64 p)] st
 (fun r st'=>r= .tup [.agg (Y0p (x0l f z s p).1),.sc (.int .i64 (x0l f z s p).2)]/\st'=st):=by
 obtain⟨wm,wa,wr⟩:=hf;have wml:=wm.1;have wzl:=wz.1;have wsl:=ws.1;refine Q0b none Tryz.func42 rfl fun E=>Q0d (Q0a ?_);refine Y4w ?_;refine W4t ?_;refine(Y0h f _ ⟨wm,wa,wr⟩).w ?_;rintro st' rfl;cases h1:X0m f with
 | false=>
  rw[J0x (fun h=>by rw[h1] at h;cases h.1)];simp-dsimp only[go_sem]
  try rfl
 | true=>
 refine Y4w ?_;refine(G0s z _ wz).w ?_;rintro st' rfl;cases h2:rightB z with
 | false=>
  rw[J0x (fun h=>by rw[h2] at h;cases h.2.1)];simp-dsimp only[go_sem]
  try rfl
 | true=>
 refine Y4w ?_;refine(Z1x s _ ws).w ?_;rintro st' rfl;cases h3:rightM s with
 | false=>
  rw[J0x (fun h=>by rw[h3] at h;cases h.2.2.1)];simp-dsimp only[go_sem]
  try rfl
 | true=>
 by_cases h4:z.length=f.m.length;rotate_left;have z4:((z.length:Int) !=(f.m.length:Int))=true:=bne_iff_ne.2 oG;rw[J0x (fun h=>h4 h.2.2.2.1)];simp-dsimp only[go_sem,z4]
 try rfl
 have z4:((z.length:Int) !=(f.m.length:Int))=false:=by rw[h4];simp
 by_cases h5:s.length=f.m.length;rotate_left;have z5:((s.length:Int) !=(f.m.length:Int))=true:=bne_iff_ne.2 oG;rw[J0x (fun h=>h5 h.2.2.2.2.1)];simp-dsimp only[go_sem,z4,z5]
 try rfl
 have z5:((s.length:Int) !=(f.m.length:Int))=false:=by rw[h5];simp
 simp-dsimp only[go_sem,z4,z5];refine(V0b p _).w ?_;rintro st' rfl;cases h6:Z0c p with
 | false=>
  rw[J0x (fun h=>by rw[h6] at h;cases h.2.2.2.2.2)];simp-dsimp only[go_sem]
  try rfl
 | true=>
 rw[k1h h1 h2 h3 h4 h5 h6];unfold z2j;refine Y4w ?_
 --the middle
 refine W4t ?_;refine(z1w z p _ wz).w ?_;rintro st' rfl;have wmid:=H1i z p wz;generalize midB z p=M at*
 refine Y4w ?_;refine Q0d (Q0a ?_);by_cases e1:M.2=0;rotate_left;have d1:(M.2 !=0)=true:=bne_iff_ne.2 e1;rw[if_pos e1];simp-dsimp only[go_sem,d1]
 try rfl
 have d1:(M.2 !=0)=false:=by rw[e1];rfl
 rw[if_neg (fun e=>e e1)];unfold Z3m;simp-dsimp only[go_sem,d1]
 --the product
 refine W4t ?_;refine(q1s f.a _ wa).plain.w ?_;rintro st' rfl;refine Y4w ?_;refine(q1t s (ofM f.a) p _ ws (w2p wa)).w ?_;rintro st' rfl;have wc:=Z1v s (ofM f.a) p;have rc:=Q2h (a:=s) (b:=ofM f.a) (p:=p);generalize mulM s (ofM f.a) p=C at*
 refine Y4w ?_;refine Q0d (Q0a ?_);by_cases e2:C.2=0;rotate_left;have d2:(C.2 !=0)=true:=bne_iff_ne.2 e2;rw[if_pos e2];simp-dsimp only[go_sem,d2]
 try rfl
 have d2:(C.2 !=0)=false:=by rw[e2];rfl
 rw[if_neg (fun e=>e e2)];unfold Z3j;have rc:=(rc e2).1;simp-dsimp only[go_sem,d2]
 --the columns
 refine W4t ?_;refine(J3s C.1 p _ wc rc).w ?_;rintro st' rfl;have wt:=W3h (n:=0) (p:=p) rc;generalize Y0j C.1 p=T at*
 obtain⟨⟨tb,tv⟩,te⟩:=T;refine Y4w ?_;refine Q0d (Q0a ?_);by_cases e3:te=0;rotate_left;have d3:(te !=0)=true:=bne_iff_ne.2 e3;rw[if_pos e3];simp-dsimp only[go_sem,d3]
 try rfl
 have d3:(te !=0)=false:=by rw[e3];rfl
 rw[if_neg (fun e=>e e3)];have wt:=wt e3;unfold z2k;simp-dsimp only[go_sem,d3]
 --what is left
 refine W4t ?_;refine(X1q M.1 _ wmid).plain.w ?_;rintro st' rfl;refine Y4w ?_;refine(V2a z (ofB M.1) p _ wz (z0p wmid)).w ?_;rintro st' rfl;have wd:=fun h=>G0v (G0n (k:=1) (a:=z) (b:=ofB M.1) (p:=p) h);generalize opB 1 z (ofB M.1) p=D at*
 refine Y4w ?_;refine Q0d (Q0a ?_);by_cases e4:D.2=0;rotate_left;have d4:(D.2 !=0)=true:=bne_iff_ne.2 e4;rw[if_pos e4];simp-dsimp only[go_sem,d4]
 try rfl
 have d4:(D.2 !=0)=false:=by rw[e4];rfl
 rw[if_neg (fun e=>e e4)];have wd:=wd e4;unfold z2i;simp-dsimp only[go_sem,d4];refine W4t ?_;refine(J3u tv C.1 f.r D.1 p _ wt wc wr wd).w ?_;rintro st' rfl;generalize H1x tv C.1 f.r D.1 p=R at*
 refine Y4w ?_;refine Q0d (Q0a ?_);by_cases e5:R.2=0;rotate_left;have d5:(R.2 !=0)=true:=bne_iff_ne.2 e5;rw[if_pos e5];simp-dsimp only[go_sem,d5]
 try rfl
 have d5:(R.2 !=0)=false:=by rw[e5];rfl
 rw[if_neg (fun e=>e e5)];simp-dsimp only[go_sem,d5];refine Q0a ?_;simp-dsimp only[go_sem]
 try rfl
end Go.Pv
end
