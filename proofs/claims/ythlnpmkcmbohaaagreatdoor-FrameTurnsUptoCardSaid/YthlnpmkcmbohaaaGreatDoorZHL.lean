/- Parts of the walk: M113, N192, N193, N197. -/
import Derived.Test.YthlnpmkcmbohaaaGreatDoorZFM
import Derived.Test.YthlnpmkcmbohaaaGreatDoorZHI
set_option linter.unusedVariables false
set_option linter.unusedSimpArgs false
section
set_option maxRecDepth 20000
namespace Go.Pv
structure SmF (n:Nat) (f:Fm):Prop where
 rf:Zb f=true
 lm:f.m.length=n
 m: ∀i,i<n->smN (f.m.getD i default)
 a: ∀i,i<n->vp n (f.a.getD i [])
 r: ∀i,i<n->smI (f.r.getD i default)
theorem SmF.lr {n:Nat}{f:Fm}(h:SmF n f):f.r.length=n:=by rw[(Q8 h.rf).2.2.2.2.1,h.lm]
theorem SmF.ba {n:Nat}{f:Fm}(h:SmF n f){i j:Nat}(hi:i<n)(hj:j<n):luQ 12 18 (qN (QM f.a i j)):=Gf ((h.a i hi).2 j hj).2
theorem W0r {n:Nat}(h1:1<=n)(h4:n<=4):W0s n=Xb n:=by
 have e:U0i (n:Int)=W0s n:=by rw[U0i,BC oG];rfl
 rw[<-e,vl h1 h4]
structure BoxFm (b:List Ivl) (g:Fm) (p:Int):Prop where
 rf:Zb g=true
 lm:g.m.length=b.length
 em:g.m=(Xc b p).1
 ea:g.a=Xb b.length
 bm: ∀i,i<b.length->luQ 13 20 (qN (g.m.getD i default))
 br: ∀i,i<b.length->luI 13 24 (g.r.getD i default)
 mid: ∀i,i<b.length->XD (qN (g.m.getD i default)) (b.getD i default)
 mem: ∀i X,i<b.length->XD X (b.getD i default)->XD (X-qN (g.m.getD i default)) (g.r.getD i default)
theorem vT {b:List Ivl}{p:Int}(hb:smB b)(hp:Q4 p=true):(KN b p).2=0/\BoxFm b (KN b p).1 p:=by
 have hbl: ∀i,i<b.length->luI 12 18 (b.getD i default):=fun i hi=>k9 (hb.2.2 i hi);have hf:=(x0z hb.1 hb.2.1 hbl hp oG).2.1;obtain⟨m1,m2,m3,m4⟩:=jv hb.right rfl hp hbl oG;have m4': ∀i,i<b.length->luQ 13 20 (qN ((Xc b p).1.getD i default)):=fun i hi=>(m4 i hi).2.1;obtain⟨o1,o2,o3⟩:=IU m2 m3 m4' hb.1 hb.2.1;obtain⟨d1,d2,d3,d4⟩:=jn (k:=1) (L:=13) (U:=20) (p:=p) oG hb.right o2 rfl o1 (fun i hi=>(hbl i hi).mono oG oG) o3 hp oG oG;have he:KN b p=(⟨(Xc b p).1,W0s b.length,(opB 1 b (ofB (Xc b p).1) p).1⟩,0):=by unfold KN;rw[BA (fun e=>e m1),BA (fun e=>e d1)]
 rw[he] at hf⊢;refine⟨rfl,hf,m2,rfl,W0r hb.1 hb.2.1,m4',fun i hi=>(d4 i hi).2.2.mono oG oG,fun i hi=>(m4 i hi).2.2,fun i X hi hX=> ?_⟩;obtain⟨e1,e2, -⟩:=d4 i hi;have:=jm (n:=b.length) e1 e2 hX (Y:=qN ((Xc b p).1.getD i default)) (by rw[Wx oG];exact zW _);rwa [Q0z] at this
theorem J0i {n i j:Nat}(hi:i<n)(hj:j<n):qN (QM (Xb n) i j)=QZ i j:=by rw[J0j hi hj];unfold QZ;split;exact KI;exact Kd
theorem U1e {b u:List Ivl}(hb:rightB b=true)(hu:rightB u=true)(hl:u.length=b.length)(h: ∀X:Nat->Rat,(∀k,k<b.length->XD (X k) (b.getD k default))-> ∀i,i<b.length->XD (X i) (u.getD i default)):inB b u=true:=by have hle: ∀k,k<b.length->qN (b.getD k default).lo<=qN (b.getD k default).hi:=fun k hk=>cmpN_le.1 (Q1 (Ky hb hk)).2.2;refine inB_iff.2 ⟨hb,hu,hl.symm,fun i hi=> ?_⟩;exact x0r (Ky hb hi) (Ky hu oG) (h (fun k=>qN (b.getD k default).lo) (fun k hk=>⟨CB,hle k hk⟩) i hi) (h (fun k=>qN (b.getD k default).hi) (fun k hk=>⟨hle k hk,CB⟩) i hi)
theorem J1k {b:List Ivl}{g:Fm}{p:Int}(hb:smB b)(hp:Q4 p=true)(hg:BoxFm b g p):(Kl g p).2=0/\inB b (Kl g p).1=true:=by
 have ba: ∀i j,i<b.length->j<b.length->luQ 12 18 (qN (QM g.a i j)):=fun i j hi hj=>by rw[hg.ea,J0i hi hj];unfold QZ;split;exact(YZ 12).up oG;exact Xw _ _
 obtain⟨u1,u2,u3,u4⟩:=jD (n:=b.length) hg.rf hg.lm hp hg.bm ba hg.br oG oG;refine⟨u1,U1e hb.right u3 u2 fun X hX i hi=> ?_⟩;have:=u4 (fun k=>X k-qN (g.m.getD k default)) (fun k hk=>hg.mem k _ hk (hX k hk)) i hi;rw[ZD (X':=QZ i) (Y':=fun k=>X k-qN (g.m.getD k default)) b.length (fun k hk=>⟨by rw[hg.ea,J0i hi hk],rfl⟩),Jp _ hi] at this;rwa [show qN (g.m.getD i default)+(X i-qN (g.m.getD i default))=X i by grind] at this
theorem J1m {b:List Ivl}{g:Fm}{p:Int}(hg:BoxFm b g p){i:Nat}(hi:i<b.length){x:Nm}(hx:Qg x=true/\XD (qN x) (b.getD i default)/\bdV 43 62 (ofN x)):(V0s 1 x (g.m.getD i default)).2=0/\qm (g.r.getD i default) (V0s 1 x (g.m.getD i default)).1=true:=by
 obtain⟨x1,x2,x3⟩:=hx;have mr:Qg (g.m.getD i default)=true:=by have:=(Q8 hg.rf).2.2.1;rw[q_d] at this;exact this _ (Qq _ _ _ (by rw[hg.lm];exact hi))
 have hv:Xm (exV 1 (ofN x) (ofN (g.m.getD i default))):=WR 1 (QR x1) (QR mr);have hlu:luQ 62 106 (qV (exV 1 (ofN x) (ofN (g.m.getD i default)))):=by rw[YS,Q0z];exact(KV ((Gf x3).mono (BD _) (BD _)) ((hg.bm i hi).mono oG oG)).mono (BD _) oG
 have o:=Ie hv hlu oG;have hq:=(ZA hv o).2;rw[YS,Q0z] at hq;unfold V0s;rw[BC ⟨x1,mr⟩];refine⟨o,jE (hg.br i hi).1 (ZG (VQ hv)) ?_⟩;rw[hq];exact hg.mem i _ hi x2
theorem q1v {n:Nat}{f:Fm}{p:Int}(hf:SmF n f)(hp:Q4 p=true):(Kl f p).2=0/\(Kl f p).1.length=n/\rightB (Kl f p).1=true/\
 ∀w:Nat->Rat,(∀k,k<n->XD (w k) (f.r.getD k default))-> ∀i,i<n->XD (qN (f.m.getD i default)+Zj (fun k=>qN (QM f.a i k)) w n) ((Kl f p).1.getD i default):=
 jD hf.rf hf.lm hp (fun i hi=>Gf (hf.m i hi).2) (fun i j hi hj=>hf.ba hi hj) (fun i hi=>k9 (hf.r i hi)) oG oG
theorem w1b {x:Nm}{p:Int}{L U:Nat}(hx:Qg x=true)(hb:luQ L U (qN x))(hp:Q4 p=true)(hB:L+U+6<=4096):Ki ⟨x,x⟩ p=(x,0):=by
 have hr:Qs ⟨x,x⟩=true:=Xg hx;have h0:=Wy (a:=⟨x,x⟩) ⟨hr,hb,hb⟩ hp hB;have mb:=YX h0.1;have e:qN (Ki ⟨x,x⟩ p).1=qN x:=by have a1:qN x<=qN (Ki ⟨x,x⟩ p).1:=mb.2.2.1;have a2:qN (Ki ⟨x,x⟩ p).1<=qN x:=mb.2.2.2;grind
 refine Prod.ext ?_ h0.1;have e1:=Yl mb.2.1;have e2:=Yl hx;have e3:ofN (Ki ⟨x,x⟩ p).1=ofN x:=Im (QR mb.2.1) (QR hx) (by rw[QL,QL,e]);rw[e3,e2] at e1;exact(B4 Prod.fst e1).symm
theorem q1a {n:Nat}{q:List Nm}{p:Int}{L U:Nat}(hl:q.length=n)(h1:1<=n)(h4:n<=4)(hr: ∀x∈q,Qg x=true)(hb: ∀i,i<n->luQ L U (qN (q.getD i default)))(hp:Q4 p=true)(hB:L+U+6<=4096):(Xc (ofB q) p).1=q:=by obtain⟨o1,o2,o3⟩:=IU hl hr hb h1 h4;obtain⟨m1,m2,m3,m4⟩:=jv o2 o1 hp o3 hB;refine C9 oG fun i h1 h2=> ?_;have hi:i<n:=oG;have:=(m4 i hi).1;rw[Wx oG,w1b (hr _ (Qq _ _ _ oG)) (hb i hi) hp hB] at this;rw[q_a,BB h1,q_a,BB h2] at this;exact this
theorem V0x {n:Nat}(h1:1<=n)(h4:n<=4)(A:Nat->Nat->Rat)(hd:Jg n A≠0)(v:Nat->Rat){i:Nat}(hi:i<n):Zj (A i) (fun k=>Zj (fun j=>WK n A k j/Jg n A) v n) n=v i:=by
 rw[WH (A i) (fun k j=>WK n A k j/Jg n A) v n n];have e: ∀j,j<n->Zj (A i) (fun k=>WK n A k j/Jg n A) n=QZ i j:=fun j hj=>by rw[V1,qK,V1,wV n h1 h4 A i j hi hj];grind
 rw[ZD (X':=QZ i) (Y':=v) n (fun j hj=>⟨e j hj,rfl⟩),Jp n hi]
theorem y0j {b:List Ivl}{f:Fm}{p:Int}(hb:smB b)(hp:Q4 p=true)(hf:BoxFm b f p):
 (XJ f (ofB f.m) (idM b.length) p).2=0/\(XJ f (ofB f.m) (idM b.length) p).1.m=f.m/\(Kl (XJ f (ofB f.m) (idM b.length) p).1 p).2=0/\inB b (Kl (XJ f (ofB f.m) (idM b.length) p).1 p).1=true:=by
 have mr: ∀x∈f.m,Qg x=true:=by have:=(Q8 hf.rf).2.2.1;rwa [q_d] at this
 obtain⟨o1,o2,o3⟩:=IU hf.lm mr hf.bm hb.1 hb.2.1;obtain⟨si,hil⟩:=k7 hb.1 hb.2.1;have hok:Gb f (ofB f.m) (idM b.length) p=true:=by unfold Gb;rw[hf.rf,o2,si.right,o1,hf.lm,hil,hp];simp
 obtain⟨n1,nk⟩:=vw (n:=b.length) hok hf.lm o3 (fun i j hi hj=>(J1i hb.1 hb.2.1 hi hj).mono oG oG) (fun i j hi hj=>by rw[hf.ea,J0i hi hj];unfold QZ;split;exact(YZ 12).up oG;exact Xw _ _) (fun i hi=>(hf.br i hi).mono oG oG);generalize (XJ f (ofB f.m) (idM b.length) p).1=g at*
 have em:g.m=f.m:=by rw[nk.m];exact q1a hf.lm hb.1 hb.2.1 mr hf.bm hp oG
 obtain⟨u1,u2,u3,u4⟩:=jD (n:=b.length) nk.rf nk.lm hp nk.bm nk.bl nk.br oG oG;refine⟨n1,em,u1,U1e hb.right u3 u2 fun X hX i hi=> ?_⟩;have hw:=nk.mem (fun k=>X k-qN (f.m.getD k default)) (fun k=>qN (f.m.getD k default)) QZ (fun k hk=>hf.mem k _ hk (hX k hk)) (fun k hk=>by rw[Wx (by rw[hf.lm];exact hk)];exact zW _) (fun i j hi hj=>IZ hb.1 hb.2.1 hi hj);have:=u4 _ hw i hi;have e:=V0x hb.1 hb.2.1 (fun i j=>qN (QM g.a i j)) nk.det (fun j=>qN (f.m.getD j default)-qN (g.m.getD j default)+Zj (QZ j) (fun l=>Zj (fun k=>qN (QM f.a l k)) (fun k=>X k-qN (f.m.getD k default)) b.length) b.length) hi;rw[e,em,Jp _ hi] at this;rw[ZD (X':=QZ i) (Y':=fun k=>X k-qN (f.m.getD k default)) b.length (fun k hk=>⟨by rw[hf.ea,J0i hi hk],rfl⟩),Jp _ hi] at this;rwa [show qN (f.m.getD i default)+(qN (f.m.getD i default)-qN (f.m.getD i default)+(X i-qN (f.m.getD i default)))=X i by grind] at this
theorem y0c {n:Nat}{f:Fm}{z:List Ivl}{s:Mx}{p:Int}(hf:SmF n f)(hz:smB z)(hzl:z.length=n)(hs:smM s)(hsl:s.length=n)(hp:Q4 p=true):(XJ f z s p).2=0/\NextOk n f (XJ f z s p).1 z s p:=by
 have hok:Gb f z s p=true:=by unfold Gb;rw[hf.rf,hz.right,hs.right,hf.lm,hzl,hsl,hp];simp
 exact vw hok hf.lm (fun i hi=>(k9 (hz.2.2 i oG)).mono oG oG) (fun i j hi hj=>k9 ((hs.2.2 i oG).2 j oG)) (fun i j hi hj=>hf.ba hi hj) (fun i hi=>(k9 (hf.r i hi)).mono oG oG)
set_option maxRecDepth 100000
open Go.Proofs
theorem U1i {x:Nm}(h:smN x):bdV 6 12 (ofN (J8 x)):=by rw[zd h.1];exact h.2
theorem X1h {x:Nm}(h:smN x):bdV 6 12 (ofN (Jl (J8 x))):=by have:=U1i h;unfold Jl;rw[BC (ZL x)];split;exact this;exact this
theorem G1k {x y:Nm}(hx:smN x)(hy:smN y):smI ⟨Jl (J8 x),J8 y⟩:=⟨zD x y,X1h hx,U1i hy⟩
set_option maxHeartbeats 8000000 in
theorem HC (l:List UInt64)(i k n:Nat)(st:Qf)(h:atD st k l i)(hi:i<=500000000000)(hn:1<=n)(hn4:n<=4):PCalls Tryz.prog 9 [.gp k 0,.sc (.int .i64 n)] st
 (fun r st'=> ∃f j,SmF n f/\i<=j/\j<=i+200/\r= .agg (JI f)/\st'=st.set k (dk l j)):=by
 refine Qb none Tryz.func9 rfl fun E=>Qe (Qa ?_);refine G2s ?_;refine U2h ?_;refine(jO l i k n st h oG hn hn4).mono ?_;rintro r st' ⟨q,j0,hq,hq2,hj,hj2,rfl,rfl⟩;refine G2s ?_;refine H6 1 0 3 ?_;refine G2s ?_;refine H6 1 2 6 ?_;refine G2s ?_;refine U2i ?_;refine Qd [true,true,false,false,true,true,true] 2 2 (fun c s=> ∃(m:List Nm) (r:List Ivl),c=n-m.length/\m.length<=n/\r.length=m.length/\(∀i,i<m.length->smN (m.getD i default))/\(∀i,i<m.length->qm (r.getD i default) default=true/\smI (r.getD i default))/\
  s=⟨[.gp k 0,.sc (.int .i64 n)]++(jk 2++([.lp 0 0,.lp 1 0,.sc (.int .i64 m.length)]++(jk 30))),[[.sl .full [],.sl .full [],.sl .full []],[.sl (.own 0) (Qy m),.sl .no (Z8 q),.sl (.own 1) (QE r)]],[(m.length,3),(r.length,6)],st.set k (dk l (j0+3*m.length))⟩) n ?_ ?_
 refine G2s ?_;exact⟨[],[],by simp,by simp,rfl,fun i hi=>by simp at hi,fun i hi=>by simp at hi,rfl⟩;rintro c s ⟨m,r,rfl,hm,hr,hmr,hrr,rfl⟩;refine U2n (fun h1=> ?_) (fun h1=> ?_);have hlt:m.length<n:=(oT h1);have x1:=Zw m.length oG;refine G2s ?_;refine Qm QH 37 (X0p [0,1,2] (.step 3 [1] (X0p [4,5,6,7] .done))) (by decide+kernel) (by simp) ?_;refine G2s ?_;refine(VE l (j0+3*m.length) k _ (h.set _) oG).mono ?_;rintro r' st' ⟨x,hx,rfl,rfl⟩;simp-dsimp only[go_sem,Vi];refine⟨oG,?_⟩;refine Qm QH 37 (X0p [0,1,2,6] (.step 3 [1] (.step 4 [1] (.step 5 [1] (.step 7 [1] (.step 8 [1] (X0p [9,10,11,12,13] .done))))))) (by decide+kernel) (by simp) ?_;refine G2s ?_;refine(VE l (j0+3*m.length+1) k _ (h.set _) oG).mono ?_;rintro r' st' ⟨y,hy,rfl,rfl⟩;simp-dsimp only[go_sem,Vi];refine(Q2g y _ (Qr hy.1)).mono ?_;rintro r' st' ⟨rfl,rfl⟩;have ra:Qg (J8 y)=true:=ZL y;refine G2s ?_;refine(H1z (J8 y) _ (Qr ra)).mono ?_;rintro r' st' ⟨rfl,rfl⟩;refine G2s ?_;refine(VE l (j0+3*m.length+1+1) k _ (h.set _) oG).mono ?_;rintro r' st' ⟨z,hz,rfl,rfl⟩;simp-dsimp only[go_sem,Vi];refine(Q2g z _ (Qr hz.1)).mono ?_;rintro r' st' ⟨rfl,rfl⟩;simp-dsimp only[go_sem,x1];refine⟨oG,n-(m.length+1),oG,m++ [x],r++ [⟨Jl (J8 y),J8 z⟩],by simp,by simp;omega,by simp[hr],fun i hi=> ?_,fun i hi=> ?_,?_⟩;by_cases hm2:i<m.length;rw[kz _ _ _ _ hm2];exact hmr i hm2;have e:i=m.length:=(by simp at hi;omega);rw[e,H2];exact hx;by_cases hm2:i<m.length;rw[kz _ _ _ _ oG];exact hrr i hm2;have e:i=r.length:=(by simp at hi;omega);rw[e,H2];exact⟨G0l y z,G1k hy hz⟩;simp[Qy,Q9,QE,ZQ,CE,DK];have hge:m.length=n:=(oF h1);refine G2s ?_;refine ZN 1 ?_;refine G2s ?_;refine U2i ?_;have hqr: ∀i,i<n->(q.getD i []).length=n/\ ∀j,j<n->Qg ((q.getD i []).getD j default)=true:=fun i hi=>⟨(hq2 i hi).1,fun j hj=>((hq2 i hi).2 j hj).1⟩;refine⟨⟨m,q,r⟩,j0+3*m.length,⟨zN (by show 1<=m.length;omega) (by show m.length<=4;omega) (fun i hi=>(hmr i hi).1) (by show q.length=m.length;omega) (by show r.length=m.length;omega) (fun i hi=> ?_) (fun i hi=>(hrr i (by have:i<r.length:=hi;omega)).1),hge,fun i hi=>hmr i oG,fun i hi=>hq2 i hi,fun i hi=>(hrr i oG).2⟩,oG,oG,rfl,rfl⟩;have hi:i<q.length:=hi;obtain⟨a1,a2⟩:=hqr i oG;exact⟨by show(q.getD i []).length=m.length;omega,fun j hj=>a2 j (by have:j<m.length:=hj;omega)⟩
set_option maxHeartbeats 16000000 in
theorem vR (l:List UInt64):PCalls Tryz.prog 4 [.sl .no (Q2 l)] [] (fun r st'=>r= .sc (.bool true)):=by
 refine Qb none Tryz.func4 rfl fun E=>Qe (Qa ?_);refine G2s ?_;refine U2h ?_;refine(qj _).w ?_;rintro st rfl;refine G2s ?_;refine U2h ?_;refine(jP l _).w ?_;rintro st rfl;refine G2s ?_;refine U2h ?_;refine(z1x l 0 0 [dk l 0] rfl oG).mono ?_;rintro r st ⟨n,hn1,hn2,rfl,rfl⟩;refine G2s ?_;refine U2h ?_;refine(VF l 1 0 n [dk l 1] rfl oG oG).mono ?_;rintro r st ⟨b,j1,hbl,hb0,hj1,hj2,rfl,rfl⟩;refine G2s ?_;refine(q0g l j1 0 [dk l j1] rfl oG).mono ?_;rintro r st ⟨p,j3,hp1,hp2,hj5,hj6,rfl,rfl⟩;have sb:smB b:=⟨oG,oG,hb0⟩;have wb:=JQ sb.right;have hp:=GV hp1 hp2;obtain⟨e1,hg⟩:=vT sb hp;refine G2s ?_;refine U2h ?_;refine(j0b b p _ wb).w ?_;rintro st rfl;rw[e1];generalize (KN b p).1=f at*
 have wf:=Vk hg.rf;have lg:=hg.lm;have z0:((0:Int) !=0)=false:=rfl;have z2:((f.m.length:Int) !=(n:Int))=false:=(by rw[lg,hbl];simp);obtain⟨s1,s2,s3,s4⟩:=y0j sb hp hg;have wng:=Z1s f (ofB f.m) (idM b.length) p;rw[hbl] at s1 s2 s3 s4 wng;have wm:=wf.1;have wo:=YL wm;have wi:=Wp (k7 hn1 hn2).1.right;refine G2s ?_;refine Qe (Qa ?_);simp-dsimp only[go_sem,z0,z2];generalize [dk l j3]=st;refine Xd [false,false,false,false,false,true,true,true,false,true,true] 2 0
  (fun s=> ∃k:Nat,k=0/\s=⟨[.junk,.junk,.junk,.junk,.junk,.sl .no (QE b),.sc (.int .i64 p),.lp 0 0,.junk,.lp 1 0,.sc (.int .i64 0)]++jk 63,[JI f,JI (XJ f (ofB f.m) (idM n) p).1],[],st⟩) ?_ ?_
 . refine G2s ?_;refine Qm QH 74 (X0p [0,1,2,4,6] (.alt (.step 3 [0] (.alt (.step 5 [0] (.alt (X0p [7,8,9,10] (.step 11 [0,2] (.step 12 [] (.step 13 [] (.done))))) (.step 11 [0,2] (X0p [7,8,9,10,12,13] .done)))) (.step 11 [0,2] (.step 5 [0] (X0p [7,8,9,10,12,13] .done))))) (.step 11 [0,2] (.step 3 [0] (.step 5 [0] (X0p [7,8,9,10,12,13] .done)))))) (by decide+kernel) (by simp) ?_;refine G2s ?_;refine And.intro ?_ ?_
   . refine(WS f.m st wm).plain.w ?_;rintro st rfl;refine G2s ?_;refine And.intro ?_ ?_
     . refine(qe n st).w ?_;rintro st rfl;refine G2s ?_;refine And.intro ?_ ?_
       all_goals
        refine(Gx f (ofB f.m) (idM n) p st wf wo wi).w ?_;rintro st rfl;rw[s1];simp-dsimp only[go_sem]
     refine(qe n st).w ?_;rintro st rfl;refine G2s ?_;refine(Gx f (ofB f.m) (idM n) p st wf wo wi).w ?_;rintro st rfl;rw[s1];exact G2r
   refine(WS f.m st wm).plain.w ?_;rintro st rfl;refine G2s ?_;refine(qe n st).w ?_;rintro st rfl;refine G2s ?_;refine(Gx f (ofB f.m) (idM n) p st wf wo wi).w ?_;rintro st rfl;rw[s1];exact G2r
 rintro s ⟨k, -,rfl⟩;generalize (XJ f (ofB f.m) (idM n) p).1=g at*
 have wu:wB (Kl g p).1:=JQ (inB_iff.1 s4).2.1;refine U2i ?_;refine(If g p _ wng).w ?_;rintro st' rfl;rw[s3];have z3:((0:Int)==0)=true:=rfl;have wgm:=wng.1;simp-dsimp only[go_sem,z3];refine(Y0f g.m f.m _ wgm wm).w ?_;rintro st' rfl;rw[q_h s2];refine G2s ?_;refine(v0n b (Kl g p).1 _ wb wu).w ?_;rintro st' rfl;rw[s4];exact G2r
end Go.Pv
end
