/- Parts of the walk: M111, M112. -/
import Derived.Test.YthlnpmkcmbohaaaGreatDoorZHB
import Derived.Test.YthlnpmkcmbohaaaGreatDoorZFH
set_option linter.unusedVariables false
set_option linter.unusedSimpArgs false
section
set_option maxRecDepth 20000
namespace Go.Pv
structure TurnOk (n:Nat) (b:List (List Nm)) (v:Mx):Prop where
 sq:sqR n b
 bl: ∀i j,i<n->j<n->luQ 5676 1 (qN (QM b i j))
 det:Jg n (fun i j=>qN (QM b i j))≠0
 rv:rightM v=true
 lv:v.length=n
 vb: ∀i j,i<n->j<n->luI 52786 51518 (atM v i j)
 mem: ∀i j,i<n->j<n->XD (WK n (fun i j=>qN (QM b i j)) i j/Jg n (fun i j=>qN (QM b i j))) (atM v i j)
theorem vl {n:Nat}(h1:1<=n)(h4:n<=4):U0i (n:Int)=Xb n:=by unfold U0i;rw[BC oG,vo];rfl
theorem J0j {n i j:Nat}(hi:i<n)(hj:j<n):QM (Xb n) i j=if i=j then oneN else default:=by
 unfold QM Xb;have e0:((List.range n).map fun i=>(List.range n).map fun j=>if i=j then(⟨false,0,[1]⟩:Nm) else default).getD i []=(List.range n).map fun j=>if i=j then(⟨false,0,[1]⟩:Nm) else default:=by rw[q_a,B8,EE hi];rfl
 rw[e0];exact K5 _ _ _ hj
theorem k0m {n:Nat}(h1:1<=n)(h4:n<=4){f g:Nat->Nat->Rat}(h: ∀i j,i<n->j<n->f i j=g i j):Jg n f=Jg n g:=by have:n=1\/n=2\/n=3\/n=4:=oG;rcases this with rfl | rfl | rfl | rfl;rw[w0q,w0q,h 0 0 oG oG];rw[k0n,k0n,h 0 0 oG oG,h 0 1 oG oG,h 1 0 oG oG,h 1 1 oG oG];rw[wO,wO];simp only[h 0 0 oG oG,h 0 1 oG oG,h 0 2 oG oG,h 1 0 oG oG,h 1 1 oG oG,h 1 2 oG oG,h 2 0 oG oG,h 2 1 oG oG,h 2 2 oG oG];simp only[j1z,wO,ZI,CU,Nat.reduceAdd,Nat.reduceLT,D6,DT,CD,h 0 0 oG oG,h 0 1 oG oG,h 0 2 oG oG,h 0 3 oG oG,h 1 0 oG oG,h 1 1 oG oG,h 1 2 oG oG,h 1 3 oG oG,h 2 0 oG oG,h 2 1 oG oG,h 2 2 oG oG,h 2 3 oG oG,h 3 0 oG oG,h 3 1 oG oG,h 3 2 oG oG,h 3 3 oG oG]
theorem k0l {n:Nat}(h1:1<=n)(h4:n<=4):Jg n QZ=1:=by have:n=1\/n=2\/n=3\/n=4:=oG;rcases this with rfl | rfl | rfl | rfl;rw[w0q];rfl;rw[k0n];simp[QZ];grind;rw[wO];simp[QZ];grind;simp only[j1z,wO];simp[QZ,ZI];grind
theorem Y0u (i j:Nat):QZ i j=QZ j i:=by unfold QZ;by_cases h:i=j;rw[BC h,BC h.symm];rw[BA h,BA fun e=>h e.symm]
theorem V0h {n:Nat}(h1:1<=n)(h4:n<=4):TurnOk n (U0i (n:Int)) (idM (n:Int)):=by
 obtain⟨si,hil⟩:=k7 h1 h4;rw[vl h1 h4];have hq: ∀i j,i<n->j<n->qN (QM (Xb n) i j)=QZ i j:=fun i j hi hj=>by rw[J0j hi hj];unfold QZ;split;exact KI;exact Kd
 have hd:Jg n (fun i j=>qN (QM (Xb n) i j))=1:=(by rw[k0m h1 h4 hq,k0l h1 h4]);refine⟨xW n,fun i j hi hj=> ?_,by rw[hd];decide,si.right,hil,fun i j hi hj=>(J1i h1 h4 hi hj).mono oG oG,fun i j hi hj=> ?_⟩;rw[hq i j hi hj];unfold QZ;split;exact YZ _;exact Xw _ _;have hc:=V1f n h1 h4 (fun i j=>qN (QM (Xb n) i j)) i j hi hj;have e:Zj (WK n (fun i j=>qN (QM (Xb n) i j)) i) (fun k=>qN (QM (Xb n) k j)) n=WK n (fun i j=>qN (QM (Xb n) i j)) i j:=(by rw[V1,ZD (X':=QZ j) (Y':=WK n (fun i j=>qN (QM (Xb n) i j)) i) n fun k hk=>⟨(hq k j hk hj).trans (Y0u k j),rfl⟩,Jp n hj]);rw[e] at hc;rw[hc,hd,show(1:Rat)*QZ i j/1=QZ i j by grind];exact IZ h1 h4 hi hj
theorem X1i {n:Nat}{c:Mx}{p:Int}(rc:rightM c=true)(hl:c.length=n)(hp:Q4 p=true){L U:Nat}(bc: ∀i j,i<n->j<n->luI L U (atM c i j))(hB:L+U+6<=4096):
 (IY c p).2=0/\sqR n (IY c p).1/\ ∀i j,i<n->j<n->luQ (L+1) (U+2) (qN (QM (IY c p).1 i j)):=by
 have row: ∀i,i<n->Xc (c.getD i []) p=((List.range n).map (fun j=>(Ki (atM c i j) p).1),0):=fun i hi=>by obtain⟨q1,q2⟩:=Z3 rc (i:=i) oG;have hlr:(c.getD i []).length=n:=(by rw[q1,hl]);unfold Xc;rw[BC ⟨q2,hp⟩,Ys _ (c.getD i []) 0 [] (fun j hj=>(Wy (bc i j hi oG) hp hB).1),hlr];simp[atM]
 unfold IY;rw[BC ⟨rc,hp⟩,hl];have h0:(XZ (fun i=>Xc (c.getD i []) p) 0 n []).2=0:=VB _ _ _ fun i _ hi=>(by rw[row i oG]);obtain⟨t1,t2,t3⟩:=Js h0;have hrow: ∀i,i<n->(XZ (fun i=>Xc (c.getD i []) p) 0 n []).1.getD i []=(List.range n).map (fun j=>(Ki (atM c i j) p).1):=fun i hi=>by have:=t3 i hi;rw[row i hi] at this;exact this
 refine⟨h0,⟨t1,fun r hr=> ?_⟩,fun i j hi hj=> ?_⟩;obtain⟨i,hi,rfl⟩:=CM.1 hr;have hi':i<n:=oG;have:=hrow i hi';rw[q_a,BB hi] at this;rw[show(XZ (fun i=>Xc (c.getD i []) p) 0 n []).1[i]=(List.range n).map (fun j=>(Ki (atM c i j) p).1) from this];refine⟨by simp,fun x hx=> ?_⟩;obtain⟨j,_,rfl⟩:=CF.1 hx;exact Jm _ _;have:QM (XZ (fun i=>Xc (c.getD i []) p) 0 n []).1 i j=(Ki (atM c i j) p).1:=by unfold QM;rw[hrow i hi];exact K5 _ _ _ hj
 rw[this];exact(Wy (bc i j hi hj) hp hB).2
theorem w1j : ∀i,i<4->lcC 25 47 i<=5676:=by decide
theorem K2h : ∀k,k<4-> ∀j,j<4->lcC 25 47 j+2*(gS (lcC 25 47) k).1+lcC 25 47 k+(gS (lcC 25 47) k).2+260<=60000/\2*(gS (lcC 25 47) k).2+lcC 25 47 k+(gS (lcC 25 47) k).1+8<=60000:=by decide
theorem V2o : ∀k,k<=4->(gS (lcC 25 47) k).1<=23424/\(gS (lcC 25 47) k).2<=22405:=by decide
theorem k0x : ∀i,i<4->2*lcC 25 47 i+lcA 25 47 i+269<=60000/\47+16*i+20<=60000:=by decide
theorem y0e {n:Nat}{c:Mx}{p:Int}(rc:rightM c=true)(hl:c.length=n)(hp:Q4 p=true)(bc: ∀i j,i<n->j<n->luI 24 45 (atM c i j)):(JA c p).2=0/\TurnOk n (JA c p).1.1 (JA c p).1.2:=by
 have h14:=QI rc;rw[hl] at h14;obtain⟨m1,m2,m3⟩:=X1i rc hl hp bc oG;have hrq:=m2.rightQ h14.1 h14.2;obtain⟨c1,c2⟩:=V1e (L:=25) (U:=47) hrq hp k0x (fun i j hi hj=>m3 i j (by rw[<-m2.1];exact hi) (by rw[<-m2.1];exact hj));have plain:(vj c p).2=3->(JA c p).2=0/\TurnOk n (JA c p).1.1 (JA c p).1.2:=fun h=>by unfold JA;rw[BC h,hl];exact⟨rfl,V0h h14.1 h14.2⟩
 by_cases h0:(XU (IY c p).1 p).2=0;rotate_left;refine plain ?_;unfold vj;rw[BA (fun e=>e m1),BC h0];exact c1.resolve_left h0;have own:vj c p=(((XU (IY c p).1 p).1,(Xr (XU (IY c p).1 p).1 p).1),(Xr (XU (IY c p).1 p).1 p).2):=by unfold vj;rw[BA (fun e=>e m1),BA (fun e=>e h0)]
 obtain⟨q1,q2⟩:=c2 h0;rw[m2.1] at q1 q2;generalize (XU (IY c p).1 p).1=b at*
 have hbl:=q1.1;have ap:=Z0w (a:=b) (B:=lcC 25 47) (q1.rightQ h14.1 h14.2) (by rw[hbl];exact q1) hp (fun k hk j hj=>K2h k oG j oG) (by rw[hbl];exact q2);rw[hbl] at ap;have hg:=V2o n h14.2;have ap':((Qu b p).2=0/\bdJ b.length (fun _=>0) 23424 22405 (Qu b p).1)\/(Qu b p).2=3:=by rcases ap with ⟨e1,e2⟩ | e;exact .inl ⟨e1,fun i hi=>(e2 i oG).mono hg.1 hg.2|>fun h=>by rw[hbl];exact h⟩;exact .inr e
 have hent: ∀i j,i<n->j<n->luQ 5676 0 (qN (QM b i j)):=fun i j hi hj=>(q2 i j hi hj).mono (w1j j oG) (BD _);rcases G0m (A:=5676) (by rw[hbl];exact q1) oG oG hp ap' (by rw[hbl];exact hent) oG oG with ⟨s1,s2⟩ | s;rotate_left;refine plain ?_;rw[own];exact s;have ht:JA c p=vj c p:=by unfold JA;rw[BA (by rw[own,s1];decide)]
 rw[ht,own];obtain⟨g1,g2,g3,g4⟩:=YN s1;rw[hbl] at g2 g3 g4 s2;exact⟨s1,q1,fun i j hi hj=>(hent i j hi hj).up oG,g3,I0 s1,g2,fun i j hi hj=>(s2 i j hi hj).mono oG oG,fun i j hi hj=>((g4 i hi).2 j hj).2⟩
theorem xM {L U L' U' n:Nat}{m:Mx}{b:List Ivl}{p:Int}(rm:rightM m=true)(rb:rightB b=true)(lm:m.length=n)(lb:b.length=n)(hm: ∀i j,i<n->j<n->luI L U (atM m i j))(hb: ∀j,j<n->luI L' U' (b.getD j default))(hp:Q4 p=true)(hL:L+L'<=60000)(hU:U+U'+20<=60000):
 (V4 m b p).2=0/\ ∀i,i<n->luI (L+L') (U+U'+9) ((V4 m b p).1.getD i default):=by
 have h4:=(QI rm).2;have h0:(V4 m b p).2=0:=by unfold V4;rw[BC ⟨rm,rb,oG,hp⟩,lb];exact VB _ _ _ fun i _ hi=>jL hp n (fun k hk=>⟨hm i k oG hk,hb k hk⟩) hL oG
 refine⟨h0,fun i hi=> ?_⟩;obtain⟨-, -,v2⟩:=xL h0;rw[lm] at v2;obtain⟨d1,d2⟩:=v2 i hi;rw[d2];exact(Yt hp n (fun k hk=>⟨hm i k hi hk,hb k hk⟩) d1).mono (BD _) oG
theorem xK {n:Nat}{m:Mx}{b:List Ivl}{p:Int}(h:(V4 m b p).2=0)(lm:m.length=n){X:Nat->Nat->Rat}{Y:Nat->Rat}(hX: ∀i j,i<n->j<n->XD (X i j) (atM m i j))(hY: ∀j,j<n->XD (Y j) (b.getD j default)){i:Nat}(hi:i<n):XD (Zj (X i) Y n) ((V4 m b p).1.getD i default):=by obtain⟨-, -,v2⟩:=xL h;rw[lm] at v2;obtain⟨d1,d2⟩:=v2 i hi;rw[d2];exact Ii n d1 fun k hk=>⟨hX i k hi hk,hY k hk⟩
theorem J0p {n:Nat}{a b:Mx}{p:Int}(h:(XW a b p).2=0)(la:a.length=n){X Y:Nat->Nat->Rat}(hX: ∀i j,i<n->j<n->XD (X i j) (atM a i j))(hY: ∀i j,i<n->j<n->XD (Y i j) (atM b i j)){i j:Nat}(hi:i<n)(hj:j<n):XD (Zj (X i) (fun k=>Y k j) n) (atM (XW a b p).1 i j):=by obtain⟨-, -,m2⟩:=Yo h;rw[la] at m2;obtain⟨d1,d2⟩:=(m2 i hi).2 j hj;rw[d2];exact Ii n d1 fun k hk=>⟨hX i k hi hk,hY k j hk hj⟩
theorem jn {k L U n:Nat}{a b:List Ivl}{p:Int}(hk:k<2)(ha:rightB a=true)(hb:rightB b=true)(la:a.length=n)(lb:b.length=n)(ba: ∀i,i<n->luI L U (a.getD i default))(bb: ∀i,i<n->luI L U (b.getD i default))(hp:Q4 p=true)(hL:L<=60000)(hU:U+2<=60000):
 (opB k a b p).2=0/\(opB k a b p).1.length=n/\rightB (opB k a b p).1=true/\ ∀i,i<n->(opI k (a.getD i default) (b.getD i default) p).2=0/\(opB k a b p).1.getD i default=(opI k (a.getD i default) (b.getD i default) p).1/\luI L (U+2) ((opB k a b p).1.getD i default):=by
 have hl:=Jk ha;have key: ∀i,i<n->(opI k (a.getD i default) (b.getD i default) p).2=0:=fun i hi=>yX hk (ba i hi) (bb i hi) hp hL hU;have he:opB k a b p=((List.range n).map (fun j=>(opI k (a.getD j default) (b.getD j default) p).1),0):=by unfold opB;rw[BC ⟨ha,hb,oG,hp⟩,Ys _ a 0 [] (fun j hj=>by rw[CU];exact key j oG),la];simp
 have hg: ∀i,i<n->(opB k a b p).1.getD i default=(opI k (a.getD i default) (b.getD i default) p).1:=fun i hi=>by rw[he];simp[q_a,hi]
 have hlen:(opB k a b p).1.length=n:=by rw[he];simp
 refine⟨by rw[he],hlen,Xj (fun i hi=>by rw[hg i oG];exact JT _ _ _ _) oG oG,fun i hi=>⟨key i hi,hg i hi,?_⟩⟩;rw[hg i hi];exact yW hk (ba i hi) (bb i hi) hp (key i hi)
theorem jm {k n:Nat}{a b:List Ivl}{p:Int}{X Y:Rat}{i:Nat}(h:(opI k (a.getD i default) (b.getD i default) p).2=0)(e:(opB k a b p).1.getD i default=(opI k (a.getD i default) (b.getD i default) p).1)(hX:XD X (a.getD i default))(hY:XD Y (b.getD i default)):XD (exQ k X Y) ((opB k a b p).1.getD i default):=by rw[e];exact IT k h hX hY
theorem jv {n:Nat}{b:List Ivl}{p:Int}(rb:rightB b=true)(hl:b.length=n)(hp:Q4 p=true){L U:Nat}(bb: ∀i,i<n->luI L U (b.getD i default))(hB:L+U+6<=4096):
 (Xc b p).2=0/\(Xc b p).1.length=n/\(∀x∈(Xc b p).1,Qg x=true)/\ ∀i,i<n->(Xc b p).1.getD i default=(Ki (b.getD i default) p).1/\luQ (L+1) (U+2) (qN ((Xc b p).1.getD i default))/\XD (qN ((Xc b p).1.getD i default)) (b.getD i default):=by
 have he:Xc b p=((List.range n).map (fun j=>(Ki (b.getD j default) p).1),0):=by unfold Xc;rw[BC ⟨rb,hp⟩,Ys _ b 0 [] (fun j hj=>(Wy (bb j oG) hp hB).1),hl];simp
 rw[he];refine⟨rfl,by simp,fun x hx=> ?_,fun i hi=> ?_⟩;obtain⟨j,_,rfl⟩:=CF.1 hx;exact Jm _ _;have e:((List.range n).map (fun j=>(Ki (b.getD j default) p).1)).getD i default=(Ki (b.getD i default) p).1:=K5 _ _ _ hi;have m:=Wy (bb i hi) hp hB;have mb:=YX m.1;show((List.range n).map (fun j=>(Ki (b.getD j default) p).1)).getD i default=_/\luQ _ _ (qN (((List.range n).map (fun j=>(Ki (b.getD j default) p).1)).getD i default))/\XD (qN (((List.range n).map (fun j=>(Ki (b.getD j default) p).1)).getD i default)) _;rw[e];exact⟨rfl,m.2,mb.2.2.1,mb.2.2.2⟩
theorem Wx {q:List Nm}{i:Nat}(hi:i<q.length):(ofB q).getD i default=⟨q.getD i default,q.getD i default⟩:=by simp[ofB,q_a,hi]
theorem IU {n L U:Nat}{q:List Nm}(hl:q.length=n)(hr: ∀x∈q,Qg x=true)(hb: ∀i,i<n->luQ L U (qN (q.getD i default)))(h1:1<=n)(h4:n<=4):(ofB q).length=n/\rightB (ofB q)=true/\ ∀i,i<n->luI L U ((ofB q).getD i default):=by
 have hlen:(ofB q).length=n:=(by simp[ofB,hl]);have key: ∀i,i<n->luI L U ((ofB q).getD i default):=fun i hi=>by rw[Wx oG];exact⟨Xg (hr _ (Qq _ _ _ oG)),hb i hi,hb i hi⟩
 exact⟨hlen,Xj (fun i hi=>(key i oG).1) oG oG,key⟩
theorem zW (x:Nm):XD (qN x) ⟨x,x⟩:=⟨CB,CB⟩
theorem z1c {f:Fm}(h:Zb f=true):sqR f.m.length f.a:=by obtain⟨h1,h2,h3,h4,h5,h6,h7⟩:=Q8 h;refine⟨h4,fun r hr=> ?_⟩;rw[q_d] at h6;have:=h6 r hr;unfold QN at this;simp only[q_i,BN,q_d] at this;exact⟨this.2,this.1⟩
theorem V2w {n:Nat}{m:List Nm}{a:List (List Nm)}{r:List Ivl}(h1:1<=n)(h4:n<=4)(hm:m.length=n)(rm: ∀x∈m,Qg x=true)(ha:sqR n a)(hr:r.length=n)(h0: ∀i,i<n->Qs (r.getD i default)=true/\XD 0 (r.getD i default)):Zb ⟨m,a,r⟩=true:=by unfold Zb;simp only[q_i,BN];refine⟨⟨⟨⟨⟨⟨oG,oG⟩,?_⟩,by rw[ha.1,hm]⟩,by rw[hr,hm]⟩,?_⟩,?_⟩;unfold QN;rw[q_i,q_d];exact⟨rm,by simp⟩;rw[q_d];intro x hx;obtain⟨q1,q2⟩:=ha.2 x hx;unfold QN;rw[q_i,q_d];exact⟨q2,by rw[q1,hm];simp⟩;rw[q_d];intro x hx;obtain⟨i,hi,rfl⟩:=Gt hx;refine jE (h0 i oG).1 Ht ?_;rw[jh];exact(h0 i oG).2
theorem jD {f:Fm}{p:Int}{n Lm Um La Ua Lr Ur:Nat}(hf:Zb f=true)(hn:f.m.length=n)(hp:Q4 p=true)(bm: ∀i,i<n->luQ Lm Um (qN (f.m.getD i default)))(ba: ∀i j,i<n->j<n->luQ La Ua (qN (QM f.a i j)))(br: ∀i,i<n->luI Lr Ur (f.r.getD i default))
 (hL:Lm+La+Lr<=60000) (hU:Um+Ua+Ur+40<=60000):(Kl f p).2=0/\(Kl f p).1.length=n/\rightB (Kl f p).1=true/\
 ∀w:Nat->Rat,(∀k,k<n->XD (w k) (f.r.getD k default))-> ∀i,i<n->XD (qN (f.m.getD i default)+Zj (fun k=>qN (QM f.a i k)) w n) ((Kl f p).1.getD i default):=by
 obtain⟨h1,h2,h3,h4,h5,h6,h7⟩:=Q8 hf;have hsq:=z1c hf;rw[hn] at h1 h2 hsq h5;have hof: ∀i j,i<n->j<n->atM (ofM f.a) i j=⟨QM f.a i j,QM f.a i j⟩:=fun i j hi hj=>H8 (by rw[hsq.1];exact hi) (by rw[(hsq.row hi).1];exact hj);have ra:=hsq.rightM h1 h2;have la:(ofM f.a).length=n:=(by unfold ofM;rw[BR];exact hsq.1);obtain⟨v1,v2⟩:=xM ra h7 la h5 (L:=La) (U:=Ua) (fun i j hi hj=>by rw[hof i j hi hj];exact⟨Xg (hsq.ent hi hj),ba i j hi hj,ba i j hi hj⟩) br hp oG oG;obtain⟨w1,w2⟩:=yv v1;obtain⟨o1,o2,o3⟩:=IU hn (by rw[q_d] at h3;exact h3) bm h1 h2;obtain⟨b1,b2,b3,b4⟩:=jn (k:=0) (L:=Lm+La+Lr) (U:=Um+Ua+Ur+9) oG o2 w1 o1 (by rw[w2,la]) (fun i hi=>(o3 i hi).mono oG oG) (fun i hi=>(v2 i hi).mono oG oG) hp oG oG;unfold Kl;rw[BC ⟨hf,hp⟩,BA (fun e=>e v1)];refine⟨b1,b2,b3,fun w hw i hi=> ?_⟩;obtain⟨c1,c2, -⟩:=b4 i hi;have:=jm (n:=n) c1 c2 (X:=qN (f.m.getD i default)) (Y:=Zj (fun k=>qN (QM f.a i k)) w n) (by rw[Wx oG];exact zW _)
  (xK v1 la (X:=fun i k=>qN (QM f.a i k)) (fun i j hi hj=>by rw[hof i j hi hj];exact zW _) hw hi)
 rwa [Y0p] at this
structure NextOk (n:Nat) (f g:Fm) (z:List Ivl) (s:Mx) (p:Int):Prop where
 m:g.m=(Xc z p).1
 lm:g.m.length=n
 rf:Zb g=true
 sq:sqR n g.a
 bm: ∀i,i<n->luQ 14 22 (qN (g.m.getD i default))
 bl: ∀i j,i<n->j<n->luQ 5676 1 (qN (QM g.a i j))
 det:Jg n (fun i j=>qN (QM g.a i j))≠0
 br: ∀i,i<n->luI 52824 51620 (g.r.getD i default)
 mem: ∀(r y:Nat->Rat) (S:Nat->Nat->Rat),(∀k,k<n->XD (r k) (f.r.getD k default))->(∀k,k<n->XD (y k) (z.getD k default))->(∀i j,i<n->j<n->XD (S i j) (atM s i j))-> ∀i,i<n->
  XD (Zj (fun j=>WK n (fun i j=>qN (QM g.a i j)) i j/Jg n (fun i j=>qN (QM g.a i j))) (fun j=>y j-qN (g.m.getD j default)+Zj (S j) (fun l=>Zj (fun k=>qN (QM f.a l k)) r n) n) n) (g.r.getD i default)
theorem wG (X Y Z:Nat->Rat): ∀n,Zj X (fun k=>Y k+Z k) n=Zj X Y n+Zj X Z n
 | 0=>by show(0:Rat)=0+0;grind
 | n+1=>by have:=wG X Y Z n;simp only[Zj,this];grind
theorem vw {f:Fm}{z:List Ivl}{s:Mx}{p:Int}{n:Nat}(hok:Gb f z s p=true)(hn:f.m.length=n)(bz: ∀i,i<n->luI 13 20 (z.getD i default))(bs: ∀i j,i<n->j<n->luI 12 18 (atM s i j))(ba: ∀i j,i<n->j<n->luQ 12 18 (qN (QM f.a i j)))(br: ∀i,i<n->luI 14 24 (f.r.getD i default)):
 (XJ f z s p).2=0/\NextOk n f (XJ f z s p).1 z s p:=by
 obtain⟨k1,k2,k3,k4,k5,hp⟩:=H9 hok;obtain⟨h1,h2, -,h4,h5,h6,h7⟩:=Q8 k1;have hsq:=z1c k1;rw[hn] at h1 h2 hsq h5 k4 k5;have hof: ∀i j,i<n->j<n->atM (ofM f.a) i j=⟨QM f.a i j,QM f.a i j⟩:=fun i j hi hj=>H8 (by rw[hsq.1];exact hi) (by rw[(hsq.row hi).1];exact hj);have ra:=hsq.rightM h1 h2;have la:(ofM f.a).length=n:=(by unfold ofM;rw[BR];exact hsq.1);have bA: ∀i j,i<n->j<n->luI 12 18 (atM (ofM f.a) i j):=fun i j hi hj=>(by rw[hof i j hi hj];exact⟨Xg (hsq.ent hi hj),ba i j hi hj,ba i j hi hj⟩);obtain⟨m1,m2,m3,m4⟩:=jv k2 k4 hp bz oG;have c1:=jt k3 ra k5 la bs bA hp oG oG;obtain⟨c2,c3⟩:=jr c1;rw[k5] at c3;have bc: ∀i j,i<n->j<n->luI 24 45 (atM (XW s (ofM f.a) p).1 i j):=fun i j hi hj=>by obtain⟨-, -,q⟩:=Yo c1;rw[k5] at q;obtain⟨d1,d2⟩:=(q i hi).2 j hj;rw[d2];exact(Yt hp n (fun k hk=>⟨bs i k hi hk,bA k j hk hj⟩) d1).mono oG oG
 have hCm: ∀S:Nat->Nat->Rat,(∀i j,i<n->j<n->XD (S i j) (atM s i j))-> ∀i j,i<n->j<n->XD (Zj (S i) (fun k=>qN (QM f.a k j)) n) (atM (XW s (ofM f.a) p).1 i j):=fun S hS i j hi hj=>
  J0p c1 k5 (Y:=fun k j=>qN (QM f.a k j)) hS (fun i j hi hj=>by rw[hof i j hi hj];exact zW _) hi hj
 unfold XJ;rw[BC hok];unfold z0f;rw[BA (fun e=>e m1)];unfold Z1u;rw[BA (fun e=>e c1)];generalize (XW s (ofM f.a) p).1=c at*
 obtain⟨t1,tk⟩:=y0e c2 c3 hp bc;unfold Z1q;rw[BA (fun e=>e t1)];generalize (JA c p).1=t at*
 have m4':=fun i hi=>(m4 i hi).2.1;obtain⟨o1,o2,o3⟩:=IU m2 m3 m4' h1 h2;obtain⟨d1,d2,d3,d4⟩:=jn (k:=1) (L:=14) (U:=22) (p:=p) oG k2 o2 k4 o1 (fun i hi=>(bz i hi).mono oG oG) o3 hp oG oG;unfold Z1t;rw[BA (fun e=>e d1)];have hdm: ∀y:Nat->Rat,(∀k,k<n->XD (y k) (z.getD k default))-> ∀i,i<n->XD (y i-qN ((Xc z p).1.getD i default)) ((opB 1 z (ofB (Xc z p).1) p).1.getD i default):=fun y hy i hi=>by obtain⟨e1,e2, -⟩:=d4 i hi;have:=jm (n:=n) e1 e2 (hy i hi) (Y:=qN ((Xc z p).1.getD i default)) (by rw[Wx oG];exact zW _);rwa [Q0z] at this
 have d5:=fun i hi=>(d4 i hi).2.2;generalize (opB 1 z (ofB (Xc z p).1) p).1=d at*
 unfold z0e
 --the rest
 have v1:=jt tk.rv c2 tk.lv c3 tk.vb bc hp oG oG;obtain⟨v2,v3⟩:=jr v1;rw[tk.lv] at v3;have bv: ∀i j,i<n->j<n->luI 52810 51572 (atM (XW t.2 c p).1 i j):=fun i j hi hj=>by obtain⟨-, -,q⟩:=Yo v1;rw[tk.lv] at q;obtain⟨e1,e2⟩:=(q i hi).2 j hj;rw[e2];exact(Yt hp n (fun k hk=>⟨tk.vb i k hi hk,bc k j hk hj⟩) e1).mono oG oG
 obtain⟨x1,x2⟩:=xM v2 h7 v3 h5 bv br hp oG oG;obtain⟨x3,x4⟩:=yv x1;obtain⟨y1,y2⟩:=xM tk.rv d3 tk.lv d2 tk.vb d5 hp oG oG;obtain⟨y3,y4⟩:=yv y1;obtain⟨b1,b2,b3,b4⟩:=jn (k:=0) (L:=52824) (U:=51618) oG x3 y3 (by rw[x4,v3]) (by rw[y4,tk.lv]) (fun i hi=>(x2 i hi).mono oG oG) (fun i hi=>(y2 i hi).mono oG oG) hp oG oG;have hrest:zq t.2 c f.r d p=opB 0 (V4 (XW t.2 c p).1 f.r p).1 (V4 t.2 d p).1 p:=by unfold zq;rw[BA (fun e=>e v1),BA (fun e=>e x1),BA (fun e=>e y1)]
 rw[hrest,BA (fun e=>e b1)];have mem: ∀(r y:Nat->Rat) (S:Nat->Nat->Rat),(∀k,k<n->XD (r k) (f.r.getD k default))->(∀k,k<n->XD (y k) (z.getD k default))->(∀i j,i<n->j<n->XD (S i j) (atM s i j))-> ∀i,i<n->
  XD (Zj (fun j=>WK n (fun i j=>qN (QM t.1 i j)) i j/Jg n (fun i j=>qN (QM t.1 i j))) (fun j=>y j-qN ((Xc z p).1.getD j default)+Zj (S j) (fun l=>Zj (fun k=>qN (QM f.a l k)) r n) n) n) ((opB 0 (V4 (XW t.2 c p).1 f.r p).1 (V4 t.2 d p).1 p).1.getD i default):=fun r y S hr hy hS i hi=>by
  obtain⟨e1,e2, -⟩:=b4 i hi;generalize hV:(fun i j=>WK n (fun i j=>qN (QM t.1 i j)) i j/Jg n (fun i j=>qN (QM t.1 i j)))=V;have hVm: ∀i j,i<n->j<n->XD (V i j) (atM t.2 i j):=fun i j hi hj=>(by rw[<-hV];exact tk.mem i j hi hj);have hX:=xK (X:=fun i j=>Zj (V i) (fun k=>Zj (S k) (fun l=>qN (QM f.a l j)) n) n) (Y:=r) x1 v3 (fun i j hi hj=>J0p (X:=V) (Y:=fun k j=>Zj (S k) (fun l=>qN (QM f.a l j)) n) v1 tk.lv hVm (hCm S hS) hi hj) hr hi;have hY:=xK (X:=V) (Y:=fun j=>y j-qN ((Xc z p).1.getD j default)) y1 tk.lv hVm (fun j hj=>hdm y hy j hj) hi;have:=jm (n:=n) e1 e2 hX hY;rw[Y0p] at this;have es:Zj (fun j=>Zj (V i) (fun k=>Zj (S k) (fun l=>qN (QM f.a l j)) n) n) r n=Zj (V i) (fun j=>Zj (S j) (fun l=>Zj (fun k=>qN (QM f.a l k)) r n) n) n:=by rw[<-WH];refine ZD n fun j hj=>⟨rfl,?_⟩;exact(WH (S j) (fun l k=>qN (QM f.a l k)) r n n).symm
  rw[es,<-wG,ZD (X':=V i) (Y':=fun j=>y j-qN ((Xc z p).1.getD j default)+Zj (S j) (fun l=>Zj (fun k=>qN (QM f.a l k)) r n) n) n (fun k hk=>⟨rfl,by grind⟩)] at this;rw[<-hV] at this;exact this
 refine⟨rfl,rfl,m2,?_,tk.sq,m4',tk.bl,tk.det,fun i hi=>((b4 i hi).2.2).mono oG oG,mem⟩;refine V2w h1 h2 m2 m3 tk.sq b2 fun i hi=>⟨((b4 i hi).2.2).1,?_⟩;have r0: ∀k,k<n->XD 0 (f.r.getD k default):=fun k hk=>by unfold Zb at k1;simp only[q_i,q_d] at k1;have:=k1.2 (f.r.getD k default) (Qq _ _ _ oG);have:=(X1l this).2.2;rwa [jh] at this
 have hS0: ∀i j,i<n->j<n->XD (qN (atM s i j).lo) (atM s i j):=fun i j hi hj=>⟨CB,cmpN_le.1 (Q1 (bs i j hi hj).1).2.2⟩;have:=mem (fun _=>0) (fun k=>qN ((Xc z p).1.getD k default)) (fun i j=>qN (atM s i j).lo) r0 (fun k hk=>(m4 k hk).2.2) hS0 i hi;have e0: ∀X:Nat->Rat,Zj X (fun _=>0) n=0:=fun X=>JY n fun k _=>(by grind);rw[JY n fun k hk=>by rw[JY n fun l hl=>by rw[e0];grind];grind] at this;exact this
end Go.Pv
end
