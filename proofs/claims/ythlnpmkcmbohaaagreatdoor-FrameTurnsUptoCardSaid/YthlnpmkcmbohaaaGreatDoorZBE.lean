/- Parts of the walk: M43, M44, M45, N49, N50, N51, N52, N55, N56, N57, M46, N58, N59, M62, N81, N82, N83, N85, N86, M47, M48, M49, M50, M51, N61, N62, N64. -/
import Derived.Test.YthlnpmkcmbohaaaGreatDoorZBD
import Derived.Test.YthlnpmkcmbohaaaGreatDoorZAR
set_option linter.unusedVariables false
set_option linter.unusedSimpArgs false
section
namespace Go.Pv
def Q1x (v:Vl):Nat->Vl
 | 0=>XH false 1 0
 | k+1=>byV (Q1x v k) v
def K2r (a:Ivl)(k:Nat):Vl:=
 if 0<k/\k % 2=0/\qm a default=true then⟨false,0,0⟩ else if J7 (Q1x (ofN a.lo) k) (Q1x (ofN a.hi) k)>0 then Q1x (ofN a.hi) k else Q1x (ofN a.lo) k
def K2t (a:Ivl)(k:Nat):Vl:=if J7 (Q1x (ofN a.lo) k) (Q1x (ofN a.hi) k)>0 then Q1x (ofN a.lo) k else Q1x (ofN a.hi) k
def K2s (a:Ivl)(k p:Int):Ivl×Int:=
 if Qs a=true/\0<=k/\k<=8/\Q4 p=true then WD (QX (K2r a k.toNat) p.toNat false) (QX (K2t a k.toNat) p.toNat true) else(default,1)
theorem x0t {a:Ivl}(h:Qs a=true):qm a default=true<->qN a.lo<=0/\0<=qN a.hi:=by unfold qm;have hd:Qg (default:Nm)=true:=(by decide);rw[h,hd];simp only[FE,q_i,BN];rw[cmpN_le,cmpN_le,Kd]
theorem G1s (x:Nm):0<Va x<->0<qN x:=by
 have h1:Va x<=0<->qN x<=0:=by rw[GN,H0c,<-Zs x.exp];exact qM_le.symm
 rw[<-Rat.not_le,<-h1];omega
def yS (m:Mn)(b:List Ivl)(p:Int):Nat->Ivl×Int
 | 0=>(⟨m.c,m.c⟩,0)
 | i+1=>if (yS m b p i).2≠0 then(default,(yS m b p i).2) else if m.ks.getD i 0=0 then yS m b p i
  else if (K2s (b.getD i default) (m.ks.getD i 0) p).2≠0 then(default,(K2s (b.getD i default) (m.ks.getD i 0) p).2)
  else opI 2 (yS m b p i).1 (K2s (b.getD i default) (m.ks.getD i 0) p).1 p
def YD (q:List Mn)(b:List Ivl)(p:Int):Nat->Ivl×Int
 | 0=>(default,0)
 | i+1=>if (YD q b p i).2≠0 then(default,(YD q b p i).2) else if (yS (q.getD i default) b p b.length).2≠0 then(default,(yS (q.getD i default) b p b.length).2)
  else opI 0 (YD q b p i).1 (yS (q.getD i default) b p b.length).1 p
def X0y (q:List Mn)(b:List Ivl)(p:Int):Ivl×Int:=if X0u q b.length=true/\b.all Qs=true/\Q4 p=true then YD q b p q.length else(default,1)
set_option maxRecDepth 100000
open Go.Proofs
theorem J2 {α:Type}[Inhabited α](l:List α)(f:α->Bool):l.all f=true<-> ∀i,i<l.length->f (l.getD i default)=true:=by rw[q_d];constructor;intro h i hi;have:l.getD i default=l[i]:=(by simp[q_a,hi]);rw[this];exact h _ (ED hi);intro h x hx;obtain⟨i,hi,e⟩:=CM.1 hx;have:=h i hi;rw[show l.getD i default=l[i] by simp[q_a,hi],e] at this;exact this
def JE (f:List (List Mn))(b:List Ivl)(p:Int):List Ivl×Int:=if kR f=true/\b.length=f.length then XZ (fun i=>X0y (f.getD i []) b p) 0 f.length [] else([],1)
theorem G1n (k:Nat)(a b:Nm):wN (V0s k a b).1:=by unfold V0s;split;rename_i h;exact Y1 (Q6 (ZG (VQ (WR k (QR h.1) (QR h.2)))));exact Y1 (Q6 (show Qg default=true by decide))
def KC (a b:Nat)(p:Nat):Nat:=p+2+Qh b-Qh a
def Y3 (a b:Nat)(p:Nat):Nat:=2*(a*2^KC a b p/b)+if a*2^KC a b p % b=0 then 0 else 1
def IE (a b:Vl)(p:Nat):Vl:=if a.m=0 then⟨false,0,0⟩ else XH (a.neg !=b.neg) (Y3 a.m b.m p) (a.e-b.e-(KC a.m b.m p:Int)-1)
theorem Yz (a b:Vl)(p:Nat):Xm (IE a b p):=by unfold IE;split;exact .inr rfl;exact KQ _ _ _
def Hs (a b:Nm)(p:Int)(up:Bool):Nm×Int:=Kg (QX (IE (ofN a) (ofN b) p.toNat) p.toNat up)
theorem Y1h (v:Nat)(hv:v<18446744073709551616)(st:Qf):PR 205 [.sc (.int .u64 v)] st (.sc (.int .i64 ((64-Qh v:Nat):Int))):=by refine U2m Tryz.func205 fun E=> ?_;refine(x0d v hv st).q ?_;have hb:Qh v<=64:=bitlen_le_iff.2 oG;have e:IntKind.i64.wrap (64-(Qh v:Int))=((64-Qh v:Nat):Int):=(by rw[Qw _ oG oG];omega);simp-dsimp only[go_sem,e]
theorem KA (x:Int):IntKind.u64.wrap x=x % 18446744073709551616:=by simp[IntKind.wrap,IntKind.bits,IntKind.signed]
theorem Z0r (a:List UInt64)(d k:Nat)(hd:0<d)(h0:0<k):
 Qi (a.drop (k-1))/d=(Qi (a.drop k) % d*18446744073709551616+(a.getD (k-1) 0).toNat)/d+18446744073709551616*(Qi (a.drop k)/d)/\
 Qi (a.drop (k-1)) % d=(Qi (a.drop k) % d*18446744073709551616+(a.getD (k-1) 0).toNat) % d:=by
 have h:=Ve a (k-1);rw[show k-1+1=k by omega] at h;have e:Qi (a.drop (k-1))=d*(18446744073709551616*(Qi (a.drop k)/d))+(Qi (a.drop k) % d*18446744073709551616+(a.getD (k-1) 0).toNat):=by
  rw[h];have:=D7 (Qi (a.drop k)) d;generalize Qi (a.drop k)/d=q at*
  generalize Qi (a.drop k) % d=r at*
  rw[<-this];grind
 rw[e];refine⟨?_,?_⟩;rw[E4 hd,EZ];rw[E3]
theorem v0h {r d x:Nat}(hr:r<d)(hx:x<18446744073709551616):(r*18446744073709551616+x)/d<18446744073709551616:=by rw[DV oG];have:(r+1)*18446744073709551616<=d*18446744073709551616:=BG _ hr;rw[BM 18446744073709551616 d];omega
theorem yp {d:Nat}(h0:0<d)(h:d<18446744073709551616):Qp d= [UInt64.ofNat d]:=by unfold Qp;rw[jN,dif_neg oG,BJ h,CP h,XA];rfl
theorem Ko (m s:Nat):Qh (m*2^s)<=Qh m+s:=bitlen_le_iff.2 (by rw[B2];exact C5 (Q5 m) (CT _))
def H0v (a b:Nm)(p:Nat):Nm:=⟨a.neg !=b.neg,a.exp-b.exp-(KC (Qi a.w) (Qi b.w) p:Int)-1,Qp (Y3 (Qi a.w) (Qi b.w) p)⟩
theorem H0t {a b:Nm}{p:Nat}(h:Qi a.w≠0):ofX (H0v a b p)=IE (ofN a) (ofN b) p:=by unfold IE;rw[BA (show¬(ofN a).m=0 from h)];show XH (a.neg !=b.neg) (Qi (Qp (Y3 (Qi a.w) (Qi b.w) p))) _=_;rw[QA];rfl
def Z2j (n L U:Nat)(D:Int)(m:Mn):Prop:=m.ks.length=n/\W1w m.ks=true/\m.ks.sum<=D/\Qg m.c=true/\m.c.w.length≠0/\luQ L U (qN m.c)
def Uq (p:Nat)(x:Rat):Prop:= ∃m e:Int,x=qM m e/\m.natAbs<=2^p
theorem X0r (v:Vl)(p:Nat)(h: ¬Qh v.m<=p): ∃k:Int,qV (QX v p false)=qM (k*2^(Qh v.m-p)) v.e/\k*2^(Qh v.m-p)<=Zq v/\(∀j:Int,j*2^(Qh v.m-p)<=Zq v->j<=k)/\k.natAbs<=2^p:=by
 unfold QX;rw[BA h,VX,Yc];have hb:=Q5 v.m;have hbp:2^Qh v.m=2^p*2^(Qh v.m-p):=(by rw[<-B2];congr 1;omega);generalize Qh v.m-p=d at*
 have hD:=CT d;have h1:=D7 v.m (2^d);have h2:=CG v.m hD;have hq:v.m/2^d<2^p:=by rw[DV hD,<-hbp];exact hb
 have hcast:((2^d:Nat):Int)=(2:Int)^d:=(by simp);have hD':(0:Int)<(2:Int)^d:=(by rw[<-hcast];exact_mod_cast hD);unfold Zq;cases hn:v.neg;refine⟨((v.m/2^d:Nat):Int),?_,?_,fun j hj=> ?_,by rw[LH];exact F4 hq⟩;rw[BA (by simp),BA (by simp),B1,CN,hcast];rw[BA (by simp),<-hcast,<-CN];have:=LC v.m (2^d);omega;rw[BA (by simp)] at hj;by_cases hj0:j<0;have:(0:Int)<=((v.m/2^d:Nat):Int):=Int.natCast_nonneg _;omega;obtain⟨n,rfl⟩:=EG (by omega:0<=j);rw[<-hcast,<-CN] at hj;have hj':n*2^d<=v.m:=(by exact_mod_cast hj);have:=(ER hD).2 hj'
 exact_mod_cast this
 generalize hc':(if v.m % 2^d≠0/\false≠true then 1 else 0)=c;have hc:(v.m % 2^d≠0/\c=1)\/(v.m % 2^d=0/\c=0):=by by_cases h3:v.m % 2^d=0;rw[BA (by simp[h3])] at hc';exact .inr ⟨h3,hc'.symm⟩;rw[BC ⟨h3,by simp⟩] at hc';exact .inl ⟨h3,hc'.symm⟩
 refine⟨-((v.m/2^d+c:Nat):Int),?_,?_,fun j hj=> ?_,by rw[Int.natAbs_neg];simp only[LH];omega⟩;rw[BC rfl];congr 1;rw[DU,<-hcast,<-CN];rw[BC rfl,DU,<-hcast,<-CN];have:v.m<=(v.m/2^d+c)*2^d:=by rw[BM] at h1;rw[BQ];rcases hc with ⟨a,rfl⟩ | ⟨a,rfl⟩<;>omega
 omega;rw[BC rfl] at hj;by_cases hj0:0<j;have:0<j*(2:Int)^d:=Int.mul_pos hj0 hD';omega;obtain⟨n,hn'⟩:=EG (by omega:0<= -j);obtain rfl:j= -(n:Int):=oG;rw[DU,<-hcast,<-CN] at hj;have hj':v.m<=n*2^d:=oG;have:v.m/2^d+c<=n:=by
  rcases hc with ⟨a,rfl⟩ | ⟨a,rfl⟩;have:v.m/2^d<n:=by refine EV fun hle=> ?_;have:=BG (2^d) hle;rw[BM] at h1;omega
  omega;have:=Nat.div_le_div_right (c:=2^d) hj';rw[Nat.mul_div_cancel _ hD] at this;omega
 omega
theorem j0g (v:Vl)(p:Nat):Uq p (qV (QX v p false)):=by by_cases h:Qh v.m<=p;unfold QX;rw[BC h];refine⟨Zq v,v.e,rfl,?_⟩;rw[Kk];exact F4 (q_e (Q5 v.m) (BS (by decide) h));obtain⟨k,h1,h2,h3,h4⟩:=X0r v p h;exact⟨k,v.e+((Qh v.m-p:Nat):Int),by rw[h1,XQ],h4⟩
theorem zK {v:Vl}{p:Nat}(hp:1<=p){x:Rat}(hx:Uq p x)(hle:x<=qV v):x<=qV (QX v p false):=by
 by_cases h:Qh v.m<=p;unfold QX;rw[BC h];exact hle;obtain⟨k,h1,h2,h3,h4⟩:=X0r v p h;rw[h1];obtain⟨m,e,rfl,hm⟩:=hx;have h0:v.m≠0:=fun e=>(by rw[e,Zv] at h;omega);have hlow:=Xf h0;obtain⟨d,hd⟩: ∃d,Qh v.m-p=d:=⟨_,rfl⟩;rw[hd] at h1 h2 h3⊢;have hd1:1<=d:=oG;have hlow':2^(p-1)*2^d<=v.m:=(by rw[<-B2];exact B7 (BS (by decide) oG) hlow);have hcast:((2^(p-1):Nat):Int)=(2:Int)^(p-1):=(by simp);have hcd:((2^d:Nat):Int)=(2:Int)^d:=(by simp);unfold qV at hle;by_cases he:v.e+d<=e;have e1:qM m e=qM (m*2^(e-(v.e+d)).toNat*2^d) v.e:=by rw[XQ,XQ];congr 1;omega
 rw[e1,qM_le] at hle⊢;have:=h3 _ hle;exact ET this (LF (by rw[<-hcd];exact_mod_cast CT d))
 -- |x| is at most 2^(p-1) units
 have hb: ∀s:Int,s.natAbs<=2^p->qM s e<=qM ((2:Int)^(p-1)*2^d) v.e:=fun s hs=>by
  have e2:(2:Int)^(p-1)*2^d=2^p*2^(d-1):=by rw[<-Int.pow_add,<-Int.pow_add];congr 1;omega
  rw[e2,XQ];have e3:qM ((2:Int)^p) (v.e+((d-1:Nat):Int))=qM ((2:Int)^p*2^(v.e+((d-1:Nat):Int)-e).toNat) e:=by rw[XQ];congr 1;omega
  rw[e3,qM_le];have hc2:((2^p:Nat):Int)=(2:Int)^p:=(by simp);have hpos:(1:Int)<=2^(v.e+((d-1:Nat):Int)-e).toNat:=by
   have:0<2^(v.e+((d-1:Nat):Int)-e).toNat:=CT _
   exact_mod_cast this
  have hs':s<=2^p:=by rw[<-hc2];omega
  have hp0:(0:Int)<=2^p:=by rw[<-hc2];exact Int.natCast_nonneg _
  calc s<=2^p:=hs'
   _=2^p*1:=(Int.mul_one _).symm
   _<=_:=F7 hpos hp0
 unfold Zq at h2 h3 hle;cases hn:v.neg;rw[hn,BA (by simp)] at h3;refine E9 (hb m hm) ?_;rw[qM_le];have:=h3 ((2:Int)^(p-1)) (by rw[<-hcast,<-hcd,<-CN];exact_mod_cast hlow');exact ET this (LF (by rw[<-hcd];exact_mod_cast CT d));rw[hn,BC rfl] at h3 hle;have hx2:=hb (-m) (by rw[Int.natAbs_neg];exact hm);rw[YE] at hx2;have hx3:qM (-((2:Int)^(p-1)*2^d)) v.e<=qM (-(v.m:Int)) v.e:=(by rw[YE ((2:Int)^(p-1)*2^d)];grind);have:=h3 (-((2:Int)^(p-1))) (by rw[DU];exact qM_le.1 hx3);refine E9 hle ?_;rw[qM_le];have h5: -(v.m:Int)<= -((2:Int)^(p-1))*2^d:=by rw[DU,<-hcast,<-hcd,<-CN];have:((2^(p-1)*2^d:Nat):Int)<=(v.m:Int):=(by exact_mod_cast hlow');omega
 exact Int.le_trans h5 (ET this (LF (by rw[<-hcd];exact_mod_cast CT d)))
theorem W0d (v:Vl)(p:Nat):qV (QX v p true)= -qV (QX (Xa v) p false):=by
 by_cases h0:v.m=0;have e:Xa v=v:=(by unfold Xa;rw[BC h0]);have hb:Qh v.m<=p:=(by rw[h0,Zv];omega);rw[e];unfold QX;rw[BC hb,BC hb,UU h0];rfl;have e1:(Xa v).m=v.m:=Iv v;have e2:(Xa v).e=v.e:=Iw v;have e3:(Xa v).neg= !v.neg:=(by unfold Xa;rw[BA h0]);unfold QX;rw[e1,e2,e3];split;rw[Kz];grind;rw[VX,VX];have ec:(if v.m % 2^(Qh v.m-p)≠0/\false≠ !v.neg then 1 else 0)=(if v.m % 2^(Qh v.m-p)≠0/\true≠v.neg then 1 else 0):=by cases v.neg<;>simp
 rw[ec];generalize v.m/2^(Qh v.m-p)+(if v.m % 2^(Qh v.m-p)≠0/\true≠v.neg then 1 else 0)=M;rw[<-YE];congr 1;cases v.neg<;>simp
theorem vN {α:Type}[Inhabited α]{l:List α}{P:α->Prop}(h: ∀x∈l,P x){i:Nat}(hi:i<l.length):P (l.getD i default):=by rw[show l.getD i default=l[i] by simp[q_a,hi]];exact h _ (ED hi)
def okPoly (n M:Nat)(D:Int)(p:List Mn):Prop:=X0u p n=true/\p.length<=M/\ ∀m∈p,Z2j n 12 (18+M) D m
def okField (n M:Nat)(D:Int)(f:List (List Mn)):Prop:=f.length=n/\ ∀p∈f,okPoly n M D p
theorem okPoly.at {n M:Nat}{D:Int}{p:List Mn}(h:okPoly n M D p){j:Nat}(hj:j<p.length):Z2j n 12 (18+M) D (p.getD j default):=vN h.2.2 hj
theorem okField.at {n M:Nat}{D:Int}{f:List (List Mn)}(h:okField n M D f){i:Nat}(hi:i<f.length):okPoly n M D (f.getD i []):=by rw[show f.getD i []=f[i] by simp[q_a,hi]];exact h.2 _ (ED hi)
end Go.Pv
end
