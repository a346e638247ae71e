/- Parts of the walk: M23, M24, M25, M26, M27, M28, M29, M30, M31, M32, M33, M34, M35, M36. -/
import Derived.Test.YthlnpmkcmbohaaaGreatDoorZK
set_option linter.unusedVariables false
set_option linter.unusedSimpArgs false
section
namespace Go.Pv
def ofX (x:Nm):Vl:=XH x.neg (Qi x.w) x.exp
def QX (v:Vl)(p:Nat)(up:Bool):Vl:=
 if Qh v.m<=p then v else
  XH v.neg (v.m/2^(Qh v.m-p)+(if v.m % 2^(Qh v.m-p)≠0/\up≠v.neg then 1 else 0)) (v.e+((Qh v.m-p:Nat):Int))
theorem K0 (neg:Bool)(e:Int):XH neg 0 e=⟨false,0,0⟩:=by rw[XH,BC rfl]
theorem jo (neg:Bool)(m k:Nat)(e:Int):XH neg (m*2^k) e=XH neg m (e+k):=by
 by_cases h:m=0;subst h;rw[DC,K0,K0]
 . have hp:m*2^k≠0:=FX h (Nat.ne_of_gt (CT k));obtain⟨q,hq,hm⟩:=GH m h;have hmk:m*2^k=2^(tz m+k)*q:=by
    conv=>lhs;rw[hm]
    rw[B2,FK]
   have ht:tz (m*2^k)=tz m+k:=(by rw[hmk,kq _ _ hq]);unfold XH;rw[BA h,BA hp,ht];have e1:m*2^k/2^(tz m+k)=m/2^tz m:=by
    rw[hmk,EY _ (CT _)]
    conv=>rhs;rw[hm]
    rw[kq _ _ hq,EY _ (CT _)]
   rw[e1];congr 1;omega
theorem UY (neg:Bool)(m:Nat)(e:Int)(h:m % 2=1):XH neg m e=⟨neg,m,e⟩:=by rw[XH,BA oG,X0i h];simp
theorem Q1w (z D q:Nat)(h:D<=z):2^z*q/2^D=q*2^(z-D):=by obtain⟨k,rfl⟩: ∃k,z=D+k:=⟨z-D,oG⟩;rw[DY,B2,BW,EY _ (CT _),BM]
theorem q0s {x:Nm}(h:Qg x=true):ofX x=ofN x:=by
 rcases Q0a h with h1 | h1;exact UY _ _ _ h1;have h0:Qi x.w=0:=h1;have hw:x.w= []:=by refine BE fun hw=> ?_;have h2:=h;unfold Qg at h2;rw[BA hw] at h2;simp only[q_i,BN] at h2;have h3:=U8 x.w;omega
 have h2:=h;unfold Qg at h2;rw[BC hw] at h2;simp at h2;unfold ofX ofN;rw[h0,K0,h2.1,h2.2]
theorem W0e (neg:Bool)(m:Nat)(e:Int)(p:Nat)(up:Bool)(hp:0<p):QX (XH neg m e) p up=
 if Qh m<=p then XH neg m e else XH neg (m/2^(Qh m-p)+(if tz m<Qh m-p/\up≠neg then 1 else 0)) (e+((Qh m-p:Nat):Int)):=by
 by_cases h0:m=0;subst h0;rw[BC (by rw[Zv];omega),K0,QX,BC (by show Qh 0<=p;rw[Zv];omega)];obtain⟨q,hq,hm⟩:=GH m h0;have hq0:q≠0:=oG;have e1:XH neg m e=⟨neg,q,e+tz m⟩:=by have:XH neg (q*2^tz m) e=XH neg q (e+tz m):=jo neg q (tz m) e;rw[BM,<-hm] at this;rw[this,UY _ _ _ hq]
 have hb:Qh m=Qh q+tz m:=by have:=XV q (tz m) hq0;rw[BM,<-hm] at this;exact this
 rw[e1];unfold QX;simp only;by_cases h1:Qh q<=p;rw[BC h1];by_cases h2:Qh m<=p;rw[BC h2];rw[BA h2,BA oG,B1];have hdiv:m/2^(Qh m-p)=q*2^(tz m-(Qh m-p)):=by have h:=Q1w (tz m) (Qh m-p) q oG;rw[<-hm] at h;exact h
 rw[hdiv,jo,UY _ _ _ hq];congr 1;omega;rw[BA h1,BA (show¬Qh m<=p by omega)];have hd:Qh m-p=tz m+(Qh q-p):=oG;have hdiv:m/2^(Qh m-p)=q/2^(Qh q-p):=by have h:=EY q (CT (tz m));rw[<-hm] at h;rw[hd,B2,<-CV,h]
 have hodd:q % 2^(Qh q-p)≠0:=by intro h;have hdv:2∣q:=Nat.dvd_trans ⟨2^(Qh q-p-1),by rw[<-Nat.pow_succ'];congr 1;omega⟩ (Nat.dvd_of_mod_eq_zero h);omega
 rw[hdiv];have hc:(q % 2^(Qh q-p)≠0/\up≠neg)<->(tz m<Qh m-p/\up≠neg):=⟨fun h=>⟨oG,h.2⟩,fun h=>⟨hodd,h.2⟩⟩;by_cases hh:tz m<Qh m-p/\up≠neg;rw[BC hh,BC (hc.2 hh)];congr 1;omega;rw[BA hh,BA (fun h=>hh (hc.1 h))];congr 1;omega
theorem Q0h (neg:Bool)(m:Nat)(e:Int):XH neg m e=mkV (if neg then -(m:Int) else(m:Int)) e:=by by_cases h:m=0;subst h;rw[K0];unfold mkV;cases neg<;>simp[K0];unfold mkV;cases neg;show XH false m e=XH (decide ((m:Int)<0)) (m:Int).natAbs e;rw[q_g oG,LH];show XH true m e=XH (decide (-(m:Int)<0)) (-(m:Int)).natAbs e;rw[q_h oG,Int.natAbs_neg,LH]
theorem v1s (x:Nm):ofX x=mkV (Kt x) x.exp:=by rw[ofX,Q0h];rfl
theorem z0m (s:Int)(k:Nat)(e:Int):mkV (s*2^k) e=mkV s (e+k):=by
 unfold mkV;have h1:(s*2^k).natAbs=s.natAbs*2^k:=by rw[Int.natAbs_mul,Int.natAbs_pow];rfl
 have h2:decide (s*2^k<0)=decide (s<0):=by have hp:=two_pow_pos k;by_cases h:s<0;rw[q_h h,q_h (Int.mul_neg_of_neg_of_pos h hp)];rw[q_g h,q_g (LA.2 (Int.mul_nonneg (LA.1 h) (LF hp)))]
 rw[h1,h2,jo]
theorem z0n (s e:Int)(h:s≠0): ∃k:Nat,Zq (mkV s e)*2^k=s/\(mkV s e).e=e+k/\(mkV s e).m≠0:=by have h0:s.natAbs≠0:=oG;refine⟨tz s.natAbs,?_,?_,?_⟩;unfold mkV XH Zq;rw[BA h0];simp only;have h1:=V0f s.natAbs;by_cases hs:s<0;rw[q_h hs,BC rfl,DU];have:((s.natAbs/2^tz s.natAbs:Nat):Int)*2^tz s.natAbs=(s.natAbs:Int):=(by rw[show((2:Int)^tz s.natAbs)=((2^tz s.natAbs:Nat):Int) from by simp,<-CN,h1]);rw[this];omega;rw[q_g hs,BA (by simp)];have:((s.natAbs/2^tz s.natAbs:Nat):Int)*2^tz s.natAbs=(s.natAbs:Int):=(by rw[show((2:Int)^tz s.natAbs)=((2^tz s.natAbs:Nat):Int) from by simp,<-CN,h1]);rw[this];omega;unfold mkV XH;rw[BA h0];unfold mkV XH;rw[BA h0];have:=Kp s.natAbs h0;simp only;omega
def byV (a b:Vl):Vl:=if a.m=0\/b.m=0 then⟨false,0,0⟩ else⟨a.neg !=b.neg,a.m*b.m,a.e+b.e⟩
theorem H1s {a b:Nat}(ha:a % 2=1)(hb:b % 2=1):a*b % 2=1:=by rw[Nat.mul_mod,ha,hb]
theorem yi : ∀(k a b:Nat),a+b+1=2^k->a&&&b=0
 | 0,a,b,h=>by
  have:a=0:=by simp at h;omega
  subst this;exact Nat.zero_and b
 | k+1,a,b,h=>by have h2:a+b+1=2*2^k:=(by rw[h,B5,BM]);have ih:=yi k (a/2) (b/2) oG;have hd:(a&&&b)/2=a/2&&&b/2:=Nat.and_div_two;have hm:(a&&&b) % 2≠1:=fun e=>(by have:=Nat.and_mod_two_eq_one.1 e;omega);omega
theorem z0z : ∀(n x:Nat),0<x->x<2^n->x&&&(2^n-x)=2^tz x
 | 0,x,h,hl=>by simp at hl;omega
 | n+1,x,h,hl=>by have hp:2^(n+1)=2*2^n:=(by rw[B5,BM]);have hd:(x&&&(2^(n+1)-x))/2=x/2&&&(2^(n+1)-x)/2:=Nat.and_div_two;rcases Nat.mod_two_eq_zero_or_one x with e | e;have ih:=z0z n (x/2) oG oG;have h3:(2^(n+1)-x)/2=2^n-x/2:=oG;have hm:(x&&&(2^(n+1)-x)) % 2≠1:=fun e'=>(by have:=Nat.and_mod_two_eq_one.1 e';omega);rw[h3,ih] at hd;have hps:2^(tz (x/2)+1)=2^tz (x/2)*2:=B5 ..;rw[yy oG e];omega;have h4:=yi n (x/2) ((2^(n+1)-x)/2) oG;have hm:(x&&&(2^(n+1)-x)) % 2=1:=Nat.and_mod_two_eq_one.2 ⟨e,oG⟩;rw[h4] at hd;rw[X0i e,Nat.pow_zero];omega
theorem X1w (x:Nat)(h:0<x)(hl:x<18446744073709551616):x&&&(18446744073709551616-x)=2^tz x:=z0z 64 x h hl
theorem xP (x:Nat)(h:0<x)(hl:x<18446744073709551616):tz x<64:=by have h1:=Wj x oG;have h2:=qY x hl;omega
theorem k1r (w r:Nat)(h:0<w)(hl:w<18446744073709551616):tz (w+18446744073709551616*r)=tz w:=by obtain⟨q,hq,hw⟩:=GH w oG;have ht:=xP w h hl;have e:w+18446744073709551616*r=2^tz w*(q+2^(64-tz w)*r):=(by rw[CE,<-hw,<-BW,<-B2,show tz w+(64-tz w)=64 from oG]);have h2:2^(64-tz w)*r % 2=0:=(by obtain⟨k,hk⟩: ∃k,64-tz w=k+1:=⟨63-tz w,oG⟩;rw[hk,B5,BW,EL];exact Nat.mul_mod_right _ _);rw[e,kq _ _ oG]
theorem XO (l:List UInt64)(i:Nat)(h:i<=l.length):Qi l=Qi (l.take i)+18446744073709551616^i*Qi (l.drop i):=by
 conv=>lhs;rw[<-FN i l]
 rw[Xz,BX,DA h]
theorem kp (l:List UInt64)(i:Nat)(h:i<l.length):Qi (l.drop i)=(l.getD i 0).toNat+18446744073709551616*Qi (l.drop (i+1)):=by rw[FC h];simp only[Qi,nW,DX,val];rw[q_a,BB h];rfl
theorem Wi (l:List UInt64)(i:Nat)(h:l.length<=i):Qi (l.drop i)=0:=by rw[E7 h];rfl
theorem Ve (l:List UInt64)(i:Nat):Qi (l.drop i)=(l.getD i 0).toNat+18446744073709551616*Qi (l.drop (i+1)):=by by_cases h:i<l.length;exact kp l i h;rw[Wi _ _ oG,Wi _ _ oG,KW _ _ _ oG];rfl
theorem G2 (l:List UInt64)(i:Nat)(h:i<=l.length):Qi l/18446744073709551616^i=Qi (l.drop i):=by have hl:=Zu (l.take i);rw[BX,DA h] at hl;rw[XO l i h,EX _ _ (DJ (by decide)),CP hl,CU]
theorem w0z (l:List UInt64)(i:Nat)(hi:i<l.length)(hz:Qi (l.take i)=0)(hn:(l.getD i 0).toNat≠0):tz (Qi l)=64*i+tz (l.getD i 0).toNat:=by rw[XO l i oG,hz,CU,kp l i hi,BM,UV,y0a _ _ oG,k1r _ _ oG (BT _)];omega
theorem qJ (w0 w1 r s:Nat)(h0:w0<18446744073709551616)(hs:s<64):(w0+18446744073709551616*(w1+18446744073709551616*r))/2^s % 18446744073709551616=w0/2^s+w1*2^(64-s) % 18446744073709551616:=by
 have e:(18446744073709551616:Nat)=2^s*2^(64-s):=(by rw[<-B2,show s+(64-s)=64 from oG]);have h1:(w0+18446744073709551616*(w1+18446744073709551616*r))/2^s=w0/2^s+2^(64-s)*(w1+18446744073709551616*r):=by
  conv=>lhs;rw[show 18446744073709551616*(w1+18446744073709551616*r)=2^s*(2^(64-s)*(w1+18446744073709551616*r)) from by rw[<-BW,<-e]]
  rw[EX _ _ (CT s)]
 have h2:w0/2^s<2^(64-s):=DE (by rw[<-e];exact h0);have h3:w1*2^(64-s) % 18446744073709551616=2^(64-s)*(w1 % 2^s):=by
  conv=>lhs;rw[BM,e,BM (2^s),Nat.mul_mod_mul_left]
 have h4:2^(64-s)*(w1 % 2^s)+2^(64-s)<=18446744073709551616:=by have h5:w1 % 2^s+1<=2^s:=CG _ (CT s);have:=DP (2^(64-s)) h5;rw[CE,EK] at this;rw[BM (2^(64-s)) (2^s),<-e] at this;exact this
 rw[h1,h3];have h6:w0/2^s+2^(64-s)*(w1+18446744073709551616*r)=(w0/2^s+2^(64-s)*(w1 % 2^s))+18446744073709551616*(w1/2^s+2^(64-s)*r):=by have h7:=D7 w1 (2^s);have h8:2^(64-s)*w1=2^(64-s)*(2^s*(w1/2^s))+2^(64-s)*(w1 % 2^s):=(by rw[<-CE,h7]);rw[<-BW,BM (2^(64-s)) (2^s),<-e] at h8;rw[CE,CE,h8,EL];omega
 rw[h6,D9,BJ oG]
theorem K1t (w0 w1 s:Nat)(h0:w0<18446744073709551616)(hs:s<64):(w0/2^s)|||(w1*2^(64-s) % 18446744073709551616)=w0/2^s+w1*2^(64-s) % 18446744073709551616:=by refine zS _ _ (64-s) (DE ?_) (YW _ _ oG);rw[<-B2,show s+(64-s)=64 from oG];exact h0
def p2 (e:Int):Rat:=(2:Rat)^e
theorem Y1c (e:Int):0<p2 e:=Rat.zpow_pos (by decide)
theorem J0f (a b:Int):p2 (a+b)=p2 a*p2 b:=Rat.zpow_add (by decide) a b
theorem IP :p2 0=1:=Rat.zpow_zero 2
theorem q0l (k:Nat):(((2:Int)^k:Int):Rat)=p2 k:=by
 unfold p2;rw[Rat.zpow_natCast]
 induction k with
 | zero=>rfl
 | succ k ih=>rw[Int.pow_succ,Rat.intCast_mul,ih,Rat.pow_succ];rfl
def qM (s e:Int):Rat:=(s:Rat)*p2 e
def qV (v:Vl):Rat:=qM (Zq v) v.e
def qN (x:Nm):Rat:=qM (Kt x) x.exp
theorem XQ (s:Int)(k:Nat)(e:Int):qM (s*2^k) e=qM s (e+k):=by unfold qM;rw[Rat.intCast_mul,q0l,J0f];grind
theorem vg (s t e:Int):qM (s+t) e=qM s e+qM t e:=by unfold qM;rw[Rat.intCast_add];grind
theorem vf (s t e f:Int):qM (s*t) (e+f)=qM s e*qM t f:=by unfold qM;rw[Rat.intCast_mul,J0f];grind
theorem Zs (e:Int):qM 0 e=0:=by unfold qM;rw[Rat.intCast_zero];grind
theorem YE (s e:Int):qM (-s) e= -qM s e:=by unfold qM;rw[Rat.intCast_neg];grind
theorem qM_le {s t e:Int} :qM s e<=qM t e<->s<=t:=by unfold qM;constructor;intro h;exact Rat.intCast_le_intCast.1 (Rat.le_of_mul_le_mul_right h (Y1c e));intro h;exact D5 (Rat.intCast_le_intCast.2 h) (Rat.le_of_lt (Y1c e))
theorem qM_lt {s t e:Int} :qM s e<qM t e<->s<t:=by rw[<-Rat.not_le,qM_le];omega
theorem qM_eq {s t e:Int} :qM s e=qM t e<->s=t:=by constructor;intro h;have h1:=(qM_le (s:=s) (t:=t) (e:=e)).1 (by rw[h];exact CB);have h2:=(qM_le (s:=t) (t:=s) (e:=e)).1 (by rw[h];exact CB);omega;rintro rfl;rfl
theorem GT (s e g:Int)(h:g<=e):qM s e=qM (s*2^(e-g).toNat) g:=by rw[XQ];congr 1;omega
theorem H1a (s e:Int):qV (mkV s e)=qM s e:=by by_cases h:s=0;subst h;rw[J0q,Zs];exact Zs 0;obtain⟨k,k1,k2,k3⟩:=z0n s e h;unfold qV;rw[k2,<-XQ,k1]
theorem VX (neg:Bool)(m:Nat)(e:Int):qV (XH neg m e)=qM (if neg then -(m:Int) else(m:Int)) e:=by rw[Q0h,H1a]
theorem W1y (x:Nm):qV (ofX x)=qN x:=by rw[v1s,H1a];rfl
theorem QL (x:Nm):qV (ofN x)=qN x:=rfl
theorem UU {v:Vl}(h:v.m=0):qV v=0:=by unfold qV;rw[Hb h,Zs]
theorem Jb (a b:Vl):qV (Jc a b)=qV a+qV b:=by unfold Jc;split;rename_i h;rw[UU h];grind;split;rename_i h;rw[UU h];grind;rw[H1a,vg,<-GT _ _ _ oG,<-GT _ _ _ oG];rfl
theorem Kz (v:Vl):qV (Xa v)= -qV v:=by unfold qV;rw[Hc,Iw,YE]
theorem Kc (a b:Vl):qV (VL a b)=qV a-qV b:=by unfold VL;rw[Jb,Kz];grind
theorem X1s {a b:Vl}(ha:a.m≠0)(hb:b.m≠0):Zq (byV a b)=Zq a*Zq b/\(byV a b).e=a.e+b.e:=by unfold byV;rw[BA oG];refine⟨?_,rfl⟩;unfold Zq;cases a.neg<;>cases b.neg<;>simp[DU,Int.mul_neg]
theorem Wd (a b:Vl):qV (byV a b)=qV a*qV b:=by by_cases ha:a.m=0;rw[UU ha,UU (by unfold byV;rw[BC (.inl ha)])];grind;by_cases hb:b.m=0;rw[UU hb,UU (by unfold byV;rw[BC (.inr hb)])];grind;obtain⟨h1,h2⟩:=X1s ha hb;unfold qV;rw[h1,h2,vf]
theorem H0c (m:Int):sgn m<=0<->m<=0:=by unfold sgn;split<;>(try split)<;>omega
theorem W1u (m:Int):sgn m<0<->m<0:=by unfold sgn;split<;>(try split)<;>omega
theorem Ww (a b:Vl):J7 a b<=0<->qV a<=qV b:=by
 unfold J7;have h:=Kc a b;rw[Yb,H0c];have h2:Zq (VL a b)<=0<->qV (VL a b)<=0:=by rw[<-Zs (VL a b).e];exact qM_le.symm
 rw[h2,h];grind
theorem Wv (a b:Vl):J7 a b<0<->qV a<qV b:=by
 unfold J7;have h:=Kc a b;rw[Yb,W1u];have h2:Zq (VL a b)<0<->qV (VL a b)<0:=by rw[<-Zs (VL a b).e];exact qM_lt.symm
 rw[h2,h];grind
theorem cmpN_le {a b:Nm} :VP a b<=0<->qN a<=qN b:=by rw[<-GX,Ww];rfl
theorem cmpN_lt {a b:Nm} :VP a b<0<->qN a<qN b:=by rw[<-GX,Wv];rfl
theorem cmpN_ge {a b:Nm} :0<=VP a b<->qN b<=qN a:=by have:=cmpN_lt (a:=a) (b:=b);rw[<-Rat.not_lt,<-this];omega
theorem cmpN_gt {a b:Nm} :0<VP a b<->qN b<qN a:=by have:=cmpN_le (a:=a) (b:=b);rw[<-Rat.not_le,<-this];omega
theorem HT (a:Vl):Kb a<0<->qV a<0:=by rw[Yb,W1u,<-Zs a.e];exact qM_lt.symm
theorem y0u (a:Vl):Kb a<=0<->qV a<=0:=by rw[Yb,H0c,<-Zs a.e];exact qM_le.symm
def Xm (v:Vl):Prop:=v.m % 2=1\/v=⟨false,0,0⟩
theorem KQ (neg:Bool)(m:Nat)(e:Int):Xm (XH neg m e):=by unfold XH Xm;split;exact .inr rfl;exact .inl (Kp m (by assumption))
theorem x1m (s e:Int):Xm (mkV s e):=KQ _ _ _
theorem jV (x:Nm):Xm (ofX x):=KQ _ _ _
theorem QR {x:Nm}(h:Qg x=true):Xm (ofN x):=by rw[<-q0s h];exact jV x
theorem XB {a b:Vl}(ha:Xm a)(hb:Xm b):Xm (Jc a b):=by unfold Jc;split;exact hb;split;exact ha;exact x1m _ _
theorem WP {a:Vl}(ha:Xm a):Xm (Xa a):=by rcases ha with h | rfl;exact .inl (by rw[Iv];exact h);exact .inr rfl
theorem G6 {a b:Vl}(ha:Xm a)(hb:Xm b):Xm (VL a b):=XB ha (WP hb)
theorem qU {a b:Vl}(ha:Xm a)(hb:Xm b):Xm (byV a b):=by rcases ha with h | rfl;rcases hb with k | rfl;exact .inl (by unfold byV;rw[BA oG];exact H1s h k);exact .inr (by unfold byV;rw[BC (.inr rfl)]);exact .inr (by unfold byV;rw[BC (.inl rfl)])
theorem QW {v:Vl}(h:Xm v)(p:Nat)(up:Bool):Xm (QX v p up):=by unfold QX;split;exact h;exact KQ _ _ _
theorem VQ {v:Vl}(h:Xm v):okV v:=by rcases h with h | rfl;exact .inl h;exact .inr rfl
theorem yb {v:Vl}(h:Xm v):v=mkV (Zq v) v.e:=by
 rcases h with h | rfl
 . have:XH v.neg v.m v.e=v:=by rw[UY _ _ _ h]
   conv=>lhs;rw[<-this]
   rw[Q0h];rfl
 rw[show Zq ⟨false,0,0⟩=0 from rfl,J0q]
theorem w1a {s e t f:Int}(h:qM s e=qM t f):mkV s e=mkV t f:=by
 have h1:mkV s e=mkV (s*2^(e-min e f).toNat) (min e f):=by rw[z0m];congr 1;omega
 have h2:mkV t f=mkV (t*2^(f-min e f).toNat) (min e f):=by rw[z0m];congr 1;omega
 rw[GT s e (min e f) oG,GT t f (min e f) oG,qM_eq] at h;rw[h1,h2,h]
theorem Im {v w:Vl}(hv:Xm v)(hw:Xm w)(h:qV v=qV w):v=w:=by rw[yb hv,yb hw];exact w1a h
theorem UX {x:Nm}{v:Vl}(hv:Xm v)(h:qN x=qV v):ofX x=v:=Im (jV x) hv (by rw[W1y,h])
theorem Yc (neg:Bool)(m d:Nat)(c:Nat)(e:Int):qM (if neg then -((m/2^d+c:Nat):Int) else((m/2^d+c:Nat):Int)) (e+(d:Int))=qM (if neg then -(((m/2^d+c)*2^d:Nat):Int) else(((m/2^d+c)*2^d:Nat):Int)) e:=by rw[<-XQ];congr 1;cases neg;simp;simp[DU]
theorem Wo (v:Vl)(p:Nat):qV (QX v p false)<=qV v:=by unfold QX;split;exact CB;rw[VX,Yc];unfold qV Zq;rw[qM_le];generalize Qh v.m-p=d;have h1:=D7 v.m (2^d);have h2:=CG v.m (CT d);rw[BM] at h1;rw[BQ];cases v.neg;rw[BA (by simp),BA (by simp),BA (by simp),DC];omega;rw[BC rfl,BC rfl];by_cases h3:v.m % 2^d=0;rw[BA (by simp[h3]),DC];omega;rw[BC ⟨h3,by simp⟩,CY];omega
theorem JP (v:Vl)(p:Nat):qV v<=qV (QX v p true):=by unfold QX;split;exact CB;rw[VX,Yc];unfold qV Zq;rw[qM_le];generalize Qh v.m-p=d;have h1:=D7 v.m (2^d);have h2:=CG v.m (CT d);rw[BM] at h1;rw[BQ];cases v.neg;rw[BA (by simp),BA (by simp)];by_cases h3:v.m % 2^d=0;rw[BA (by simp[h3]),DC];omega;rw[BC ⟨h3,by simp⟩,CY];omega;rw[BC rfl,BC rfl,BA (by simp),DC];omega
theorem ZA {v:Vl}(hv:Xm v)(h:(Kg v).2=0):ofN (Kg v).1=v/\qN (Kg v).1=qV v:=by unfold Kg at h⊢;split;rename_i h0;rcases hv with hv | rfl;omega;exact⟨rfl,rfl⟩;rename_i h0;rw[BA h0] at h;split;rename_i h1;rw[BC h1] at h;cases h;have e:ofN ⟨v.neg,v.e,Qp v.m⟩=v:=(by unfold ofN;rw[QA]);exact⟨e,by rw[<-QL,e]⟩
theorem Yl {x:Nm}(h:Qg x=true):Kg (ofN x)=(x,0):=by unfold Kg ofN;simp only;have h2:=h;unfold Qg at h2;by_cases hw:x.w= [];rw[BC hw] at h2;simp at h2;rw[BC (by rw[hw];rfl)];congr 1;obtain⟨n,e,w⟩:=x;simp at hw h2;obtain⟨rfl,rfl⟩:=h2;subst hw;rfl;rw[BA hw] at h2;simp only[q_i,BN] at h2;rw[BA (by have:=(QJ h);intro e;exact hw (this.1 e)),Q3,GP h,BA oG]
theorem X6 {a b:Rat}(ha:0<=a)(hb:0<=b):0<=a*b:=Rat.mul_nonneg ha hb
theorem x1e {x y u v X U:Rat}(h1:x<=X)(h2:X<=y)(h3:u<=U)(h4:U<=v)(hx:0<=x)(hu:0<=u):x*u<=X*U:=by have a1:=X6 (a:=X-x) (b:=u) (by grind) hu;have a2:=X6 (a:=X) (b:=U-u) (by grind) (by grind);grind
theorem k0u {x y u v X U:Rat}(h1:x<=X)(h2:X<=y)(h3:u<=U)(h4:U<=v)(hx:0<=X)(hu:u<=0):y*u<=X*U:=by have a1:=X6 (a:=y-X) (b:= -u) (by grind) (by grind);have a2:=X6 (a:=X) (b:=U-u) (by grind) (by grind);grind
theorem k0t {x y u v X U:Rat}(h1:x<=X)(h2:X<=y)(h3:u<=U)(h4:U<=v)(hx:x<=0)(hu:0<=U):x*v<=X*U:=by have a1:=X6 (a:= -x) (b:=v-U) (by grind) (by grind);have a2:=X6 (a:=X-x) (b:=U) (by grind) (by grind);grind
theorem x1d {x y u v X U:Rat}(h1:x<=X)(h2:X<=y)(h3:u<=U)(h4:U<=v)(hx:y<=0)(hu:v<=0):y*v<=X*U:=by have a1:=X6 (a:=y-X) (b:= -v) (by grind) (by grind);have a2:=X6 (a:= -X) (b:=v-U) (by grind) (by grind);grind
theorem H1h {a b:Rat}(ha:a<=0)(hb:b<=0):0<=a*b:=by have:=X6 (a:= -a) (b:= -b) (by grind) (by grind);grind
theorem H1i {a b:Rat}(ha:0<=a)(hb:b<=0):a*b<=0:=by have:=X6 (a:=a) (b:= -b) ha (by grind);grind
theorem Z1v {a b:Rat}(ha:a<=0)(hb:0<=b):a*b<=0:=by have:=X6 (a:= -a) (b:=b) (by grind) hb;grind
def J0 (x y u v:Vl):Vl:=
 if 0<=Kb x/\0<=Kb u then byV x u else if 0<=Kb x then byV y u else if 0<=Kb u then byV x v else
 if Kb y<=0/\Kb v<=0 then byV y v else if J7 (byV y u) (byV x v)<0 then byV y u else byV x v
def VZ (x y u v:Vl):Vl:=Xa (J0 (Xa y) (Xa x) u v)
theorem y0v (a:Vl):0<=Kb a<->0<=qV a:=by have:=HT a;rw[<-Rat.not_lt,<-this];omega
theorem Vu {x y u v:Vl}(hx:qV x<=qV y)(hu:qV u<=qV v){X U:Rat}(h1:qV x<=X)(h2:X<=qV y)(h3:qV u<=U)(h4:U<=qV v):qV (J0 x y u v)<=X*U:=by
 unfold J0;simp only[y0v,y0u,Wv,Wd];split;rename_i h;rw[Wd];exact x1e h1 h2 h3 h4 h.1 h.2;rename_i n1;split;rename_i h;rw[Wd];exact k0u h1 h2 h3 h4 (by grind) (by grind);rename_i n2;split;rename_i h;rw[Wd];exact k0t h1 h2 h3 h4 (by grind) (by grind);rename_i n3;split;rename_i h;rw[Wd];exact x1d h1 h2 h3 h4 h.1 h.2;rename_i n4;have key:qV y*qV u<=X*U\/qV x*qV v<=X*U:=by by_cases hX:0<=X;exact .inl (k0u h1 h2 h3 h4 hX (by grind));by_cases hU:0<=U;exact .inr (k0t h1 h2 h3 h4 (by grind) hU);have p:=H1h (a:=X) (b:=U) (by grind) (by grind);by_cases hy:0<=qV y;have:=H1i (a:=qV y) (b:=qV u) hy (by grind);exact .inl (by grind);have:=Z1v (a:=qV x) (b:=qV v) (by grind) (by grind);exact .inr (by grind)
 split;rename_i h;rw[Wd];grind;rename_i h;rw[Wd];grind
theorem Yr (x y u v:Vl):J0 x y u v=byV x u\/J0 x y u v=byV x v\/J0 x y u v=byV y u\/J0 x y u v=byV y v:=by
 unfold J0
 repeat' split
 all_goals simp
theorem W5 {x y u v:Vl}(hx:qV x<=qV y)(hu:qV u<=qV v){X U:Rat}(h1:qV x<=X)(h2:X<=qV y)(h3:qV u<=U)(h4:U<=qV v):X*U<=qV (VZ x y u v):=by unfold VZ;have:=Vu (x:=Xa y) (y:=Xa x) (u:=u) (v:=v) (X:= -X) (U:=U) (by rw[Kz,Kz];grind) hu (by rw[Kz];grind) (by rw[Kz];grind) h3 h4;rw[Kz];grind
theorem xj (x y u v:Vl):qV (VZ x y u v)=qV x*qV u\/qV (VZ x y u v)=qV x*qV v\/qV (VZ x y u v)=qV y*qV u\/qV (VZ x y u v)=qV y*qV v:=by
 unfold VZ;rw[Kz];rcases Yr (Xa y) (Xa x) u v with h | h | h | h
 all_goals rw[h,Wd,Kz];grind
theorem Hw {x y u v:Vl}(hx:Xm x)(hy:Xm y)(hu:Xm u)(hv:Xm v):Xm (J0 x y u v):=by
 rcases Yr x y u v with h | h | h | h
 all_goals rw[h];exact qU (by assumption) (by assumption)
theorem xy {x y u v:Vl}(hx:Xm x)(hy:Xm y)(hu:Xm u)(hv:Xm v):Xm (VZ x y u v):=WP (Hw (WP hy) (WP hx) hu hv)
def exV (k:Nat)(a b:Vl):Vl:=if k=0 then Jc a b else if k=1 then VL a b else byV a b
def exQ (k:Nat)(a b:Rat):Rat:=if k=0 then a+b else if k=1 then a-b else a*b
theorem Y0p (a b:Rat):exQ 0 a b=a+b:=by simp[exQ]
theorem Q0z (a b:Rat):exQ 1 a b=a-b:=by simp[exQ]
theorem j0q (a b:Rat):exQ 2 a b=a*b:=by simp[exQ]
theorem YS (k:Nat)(a b:Vl):qV (exV k a b)=exQ k (qV a) (qV b):=by unfold exV exQ;split;exact Jb a b;split;exact Kc a b;exact Wd a b
theorem WR (k:Nat){a b:Vl}(ha:Xm a)(hb:Xm b):Xm (exV k a b):=by unfold exV;split;exact XB ha hb;split;exact G6 ha hb;exact qU ha hb
def Q4 (p:Int):Bool:=decide (8<=p)&&decide (p<=256)
def Qv (k:Nat)(a b:Nm)(p:Int)(up:Bool):Nm×Int:=if Qg a=true/\Qg b=true/\Q4 p=true then Kg (QX (exV k (ofN a) (ofN b)) p.toNat up) else(default,1)
def V0s (k:Nat)(a b:Nm):Nm×Int:=if Qg a=true/\Qg b=true then Kg (exV k (ofN a) (ofN b)) else(default,1)
def JN (x:Nm)(k:Int):Nm×Int:=if Qg x=true then(if x.w= [] then(x,0) else if k< -131072\/131072<k then(default,2) else Kg ⟨x.neg,Qi x.w,x.exp+k⟩) else(default,1)
def WD (lo hi:Vl):Ivl×Int:=if (Kg lo).2=0/\(Kg hi).2=0 then(⟨(Kg lo).1,(Kg hi).1⟩,0) else(default,2)
def loV (k:Nat)(x y u v:Vl):Vl:=if k=0 then Jc x u else if k=1 then VL x v else J0 x y u v
def hiV (k:Nat)(x y u v:Vl):Vl:=if k=0 then Jc y v else if k=1 then VL y u else VZ x y u v
def opI (k:Nat)(a b:Ivl)(p:Int):Ivl×Int:=
 if Qs a=true/\Qs b=true/\Q4 p=true then WD (QX (loV k (ofN a.lo) (ofN a.hi) (ofN b.lo) (ofN b.hi)) p.toNat false) (QX (hiV k (ofN a.lo) (ofN a.hi) (ofN b.lo) (ofN b.hi)) p.toNat true) else(default,1)
theorem G2w (x y u v:Vl):loV 0 x y u v=Jc x u:=by simp[loV]
theorem H2b (x y u v:Vl):hiV 0 x y u v=Jc y v:=by simp[hiV]
theorem G2v (x y u v:Vl):loV 1 x y u v=VL x v:=by simp[loV]
theorem H2a (x y u v:Vl):hiV 1 x y u v=VL y u:=by simp[hiV]
theorem Y1l (k:Nat){x y u v:Vl}(hx:qV x<=qV y)(hu:qV u<=qV v){X U:Rat}(h1:qV x<=X)(h2:X<=qV y)(h3:qV u<=U)(h4:U<=qV v):qV (loV k x y u v)<=exQ k X U:=by unfold loV exQ;split;rw[Jb];grind;split;rw[Kc];grind;exact Vu hx hu h1 h2 h3 h4
theorem Y1n (k:Nat){x y u v:Vl}(hx:qV x<=qV y)(hu:qV u<=qV v){X U:Rat}(h1:qV x<=X)(h2:X<=qV y)(h3:qV u<=U)(h4:U<=qV v):exQ k X U<=qV (hiV k x y u v):=by unfold hiV exQ;split;rw[Jb];grind;split;rw[Kc];grind;exact W5 hx hu h1 h2 h3 h4
theorem VR (k:Nat){x y u v:Vl}(hx:Xm x)(hy:Xm y)(hu:Xm u)(hv:Xm v):Xm (loV k x y u v):=by unfold loV;split;exact XB hx hu;split;exact G6 hx hv;exact Hw hx hy hu hv
theorem VS (k:Nat){x y u v:Vl}(hx:Xm x)(hy:Xm y)(hu:Xm u)(hv:Xm v):Xm (hiV k x y u v):=by unfold hiV;split;exact XB hy hv;split;exact G6 hy hu;exact xy hx hy hu hv
theorem Vm {x:Ivl}(h:Qs x=true):qV (ofN x.lo)<=qV (ofN x.hi):=cmpN_le.1 (Q1 h).2.2
theorem Ut {lo hi:Vl}(h1:Xm lo)(h2:Xm hi)(h:qV lo<=qV hi):Qs (WD lo hi).1=true:=by unfold WD;split;rename_i hh;exact Wr (ZG (VQ h1)) (ZG (VQ h2)) (cmpN_le.2 (by rw[(ZA h1 hh.1).2,(ZA h2 hh.2).2];exact h));decide
theorem X1z (k:Nat){a b:Ivl}(ha:Qs a=true)(hb:Qs b=true)(p:Nat):
 qV (QX (loV k (ofN a.lo) (ofN a.hi) (ofN b.lo) (ofN b.hi)) p false)<=qV (QX (hiV k (ofN a.lo) (ofN a.hi) (ofN b.lo) (ofN b.hi)) p true):=by
 have h1:=Wo (loV k (ofN a.lo) (ofN a.hi) (ofN b.lo) (ofN b.hi)) p;have h2:=JP (hiV k (ofN a.lo) (ofN a.hi) (ofN b.lo) (ofN b.hi)) p;have h3:=Y1l k (Vm ha) (Vm hb) CB (Vm ha) CB (Vm hb);have h4:=Y1n k (Vm ha) (Vm hb) CB (Vm ha) CB (Vm hb);grind
theorem Hx {x:Ivl}(h:Qs x=true):Xm (ofN x.lo)/\Xm (ofN x.hi):=⟨QR (Q1 h).1,QR (Q1 h).2.1⟩
theorem JT (k:Nat)(a b:Ivl)(p:Int):Qs (opI k a b p).1=true:=by unfold opI;split;rename_i h;have ca:=Hx h.1;have cb:=Hx h.2.1;exact Ut (QW (VR k ca.1 ca.2 cb.1 cb.2) _ _) (QW (VS k ca.1 ca.2 cb.1 cb.2) _ _) (X1z k h.1 h.2.1 _);decide
def XD (X:Rat)(a:Ivl):Prop:=qN a.lo<=X/\X<=qN a.hi
theorem IT (k:Nat){a b:Ivl}{p:Int}(h:(opI k a b p).2=0){X U:Rat}(hX:XD X a)(hU:XD U b):XD (exQ k X U) (opI k a b p).1:=by unfold opI at h⊢;split;rename_i hr;rw[BC hr] at h;have ca:=Hx hr.1;have cb:=Hx hr.2.1;unfold WD at h⊢;split;rename_i hh;have h1:=(ZA (QW (VR k ca.1 ca.2 cb.1 cb.2) _ _) hh.1).2;have h2:=(ZA (QW (VS k ca.1 ca.2 cb.1 cb.2) _ _) hh.2).2;have h3:=Y1l k (Vm hr.1) (Vm hr.2.1) hX.1 hX.2 hU.1 hU.2;have h4:=Y1n k (Vm hr.1) (Vm hr.2.1) hX.1 hX.2 hU.1 hU.2;have h5:=Wo (loV k (ofN a.lo) (ofN a.hi) (ofN b.lo) (ofN b.hi)) p.toNat;have h6:=JP (hiV k (ofN a.lo) (ofN a.hi) (ofN b.lo) (ofN b.hi)) p.toNat;exact⟨by rw[h1];grind,by rw[h2];grind⟩;rename_i hh;rw[BA hh] at h;cases h;rename_i hr;rw[BA hr] at h;cases h
def bd (n k:Nat)(x:Nm):Prop:=x.w.length<=n/\ -(k:Int)<=x.exp/\x.exp<=k
theorem bd.mono {n k n' k':Nat}{x:Nm}(h:bd n k x)(h1:n<=n')(h2:k<=k'):bd n' k' x:=⟨by have:=h.1;omega,by have:=h.2.1;omega,by have:=h.2.2;omega⟩
theorem Zc {x:Nm}(h:Qg x=true):bd 64 65536 x:=by unfold Qg at h;by_cases hw:x.w= [];rw[BC hw] at h;simp at h;exact⟨by rw[hw];simp,by rw[h.2];omega,by rw[h.2];omega⟩;rw[BA hw] at h;simp only[q_i,BN] at h;exact⟨h.1.1.1.2,h.1.2,h.2⟩
theorem v1f (x:Nm):qN { x with neg:= !x.neg } = -qN x:=by unfold qN Kt;rw[<-YE];congr 1;cases x.neg<;>simp
theorem Q1p (neg:Bool)(e:Int)(m:Nat):qN ⟨neg,e,Qp m⟩=qM (if neg then -(m:Int) else(m:Int)) e:=by unfold qN Kt;rw[QA]
theorem H1b (b:Nm)(e:Int)(d:Nat)(h:b.exp=e+d):qN b=qM (if b.neg then -((Qi b.w*2^d:Nat):Int) else((Qi b.w*2^d:Nat):Int)) e:=by unfold qN;rw[h,<-XQ];congr 1;unfold Kt;cases b.neg;simp;simp[DU]
theorem z1f (a b:Nm)(d:Nat)(h:b.exp=a.exp+d)(hn:a.neg=b.neg):qN ⟨a.neg,a.exp,Qp (Qi a.w+Qi b.w*2^d)⟩=qN a+qN b:=by rw[Q1p,H1b b a.exp d h,show qN a=qM (Kt a) a.exp from rfl,<-vg];congr 1;unfold Kt;rw[<-hn];cases a.neg<;>simp<;>omega
theorem K1h (a b:Nm)(d:Nat)(h:b.exp=a.exp+d)(hn:a.neg≠b.neg)(hle:Qi b.w*2^d<=Qi a.w):qN ⟨a.neg,a.exp,Qp (Qi a.w-Qi b.w*2^d)⟩=qN a+qN b:=by
 rw[Q1p,H1b b a.exp d h,show qN a=qM (Kt a) a.exp from rfl,<-vg];congr 1;unfold Kt;generalize Qi b.w*2^d=x at*
 cases ha:a.neg<;>cases hb:b.neg<;>simp[ha,hb] at hn⊢ <;>omega
theorem K1g (a b:Nm)(d:Nat)(h:b.exp=a.exp+d)(hn:a.neg≠b.neg)(hle:Qi a.w<=Qi b.w*2^d):qN ⟨b.neg,a.exp,Qp (Qi b.w*2^d-Qi a.w)⟩=qN a+qN b:=by
 rw[Q1p,H1b b a.exp d h,show qN a=qM (Kt a) a.exp from rfl,<-vg];congr 1;unfold Kt;generalize Qi b.w*2^d=x at*
 cases ha:a.neg<;>cases hb:b.neg<;>simp[ha,hb] at hn⊢ <;>omega
theorem kB {x:Nm}(h:Va x=0):qN x=0:=by
 have:Kt x=0:=by rw[GN] at h;unfold sgn at h;split at h;assumption;split at h<;>omega
 unfold qN;rw[this,Zs]
theorem w1v (a b:Nm)(n k d:Nat)(ha:bd n k a)(hb:bd n k b)(hd:d<=2*k):(Qp (Qi a.w+Qi b.w*2^d)).length<=n+k+1:=by
 refine Zf ?_;have h1:=Zu a.w;have h2:=Zu b.w;have hp: ∀l:Nat,l<=n->18446744073709551616^l<=2^(64*n):=fun l hl=>(by rw[UV];exact BS (by decide) oG);have h3:Qi a.w<2^(64*n+d):=q_e h1 (B7 (hp _ ha.1) (BS (by decide) oG));have h4:Qi b.w*2^d<2^(64*n+d):=by rw[B2];exact C5 (q_e h2 (hp _ hb.1)) (CT d)
 have h5:18446744073709551616^(n+k+1)=2^(64*(n+k+1)):=UV _;have h6:2^(64*n+d+1)<=2^(64*(n+k+1)):=BS (by decide) oG;have h7:2^(64*n+d+1)=2^(64*n+d)*2:=B5 ..;rw[h5];omega
theorem j0p (a b:Nm)(n k d m:Nat)(ha:bd n k a)(hb:bd n k b)(hd:d<=2*k)(hm:m<=Qi a.w+Qi b.w*2^d):(Qp m).length<=n+k+1:=B7 (Ji hm) (w1v a b n k d ha hb hd)
theorem v1g (a b:Nm):qN ⟨a.neg !=b.neg,a.exp+b.exp,Qp (Qi a.w*Qi b.w)⟩=qN a*qN b:=by rw[Q1p];show _=qM (Kt a) a.exp*qM (Kt b) b.exp;rw[<-vf];congr 1;unfold Kt;cases a.neg<;>cases b.neg<;>simp[DU,Int.mul_neg]
theorem q1o (a b:Nm)(n k m l:Nat)(ha:bd n k a)(hb:bd m l b):bd (n+m) (k+l) ⟨a.neg !=b.neg,a.exp+b.exp,Qp (Qi a.w*Qi b.w)⟩:=by refine⟨Zf ?_,?_,?_⟩;have h1:=Zu a.w;have h2:=Zu b.w;refine q_e (Nat.mul_lt_mul'' h1 h2) ?_;rw[<-B2];exact BS (by decide) (by have:=ha.1;have:=hb.1;omega);have:=ha.2.1;have:=hb.2.1;simp only;omega;have:=ha.2.2;have:=hb.2.2;simp only;omega
theorem xF (m:Nat)(h:m≠0):((Qp m).getD 0 0).toNat % 2=m % 2:=by rw[<-U8,QA]
theorem kN (neg:Bool)(m:Nat)(e:Int)(h:m % 2=1):Qg ⟨neg,e,Qp m⟩=(decide ((Qp m).length<=64)&&decide (-65536<=e)&&decide (e<=65536)):=by
 have hw:Qp m≠ []:=fun e=>by rw[wordsOf_nil] at e;omega
 have h1:((Qp m).getD 0 0).toNat % 2=1:=by rw[xF m oG];exact h
 unfold Qg;rw[BA hw,Ka];simp only[h1,decide_true,FE,Bool.and_true]
def mkX (neg:Bool)(w:List UInt64)(e:Int):Nm×Int:=Kg (XH neg (Qi w) e)
theorem X1f {neg:Bool}{w:List UInt64}{e:Int}(h:Qi w=0):mkX neg w e=(default,0):=by unfold mkX;rw[h,K0];rfl
theorem z0l {neg:Bool}{w:List UInt64}{e:Int}(h:Qi w≠0)(h2:65536<e\/e< -65536-((tz (Qi w):Nat):Int)):mkX neg w e=(default,2):=by unfold mkX XH;rw[BA h];have h1:Qi w/2^tz (Qi w)≠0:=(by have:=Kp (Qi w) h;omega);unfold Kg;rw[BA h1,BC (by simp only;omega)]
theorem X1g {neg:Bool}{w:List UInt64}{e:Int}(h:Qi w≠0):mkX neg w e=if Qg ⟨neg,e+((tz (Qi w):Nat):Int),Qp (Qi w/2^tz (Qi w))⟩=true then(⟨neg,e+((tz (Qi w):Nat):Int),Qp (Qi w/2^tz (Qi w))⟩,0) else(default,2):=by have h0:=Kp (Qi w) h;rw[kN _ _ _ h0];unfold mkX XH;rw[BA h];unfold Kg;rw[BA (by simp only;omega)];simp only;by_cases hc:64<(Qp (Qi w/2^tz (Qi w))).length\/e+((tz (Qi w):Nat):Int)< -65536\/65536<e+((tz (Qi w):Nat):Int);rw[BC hc,BA];simp only[q_i,BN];omega;rw[BA hc,BC];simp only[q_i,BN];omega
theorem Q0g (x:Nm):mkX x.neg x.w x.exp=Kg (ofX x):=rfl
def W0f (x:Nm)(p:Nat)(up:Bool):Nm:=
 if Zd x.w<=p then x else⟨x.neg,x.exp+((Zd x.w-p:Nat):Int),Qp (Qi x.w/2^(Zd x.w-p)+(if tz (Qi x.w)<Zd x.w-p/\up≠x.neg then 1 else 0))⟩
theorem X0s (x:Nm)(p:Nat)(up:Bool)(hp:0<p):ofX (W0f x p up)=QX (ofX x) p up:=by unfold W0f;show _=QX (XH x.neg (Qi x.w) x.exp) p up;rw[W0e _ _ _ _ _ hp];unfold Zd;split;rfl;unfold ofX;rw[QA]
theorem H0i (x:Nm)(p:Nat)(up:Bool)(n k:Nat)(h:bd n k x):bd (n+1) (k+64*n) (W0f x p up):=by have hb:=XX x.w;have hl:=h.1;unfold W0f;split;exact h.mono oG oG;refine⟨?_,?_,?_⟩;refine Zf ?_;have h1:=Zu x.w;have h2:Qi x.w/2^(Zd x.w-p)<=Qi x.w:=DB _ _;have h3:18446744073709551616^x.w.length<=18446744073709551616^n:=BS (by decide) hl;have h4:18446744073709551616^(n+1)=18446744073709551616^n*18446744073709551616:=B5 ..;split<;>omega;have:=h.2.1;simp only;omega;have:=h.2.2;simp only;omega
def qm (a:Ivl)(x:Nm):Bool:=Qs a&&Qg x&&decide (VP a.lo x<=0)&&decide (VP x a.hi<=0)
def z0u (lo hi:Nm):Ivl×Int:=if Qs ⟨lo,hi⟩=true then(⟨lo,hi⟩,0) else(default,1)
def vJ (v:Vl):Vl:=if v.m=0 then v else { v with e:=v.e-1 }
def vC (a:Ivl)(p:Nat):Vl:=QX (vJ (Jc (ofN a.lo) (ofN a.hi))) p false
def Ki (a:Ivl)(p:Int):Nm×Int:=if Qs a=true/\Q4 p=true then(if J7 (vC a p.toNat) (ofN a.lo)<0 then(a.lo,0) else Kg (vC a p.toNat)) else(default,1)
theorem v1n :p2 1=2:=by have:=q0l 1;rw[<-show((1:Nat):Int)=1 from rfl,<-this];rfl
theorem yL (s e:Int):qM s (e-1)*2=qM s e:=by unfold qM;have h:=J0f (e-1) 1;rw[show e-1+1=e from oG,v1n] at h;rw[h];grind
theorem yJ (v:Vl):qV (vJ v)*2=qV v:=by unfold vJ;split;rename_i h;rw[UU h];grind;exact yL (Zq v) v.e
theorem WQ {v:Vl}(h:Xm v):Xm (vJ v):=by unfold vJ;split;exact h;rename_i h0;rcases h with h | rfl;exact .inl h;exact absurd rfl h0
theorem H1c (x:Nm):qN { x with exp:=x.exp-1 } *2=qN x:=yL (Kt x) x.exp
theorem G0d {a b:Rat}(h:a*2=b*2):a=b:=by grind
theorem Z1g {x:Nm}{v:Vl}(hv:Xm v)(h:qN x=qV v):ofX { x with exp:=x.exp-1 } =vJ v:=by refine UX (WQ hv) (G0d ?_);rw[H1c,yJ,h]
theorem kP {x y:Nm}(hx:Qg x=true)(hy:Qg y=true)(h:qN x=qN y):x=y:=by have h1:=Im (QR hx) (QR hy) (by rw[QL,QL,h]);have h2:=Yl hx;rw[h1,Yl hy] at h2;exact(B4 Prod.fst h2).symm
theorem v9 {a:Ivl}{p:Nat}{y:Nm}(hr:Qs a=true)(h:ofX y=vC a p):Kg (ofX (Z4 a.lo y))=if J7 (vC a p) (ofN a.lo)<0 then(a.lo,0) else Kg (vC a p):=by
 have hlo:=(Q1 hr).1;have hq:qN y=qV (vC a p):=(by rw[<-h,W1y]);unfold Z4;by_cases c:VP y a.lo>0;rw[BC c,h,BA];intro hh;have h1:=(Wv _ _).1 hh;have h2:=cmpN_gt.1 c;rw[QL,<-hq] at h1;grind;rw[BA c,q0s hlo,Yl hlo];by_cases d:J7 (vC a p) (ofN a.lo)<0;rw[BC d];rw[BA d];have h1: ¬qV (vC a p)<qV (ofN a.lo):=fun e=>d ((Wv _ _).2 e);have h2: ¬qN a.lo<qN y:=fun e=>c (cmpN_gt.2 e);have h3:qV (vC a p)=qV (ofN a.lo):=(by rw[QL] at h1⊢;rw[<-hq] at h1⊢;grind);have h4:vC a p=ofN a.lo:=by rw[<-h];exact Im (jV y) (QR hlo) (by rw[h,h3])
 rw[h4,Yl hlo]
theorem H0x (a b:Nm):qN (ZP a b)<=qN a/\qN (ZP a b)<=qN b/\(qN (ZP a b)=qN a\/qN (ZP a b)=qN b):=by have h1:=cmpN_le.1 (Y0b a b);have h2:=cmpN_le.1 (Y0a a b);refine⟨h1,h2,?_⟩;unfold ZP;split;exact .inr rfl;exact .inl rfl
theorem J0b (a b:Nm):qN a<=qN (Z4 a b)/\qN b<=qN (Z4 a b)/\(qN (Z4 a b)=qN a\/qN (Z4 a b)=qN b):=by have h1:=cmpN_le.1 (Y0j a b);have h2:=cmpN_le.1 (Y0i a b);refine⟨h1,h2,?_⟩;unfold Z4;split;exact .inr rfl;exact .inl rfl
theorem Y0l {a b:Ivl}(ha:Qs a=true)(hb:Qs b=true){p1 p2 p3 p4:Nm}(h1:qN p1=qN a.lo*qN b.lo)(h2:qN p2=qN a.lo*qN b.hi)(h3:qN p3=qN a.hi*qN b.lo)(h4:qN p4=qN a.hi*qN b.hi):
 ofX (ZP (ZP (ZP p1 p2) p3) p4)=loV 2 (ofN a.lo) (ofN a.hi) (ofN b.lo) (ofN b.hi):=by
 have ca:=Hx ha;have cb:=Hx hb;have la:=Vm ha;have lb:=Vm hb;show _=J0 (ofN a.lo) (ofN a.hi) (ofN b.lo) (ofN b.hi);refine UX (Hw ca.1 ca.2 cb.1 cb.2) ?_;have r1:=Vu la lb CB la CB lb;have r2:=Vu la lb CB la lb CB;have r3:=Vu la lb la CB CB lb;have r4:=Vu la lb la CB lb CB;have rr: ∀v w:Vl,J0 (ofN a.lo) (ofN a.hi) (ofN b.lo) (ofN b.hi)=byV v w->qV (J0 (ofN a.lo) (ofN a.hi) (ofN b.lo) (ofN b.hi))=qV v*qV w:=fun v w e=>(by rw[e,Wd]);have r5:qV (J0 (ofN a.lo) (ofN a.hi) (ofN b.lo) (ofN b.hi))=qV (ofN a.lo)*qV (ofN b.lo)\/qV (J0 (ofN a.lo) (ofN a.hi) (ofN b.lo) (ofN b.hi))=qV (ofN a.lo)*qV (ofN b.hi)\/qV (J0 (ofN a.lo) (ofN a.hi) (ofN b.lo) (ofN b.hi))=qV (ofN a.hi)*qV (ofN b.lo)\/qV (J0 (ofN a.lo) (ofN a.hi) (ofN b.lo) (ofN b.hi))=qV (ofN a.hi)*qV (ofN b.hi):=by rcases Yr (ofN a.lo) (ofN a.hi) (ofN b.lo) (ofN b.hi) with e | e | e | e;exact .inl (rr _ _ e);exact .inr (.inl (rr _ _ e));exact .inr (.inr (.inl (rr _ _ e)));exact .inr (.inr (.inr (rr _ _ e)))
 generalize qV (J0 (ofN a.lo) (ofN a.hi) (ofN b.lo) (ofN b.hi))=V at*
 simp only[QL] at*
 rw[<-h1] at r1 r5;rw[<-h2] at r2 r5;rw[<-h3] at r3 r5;rw[<-h4] at r4 r5;obtain⟨s1,s2,s3⟩:=H0x p1 p2;obtain⟨t1,t2,t3⟩:=H0x (ZP p1 p2) p3;obtain⟨u1,u2,u3⟩:=H0x (ZP (ZP p1 p2) p3) p4;clear h1 h2 h3 h4 la lb rr;grind
theorem jI {a b:Ivl}(ha:Qs a=true)(hb:Qs b=true){p1 p2 p3 p4:Nm}(h1:qN p1=qN a.lo*qN b.lo)(h2:qN p2=qN a.lo*qN b.hi)(h3:qN p3=qN a.hi*qN b.lo)(h4:qN p4=qN a.hi*qN b.hi):
 ofX (Z4 (Z4 (Z4 p1 p2) p3) p4)=hiV 2 (ofN a.lo) (ofN a.hi) (ofN b.lo) (ofN b.hi):=by
 have ca:=Hx ha;have cb:=Hx hb;have la:=Vm ha;have lb:=Vm hb;show _=VZ (ofN a.lo) (ofN a.hi) (ofN b.lo) (ofN b.hi);refine UX (xy ca.1 ca.2 cb.1 cb.2) ?_;have r1:=W5 la lb CB la CB lb;have r2:=W5 la lb CB la lb CB;have r3:=W5 la lb la CB CB lb;have r4:=W5 la lb la CB lb CB;have r5:=xj (ofN a.lo) (ofN a.hi) (ofN b.lo) (ofN b.hi);generalize qV (VZ (ofN a.lo) (ofN a.hi) (ofN b.lo) (ofN b.hi))=V at*
 simp only[QL] at*
 rw[<-h1] at r1 r5;rw[<-h2] at r2 r5;rw[<-h3] at r3 r5;rw[<-h4] at r4 r5;obtain⟨s1,s2,s3⟩:=J0b p1 p2;obtain⟨t1,t2,t3⟩:=J0b (Z4 p1 p2) p3;obtain⟨u1,u2,u3⟩:=J0b (Z4 (Z4 p1 p2) p3) p4;clear h1 h2 h3 h4 la lb;grind
def opB (k:Nat)(a b:List Ivl)(p:Int):List Ivl×Int:=if rightB a=true/\rightB b=true/\a.length=b.length/\Q4 p=true then Jr (fun i x=>opI k x (b.getD i default) p) 0 a [] else([],1)
def YA (x:Ivl)(b:List Ivl)(p:Int):List Ivl×Int:=if rightB b=true/\Qs x=true/\Q4 p=true then Jr (fun _ y=>opI 2 x y p) 0 b [] else([],1)
def Xc (b:List Ivl)(p:Int):List Nm×Int:=if rightB b=true/\Q4 p=true then Jr (fun _ a=>Ki a p) 0 b [] else([],1)
def ofB (q:List Nm):List Ivl:=q.map fun x=>⟨x,x⟩
theorem qI {α β:Type}[Inhabited α](F:Nat->α->β×Int)(l:List α)(h:0<l.length)(e:Int)(he:e≠0)(hf: ∀i x,(F i x).2=e):Jr F 0 l []=([],e):=by
 cases l with
 | nil=>simp at h
 | cons x l=>
  rw[Jr,BC (by rw[hf];exact he),hf]
theorem H1m {k:Nat}{a b:Ivl}{p:Int}(h:Q4 p=false):opI k a b p=(default,1):=by rw[opI,BA (fun hh=>by simp[h] at hh)]
theorem X1j {a:Ivl}{p:Int}(h:Q4 p=false):Ki a p=(default,1):=by rw[Ki,BA (fun hh=>by simp[h] at hh)]
theorem Jm (a:Ivl)(p:Int):Qg (Ki a p).1=true:=by unfold Ki;split;rename_i h;split;exact(Q1 h.1).1;have c:=Hx h.1;exact ZG (VQ (QW (WQ (XB c.1 c.2)) _ _));exact Zt
theorem kD (x:Nm)(k:Int):Qg (JN x k).1=true:=by unfold JN;split;rename_i h;split;exact h;split;exact Zt;refine ZG ?_;have h1:=Q0a h;rcases h1 with h1 | h1;exact .inl h1;exact .inr h1;exact Zt
theorem QB (k:Nat)(a b:Nm)(p:Int)(up:Bool):Qg (Qv k a b p up).1=true:=by unfold Qv;split;rename_i h;exact ZG (VQ (QW (WR k (QR h.1) (QR h.2.1)) _ _));exact Zt
theorem q0z (v:Vl):(Kg v).2=0\/(Kg v).2=2:=by unfold Kg;split;exact .inl rfl;split;exact .inr rfl;exact .inl rfl
theorem HV {k:Nat}{a b:Nm}{p:Int}{up:Bool}(ha:Qg a=true)(hb:Qg b=true)(hp:Q4 p=true):(Qv k a b p up).2=0\/(Qv k a b p up).2=2:=by rw[Qv,BC ⟨ha,hb,hp⟩];exact q0z _
theorem YX {a:Ivl}{p:Int}(h:(Ki a p).2=0):Qs a=true/\Qg (Ki a p).1=true/\qN a.lo<=qN (Ki a p).1/\qN (Ki a p).1<=qN a.hi:=by have hr:=Jm a p;unfold Ki at h hr⊢;split;rename_i hh;rw[BC hh] at h hr;have hq:=Vm hh.1;rw[QL,QL] at hq;refine⟨hh.1,hr,?_⟩;have c:=Hx hh.1;split;exact⟨CB,hq⟩;rename_i h2;rw[BA h2] at h;have h3:=(ZA (QW (WQ (XB c.1 c.2)) _ _) h).2;have h4: ¬qV (vC a p.toNat)<qV (ofN a.lo):=fun e=>h2 ((Wv _ _).2 e);have h5:=Wo (vJ (Jc (ofN a.lo) (ofN a.hi))) p.toNat;have h6:=yJ (Jc (ofN a.lo) (ofN a.hi));rw[Jb,QL,QL] at h6;rw[QL] at h4;unfold vC at h4⊢;rw[h3];exact⟨by grind,by grind⟩;rename_i hh;rw[BA hh] at h;cases h
def bdV (n k:Nat)(v:Vl):Prop:=Qh v.m<=n/\ -(k:Int)<=v.e/\v.e<=k
theorem bdV.mono {n k n' k':Nat}{v:Vl}(h:bdV n k v)(h1:n<=n')(h2:k<=k'):bdV n' k' v:=⟨by have:=h.1;omega,by have:=h.2.1;omega,by have:=h.2.2;omega⟩
theorem Uz {x:Nm}(h:Qg x=true):bdV 4096 65536 (ofN x):=by have hb:=Zc h;have h1:=XX x.w;exact⟨by show Qh (Qi x.w)<=_;unfold Zd at h1;have:=hb.1;omega,hb.2.1,hb.2.2⟩
theorem Z0t {neg:Bool}{m:Nat}{e:Int}{n k:Nat}(h1:Qh m<=n)(h2: -(k:Int)<=e)(h3:e<=k):bdV n (k+n) (XH neg m e):=by unfold XH;split;exact⟨by rw[Zv];omega,by simp only;omega,by simp only;omega⟩;have ht:=Wk m;have hl:=Jh (DB m (2^tz m));exact⟨by simp only;omega,by simp only;omega,by simp only;omega⟩
theorem K0s {a b:Vl}{n k:Nat}(ha:bdV n k a)(hb:bdV n k b):bdV (n+2*k+1) (n+3*k+1) (Jc a b):=by
 unfold Jc;split;exact hb.mono oG oG;split;exact ha.mono oG oG;have h1:=XI a.m (a.e-min a.e b.e).toNat;have h2:=XI b.m (b.e-min a.e b.e).toNat;have h3:=G8 (a.m*2^(a.e-min a.e b.e).toNat) (b.m*2^(b.e-min a.e b.e).toNat);obtain⟨a1,a2,a3⟩:=ha;obtain⟨b1,b2,b3⟩:=hb;have hk1:(a.e-min a.e b.e).toNat<=2*k:=oG;have hk2:(b.e-min a.e b.e).toNat<=2*k:=oG;have hm:(Zq a*2^(a.e-min a.e b.e).toNat+Zq b*2^(b.e-min a.e b.e).toNat).natAbs<=a.m*2^(a.e-min a.e b.e).toNat+b.m*2^(b.e-min a.e b.e).toNat:=by
  have e1: ∀(v:Vl) (j:Nat),(Zq v*2^j).natAbs=v.m*2^j:=fun v j=>by rw[Int.natAbs_mul,Int.natAbs_pow];congr 1;unfold Zq;cases v.neg<;>simp
  have:=Int.natAbs_add_le (Zq a*2^(a.e-min a.e b.e).toNat) (Zq b*2^(b.e-min a.e b.e).toNat);rw[e1,e1] at this;exact this
 have h4:=Jh hm;have:=Z0t (neg:=decide (Zq a*2^(a.e-min a.e b.e).toNat+Zq b*2^(b.e-min a.e b.e).toNat<0)) (m:=(Zq a*2^(a.e-min a.e b.e).toNat+Zq b*2^(b.e-min a.e b.e).toNat).natAbs) (e:=min a.e b.e) (n:=n+2*k+1) (k:=k) oG oG oG;exact this.mono oG oG
theorem x9 {a b:Vl}{n k m l:Nat}(ha:bdV n k a)(hb:bdV m l b):bdV (n+m) (k+l) (byV a b):=by
 unfold byV;split;exact⟨by rw[Zv];omega,by simp only;omega,by simp only;omega⟩;refine⟨?_,?_,?_⟩;have h:Qh (a.m*b.m)<=Qh a.m+Qh b.m:=by rw[bitlen_le_iff,B2];exact Nat.mul_lt_mul'' (Q5 _) (Q5 _)
 have:=ha.1;have:=hb.1;simp only;omega;have:=ha.2.1;have:=hb.2.1;simp only;omega;have:=ha.2.2;have:=hb.2.2;simp only;omega
theorem U0b {v:Vl}{n k:Nat}(h:bdV n k v)(hn:n<=1000000000000):(Qj v.m).length<=1000000000000:=by have:=ZC v.m;have:=h.1;omega
def K7 (v:Vl):Vl:=if Kb v≠0 then { v with e:=v.e-3 } else v
def inV (a:Ivl)(k:Nat):Vl:=K7 (Jc (byV (ofN a.lo) (XH false (8-k) 0)) (byV (ofN a.hi) (XH false k 0)))
def inN (a:Ivl)(k:Nat):Nm:=if k=0 then a.lo else if k=8 then a.hi else if (Kg (inV a k)).2≠0 then a.lo else(Kg (inV a k)).1
theorem Z1a :p2 3=8:=by have:=q0l 3;rw[<-show((3:Nat):Int)=3 from rfl,<-this];rfl
theorem q0a (s e:Int):qM s (e-3)*8=qM s e:=by unfold qM;have h:=J0f (e-3) 3;rw[show e-3+3=e from oG,Z1a] at h;rw[h];grind
theorem zH {v:Vl}(h:Kb v=0):v.m=0:=by unfold Kb at h;split at h;assumption;split at h<;>omega
theorem H0y (v:Vl):qV (K7 v)*8=qV v:=by unfold K7;split;exact q0a (Zq v) v.e;rename_i h;rw[UU (zH (C8.1 h))];grind
theorem Z0q {v:Vl}(h:Xm v):Xm (K7 v):=by unfold K7;split;rename_i h0;rcases h with h | rfl;exact .inl h;exact absurd rfl h0;exact h
theorem xz {v:Vl}{n k:Nat}(h:bdV n k v):bdV n (k+3) (K7 v):=by unfold K7;split;exact⟨h.1,by have:=h.2.1;simp only;omega,by have:=h.2.2;simp only;omega⟩;exact h.mono oG oG
theorem HW (k:Nat):qV (XH false k 0)=(k:Rat):=by rw[VX,BA (by simp)];unfold qM;rw[IP];show((k:Int):Rat)*1=_;rw[Rat.mul_one];rfl
theorem WT {k:Nat}(h:k<=8):bdV 4 4 (XH false k 0):=by have hb:Qh k<=4:=bitlen_le_iff.2 oG;have:=Z0t (neg:=false) (m:=k) (e:=0) (n:=4) (k:=0) hb oG oG;exact this.mono oG oG
theorem y1z {a:Ivl}{n m k:Nat}(h1:bdV n m (ofN a.lo))(h2:bdV n m (ofN a.hi))(hk:k<=8):bdV (n+2*m+13) (n+3*m+20) (inV a k):=by have b1:=x9 h1 (WT (k:=8-k) oG);have b2:=x9 h2 (WT hk);exact(xz (K0s b1 b2)).mono oG oG
theorem V1m (k:Nat)(h:k<=8):((8-k:Nat):Rat)=8-(k:Rat):=by have:((8-k:Nat):Int)=8-(k:Int):=oG;show(((8-k:Nat):Int):Rat)=8-((k:Int):Rat);rw[this,Rat.intCast_sub];rfl
theorem q1t {a:Ivl}{k:Nat}(ha:Qs a=true)(hk:k<=8):XD (qV (inV a k)) a:=by
 have h:=Vm ha;rw[QL,QL] at h;have e:=H0y (Jc (byV (ofN a.lo) (XH false (8-k) 0)) (byV (ofN a.hi) (XH false k 0)));rw[Jb,Wd,Wd,HW,HW,QL,QL,V1m k hk] at e;have k0:(0:Rat)<=(k:Rat):=Rat.natCast_nonneg;have k8:(k:Rat)<=8:=by have:=Rat.natCast_le_natCast.2 hk;exact this
 have a1:=X6 (a:=qN a.hi-qN a.lo) (b:=(k:Rat)) (by grind) k0;have a2:=X6 (a:=qN a.hi-qN a.lo) (b:=8-(k:Rat)) (by grind) (by grind);unfold inV;generalize qV (K7 (Jc (byV (ofN a.lo) (XH false (8-k) 0)) (byV (ofN a.hi) (XH false k 0))))=x at*
 exact⟨by grind,by grind⟩
theorem Z0p {a:Ivl}{k:Nat}(ha:Qs a=true):Xm (inV a k):=by have c:=Hx ha;exact Z0q (XB (qU c.1 (KQ _ _ _)) (qU c.2 (KQ _ _ _)))
theorem Gk {a:Ivl}(k:Nat)(ha:Qs a=true):Qg (inN a k)=true:=by have h:=Q1 ha;unfold inN;split;exact h.1;split;exact h.2.1;split;exact h.1;exact ZG (VQ (Z0p ha))
theorem Q0s {a:Ivl}{k:Nat}(ha:Qs a=true)(hk:k<=8):XD (qN (inN a k)) a:=by have h:=Vm ha;rw[QL,QL] at h;unfold inN;split;exact⟨CB,h⟩;split;exact⟨h,CB⟩;split;exact⟨CB,h⟩;rename_i hn;rw[(ZA (Z0p ha) (C8.1 hn)).2];exact q1t ha hk
theorem Y1m {a:Ivl}{n m k:Nat}(ha:Qs a=true)(h1:bdV n m (ofN a.lo))(h2:bdV n m (ofN a.hi))(hk:k<=8):bdV (n+2*m+13) (n+3*m+20) (ofN (inN a k)):=by unfold inN;split;exact h1.mono oG oG;split;exact h2.mono oG oG;split;exact h1.mono oG oG;rename_i hn;rw[(ZA (Z0p ha) (C8.1 hn)).1];exact y1z h1 h2 hk
theorem jE {a:Ivl}{x:Nm}(ha:Qs a=true)(hx:Qg x=true)(h:XD (qN x) a):qm a x=true:=by unfold qm;rw[ha,hx];simp only[FE,q_i,BN];exact⟨cmpN_le.2 h.1,cmpN_le.2 h.2⟩
theorem X1l {a:Ivl}{x:Nm}(h:qm a x=true):Qs a=true/\Qg x=true/\XD (qN x) a:=by unfold qm at h;simp only[q_i,BN] at h;exact⟨h.1.1.1,h.1.1.2,cmpN_le.1 h.1.2,cmpN_le.1 h.2⟩
theorem UZ {v:Vl}{n k:Nat}(h:bdV n k v)(h1:n<=4096)(h2:k<=65536):(Kg v).2=0:=by unfold Kg;split;rfl;rw[BA];have hl:=V5 v.m;have:=h.1;have:=h.2.1;have:=h.2.2;omega
def smN (x:Nm):Prop:=Qg x=true/\bdV 6 12 (ofN x)
def smI (a:Ivl):Prop:=Qs a=true/\bdV 6 12 (ofN a.lo)/\bdV 6 12 (ofN a.hi)
theorem Io {n k:Nat} :bdV n k (ofN default):=by refine⟨?_,?_,?_⟩;show Qh 0<=n;rw[Zv];omega;show -(k:Int)<=0;omega;show(0:Int)<=k;omega
theorem y0m {neg:Bool}{w:List UInt64}{e:Int}(hw:Qh (Qi w)<=6)(h1: -6<=e)(h2:e<=6):smN (qf neg w e).1:=by
 refine⟨kO _ _ _,?_⟩;unfold qf;split;exact Io;split;exact Io;have hb:=Z0t (neg:=neg) (m:=Qi w) (e:=e) (n:=6) (k:=6) hw oG oG;have hf:=UZ hb oG oG;have hc:Xm (XH neg (Qi w) e):=by rename_i h0 _;exact KQ _ _ _
 rw[(ZA hc hf).1];exact hb
theorem G0w {x:Nm}(h:smN x):smI ⟨x,x⟩:=⟨Xg h.1,h.2,h.2⟩
theorem y0o {x y:Nm}(hx:smN x)(hy:smN y):smI (U1g x y):=by refine⟨U0a hx.1 hy.1,?_⟩;unfold U1g;split;exact⟨hy.2,hx.2⟩;exact⟨hx.2,hy.2⟩
theorem J1x {α:Type}(l:List α)(i j:Nat)(x d:α)(hj:j<l.length):(l.set i x).getD j d=if i=j then x else l.getD j d:=by simp only[q_a,List.getElem?_set];split;rename_i h;subst h;simp[hj];rfl
theorem w1n {x a:Ivl}(hx:Qs x=true)(ha:Qs a=true)(h1:qN a.lo<=qN x.lo)(h2:qN x.hi<=qN a.hi):inI x a=true:=by unfold inI;rw[hx,ha];simp only[FE,q_i,BN];exact⟨cmpN_ge.2 h1,cmpN_ge.2 h2⟩
end Go.Pv
end
