/- Parts of the walk: M23, M24, M25, M26, M27, M28, M29, M30, M31, M32, M33, M34, M35, M36. -/
import Derived.Test.YtldalepagmhnmaaGreatDoorZK
set_option linter.unusedVariables false
set_option linter.unusedSimpArgs false
section
namespace Go.Pv
def ofX (x:Nm):Vl:=oddV x.neg (valW x.w) x.exp
def Z0p (v:Vl)(p:Nat)(up:Bool):Vl:=
 if Q0i v.m<=p then v else
  oddV v.neg (v.m/2^(Q0i v.m-p)+(if v.m % 2^(Q0i v.m-p)≠0/\up≠v.neg then 1 else 0)) (v.e+((Q0i v.m-p:Nat):Int))
theorem G0z (neg:Bool)(e:Int):oddV neg 0 e=⟨false,0,0⟩:=by rw[oddV,if_pos rfl]
theorem J1w (neg:Bool)(m k:Nat)(e:Int):oddV neg (m*2^k) e=oddV neg m (e+k):=by
 by_cases h:m=0;subst h;rw[Nat.zero_mul,G0z,G0z]
 . have hp:m*2^k≠0:=Nat.mul_ne_zero h (Nat.ne_of_gt (Nat.two_pow_pos k));obtain⟨q,hq,hm⟩:=Z1d m h;have hmk:m*2^k=2^(tz m+k)*q:=by
    conv=>lhs;rw[hm]
    rw[Nat.pow_add,Nat.mul_right_comm]
   have ht:tz (m*2^k)=tz m+k:=(by rw[hmk,x1l _ _ hq]);unfold oddV;rw[if_neg h,if_neg hp,ht];have e1:m*2^k/2^(tz m+k)=m/2^tz m:=by
    rw[hmk,Nat.mul_div_cancel_left _ (Nat.two_pow_pos _)]
    conv=>rhs;rw[hm]
    rw[x1l _ _ hq,Nat.mul_div_cancel_left _ (Nat.two_pow_pos _)]
   rw[e1];congr 1;omega
theorem y0t (neg:Bool)(m:Nat)(e:Int)(h:m % 2=1):oddV neg m e=⟨neg,m,e⟩:=by rw[oddV,if_neg oG,X2h h];simp
theorem Q3s (z D q:Nat)(h:D<=z):2^z*q/2^D=q*2^(z-D):=by obtain⟨k,rfl⟩: ∃k,z=D+k:=⟨z-D,oG⟩;rw[Nat.add_sub_cancel_left,Nat.pow_add,Nat.mul_assoc,Nat.mul_div_cancel_left _ (Nat.two_pow_pos _),Nat.mul_comm]
theorem q2y {x:Nm}(h:Q0h x=true):ofX x=ofN x:=by
 rcases Q2c h with h1 | h1;exact y0t _ _ _ h1;have h0:valW x.w=0:=h1;have hw:x.w= []:=by refine Classical.byContradiction fun hw=> ?_;have h2:=h;unfold Q0h at h2;rw[if_neg hw] at h2;simp only[q_i,decide_eq_true_eq] at h2;have h3:=w0r x.w;omega
 have h2:=h;unfold Q0h at h2;rw[if_pos hw] at h2;simp at h2;unfold ofX ofN;rw[h0,G0z,h2.1,h2.2]
theorem W2m (neg:Bool)(m:Nat)(e:Int)(p:Nat)(up:Bool)(hp:0<p):Z0p (oddV neg m e) p up=
 if Q0i m<=p then oddV neg m e else oddV neg (m/2^(Q0i m-p)+(if tz m<Q0i m-p/\up≠neg then 1 else 0)) (e+((Q0i m-p:Nat):Int)):=by
 by_cases h0:m=0;subst h0;rw[if_pos (by rw[X0z];omega),G0z,Z0p,if_pos (by show Q0i 0<=p;rw[X0z];omega)];obtain⟨q,hq,hm⟩:=Z1d m h0;have hq0:q≠0:=oG;have e1:oddV neg m e=⟨neg,q,e+tz m⟩:=by have:oddV neg (q*2^tz m) e=oddV neg q (e+tz m):=J1w neg q (tz m) e;rw[Nat.mul_comm,<-hm] at this;rw[this,y0t _ _ _ hq]
 have hb:Q0i m=Q0i q+tz m:=by have:=U0p q (tz m) hq0;rw[Nat.mul_comm,<-hm] at this;exact this
 rw[e1];unfold Z0p;simp only;by_cases h1:Q0i q<=p;rw[if_pos h1];by_cases h2:Q0i m<=p;rw[if_pos h2];rw[if_neg h2,if_neg oG,Nat.add_zero];have hdiv:m/2^(Q0i m-p)=q*2^(tz m-(Q0i m-p)):=by have h:=Q3s (tz m) (Q0i m-p) q oG;rw[<-hm] at h;exact h
 rw[hdiv,J1w,y0t _ _ _ hq];congr 1;omega;rw[if_neg h1,if_neg (show¬Q0i m<=p by omega)];have hd:Q0i m-p=tz m+(Q0i q-p):=oG;have hdiv:m/2^(Q0i m-p)=q/2^(Q0i q-p):=by have h:=Nat.mul_div_cancel_left q (Nat.two_pow_pos (tz m));rw[<-hm] at h;rw[hd,Nat.pow_add,<-Nat.div_div_eq_div_mul,h]
 have hodd:q % 2^(Q0i q-p)≠0:=by intro h;have hdv:2∣q:=Nat.dvd_trans ⟨2^(Q0i q-p-1),by rw[<-Nat.pow_succ'];congr 1;omega⟩ (Nat.dvd_of_mod_eq_zero h);omega
 rw[hdiv];have hc:(q % 2^(Q0i q-p)≠0/\up≠neg)<->(tz m<Q0i m-p/\up≠neg):=⟨fun h=>⟨oG,h.2⟩,fun h=>⟨hodd,h.2⟩⟩;by_cases hh:tz m<Q0i m-p/\up≠neg;rw[if_pos hh,if_pos (hc.2 hh)];congr 1;omega;rw[if_neg hh,if_neg (fun h=>hh (hc.1 h))];congr 1;omega
theorem Q2l (neg:Bool)(m:Nat)(e:Int):oddV neg m e=mkV (if neg then -(m:Int) else(m:Int)) e:=by by_cases h:m=0;subst h;rw[G0z];unfold mkV;cases neg<;>simp[G0z];unfold mkV;cases neg;show oddV false m e=oddV (decide ((m:Int)<0)) (m:Int).natAbs e;rw[q_g oG,Int.natAbs_natCast];show oddV true m e=oddV (decide (-(m:Int)<0)) (-(m:Int)).natAbs e;rw[q_h oG,Int.natAbs_neg,Int.natAbs_natCast]
theorem v3f (x:Nm):ofX x=mkV (mant x) x.exp:=by rw[ofX,Q2l];rfl
theorem z2r (s:Int)(k:Nat)(e:Int):mkV (s*2^k) e=mkV s (e+k):=by
 unfold mkV;have h1:(s*2^k).natAbs=s.natAbs*2^k:=by rw[Int.natAbs_mul,Int.natAbs_pow];rfl
 have h2:decide (s*2^k<0)=decide (s<0):=by have hp:=two_pow_pos k;by_cases h:s<0;rw[q_h h,q_h (Int.mul_neg_of_neg_of_pos h hp)];rw[q_g h,q_g (Int.not_lt.2 (Int.mul_nonneg (Int.not_lt.1 h) (Int.le_of_lt hp)))]
 rw[h1,h2,J1w]
theorem z2s (s e:Int)(h:s≠0): ∃k:Nat,J0m (mkV s e)*2^k=s/\(mkV s e).e=e+k/\(mkV s e).m≠0:=by have h0:s.natAbs≠0:=oG;refine⟨tz s.natAbs,?_,?_,?_⟩;unfold mkV oddV J0m;rw[if_neg h0];simp only;have h1:=V2s s.natAbs;by_cases hs:s<0;rw[q_h hs,if_pos rfl,Int.neg_mul];have:((s.natAbs/2^tz s.natAbs:Nat):Int)*2^tz s.natAbs=(s.natAbs:Int):=(by rw[show((2:Int)^tz s.natAbs)=((2^tz s.natAbs:Nat):Int) from by simp,<-Int.natCast_mul,h1]);rw[this];omega;rw[q_g hs,if_neg (by simp)];have:((s.natAbs/2^tz s.natAbs:Nat):Int)*2^tz s.natAbs=(s.natAbs:Int):=(by rw[show((2:Int)^tz s.natAbs)=((2^tz s.natAbs:Nat):Int) from by simp,<-Int.natCast_mul,h1]);rw[this];omega;unfold mkV oddV;rw[if_neg h0];unfold mkV oddV;rw[if_neg h0];have:=G0j s.natAbs h0;simp only;omega
def byV (a b:Vl):Vl:=if a.m=0\/b.m=0 then⟨false,0,0⟩ else⟨a.neg !=b.neg,a.m*b.m,a.e+b.e⟩
theorem H3n {a b:Nat}(ha:a % 2=1)(hb:b % 2=1):a*b % 2=1:=by rw[Nat.mul_mod,ha,hb]
theorem w1t : ∀(k a b:Nat),a+b+1=2^k->a&&&b=0
 | 0,a,b,h=>by
  have:a=0:=by simp at h;omega
  subst this;exact Nat.zero_and b
 | k+1,a,b,h=>by have h2:a+b+1=2*2^k:=(by rw[h,Nat.pow_succ,Nat.mul_comm]);have ih:=w1t k (a/2) (b/2) oG;have hd:(a&&&b)/2=a/2&&&b/2:=Nat.and_div_two;have hm:(a&&&b) % 2≠1:=fun e=>(by have:=Nat.and_mod_two_eq_one.1 e;omega);omega
theorem x2e : ∀(n x:Nat),0<x->x<2^n->x&&&(2^n-x)=2^tz x
 | 0,x,h,hl=>by simp at hl;omega
 | n+1,x,h,hl=>by have hp:2^(n+1)=2*2^n:=(by rw[Nat.pow_succ,Nat.mul_comm]);have hd:(x&&&(2^(n+1)-x))/2=x/2&&&(2^(n+1)-x)/2:=Nat.and_div_two;rcases Nat.mod_two_eq_zero_or_one x with e | e;have ih:=x2e n (x/2) oG oG;have h3:(2^(n+1)-x)/2=2^n-x/2:=oG;have hm:(x&&&(2^(n+1)-x)) % 2≠1:=fun e'=>(by have:=Nat.and_mod_two_eq_one.1 e';omega);rw[h3,ih] at hd;have hps:2^(tz (x/2)+1)=2^tz (x/2)*2:=Nat.pow_succ ..;rw[y1f oG e];omega;have h4:=w1t n (x/2) ((2^(n+1)-x)/2) oG;have hm:(x&&&(2^(n+1)-x)) % 2=1:=Nat.and_mod_two_eq_one.2 ⟨e,oG⟩;rw[h4] at hd;rw[X2h e,Nat.pow_zero];omega
theorem X3l (x:Nat)(h:0<x)(hl:x<18446744073709551616):x&&&(18446744073709551616-x)=2^tz x:=x2e 64 x h hl
theorem H1l (x:Nat)(h:0<x)(hl:x<18446744073709551616):tz x<64:=by have h1:=x0x x oG;have h2:=Y1j x hl;omega
theorem j3w (w r:Nat)(h:0<w)(hl:w<18446744073709551616):tz (w+18446744073709551616*r)=tz w:=by obtain⟨q,hq,hw⟩:=Z1d w oG;have ht:=H1l w h hl;have e:w+18446744073709551616*r=2^tz w*(q+2^(64-tz w)*r):=(by rw[Nat.mul_add,<-hw,<-Nat.mul_assoc,<-Nat.pow_add,show tz w+(64-tz w)=64 from oG]);have h2:2^(64-tz w)*r % 2=0:=(by obtain⟨k,hk⟩: ∃k,64-tz w=k+1:=⟨63-tz w,oG⟩;rw[hk,Nat.pow_succ,Nat.mul_assoc,Nat.mul_left_comm];exact Nat.mul_mod_right _ _);rw[e,x1l _ _ oG]
theorem W0l (l:List UInt64)(i:Nat)(h:i<=l.length):valW l=valW (l.take i)+18446744073709551616^i*valW (l.drop i):=by
 conv=>lhs;rw[<-List.take_append_drop i l]
 rw[V0n,List.length_take,Nat.min_eq_left h]
theorem x1j (l:List UInt64)(i:Nat)(h:i<l.length):valW (l.drop i)=(l.getD i 0).toNat+18446744073709551616*valW (l.drop (i+1)):=by rw[List.drop_eq_getElem_cons h];simp only[valW,nW,List.map_cons,val];rw[q_a,List.getElem?_eq_getElem h];rfl
theorem x0u (l:List UInt64)(i:Nat)(h:l.length<=i):valW (l.drop i)=0:=by rw[List.drop_eq_nil_of_le h];rfl
theorem q0u (l:List UInt64)(i:Nat):valW (l.drop i)=(l.getD i 0).toNat+18446744073709551616*valW (l.drop (i+1)):=by by_cases h:i<l.length;exact x1j l i h;rw[x0u _ _ oG,x0u _ _ oG,q0p _ _ _ oG];rfl
theorem Q1q (l:List UInt64)(i:Nat)(h:i<=l.length):valW l/18446744073709551616^i=valW (l.drop i):=by have hl:=X0u (l.take i);rw[List.length_take,Nat.min_eq_left h] at hl;rw[W0l l i h,Nat.add_mul_div_left _ _ (Nat.pow_pos (by decide)),Nat.div_eq_of_lt hl,Nat.zero_add]
theorem w2u (l:List UInt64)(i:Nat)(hi:i<l.length)(hz:valW (l.take i)=0)(hn:(l.getD i 0).toNat≠0):tz (valW l)=64*i+tz (l.getD i 0).toNat:=by rw[W0l l i oG,hz,Nat.zero_add,x1j l i hi,Nat.mul_comm,y0p,w2v _ _ oG,j3w _ _ oG (UInt64.toNat_lt _)];omega
theorem W1x (w0 w1 r s:Nat)(h0:w0<18446744073709551616)(hs:s<64):(w0+18446744073709551616*(w1+18446744073709551616*r))/2^s % 18446744073709551616=w0/2^s+w1*2^(64-s) % 18446744073709551616:=by
 have e:(18446744073709551616:Nat)=2^s*2^(64-s):=(by rw[<-Nat.pow_add,show s+(64-s)=64 from oG]);have h1:(w0+18446744073709551616*(w1+18446744073709551616*r))/2^s=w0/2^s+2^(64-s)*(w1+18446744073709551616*r):=by
  conv=>lhs;rw[show 18446744073709551616*(w1+18446744073709551616*r)=2^s*(2^(64-s)*(w1+18446744073709551616*r)) from by rw[<-Nat.mul_assoc,<-e]]
  rw[Nat.add_mul_div_left _ _ (Nat.two_pow_pos s)]
 have h2:w0/2^s<2^(64-s):=Nat.div_lt_of_lt_mul (by rw[<-e];exact h0);have h3:w1*2^(64-s) % 18446744073709551616=2^(64-s)*(w1 % 2^s):=by
  conv=>lhs;rw[Nat.mul_comm,e,Nat.mul_comm (2^s),Nat.mul_mod_mul_left]
 have h4:2^(64-s)*(w1 % 2^s)+2^(64-s)<=18446744073709551616:=by have h5:w1 % 2^s+1<=2^s:=Nat.mod_lt _ (Nat.two_pow_pos s);have:=Nat.mul_le_mul_left (2^(64-s)) h5;rw[Nat.mul_add,Nat.mul_one] at this;rw[Nat.mul_comm (2^(64-s)) (2^s),<-e] at this;exact this
 rw[h1,h3];have h6:w0/2^s+2^(64-s)*(w1+18446744073709551616*r)=(w0/2^s+2^(64-s)*(w1 % 2^s))+18446744073709551616*(w1/2^s+2^(64-s)*r):=by have h7:=Nat.div_add_mod w1 (2^s);have h8:2^(64-s)*w1=2^(64-s)*(2^s*(w1/2^s))+2^(64-s)*(w1 % 2^s):=(by rw[<-Nat.mul_add,h7]);rw[<-Nat.mul_assoc,Nat.mul_comm (2^(64-s)) (2^s),<-e] at h8;rw[Nat.mul_add,Nat.mul_add,h8,Nat.mul_left_comm];omega
 rw[h6,Nat.add_mul_mod_self_left,Nat.mod_eq_of_lt oG]
theorem K3m (w0 w1 s:Nat)(h0:w0<18446744073709551616)(hs:s<64):(w0/2^s)|||(w1*2^(64-s) % 18446744073709551616)=w0/2^s+w1*2^(64-s) % 18446744073709551616:=by refine V1n _ _ (64-s) (Nat.div_lt_of_lt_mul ?_) (v0z _ _ oG);rw[<-Nat.pow_add,show s+(64-s)=64 from oG];exact h0
def p2 (e:Int):Rat:=(2:Rat)^e
theorem W3u (e:Int):0<p2 e:=Rat.zpow_pos (by decide)
theorem J2l (a b:Int):p2 (a+b)=p2 a*p2 b:=Rat.zpow_add (by decide) a b
theorem q2p :p2 0=1:=Rat.zpow_zero 2
theorem q2q (k:Nat):(((2:Int)^k:Int):Rat)=p2 k:=by
 unfold p2;rw[Rat.zpow_natCast]
 induction k with
 | zero=>rfl
 | succ k ih=>rw[Int.pow_succ,Rat.intCast_mul,ih,Rat.pow_succ];rfl
def qM (s e:Int):Rat:=(s:Rat)*p2 e
def qV (v:Vl):Rat:=qM (J0m v) v.e
def qN (x:Nm):Rat:=qM (mant x) x.exp
theorem H0v (s:Int)(k:Nat)(e:Int):qM (s*2^k) e=qM s (e+k):=by unfold qM;rw[Rat.intCast_mul,q2q,J2l];grind
theorem J2h (s t e:Int):qM (s+t) e=qM s e+qM t e:=by unfold qM;rw[Rat.intCast_add];grind
theorem q2e (s t e f:Int):qM (s*t) (e+f)=qM s e*qM t f:=by unfold qM;rw[Rat.intCast_mul,J2l];grind
theorem J0v (e:Int):qM 0 e=0:=by unfold qM;rw[Rat.intCast_zero];grind
theorem X1w (s e:Int):qM (-s) e= -qM s e:=by unfold qM;rw[Rat.intCast_neg];grind
theorem qM_le {s t e:Int} :qM s e<=qM t e<->s<=t:=by unfold qM;constructor;intro h;exact Rat.intCast_le_intCast.1 (Rat.le_of_mul_le_mul_right h (W3u e));intro h;exact Rat.mul_le_mul_of_nonneg_right (Rat.intCast_le_intCast.2 h) (Rat.le_of_lt (W3u e))
theorem qM_lt {s t e:Int} :qM s e<qM t e<->s<t:=by rw[<-Rat.not_le,qM_le];omega
theorem J4j {s t e:Int} :qM s e=qM t e<->s=t:=by constructor;intro h;have h1:=(qM_le (s:=s) (t:=t) (e:=e)).1 (by rw[h];exact Rat.le_refl);have h2:=(qM_le (s:=t) (t:=s) (e:=e)).1 (by rw[h];exact Rat.le_refl);omega;rintro rfl;rfl
theorem j1w (s e g:Int)(h:g<=e):qM s e=qM (s*2^(e-g).toNat) g:=by rw[H0v];congr 1;omega
theorem G3s (s e:Int):qV (mkV s e)=qM s e:=by by_cases h:s=0;subst h;rw[K2a,J0v];exact J0v 0;obtain⟨k,k1,k2,k3⟩:=z2s s e h;unfold qV;rw[k2,<-H0v,k1]
theorem y0o (neg:Bool)(m:Nat)(e:Int):qV (oddV neg m e)=qM (if neg then -(m:Int) else(m:Int)) e:=by rw[Q2l,G3s]
theorem W3p (x:Nm):qV (ofX x)=qN x:=by rw[v3f,G3s];rfl
theorem J0b (x:Nm):qV (ofN x)=qN x:=rfl
theorem Y1w {v:Vl}(h:v.m=0):qV v=0:=by unfold qV;rw[Z1y h,J0v]
theorem j0l (a b:Vl):qV (Y0n a b)=qV a+qV b:=by unfold Y0n;split;rename_i h;rw[Y1w h];grind;split;rename_i h;rw[Y1w h];grind;rw[G3s,J2h,<-j1w _ _ _ oG,<-j1w _ _ _ oG];rfl
theorem q0m (v:Vl):qV (V0j v)= -qV v:=by unfold qV;rw[Z1z,Z1f,X1w]
theorem v0t (a b:Vl):qV (z0e a b)=qV a-qV b:=by unfold z0e;rw[j0l,q0m];grind
theorem X3j {a b:Vl}(ha:a.m≠0)(hb:b.m≠0):J0m (byV a b)=J0m a*J0m b/\(byV a b).e=a.e+b.e:=by unfold byV;rw[if_neg oG];refine⟨?_,rfl⟩;unfold J0m;cases a.neg<;>cases b.neg<;>simp[Int.neg_mul,Int.mul_neg]
theorem J1f (a b:Vl):qV (byV a b)=qV a*qV b:=by by_cases ha:a.m=0;rw[Y1w ha,Y1w (by unfold byV;rw[if_pos (.inl ha)])];grind;by_cases hb:b.m=0;rw[Y1w hb,Y1w (by unfold byV;rw[if_pos (.inr hb)])];grind;obtain⟨h1,h2⟩:=X3j ha hb;unfold qV;rw[h1,h2,q2e]
theorem H2b (m:Int):sgn m<=0<->m<=0:=by unfold sgn;split<;>(try split)<;>omega
theorem W3n (m:Int):sgn m<0<->m<0:=by unfold sgn;split<;>(try split)<;>omega
theorem q2v (a b:Vl):W0g a b<=0<->qV a<=qV b:=by
 unfold W0g;have h:=v0t a b;rw[k0k,H2b];have h2:J0m (z0e a b)<=0<->qV (z0e a b)<=0:=by rw[<-J0v (z0e a b).e];exact qM_le.symm
 rw[h2,h];grind
theorem y0s (a b:Vl):W0g a b<0<->qV a<qV b:=by
 unfold W0g;have h:=v0t a b;rw[k0k,W3n];have h2:J0m (z0e a b)<0<->qV (z0e a b)<0:=by rw[<-J0v (z0e a b).e];exact qM_lt.symm
 rw[h2,h];grind
theorem cmpN_le {a b:Nm} :cmpN a b<=0<->qN a<=qN b:=by rw[<-Z1r,q2v];rfl
theorem cmpN_lt {a b:Nm} :cmpN a b<0<->qN a<qN b:=by rw[<-Z1r,y0s];rfl
theorem cmpN_gt {a b:Nm} :0<cmpN a b<->qN b<qN a:=by have:=cmpN_le (a:=a) (b:=b);rw[<-Rat.not_le,<-this];omega
theorem X2o (a:Vl):K0v a<0<->qV a<0:=by rw[k0k,W3n,<-J0v a.e];exact qM_lt.symm
theorem y2m (a:Vl):K0v a<=0<->qV a<=0:=by rw[k0k,H2b,<-J0v a.e];exact qM_le.symm
def canV (v:Vl):Prop:=v.m % 2=1\/v=⟨false,0,0⟩
theorem x0g (neg:Bool)(m:Nat)(e:Int):canV (oddV neg m e):=by unfold oddV canV;split;exact .inr rfl;exact .inl (G0j m (by assumption))
theorem x3c (s e:Int):canV (mkV s e):=x0g _ _ _
theorem z1r (x:Nm):canV (ofX x):=x0g _ _ _
theorem Y0q {x:Nm}(h:Q0h x=true):canV (ofN x):=by rw[<-q2y h];exact z1r x
theorem H0l {a b:Vl}(ha:canV a)(hb:canV b):canV (Y0n a b):=by unfold Y0n;split;exact hb;split;exact ha;exact x3c _ _
theorem Q1t {a:Vl}(ha:canV a):canV (V0j a):=by rcases ha with h | rfl;exact .inl (by rw[Z1e];exact h);exact .inr rfl
theorem Y1g {a b:Vl}(ha:canV a)(hb:canV b):canV (z0e a b):=H0l ha (Q1t hb)
theorem z1v {a b:Vl}(ha:canV a)(hb:canV b):canV (byV a b):=by rcases ha with h | rfl;rcases hb with k | rfl;exact .inl (by unfold byV;rw[if_neg oG];exact H3n h k);exact .inr (by unfold byV;rw[if_pos (.inr rfl)]);exact .inr (by unfold byV;rw[if_pos (.inl rfl)])
theorem V0d {v:Vl}(h:canV v)(p:Nat)(up:Bool):canV (Z0p v p up):=by unfold Z0p;split;exact h;exact x0g _ _ _
theorem w0j {v:Vl}(h:canV v):okV v:=by rcases h with h | rfl;exact .inl h;exact .inr rfl
theorem w1g {v:Vl}(h:canV v):v=mkV (J0m v) v.e:=by
 rcases h with h | rfl
 . have:oddV v.neg v.m v.e=v:=by rw[y0t _ _ _ h]
   conv=>lhs;rw[<-this]
   rw[Q2l];rfl
 rw[show J0m ⟨false,0,0⟩=0 from rfl,K2a]
theorem v3n {s e t f:Int}(h:qM s e=qM t f):mkV s e=mkV t f:=by
 have h1:mkV s e=mkV (s*2^(e-min e f).toNat) (min e f):=by rw[z2r];congr 1;omega
 have h2:mkV t f=mkV (t*2^(f-min e f).toNat) (min e f):=by rw[z2r];congr 1;omega
 rw[j1w s e (min e f) oG,j1w t f (min e f) oG,J4j] at h;rw[h1,h2,h]
theorem z1t {v w:Vl}(hv:canV v)(hw:canV w)(h:qV v=qV w):v=w:=by rw[w1g hv,w1g hw];exact v3n h
theorem X1z {x:Nm}{v:Vl}(hv:canV v)(h:qN x=qV v):ofX x=v:=z1t (z1r x) hv (by rw[W3p,h])
theorem Z1k (neg:Bool)(m d:Nat)(c:Nat)(e:Int):qM (if neg then -((m/2^d+c:Nat):Int) else((m/2^d+c:Nat):Int)) (e+(d:Int))=qM (if neg then -(((m/2^d+c)*2^d:Nat):Int) else(((m/2^d+c)*2^d:Nat):Int)) e:=by rw[<-H0v];congr 1;cases neg;simp;simp[Int.neg_mul]
theorem y0f (v:Vl)(p:Nat):qV (Z0p v p false)<=qV v:=by unfold Z0p;split;exact Rat.le_refl;rw[y0o,Z1k];unfold qV J0m;rw[qM_le];generalize Q0i v.m-p=d;have h1:=Nat.div_add_mod v.m (2^d);have h2:=Nat.mod_lt v.m (Nat.two_pow_pos d);rw[Nat.mul_comm] at h1;rw[Nat.add_mul];cases v.neg;rw[if_neg (by simp),if_neg (by simp),if_neg (by simp),Nat.zero_mul];omega;rw[if_pos rfl,if_pos rfl];by_cases h3:v.m % 2^d=0;rw[if_neg (by simp[h3]),Nat.zero_mul];omega;rw[if_pos ⟨h3,by simp⟩,Nat.one_mul];omega
theorem U0t (v:Vl)(p:Nat):qV v<=qV (Z0p v p true):=by unfold Z0p;split;exact Rat.le_refl;rw[y0o,Z1k];unfold qV J0m;rw[qM_le];generalize Q0i v.m-p=d;have h1:=Nat.div_add_mod v.m (2^d);have h2:=Nat.mod_lt v.m (Nat.two_pow_pos d);rw[Nat.mul_comm] at h1;rw[Nat.add_mul];cases v.neg;rw[if_neg (by simp),if_neg (by simp)];by_cases h3:v.m % 2^d=0;rw[if_neg (by simp[h3]),Nat.zero_mul];omega;rw[if_pos ⟨h3,by simp⟩,Nat.one_mul];omega;rw[if_pos rfl,if_pos rfl,if_neg (by simp),Nat.zero_mul];omega
theorem H0y {v:Vl}(hv:canV v)(h:(numV v).2=0):ofN (numV v).1=v/\qN (numV v).1=qV v:=by unfold numV at h⊢;split;rename_i h0;rcases hv with hv | rfl;omega;exact⟨rfl,rfl⟩;rename_i h0;rw[if_neg h0] at h;split;rename_i h1;rw[if_pos h1] at h;cases h;have e:ofN ⟨v.neg,v.e,Q0p v.m⟩=v:=(by unfold ofN;rw[Z0i]);exact⟨e,by rw[<-J0b,e]⟩
theorem J1x {x:Nm}(h:Q0h x=true):numV (ofN x)=(x,0):=by unfold numV ofN;simp only;have h2:=h;unfold Q0h at h2;by_cases hw:x.w= [];rw[if_pos hw] at h2;simp at h2;rw[if_pos (by rw[hw];rfl)];congr 1;obtain⟨n,e,w⟩:=x;simp at hw h2;obtain⟨rfl,rfl⟩:=h2;subst hw;rfl;rw[if_neg hw] at h2;simp only[q_i,decide_eq_true_eq] at h2;rw[if_neg (by have:=(X0f h);intro e;exact hw (this.1 e)),Z0a,Z1m h,if_neg oG]
theorem V0r {a b:Rat}(ha:0<=a)(hb:0<=b):0<=a*b:=Rat.mul_nonneg ha hb
theorem z3s {x y u v X U:Rat}(h1:x<=X)(h2:X<=y)(h3:u<=U)(h4:U<=v)(hx:0<=x)(hu:0<=u):x*u<=X*U:=by have a1:=V0r (a:=X-x) (b:=u) (by grind) hu;have a2:=V0r (a:=X) (b:=U-u) (by grind) (by grind);grind
theorem k2n {x y u v X U:Rat}(h1:x<=X)(h2:X<=y)(h3:u<=U)(h4:U<=v)(hx:0<=X)(hu:u<=0):y*u<=X*U:=by have a1:=V0r (a:=y-X) (b:= -u) (by grind) (by grind);have a2:=V0r (a:=X) (b:=U-u) (by grind) (by grind);grind
theorem k2m {x y u v X U:Rat}(h1:x<=X)(h2:X<=y)(h3:u<=U)(h4:U<=v)(hx:x<=0)(hu:0<=U):x*v<=X*U:=by have a1:=V0r (a:= -x) (b:=v-U) (by grind) (by grind);have a2:=V0r (a:=X-x) (b:=U) (by grind) (by grind);grind
theorem z3r {x y u v X U:Rat}(h1:x<=X)(h2:X<=y)(h3:u<=U)(h4:U<=v)(hx:y<=0)(hu:v<=0):y*v<=X*U:=by have a1:=V0r (a:=y-X) (b:= -v) (by grind) (by grind);have a2:=V0r (a:= -X) (b:=v-U) (by grind) (by grind);grind
theorem H3a {a b:Rat}(ha:a<=0)(hb:b<=0):0<=a*b:=by have:=V0r (a:= -a) (b:= -b) (by grind) (by grind);grind
theorem H3b {a b:Rat}(ha:0<=a)(hb:b<=0):a*b<=0:=by have:=V0r (a:=a) (b:= -b) ha (by grind);grind
theorem Z3n {a b:Rat}(ha:a<=0)(hb:0<=b):a*b<=0:=by have:=V0r (a:= -a) (b:=b) (by grind) hb;grind
def V0s (x y u v:Vl):Vl:=
 if 0<=K0v x/\0<=K0v u then byV x u else if 0<=K0v x then byV y u else if 0<=K0v u then byV x v else
 if K0v y<=0/\K0v v<=0 then byV y v else if W0g (byV y u) (byV x v)<0 then byV y u else byV x v
def H0g (x y u v:Vl):Vl:=V0j (V0s (V0j y) (V0j x) u v)
theorem y2n (a:Vl):0<=K0v a<->0<=qV a:=by have:=X2o a;rw[<-Rat.not_lt,<-this];omega
theorem z0f {x y u v:Vl}(hx:qV x<=qV y)(hu:qV u<=qV v){X U:Rat}(h1:qV x<=X)(h2:X<=qV y)(h3:qV u<=U)(h4:U<=qV v):qV (V0s x y u v)<=X*U:=by
 unfold V0s;simp only[y2n,y2m,y0s,J1f];split;rename_i h;rw[J1f];exact z3s h1 h2 h3 h4 h.1 h.2;rename_i n1;split;rename_i h;rw[J1f];exact k2n h1 h2 h3 h4 (by grind) (by grind);rename_i n2;split;rename_i h;rw[J1f];exact k2m h1 h2 h3 h4 (by grind) (by grind);rename_i n3;split;rename_i h;rw[J1f];exact z3r h1 h2 h3 h4 h.1 h.2;rename_i n4;have key:qV y*qV u<=X*U\/qV x*qV v<=X*U:=by by_cases hX:0<=X;exact .inl (k2n h1 h2 h3 h4 hX (by grind));by_cases hU:0<=U;exact .inr (k2m h1 h2 h3 h4 (by grind) hU);have p:=H3a (a:=X) (b:=U) (by grind) (by grind);by_cases hy:0<=qV y;have:=H3b (a:=qV y) (b:=qV u) hy (by grind);exact .inl (by grind);have:=Z3n (a:=qV x) (b:=qV v) (by grind) (by grind);exact .inr (by grind)
 split;rename_i h;rw[J1f];grind;rename_i h;rw[J1f];grind
theorem k0r (x y u v:Vl):V0s x y u v=byV x u\/V0s x y u v=byV x v\/V0s x y u v=byV y u\/V0s x y u v=byV y v:=by
 unfold V0s
 repeat' split
 all_goals simp
theorem j0q {x y u v:Vl}(hx:qV x<=qV y)(hu:qV u<=qV v){X U:Rat}(h1:qV x<=X)(h2:X<=qV y)(h3:qV u<=U)(h4:U<=qV v):X*U<=qV (H0g x y u v):=by unfold H0g;have:=z0f (x:=V0j y) (y:=V0j x) (u:=u) (v:=v) (X:= -X) (U:=U) (by rw[q0m,q0m];grind) hu (by rw[q0m];grind) (by rw[q0m];grind) h3 h4;rw[q0m];grind
theorem Y2s (x y u v:Vl):qV (H0g x y u v)=qV x*qV u\/qV (H0g x y u v)=qV x*qV v\/qV (H0g x y u v)=qV y*qV u\/qV (H0g x y u v)=qV y*qV v:=by
 unfold H0g;rw[q0m];rcases k0r (V0j y) (V0j x) u v with h | h | h | h
 all_goals rw[h,J1f,q0m];grind
theorem X1p {x y u v:Vl}(hx:canV x)(hy:canV y)(hu:canV u)(hv:canV v):canV (V0s x y u v):=by
 rcases k0r x y u v with h | h | h | h
 all_goals rw[h];exact z1v (by assumption) (by assumption)
theorem H1b {x y u v:Vl}(hx:canV x)(hy:canV y)(hu:canV u)(hv:canV v):canV (H0g x y u v):=Q1t (X1p (Q1t hy) (Q1t hx) hu hv)
def exV (k:Nat)(a b:Vl):Vl:=if k=0 then Y0n a b else if k=1 then z0e a b else byV a b
def exQ (k:Nat)(a b:Rat):Rat:=if k=0 then a+b else if k=1 then a-b else a*b
theorem exQ0 (a b:Rat):exQ 0 a b=a+b:=by simp[exQ]
theorem exQ1 (a b:Rat):exQ 1 a b=a-b:=by simp[exQ]
theorem exQ2 (a b:Rat):exQ 2 a b=a*b:=by simp[exQ]
theorem q1c (k:Nat)(a b:Vl):qV (exV k a b)=exQ k (qV a) (qV b):=by unfold exV exQ;split;exact j0l a b;split;exact v0t a b;exact J1f a b
theorem Z2p (k:Nat){a b:Vl}(ha:canV a)(hb:canV b):canV (exV k a b):=by unfold exV;split;exact H0l ha hb;split;exact Y1g ha hb;exact z1v ha hb
def Z0c (p:Int):Bool:=decide (8<=p)&&decide (p<=256)
def Q0t (k:Nat)(a b:Nm)(p:Int)(up:Bool):Nm×Int:=if Q0h a=true/\Q0h b=true/\Z0c p=true then numV (Z0p (exV k (ofN a) (ofN b)) p.toNat up) else(default,1)
def Y0x (x:Nm)(k:Int):Nm×Int:=if Q0h x=true then(if x.w= [] then(x,0) else if k< -131072\/131072<k then(default,2) else numV ⟨x.neg,valW x.w,x.exp+k⟩) else(default,1)
def x0t (lo hi:Vl):Ivl×Int:=if (numV lo).2=0/\(numV hi).2=0 then(⟨(numV lo).1,(numV hi).1⟩,0) else(default,2)
def loV (k:Nat)(x y u v:Vl):Vl:=if k=0 then Y0n x u else if k=1 then z0e x v else V0s x y u v
def hiV (k:Nat)(x y u v:Vl):Vl:=if k=0 then Y0n y v else if k=1 then z0e y u else H0g x y u v
def opI (k:Nat)(a b:Ivl)(p:Int):Ivl×Int:=
 if Q0w a=true/\Q0w b=true/\Z0c p=true then x0t (Z0p (loV k (ofN a.lo) (ofN a.hi) (ofN b.lo) (ofN b.hi)) p.toNat false) (Z0p (hiV k (ofN a.lo) (ofN a.hi) (ofN b.lo) (ofN b.hi)) p.toNat true) else(default,1)
theorem loV0 (x y u v:Vl):loV 0 x y u v=Y0n x u:=by simp[loV]
theorem hiV0 (x y u v:Vl):hiV 0 x y u v=Y0n y v:=by simp[hiV]
theorem loV1 (x y u v:Vl):loV 1 x y u v=z0e x v:=by simp[loV]
theorem hiV1 (x y u v:Vl):hiV 1 x y u v=z0e y u:=by simp[hiV]
theorem Y3b (k:Nat){x y u v:Vl}(hx:qV x<=qV y)(hu:qV u<=qV v){X U:Rat}(h1:qV x<=X)(h2:X<=qV y)(h3:qV u<=U)(h4:U<=qV v):qV (loV k x y u v)<=exQ k X U:=by unfold loV exQ;split;rw[j0l];grind;split;rw[v0t];grind;exact z0f hx hu h1 h2 h3 h4
theorem Y3c (k:Nat){x y u v:Vl}(hx:qV x<=qV y)(hu:qV u<=qV v){X U:Rat}(h1:qV x<=X)(h2:X<=qV y)(h3:qV u<=U)(h4:U<=qV v):exQ k X U<=qV (hiV k x y u v):=by unfold hiV exQ;split;rw[j0l];grind;split;rw[v0t];grind;exact j0q hx hu h1 h2 h3 h4
theorem z1s (k:Nat){x y u v:Vl}(hx:canV x)(hy:canV y)(hu:canV u)(hv:canV v):canV (loV k x y u v):=by unfold loV;split;exact H0l hx hu;split;exact Y1g hx hv;exact X1p hx hy hu hv
theorem z1u (k:Nat){x y u v:Vl}(hx:canV x)(hy:canV y)(hu:canV u)(hv:canV v):canV (hiV k x y u v):=by unfold hiV;split;exact H0l hy hv;split;exact Y1g hy hu;exact H1b hx hy hu hv
theorem z0w {x:Ivl}(h:Q0w x=true):qV (ofN x.lo)<=qV (ofN x.hi):=cmpN_le.1 (Q0x h).2.2
theorem Z2b {lo hi:Vl}(h1:canV lo)(h2:canV hi)(h:qV lo<=qV hi):Q0w (x0t lo hi).1=true:=by unfold x0t;split;rename_i hh;exact j0d (K0t (w0j h1)) (K0t (w0j h2)) (cmpN_le.2 (by rw[(H0y h1 hh.1).2,(H0y h2 hh.2).2];exact h));decide
theorem J4w (k:Nat){a b:Ivl}(ha:Q0w a=true)(hb:Q0w b=true)(p:Nat):
 qV (Z0p (loV k (ofN a.lo) (ofN a.hi) (ofN b.lo) (ofN b.hi)) p false)<=qV (Z0p (hiV k (ofN a.lo) (ofN a.hi) (ofN b.lo) (ofN b.hi)) p true):=by
 have h1:=y0f (loV k (ofN a.lo) (ofN a.hi) (ofN b.lo) (ofN b.hi)) p;have h2:=U0t (hiV k (ofN a.lo) (ofN a.hi) (ofN b.lo) (ofN b.hi)) p;have h3:=Y3b k (z0w ha) (z0w hb) Rat.le_refl (z0w ha) Rat.le_refl (z0w hb);have h4:=Y3c k (z0w ha) (z0w hb) Rat.le_refl (z0w ha) Rat.le_refl (z0w hb);grind
theorem canI {x:Ivl}(h:Q0w x=true):canV (ofN x.lo)/\canV (ofN x.hi):=⟨Y0q (Q0x h).1,Y0q (Q0x h).2.1⟩
theorem G0y (k:Nat)(a b:Ivl)(p:Int):Q0w (opI k a b p).1=true:=by unfold opI;split;rename_i h;have ca:=canI h.1;have cb:=canI h.2.1;exact Z2b (V0d (z1s k ca.1 ca.2 cb.1 cb.2) _ _) (V0d (z1u k ca.1 ca.2 cb.1 cb.2) _ _) (J4w k h.1 h.2.1 _);decide
def memI (X:Rat)(a:Ivl):Prop:=qN a.lo<=X/\X<=qN a.hi
theorem Q2a (k:Nat){a b:Ivl}{p:Int}(h:(opI k a b p).2=0){X U:Rat}(hX:memI X a)(hU:memI U b):memI (exQ k X U) (opI k a b p).1:=by unfold opI at h⊢;split;rename_i hr;rw[if_pos hr] at h;have ca:=canI hr.1;have cb:=canI hr.2.1;unfold x0t at h⊢;split;rename_i hh;have h1:=(H0y (V0d (z1s k ca.1 ca.2 cb.1 cb.2) _ _) hh.1).2;have h2:=(H0y (V0d (z1u k ca.1 ca.2 cb.1 cb.2) _ _) hh.2).2;have h3:=Y3b k (z0w hr.1) (z0w hr.2.1) hX.1 hX.2 hU.1 hU.2;have h4:=Y3c k (z0w hr.1) (z0w hr.2.1) hX.1 hX.2 hU.1 hU.2;have h5:=y0f (loV k (ofN a.lo) (ofN a.hi) (ofN b.lo) (ofN b.hi)) p.toNat;have h6:=U0t (hiV k (ofN a.lo) (ofN a.hi) (ofN b.lo) (ofN b.hi)) p.toNat;exact⟨by rw[h1];grind,by rw[h2];grind⟩;rename_i hh;rw[if_neg hh] at h;cases h;rename_i hr;rw[if_neg hr] at h;cases h
def bd (n k:Nat)(x:Nm):Prop:=x.w.length<=n/\ -(k:Int)<=x.exp/\x.exp<=k
theorem bd.mono {n k n' k':Nat}{x:Nm}(h:bd n k x)(h1:n<=n')(h2:k<=k'):bd n' k' x:=⟨by have:=h.1;omega,by have:=h.2.1;omega,by have:=h.2.2;omega⟩
theorem X0a {x:Nm}(h:Q0h x=true):bd 64 65536 x:=by unfold Q0h at h;by_cases hw:x.w= [];rw[if_pos hw] at h;simp at h;exact⟨by rw[hw];simp,by rw[h.2];omega,by rw[h.2];omega⟩;rw[if_neg hw] at h;simp only[q_i,decide_eq_true_eq] at h;exact⟨h.1.1.1.2,h.1.2,h.2⟩
theorem k3t (x:Nm):qN { x with neg:= !x.neg } = -qN x:=by unfold qN mant;rw[<-X1w];congr 1;cases x.neg<;>simp
theorem Q3k (neg:Bool)(e:Int)(m:Nat):qN ⟨neg,e,Q0p m⟩=qM (if neg then -(m:Int) else(m:Int)) e:=by unfold qN mant;rw[Z0i]
theorem G3u (b:Nm)(e:Int)(d:Nat)(h:b.exp=e+d):qN b=qM (if b.neg then -((valW b.w*2^d:Nat):Int) else((valW b.w*2^d:Nat):Int)) e:=by unfold qN;rw[h,<-H0v];congr 1;unfold mant;cases b.neg;simp;simp[Int.neg_mul]
theorem q3v (a b:Nm)(d:Nat)(h:b.exp=a.exp+d)(hn:a.neg=b.neg):qN ⟨a.neg,a.exp,Q0p (valW a.w+valW b.w*2^d)⟩=qN a+qN b:=by rw[Q3k,G3u b a.exp d h,show qN a=qM (mant a) a.exp from rfl,<-J2h];congr 1;unfold mant;rw[<-hn];cases a.neg<;>simp<;>omega
theorem K3b (a b:Nm)(d:Nat)(h:b.exp=a.exp+d)(hn:a.neg≠b.neg)(hle:valW b.w*2^d<=valW a.w):qN ⟨a.neg,a.exp,Q0p (valW a.w-valW b.w*2^d)⟩=qN a+qN b:=by
 rw[Q3k,G3u b a.exp d h,show qN a=qM (mant a) a.exp from rfl,<-J2h];congr 1;unfold mant;generalize valW b.w*2^d=x at*
 cases ha:a.neg<;>cases hb:b.neg<;>simp[ha,hb] at hn⊢ <;>omega
theorem K3a (a b:Nm)(d:Nat)(h:b.exp=a.exp+d)(hn:a.neg≠b.neg)(hle:valW a.w<=valW b.w*2^d):qN ⟨b.neg,a.exp,Q0p (valW b.w*2^d-valW a.w)⟩=qN a+qN b:=by
 rw[Q3k,G3u b a.exp d h,show qN a=qM (mant a) a.exp from rfl,<-J2h];congr 1;unfold mant;generalize valW b.w*2^d=x at*
 cases ha:a.neg<;>cases hb:b.neg<;>simp[ha,hb] at hn⊢ <;>omega
theorem x1w {x:Nm}(h:sgnN x=0):qN x=0:=by
 have:mant x=0:=by rw[Z1j] at h;unfold sgn at h;split at h;assumption;split at h<;>omega
 unfold qN;rw[this,J0v]
theorem w3e (a b:Nm)(n k d:Nat)(ha:bd n k a)(hb:bd n k b)(hd:d<=2*k):(Q0p (valW a.w+valW b.w*2^d)).length<=n+k+1:=by
 refine X0g ?_;have h1:=X0u a.w;have h2:=X0u b.w;have hp: ∀l:Nat,l<=n->18446744073709551616^l<=2^(64*n):=fun l hl=>(by rw[y0p];exact Nat.pow_le_pow_right (by decide) oG);have h3:valW a.w<2^(64*n+d):=q_e h1 (Nat.le_trans (hp _ ha.1) (Nat.pow_le_pow_right (by decide) oG));have h4:valW b.w*2^d<2^(64*n+d):=by rw[Nat.pow_add];exact Nat.mul_lt_mul_of_pos_right (q_e h2 (hp _ hb.1)) (Nat.two_pow_pos d)
 have h5:18446744073709551616^(n+k+1)=2^(64*(n+k+1)):=y0p _;have h6:2^(64*n+d+1)<=2^(64*(n+k+1)):=Nat.pow_le_pow_right (by decide) oG;have h7:2^(64*n+d+1)=2^(64*n+d)*2:=Nat.pow_succ ..;rw[h5];omega
theorem j2s (a b:Nm)(n k d m:Nat)(ha:bd n k a)(hb:bd n k b)(hd:d<=2*k)(hm:m<=valW a.w+valW b.w*2^d):(Q0p m).length<=n+k+1:=Nat.le_trans (W0z hm) (w3e a b n k d ha hb hd)
theorem k3u (a b:Nm):qN ⟨a.neg !=b.neg,a.exp+b.exp,Q0p (valW a.w*valW b.w)⟩=qN a*qN b:=by rw[Q3k];show _=qM (mant a) a.exp*qM (mant b) b.exp;rw[<-q2e];congr 1;unfold mant;cases a.neg<;>cases b.neg<;>simp[Int.neg_mul,Int.mul_neg]
theorem q3e (a b:Nm)(n k m l:Nat)(ha:bd n k a)(hb:bd m l b):bd (n+m) (k+l) ⟨a.neg !=b.neg,a.exp+b.exp,Q0p (valW a.w*valW b.w)⟩:=by refine⟨X0g ?_,?_,?_⟩;have h1:=X0u a.w;have h2:=X0u b.w;refine q_e (Nat.mul_lt_mul'' h1 h2) ?_;rw[<-Nat.pow_add];exact Nat.pow_le_pow_right (by decide) (by have:=ha.1;have:=hb.1;omega);have:=ha.2.1;have:=hb.2.1;simp only;omega;have:=ha.2.2;have:=hb.2.2;simp only;omega
theorem H1f (m:Nat)(h:m≠0):((Q0p m).getD 0 0).toNat % 2=m % 2:=by rw[<-w0r,Z0i]
theorem j1f (neg:Bool)(m:Nat)(e:Int)(h:m % 2=1):Q0h ⟨neg,e,Q0p m⟩=(decide ((Q0p m).length<=64)&&decide (-65536<=e)&&decide (e<=65536)):=by
 have hw:Q0p m≠ []:=fun e=>by rw[wordsOf_nil] at e;omega
 have h1:((Q0p m).getD 0 0).toNat % 2=1:=by rw[H1f m oG];exact h
 unfold Q0h;rw[if_neg hw,G0b];simp only[h1,decide_true,Bool.true_and,Bool.and_true]
def mkX (neg:Bool)(w:List UInt64)(e:Int):Nm×Int:=numV (oddV neg (valW w) e)
theorem Z3w {neg:Bool}{w:List UInt64}{e:Int}(h:valW w=0):mkX neg w e=(default,0):=by unfold mkX;rw[h,G0z];rfl
theorem z2q {neg:Bool}{w:List UInt64}{e:Int}(h:valW w≠0)(h2:65536<e\/e< -65536-((tz (valW w):Nat):Int)):mkX neg w e=(default,2):=by unfold mkX oddV;rw[if_neg h];have h1:valW w/2^tz (valW w)≠0:=(by have:=G0j (valW w) h;omega);unfold numV;rw[if_neg h1,if_pos (by simp only;omega)]
theorem Z3x {neg:Bool}{w:List UInt64}{e:Int}(h:valW w≠0):mkX neg w e=if Q0h ⟨neg,e+((tz (valW w):Nat):Int),Q0p (valW w/2^tz (valW w))⟩=true then(⟨neg,e+((tz (valW w):Nat):Int),Q0p (valW w/2^tz (valW w))⟩,0) else(default,2):=by have h0:=G0j (valW w) h;rw[j1f _ _ _ h0];unfold mkX oddV;rw[if_neg h];unfold numV;rw[if_neg (by simp only;omega)];simp only;by_cases hc:64<(Q0p (valW w/2^tz (valW w))).length\/e+((tz (valW w):Nat):Int)< -65536\/65536<e+((tz (valW w):Nat):Int);rw[if_pos hc,if_neg];simp only[q_i,decide_eq_true_eq];omega;rw[if_neg hc,if_pos];simp only[q_i,decide_eq_true_eq];omega
theorem Q2k (x:Nm):mkX x.neg x.w x.exp=numV (ofX x):=rfl
def rndX (x:Nm)(p:Nat)(up:Bool):Nm:=
 if X0o x.w<=p then x else⟨x.neg,x.exp+((X0o x.w-p:Nat):Int),Q0p (valW x.w/2^(X0o x.w-p)+(if tz (valW x.w)<X0o x.w-p/\up≠x.neg then 1 else 0))⟩
theorem X2r (x:Nm)(p:Nat)(up:Bool)(hp:0<p):ofX (rndX x p up)=Z0p (ofX x) p up:=by unfold rndX;show _=Z0p (oddV x.neg (valW x.w) x.exp) p up;rw[W2m _ _ _ _ _ hp];unfold X0o;split;rfl;unfold ofX;rw[Z0i]
theorem H2j (x:Nm)(p:Nat)(up:Bool)(n k:Nat)(h:bd n k x):bd (n+1) (k+64*n) (rndX x p up):=by have hb:=W0r x.w;have hl:=h.1;unfold rndX;split;exact h.mono oG oG;refine⟨?_,?_,?_⟩;refine X0g ?_;have h1:=X0u x.w;have h2:valW x.w/2^(X0o x.w-p)<=valW x.w:=Nat.div_le_self _ _;have h3:18446744073709551616^x.w.length<=18446744073709551616^n:=Nat.pow_le_pow_right (by decide) hl;have h4:18446744073709551616^(n+1)=18446744073709551616^n*18446744073709551616:=Nat.pow_succ ..;split<;>omega;have:=h.2.1;simp only;omega;have:=h.2.2;simp only;omega
def hasI (a:Ivl)(x:Nm):Bool:=Q0w a&&Q0h x&&decide (cmpN a.lo x<=0)&&decide (cmpN x a.hi<=0)
def x2b (lo hi:Nm):Ivl×Int:=if Q0w ⟨lo,hi⟩=true then(⟨lo,hi⟩,0) else(default,1)
def Q1e (v:Vl):Vl:=if v.m=0 then v else { v with e:=v.e-1 }
def midV (a:Ivl)(p:Nat):Vl:=Z0p (Q1e (Y0n (ofN a.lo) (ofN a.hi))) p false
def midI (a:Ivl)(p:Int):Nm×Int:=if Q0w a=true/\Z0c p=true then(if W0g (midV a p.toNat) (ofN a.lo)<0 then(a.lo,0) else numV (midV a p.toNat)) else(default,1)
theorem v3c :p2 1=2:=by have:=q2q 1;rw[<-show((1:Nat):Int)=1 from rfl,<-this];rfl
theorem q2f (s e:Int):qM s (e-1)*2=qM s e:=by unfold qM;have h:=J2l (e-1) 1;rw[show e-1+1=e from oG,v3c] at h;rw[h];grind
theorem G3t (v:Vl):qV (Q1e v)*2=qV v:=by unfold Q1e;split;rename_i h;rw[Y1w h];grind;exact q2f (J0m v) v.e
theorem w1h {v:Vl}(h:canV v):canV (Q1e v):=by unfold Q1e;split;exact h;rename_i h0;rcases h with h | rfl;exact .inl h;exact absurd rfl h0
theorem G3v (x:Nm):qN { x with exp:=x.exp-1 } *2=qN x:=q2f (mant x) x.exp
theorem U3v {a b:Rat}(h:a*2=b*2):a=b:=by grind
theorem Z3b {x:Nm}{v:Vl}(hv:canV v)(h:qN x=qV v):ofX { x with exp:=x.exp-1 } =Q1e v:=by refine X1z (w1h hv) (U3v ?_);rw[G3v,G3t,h]
theorem j1h {x y:Nm}(hx:Q0h x=true)(hy:Q0h y=true)(h:qN x=qN y):x=y:=by have h1:=z1t (Y0q hx) (Y0q hy) (by rw[J0b,J0b,h]);have h2:=J1x hx;rw[h1,J1x hy] at h2;exact(congrArg Prod.fst h2).symm
theorem k1l {a:Ivl}{p:Nat}{y:Nm}(hr:Q0w a=true)(h:ofX y=midV a p):numV (ofX (J0c a.lo y))=if W0g (midV a p) (ofN a.lo)<0 then(a.lo,0) else numV (midV a p):=by
 have hlo:=(Q0x hr).1;have hq:qN y=qV (midV a p):=(by rw[<-h,W3p]);unfold J0c;by_cases c:cmpN y a.lo>0;rw[if_pos c,h,if_neg];intro hh;have h1:=(y0s _ _).1 hh;have h2:=cmpN_gt.1 c;rw[J0b,<-hq] at h1;grind;rw[if_neg c,q2y hlo,J1x hlo];by_cases d:W0g (midV a p) (ofN a.lo)<0;rw[if_pos d];rw[if_neg d];have h1: ¬qV (midV a p)<qV (ofN a.lo):=fun e=>d ((y0s _ _).2 e);have h2: ¬qN a.lo<qN y:=fun e=>c (cmpN_gt.2 e);have h3:qV (midV a p)=qV (ofN a.lo):=(by rw[J0b] at h1⊢;rw[<-hq] at h1⊢;grind);have h4:midV a p=ofN a.lo:=by rw[<-h];exact z1t (z1r y) (Y0q hlo) (by rw[h,h3])
 rw[h4,J1x hlo]
theorem q2a (a b:Nm):qN (K0j a b)<=qN a/\qN (K0j a b)<=qN b/\(qN (K0j a b)=qN a\/qN (K0j a b)=qN b):=by have h1:=cmpN_le.1 (Y2l a b);have h2:=cmpN_le.1 (Y2k a b);refine⟨h1,h2,?_⟩;unfold K0j;split;exact .inr rfl;exact .inl rfl
theorem J2f (a b:Nm):qN a<=qN (J0c a b)/\qN b<=qN (J0c a b)/\(qN (J0c a b)=qN a\/qN (J0c a b)=qN b):=by have h1:=cmpN_le.1 (Y2u a b);have h2:=cmpN_le.1 (Y2t a b);refine⟨h1,h2,?_⟩;unfold J0c;split;exact .inr rfl;exact .inl rfl
theorem Y2x {a b:Ivl}(ha:Q0w a=true)(hb:Q0w b=true){p1 p2 p3 p4:Nm}(h1:qN p1=qN a.lo*qN b.lo)(h2:qN p2=qN a.lo*qN b.hi)(h3:qN p3=qN a.hi*qN b.lo)(h4:qN p4=qN a.hi*qN b.hi):
 ofX (K0j (K0j (K0j p1 p2) p3) p4)=loV 2 (ofN a.lo) (ofN a.hi) (ofN b.lo) (ofN b.hi):=by
 have ca:=canI ha;have cb:=canI hb;have la:=z0w ha;have lb:=z0w hb;show _=V0s (ofN a.lo) (ofN a.hi) (ofN b.lo) (ofN b.hi);refine X1z (X1p ca.1 ca.2 cb.1 cb.2) ?_;have r1:=z0f la lb Rat.le_refl la Rat.le_refl lb;have r2:=z0f la lb Rat.le_refl la lb Rat.le_refl;have r3:=z0f la lb la Rat.le_refl Rat.le_refl lb;have r4:=z0f la lb la Rat.le_refl lb Rat.le_refl;have rr: ∀v w:Vl,V0s (ofN a.lo) (ofN a.hi) (ofN b.lo) (ofN b.hi)=byV v w->qV (V0s (ofN a.lo) (ofN a.hi) (ofN b.lo) (ofN b.hi))=qV v*qV w:=fun v w e=>(by rw[e,J1f]);have r5:qV (V0s (ofN a.lo) (ofN a.hi) (ofN b.lo) (ofN b.hi))=qV (ofN a.lo)*qV (ofN b.lo)\/qV (V0s (ofN a.lo) (ofN a.hi) (ofN b.lo) (ofN b.hi))=qV (ofN a.lo)*qV (ofN b.hi)\/qV (V0s (ofN a.lo) (ofN a.hi) (ofN b.lo) (ofN b.hi))=qV (ofN a.hi)*qV (ofN b.lo)\/qV (V0s (ofN a.lo) (ofN a.hi) (ofN b.lo) (ofN b.hi))=qV (ofN a.hi)*qV (ofN b.hi):=by rcases k0r (ofN a.lo) (ofN a.hi) (ofN b.lo) (ofN b.hi) with e | e | e | e;exact .inl (rr _ _ e);exact .inr (.inl (rr _ _ e));exact .inr (.inr (.inl (rr _ _ e)));exact .inr (.inr (.inr (rr _ _ e)))
 generalize qV (V0s (ofN a.lo) (ofN a.hi) (ofN b.lo) (ofN b.hi))=V at*
 simp only[J0b] at*
 rw[<-h1] at r1 r5;rw[<-h2] at r2 r5;rw[<-h3] at r3 r5;rw[<-h4] at r4 r5;obtain⟨s1,s2,s3⟩:=q2a p1 p2;obtain⟨t1,t2,t3⟩:=q2a (K0j p1 p2) p3;obtain⟨u1,u2,u3⟩:=q2a (K0j (K0j p1 p2) p3) p4;clear h1 h2 h3 h4 la lb rr;grind
theorem z1a {a b:Ivl}(ha:Q0w a=true)(hb:Q0w b=true){p1 p2 p3 p4:Nm}(h1:qN p1=qN a.lo*qN b.lo)(h2:qN p2=qN a.lo*qN b.hi)(h3:qN p3=qN a.hi*qN b.lo)(h4:qN p4=qN a.hi*qN b.hi):
 ofX (J0c (J0c (J0c p1 p2) p3) p4)=hiV 2 (ofN a.lo) (ofN a.hi) (ofN b.lo) (ofN b.hi):=by
 have ca:=canI ha;have cb:=canI hb;have la:=z0w ha;have lb:=z0w hb;show _=H0g (ofN a.lo) (ofN a.hi) (ofN b.lo) (ofN b.hi);refine X1z (H1b ca.1 ca.2 cb.1 cb.2) ?_;have r1:=j0q la lb Rat.le_refl la Rat.le_refl lb;have r2:=j0q la lb Rat.le_refl la lb Rat.le_refl;have r3:=j0q la lb la Rat.le_refl Rat.le_refl lb;have r4:=j0q la lb la Rat.le_refl lb Rat.le_refl;have r5:=Y2s (ofN a.lo) (ofN a.hi) (ofN b.lo) (ofN b.hi);generalize qV (H0g (ofN a.lo) (ofN a.hi) (ofN b.lo) (ofN b.hi))=V at*
 simp only[J0b] at*
 rw[<-h1] at r1 r5;rw[<-h2] at r2 r5;rw[<-h3] at r3 r5;rw[<-h4] at r4 r5;obtain⟨s1,s2,s3⟩:=J2f p1 p2;obtain⟨t1,t2,t3⟩:=J2f (J0c p1 p2) p3;obtain⟨u1,u2,u3⟩:=J2f (J0c (J0c p1 p2) p3) p4;clear h1 h2 h3 h4 la lb;grind
def opB (k:Nat)(a b:List Ivl)(p:Int):List Ivl×Int:=if rightB a=true/\rightB b=true/\a.length=b.length/\Z0c p=true then V0g (fun i x=>opI k x (b.getD i default) p) 0 a [] else([],1)
def v0e (x:Ivl)(b:List Ivl)(p:Int):List Ivl×Int:=if rightB b=true/\Q0w x=true/\Z0c p=true then V0g (fun _ y=>opI 2 x y p) 0 b [] else([],1)
def midB (b:List Ivl)(p:Int):List Nm×Int:=if rightB b=true/\Z0c p=true then V0g (fun _ a=>midI a p) 0 b [] else([],1)
def ofB (q:List Nm):List Ivl:=q.map fun x=>⟨x,x⟩
theorem W1w {α β:Type}[Inhabited α](F:Nat->α->β×Int)(l:List α)(h:0<l.length)(e:Int)(he:e≠0)(hf: ∀i x,(F i x).2=e):V0g F 0 l []=([],e):=by
 cases l with
 | nil=>simp at h
 | cons x l=>
  rw[V0g,if_pos (by rw[hf];exact he),hf]
theorem H3g {k:Nat}{a b:Ivl}{p:Int}(h:Z0c p=false):opI k a b p=(default,1):=by rw[opI,if_neg (fun hh=>by simp[h] at hh)]
theorem X3b {a:Ivl}{p:Int}(h:Z0c p=false):midI a p=(default,1):=by rw[midI,if_neg (fun hh=>by simp[h] at hh)]
theorem Z1w (a:Ivl)(p:Int):Q0h (midI a p).1=true:=by unfold midI;split;rename_i h;split;exact(Q0x h.1).1;have c:=canI h.1;exact K0t (w0j (V0d (w1h (H0l c.1 c.2)) _ _));exact X0t
theorem x1x (x:Nm)(k:Int):Q0h (Y0x x k).1=true:=by unfold Y0x;split;rename_i h;split;exact h;split;exact X0t;refine K0t ?_;have h1:=Q2c h;rcases h1 with h1 | h1;exact .inl h1;exact .inr h1;exact X0t
theorem Z0l (k:Nat)(a b:Nm)(p:Int)(up:Bool):Q0h (Q0t k a b p up).1=true:=by unfold Q0t;split;rename_i h;exact K0t (w0j (V0d (Z2p k (Y0q h.1) (Y0q h.2.1)) _ _));exact X0t
theorem Q2e (v:Vl):(numV v).2=0\/(numV v).2=2:=by unfold numV;split;exact .inl rfl;split;exact .inr rfl;exact .inl rfl
theorem k0m {k:Nat}{a b:Nm}{p:Int}{up:Bool}(ha:Q0h a=true)(hb:Q0h b=true)(hp:Z0c p=true):(Q0t k a b p up).2=0\/(Q0t k a b p up).2=2:=by rw[Q0t,if_pos ⟨ha,hb,hp⟩];exact Q2e _
def bdV (n k:Nat)(v:Vl):Prop:=Q0i v.m<=n/\ -(k:Int)<=v.e/\v.e<=k
theorem bdV.mono {n k n' k':Nat}{v:Vl}(h:bdV n k v)(h1:n<=n')(h2:k<=k'):bdV n' k' v:=⟨by have:=h.1;omega,by have:=h.2.1;omega,by have:=h.2.2;omega⟩
theorem X0x {x:Nm}(h:Q0h x=true):bdV 4096 65536 (ofN x):=by have hb:=X0a h;have h1:=W0r x.w;exact⟨by show Q0i (valW x.w)<=_;unfold X0o at h1;have:=hb.1;omega,hb.2.1,hb.2.2⟩
theorem Y1k {neg:Bool}{m:Nat}{e:Int}{n k:Nat}(h1:Q0i m<=n)(h2: -(k:Int)<=e)(h3:e<=k):bdV n (k+n) (oddV neg m e):=by unfold oddV;split;exact⟨by rw[X0z];omega,by simp only;omega,by simp only;omega⟩;have ht:=x0y m;have hl:=J0k (Nat.div_le_self m (2^tz m));exact⟨by simp only;omega,by simp only;omega,by simp only;omega⟩
theorem x0h {a b:Vl}{n k:Nat}(ha:bdV n k a)(hb:bdV n k b):bdV (n+2*k+1) (n+3*k+1) (Y0n a b):=by
 unfold Y0n;split;exact hb.mono oG oG;split;exact ha.mono oG oG;have h1:=W0d a.m (a.e-min a.e b.e).toNat;have h2:=W0d b.m (b.e-min a.e b.e).toNat;have h3:=G0i (a.m*2^(a.e-min a.e b.e).toNat) (b.m*2^(b.e-min a.e b.e).toNat);obtain⟨a1,a2,a3⟩:=ha;obtain⟨b1,b2,b3⟩:=hb;have hk1:(a.e-min a.e b.e).toNat<=2*k:=oG;have hk2:(b.e-min a.e b.e).toNat<=2*k:=oG;have hm:(J0m a*2^(a.e-min a.e b.e).toNat+J0m b*2^(b.e-min a.e b.e).toNat).natAbs<=a.m*2^(a.e-min a.e b.e).toNat+b.m*2^(b.e-min a.e b.e).toNat:=by
  have e1: ∀(v:Vl) (j:Nat),(J0m v*2^j).natAbs=v.m*2^j:=fun v j=>by rw[Int.natAbs_mul,Int.natAbs_pow];congr 1;unfold J0m;cases v.neg<;>simp
  have:=Int.natAbs_add_le (J0m a*2^(a.e-min a.e b.e).toNat) (J0m b*2^(b.e-min a.e b.e).toNat);rw[e1,e1] at this;exact this
 have h4:=J0k hm;have:=Y1k (neg:=decide (J0m a*2^(a.e-min a.e b.e).toNat+J0m b*2^(b.e-min a.e b.e).toNat<0)) (m:=(J0m a*2^(a.e-min a.e b.e).toNat+J0m b*2^(b.e-min a.e b.e).toNat).natAbs) (e:=min a.e b.e) (n:=n+2*k+1) (k:=k) oG oG oG;exact this.mono oG oG
theorem k0v {a:Vl}{n k:Nat}(ha:bdV n k a):bdV n k (V0j a):=by unfold bdV;rw[Z1e,Z1f];exact ha
theorem z1x {a b:Vl}{n k:Nat}(ha:bdV n k a)(hb:bdV n k b):bdV (n+2*k+1) (n+3*k+1) (z0e a b):=x0h ha (k0v hb)
theorem H1d {a b:Vl}{n k m l:Nat}(ha:bdV n k a)(hb:bdV m l b):bdV (n+m) (k+l) (byV a b):=by
 unfold byV;split;exact⟨by rw[X0z];omega,by simp only;omega,by simp only;omega⟩;refine⟨?_,?_,?_⟩;have h:Q0i (a.m*b.m)<=Q0i a.m+Q0i b.m:=by rw[bitlen_le_iff,Nat.pow_add];exact Nat.mul_lt_mul'' (Z0h _) (Z0h _)
 have:=ha.1;have:=hb.1;simp only;omega;have:=ha.2.1;have:=hb.2.1;simp only;omega;have:=ha.2.2;have:=hb.2.2;simp only;omega
theorem V3m {a:Vl}{n k:Nat}(ha:bdV n k a):bdV n (k+1) (Q1e a):=by unfold Q1e;split;exact ha.mono oG oG;exact⟨ha.1,by have:=ha.2.1;simp only;omega,by have:=ha.2.2;simp only;omega⟩
theorem V0x {a:Vl}{n k:Nat}(ha:bdV n k a)(p:Nat)(up:Bool):bdV (n+1) (k+2*n+1) (Z0p a p up):=by
 unfold Z0p;split;exact ha.mono oG oG;have h1:=ha.1;have h2:=J0k (Nat.div_le_self a.m (2^(Q0i a.m-p)));have h3:Q0i (a.m/2^(Q0i a.m-p)+(if a.m % 2^(Q0i a.m-p)≠0/\up≠a.neg then 1 else 0))<=n+1:=by have b1:Q0i 1=1:=rfl;have h:=G0i (a.m/2^(Q0i a.m-p)) 1;split;by_cases hq:Q0i (a.m/2^(Q0i a.m-p))=0;have hn:0<Q0i a.m:=(by rename_i hh _;omega);omega;omega;rw[Nat.add_zero];omega
 have:=Y1k (neg:=a.neg) (e:=a.e+((Q0i a.m-p:Nat):Int)) (k:=k+n) h3 (by have:=ha.2.1;omega) (by have:=ha.2.2;omega);exact this.mono oG oG
theorem w1r {x y u v:Vl}{n k m l:Nat}(hx:bdV n k x)(hy:bdV n k y)(hu:bdV m l u)(hv:bdV m l v):bdV (n+m) (k+l) (V0s x y u v):=by
 rcases k0r x y u v with h | h | h | h
 all_goals rw[h];exact H1d (by assumption) (by assumption)
theorem v2n {x y u v:Vl}{n k m l:Nat}(hx:bdV n k x)(hy:bdV n k y)(hu:bdV m l u)(hv:bdV m l v):bdV (n+m) (k+l) (H0g x y u v):=k0v (w1r (k0v hy) (k0v hx) hu hv)
theorem X0w {v:Vl}{n k:Nat}(h:bdV n k v)(hn:n<=1000000000000):(Q0g v.m).length<=1000000000000:=by have:=Z0t v.m;have:=h.1;omega
def H0j (v:Vl):Vl:=if K0v v≠0 then { v with e:=v.e-3 } else v
def inV (a:Ivl)(k:Nat):Vl:=H0j (Y0n (byV (ofN a.lo) (oddV false (8-k) 0)) (byV (ofN a.hi) (oddV false k 0)))
def inN (a:Ivl)(k:Nat):Nm:=if k=0 then a.lo else if k=8 then a.hi else if (numV (inV a k)).2≠0 then a.lo else(numV (inV a k)).1
theorem Q3v :p2 3=8:=by have:=q2q 3;rw[<-show((3:Nat):Int)=3 from rfl,<-this];rfl
theorem q2g (s e:Int):qM s (e-3)*8=qM s e:=by unfold qM;have h:=J2l (e-3) 3;rw[show e-3+3=e from oG,Q3v] at h;rw[h];grind
theorem W2g {v:Vl}(h:K0v v=0):v.m=0:=by unfold K0v at h;split at h;assumption;split at h<;>omega
theorem q2c (v:Vl):qV (H0j v)*8=qV v:=by unfold H0j;split;exact q2g (J0m v) v.e;rename_i h;rw[Y1w (W2g (Classical.not_not.1 h))];grind
theorem Z2q {v:Vl}(h:canV v):canV (H0j v):=by unfold H0j;split;rename_i h0;rcases h with h | rfl;exact .inl h;exact absurd rfl h0;exact h
theorem U2i {v:Vl}{n k:Nat}(h:bdV n k v):bdV n (k+3) (H0j v):=by unfold H0j;split;exact⟨h.1,by have:=h.2.1;simp only;omega,by have:=h.2.2;simp only;omega⟩;exact h.mono oG oG
theorem J2g (k:Nat):qV (oddV false k 0)=(k:Rat):=by rw[y0o,if_neg (by simp)];unfold qM;rw[q2p];show((k:Int):Rat)*1=_;rw[Rat.mul_one];rfl
theorem w1q {k:Nat}(h:k<=8):bdV 4 4 (oddV false k 0):=by have hb:Q0i k<=4:=bitlen_le_iff.2 oG;have:=Y1k (neg:=false) (m:=k) (e:=0) (n:=4) (k:=0) hb oG oG;exact this.mono oG oG
theorem V3e (k:Nat)(h:k<=8):((8-k:Nat):Rat)=8-(k:Rat):=by have:((8-k:Nat):Int)=8-(k:Int):=oG;show(((8-k:Nat):Int):Rat)=8-((k:Int):Rat);rw[this,Rat.intCast_sub];rfl
theorem q3k {a:Ivl}{k:Nat}(ha:Q0w a=true)(hk:k<=8):memI (qV (inV a k)) a:=by
 have h:=z0w ha;rw[J0b,J0b] at h;have e:=q2c (Y0n (byV (ofN a.lo) (oddV false (8-k) 0)) (byV (ofN a.hi) (oddV false k 0)));rw[j0l,J1f,J1f,J2g,J2g,J0b,J0b,V3e k hk] at e;have k0:(0:Rat)<=(k:Rat):=Rat.natCast_nonneg;have k8:(k:Rat)<=8:=by have:=Rat.natCast_le_natCast.2 hk;exact this
 have a1:=V0r (a:=qN a.hi-qN a.lo) (b:=(k:Rat)) (by grind) k0;have a2:=V0r (a:=qN a.hi-qN a.lo) (b:=8-(k:Rat)) (by grind) (by grind);unfold inV;generalize qV (H0j (Y0n (byV (ofN a.lo) (oddV false (8-k) 0)) (byV (ofN a.hi) (oddV false k 0))))=x at*
 exact⟨by grind,by grind⟩
theorem k2w {a:Ivl}{k:Nat}(ha:Q0w a=true):canV (inV a k):=by have c:=canI ha;exact Z2q (H0l (z1v c.1 (x0g _ _ _)) (z1v c.2 (x0g _ _ _)))
theorem x2y {a:Ivl}(k:Nat)(ha:Q0w a=true):Q0h (inN a k)=true:=by have h:=Q0x ha;unfold inN;split;exact h.1;split;exact h.2.1;split;exact h.1;exact K0t (w0j (k2w ha))
theorem q3l {a:Ivl}{k:Nat}(ha:Q0w a=true)(hk:k<=8):memI (qN (inN a k)) a:=by have h:=z0w ha;rw[J0b,J0b] at h;unfold inN;split;exact⟨Rat.le_refl,h⟩;split;exact⟨h,Rat.le_refl⟩;split;exact⟨Rat.le_refl,h⟩;rename_i hn;rw[(H0y (k2w ha) (Classical.not_not.1 hn)).2];exact q3k ha hk
theorem z2e {v:Vl}{n k:Nat}(h:bdV n k v)(h1:n<=4096)(h2:k<=65536):(numV v).2=0:=by unfold numV;split;rfl;rw[if_neg];have hl:=z0o v.m;have:=h.1;have:=h.2.1;have:=h.2.2;omega
def smN (x:Nm):Prop:=Q0h x=true/\bdV 6 12 (ofN x)
def smI (a:Ivl):Prop:=Q0w a=true/\bdV 6 12 (ofN a.lo)/\bdV 6 12 (ofN a.hi)
theorem K1d {n k:Nat} :bdV n k (ofN default):=by refine⟨?_,?_,?_⟩;show Q0i 0<=n;rw[X0z];omega;show -(k:Int)<=0;omega;show(0:Int)<=k;omega
theorem y2f {neg:Bool}{w:List UInt64}{e:Int}(hw:Q0i (valW w)<=6)(h1: -6<=e)(h2:e<=6):smN (V1u neg w e).1:=by
 refine⟨j1g _ _ _,?_⟩;unfold V1u;split;exact K1d;split;exact K1d;have hb:=Y1k (neg:=neg) (m:=valW w) (e:=e) (n:=6) (k:=6) hw oG oG;have hf:=z2e hb oG oG;have hc:canV (oddV neg (valW w) e):=by rename_i h0 _;exact x0g _ _ _
 rw[(H0y hc hf).1];exact hb
theorem G2u {x:Nm}(h:smN x):smI ⟨x,x⟩:=⟨v0w h.1,h.2,h.2⟩
theorem y2h {x y:Nm}(hx:smN x)(hy:smN y):smI (betw x y):=by refine⟨U2h hx.1 hy.1,?_⟩;unfold betw;split;exact⟨hy.2,hx.2⟩;exact⟨hx.2,hy.2⟩
theorem J3n {α:Type}(l:List α)(i j:Nat)(x d:α)(hj:j<l.length):(l.set i x).getD j d=if i=j then x else l.getD j d:=by simp only[q_a,List.getElem?_set];split;rename_i h;subst h;simp[hj];rfl
end Go.Pv
end
