/- Parts of the walk: M23, M24, M25, M26, M27, M28, M29, M30, M31, M32, M33, M34. -/
import Derived.Test.YtldalepagmhnmaaGreatDoorZK
set_option linter.unusedVariables false
set_option linter.unusedSimpArgs false
section
namespace Go.Pv
def ofX (x:Nm):Vl:=oddV x.neg (valW x.w) x.exp
def Z0z (v:Vl)(p:Nat)(up:Bool):Vl:=
 if Q0j v.m<=p then v else
  oddV v.neg (v.m/2^(Q0j v.m-p)+(if v.m % 2^(Q0j v.m-p)≠0/\up≠v.neg then 1 else 0)) (v.e+((Q0j v.m-p:Nat):Int))
theorem G0b (neg:Bool)(e:Int):oddV neg 0 e=⟨false,0,0⟩:=by rw[oddV,if_pos rfl]
theorem G1i (neg:Bool)(m k:Nat)(e:Int):oddV neg (m*2^k) e=oddV neg m (e+k):=by
 by_cases h:m=0;subst h;rw[Nat.zero_mul,G0b,G0b]
 . have hp:m*2^k≠0:=Nat.mul_ne_zero h (Nat.ne_of_gt (Nat.two_pow_pos k));obtain⟨q,hq,hm⟩:=y0r m h;have hmk:m*2^k=2^(tz m+k)*q:=by
    conv=>lhs;rw[hm]
    rw[Nat.pow_add,Nat.mul_right_comm]
   have ht:tz (m*2^k)=tz m+k:=(by rw[hmk,H1w _ _ hq]);unfold oddV;rw[if_neg h,if_neg hp,ht];have e1:m*2^k/2^(tz m+k)=m/2^tz m:=by
    rw[hmk,Nat.mul_div_cancel_left _ (Nat.two_pow_pos _)]
    conv=>rhs;rw[hm]
    rw[H1w _ _ hq,Nat.mul_div_cancel_left _ (Nat.two_pow_pos _)]
   rw[e1];congr 1;omega
theorem X1g (neg:Bool)(m:Nat)(e:Int)(h:m % 2=1):oddV neg m e=⟨neg,m,e⟩:=by rw[oddV,if_neg (by omega),Q2j h];simp
theorem w2z (z D q:Nat)(h:D<=z):2^z*q/2^D=q*2^(z-D):=by obtain⟨k,rfl⟩: ∃k,z=D+k:=⟨z-D,by omega⟩;rw[Nat.add_sub_cancel_left,Nat.pow_add,Nat.mul_assoc,Nat.mul_div_cancel_left _ (Nat.two_pow_pos _),Nat.mul_comm]
theorem U3e {x:Nm}(h:Q0q x=true):ofX x=ofN x:=by
 rcases U3a h with h1 | h1;exact X1g _ _ _ h1;have h0:valW x.w=0:=h1;have hw:x.w= []:=by refine Classical.byContradiction fun hw=> ?_;have h2:=h;unfold Q0q at h2;rw[if_neg hw] at h2;simp only[q_i,decide_eq_true_eq] at h2;have h3:=v0s x.w;omega
 have h2:=h;unfold Q0q at h2;rw[if_pos hw] at h2;simp at h2;unfold ofX ofN;rw[h0,G0b,h2.1,h2.2]
theorem K2f (neg:Bool)(m:Nat)(e:Int)(p:Nat)(up:Bool)(hp:0<p):Z0z (oddV neg m e) p up=
 if Q0j m<=p then oddV neg m e else oddV neg (m/2^(Q0j m-p)+(if tz m<Q0j m-p/\up≠neg then 1 else 0)) (e+((Q0j m-p:Nat):Int)):=by
 by_cases h0:m=0;subst h0;rw[if_pos (by rw[J0l];omega),G0b,Z0z,if_pos (by show Q0j 0<=p;rw[J0l];omega)];obtain⟨q,hq,hm⟩:=y0r m h0;have hq0:q≠0:=(by omega);have e1:oddV neg m e=⟨neg,q,e+tz m⟩:=by have:oddV neg (q*2^tz m) e=oddV neg q (e+tz m):=G1i neg q (tz m) e;rw[Nat.mul_comm,<-hm] at this;rw[this,X1g _ _ _ hq]
 have hb:Q0j m=Q0j q+tz m:=by have:=W0b q (tz m) hq0;rw[Nat.mul_comm,<-hm] at this;exact this
 rw[e1];unfold Z0z;simp only;by_cases h1:Q0j q<=p;rw[if_pos h1];by_cases h2:Q0j m<=p;rw[if_pos h2];rw[if_neg h2,if_neg (by omega),Nat.add_zero];have hdiv:m/2^(Q0j m-p)=q*2^(tz m-(Q0j m-p)):=by have h:=w2z (tz m) (Q0j m-p) q (by omega);rw[<-hm] at h;exact h
 rw[hdiv,G1i,X1g _ _ _ hq];congr 1;omega;rw[if_neg h1,if_neg (show¬Q0j m<=p by omega)];have hd:Q0j m-p=tz m+(Q0j q-p):=(by omega);have hdiv:m/2^(Q0j m-p)=q/2^(Q0j q-p):=by have h:=Nat.mul_div_cancel_left q (Nat.two_pow_pos (tz m));rw[<-hm] at h;rw[hd,Nat.pow_add,<-Nat.div_div_eq_div_mul,h]
 have hodd:q % 2^(Q0j q-p)≠0:=by intro h;have hdv:2∣q:=Nat.dvd_trans ⟨2^(Q0j q-p-1),by rw[<-Nat.pow_succ'];congr 1;omega⟩ (Nat.dvd_of_mod_eq_zero h);omega
 rw[hdiv];have hc:(q % 2^(Q0j q-p)≠0/\up≠neg)<->(tz m<Q0j m-p/\up≠neg):=⟨fun h=>⟨by omega,h.2⟩,fun h=>⟨hodd,h.2⟩⟩;by_cases hh:tz m<Q0j m-p/\up≠neg;rw[if_pos hh,if_pos (hc.2 hh)];congr 1;omega;rw[if_neg hh,if_neg (fun h=>hh (hc.1 h))];congr 1;omega
theorem w1f (neg:Bool)(m:Nat)(e:Int):oddV neg m e=mkV (if neg then -(m:Int) else(m:Int)) e:=by by_cases h:m=0;subst h;rw[G0b];unfold mkV;cases neg<;>simp[G0b];unfold mkV;cases neg;show oddV false m e=oddV (decide ((m:Int)<0)) (m:Int).natAbs e;rw[q_g (by omega),Int.natAbs_natCast];show oddV true m e=oddV (decide (-(m:Int)<0)) (-(m:Int)).natAbs e;rw[q_h (by omega),Int.natAbs_neg,Int.natAbs_natCast]
theorem k3p (x:Nm):ofX x=mkV (mant x) x.exp:=by rw[ofX,w1f];rfl
theorem H2v (s:Int)(k:Nat)(e:Int):mkV (s*2^k) e=mkV s (e+k):=by
 unfold mkV;have h1:(s*2^k).natAbs=s.natAbs*2^k:=by rw[Int.natAbs_mul,Int.natAbs_pow];rfl
 have h2:decide (s*2^k<0)=decide (s<0):=by have hp:=two_pow_pos k;by_cases h:s<0;rw[q_h h,q_h (Int.mul_neg_of_neg_of_pos h hp)];rw[q_g h,q_g (Int.not_lt.2 (Int.mul_nonneg (Int.not_lt.1 h) (Int.le_of_lt hp)))]
 rw[h1,h2,G1i]
theorem H2w (s e:Int)(h:s≠0): ∃k:Nat,X0i (mkV s e)*2^k=s/\(mkV s e).e=e+k/\(mkV s e).m≠0:=by have h0:s.natAbs≠0:=(by omega);refine⟨tz s.natAbs,?_,?_,?_⟩;unfold mkV oddV X0i;rw[if_neg h0];simp only;have h1:=J2g s.natAbs;by_cases hs:s<0;rw[q_h hs,if_pos rfl,Int.neg_mul];have:((s.natAbs/2^tz s.natAbs:Nat):Int)*2^tz s.natAbs=(s.natAbs:Int):=(by rw[show((2:Int)^tz s.natAbs)=((2^tz s.natAbs:Nat):Int) from by simp,<-Int.natCast_mul,h1]);rw[this];omega;rw[q_g hs,if_neg (by simp)];have:((s.natAbs/2^tz s.natAbs:Nat):Int)*2^tz s.natAbs=(s.natAbs:Int):=(by rw[show((2:Int)^tz s.natAbs)=((2^tz s.natAbs:Nat):Int) from by simp,<-Int.natCast_mul,h1]);rw[this];omega;unfold mkV oddV;rw[if_neg h0];unfold mkV oddV;rw[if_neg h0];have:=U0n s.natAbs h0;simp only;omega
def byV (a b:Vl):Vl:=if a.m=0\/b.m=0 then⟨false,0,0⟩ else⟨a.neg !=b.neg,a.m*b.m,a.e+b.e⟩
theorem U3f {a b:Nat}(ha:a % 2=1)(hb:b % 2=1):a*b % 2=1:=by rw[Nat.mul_mod,ha,hb]
theorem k1h : ∀(k a b:Nat),a+b+1=2^k->a&&&b=0
 | 0,a,b,h=>by
  have:a=0:=by simp at h;omega
  subst this;exact Nat.zero_and b
 | k+1,a,b,h=>by have h2:a+b+1=2*2^k:=(by rw[h,Nat.pow_succ,Nat.mul_comm]);have ih:=k1h k (a/2) (b/2) (by omega);have hd:(a&&&b)/2=a/2&&&b/2:=Nat.and_div_two;have hm:(a&&&b) % 2≠1:=fun e=>(by have:=Nat.and_mod_two_eq_one.1 e;omega);omega
theorem q2f : ∀(n x:Nat),0<x->x<2^n->x&&&(2^n-x)=2^tz x
 | 0,x,h,hl=>by simp at hl;omega
 | n+1,x,h,hl=>by have hp:2^(n+1)=2*2^n:=(by rw[Nat.pow_succ,Nat.mul_comm]);have hd:(x&&&(2^(n+1)-x))/2=x/2&&&(2^(n+1)-x)/2:=Nat.and_div_two;rcases Nat.mod_two_eq_zero_or_one x with e | e;have ih:=q2f n (x/2) (by omega) (by omega);have h3:(2^(n+1)-x)/2=2^n-x/2:=(by omega);have hm:(x&&&(2^(n+1)-x)) % 2≠1:=fun e'=>(by have:=Nat.and_mod_two_eq_one.1 e';omega);rw[h3,ih] at hd;have hps:2^(tz (x/2)+1)=2^tz (x/2)*2:=Nat.pow_succ ..;rw[k1v (by omega) e];omega;have h4:=k1h n (x/2) ((2^(n+1)-x)/2) (by omega);have hm:(x&&&(2^(n+1)-x)) % 2=1:=Nat.and_mod_two_eq_one.2 ⟨e,by omega⟩;rw[h4] at hd;rw[Q2j e,Nat.pow_zero];omega
theorem Q3h (x:Nat)(h:0<x)(hl:x<18446744073709551616):x&&&(18446744073709551616-x)=2^tz x:=q2f 64 x h hl
theorem U1q (x:Nat)(h:0<x)(hl:x<18446744073709551616):tz x<64:=by have h1:=z0x x (by omega);have h2:=V1q x hl;omega
theorem j3f (w r:Nat)(h:0<w)(hl:w<18446744073709551616):tz (w+18446744073709551616*r)=tz w:=by obtain⟨q,hq,hw⟩:=y0r w (by omega);have ht:=U1q w h hl;have e:w+18446744073709551616*r=2^tz w*(q+2^(64-tz w)*r):=(by rw[Nat.mul_add,<-hw,<-Nat.mul_assoc,<-Nat.pow_add,show tz w+(64-tz w)=64 from by omega]);have h2:2^(64-tz w)*r % 2=0:=(by obtain⟨k,hk⟩: ∃k,64-tz w=k+1:=⟨63-tz w,by omega⟩;rw[hk,Nat.pow_succ,Nat.mul_assoc,Nat.mul_left_comm];exact Nat.mul_mod_right _ _);rw[e,H1w _ _ (by omega)]
theorem j0z (l:List UInt64)(i:Nat)(h:i<=l.length):valW l=valW (l.take i)+18446744073709551616^i*valW (l.drop i):=by
 conv=>lhs;rw[<-List.take_append_drop i l]
 rw[U0x,List.length_take,Nat.min_eq_left h]
theorem H1t (l:List UInt64)(i:Nat)(h:i<l.length):valW (l.drop i)=(l.getD i 0).toNat+18446744073709551616*valW (l.drop (i+1)):=by rw[List.drop_eq_getElem_cons h];simp only[valW,nW,List.map_cons,val];rw[q_a,List.getElem?_eq_getElem h];rfl
theorem z0w (l:List UInt64)(i:Nat)(h:l.length<=i):valW (l.drop i)=0:=by rw[List.drop_eq_nil_of_le h];rfl
theorem x0z (l:List UInt64)(i:Nat):valW (l.drop i)=(l.getD i 0).toNat+18446744073709551616*valW (l.drop (i+1)):=by by_cases h:i<l.length;exact H1t l i h;rw[z0w _ _ (by omega),z0w _ _ (by omega),G0h _ _ _ (by omega)];rfl
theorem y0c (l:List UInt64)(i:Nat)(h:i<=l.length):valW l/18446744073709551616^i=valW (l.drop i):=by have hl:=K0d (l.take i);rw[List.length_take,Nat.min_eq_left h] at hl;rw[j0z l i h,Nat.add_mul_div_left _ _ (Nat.pow_pos (by decide)),Nat.div_eq_of_lt hl,Nat.zero_add]
theorem v2b (l:List UInt64)(i:Nat)(hi:i<l.length)(hz:valW (l.take i)=0)(hn:(l.getD i 0).toNat≠0):tz (valW l)=64*i+tz (l.getD i 0).toNat:=by rw[j0z l i (by omega),hz,Nat.zero_add,H1t l i hi,Nat.mul_comm,w0l,v2c _ _ (by omega),j3f _ _ (by omega) (UInt64.toNat_lt _)];omega
theorem V1c (w0 w1 r s:Nat)(h0:w0<18446744073709551616)(hs:s<64):(w0+18446744073709551616*(w1+18446744073709551616*r))/2^s % 18446744073709551616=w0/2^s+w1*2^(64-s) % 18446744073709551616:=by
 have e:(18446744073709551616:Nat)=2^s*2^(64-s):=(by rw[<-Nat.pow_add,show s+(64-s)=64 from by omega]);have h1:(w0+18446744073709551616*(w1+18446744073709551616*r))/2^s=w0/2^s+2^(64-s)*(w1+18446744073709551616*r):=by
  conv=>lhs;rw[show 18446744073709551616*(w1+18446744073709551616*r)=2^s*(2^(64-s)*(w1+18446744073709551616*r)) from by rw[<-Nat.mul_assoc,<-e]]
  rw[Nat.add_mul_div_left _ _ (Nat.two_pow_pos s)]
 have h2:w0/2^s<2^(64-s):=Nat.div_lt_of_lt_mul (by rw[<-e];exact h0);have h3:w1*2^(64-s) % 18446744073709551616=2^(64-s)*(w1 % 2^s):=by
  conv=>lhs;rw[Nat.mul_comm,e,Nat.mul_comm (2^s),Nat.mul_mod_mul_left]
 have h4:2^(64-s)*(w1 % 2^s)+2^(64-s)<=18446744073709551616:=by have h5:w1 % 2^s+1<=2^s:=Nat.mod_lt _ (Nat.two_pow_pos s);have:=Nat.mul_le_mul_left (2^(64-s)) h5;rw[Nat.mul_add,Nat.mul_one] at this;rw[Nat.mul_comm (2^(64-s)) (2^s),<-e] at this;exact this
 rw[h1,h3];have h6:w0/2^s+2^(64-s)*(w1+18446744073709551616*r)=(w0/2^s+2^(64-s)*(w1 % 2^s))+18446744073709551616*(w1/2^s+2^(64-s)*r):=by have h7:=Nat.div_add_mod w1 (2^s);have h8:2^(64-s)*w1=2^(64-s)*(2^s*(w1/2^s))+2^(64-s)*(w1 % 2^s):=(by rw[<-Nat.mul_add,h7]);rw[<-Nat.mul_assoc,Nat.mul_comm (2^(64-s)) (2^s),<-e] at h8;rw[Nat.mul_add,Nat.mul_add,h8,Nat.mul_left_comm];omega
 rw[h6,Nat.add_mul_mod_self_left,Nat.mod_eq_of_lt (by omega)]
theorem X3e (w0 w1 s:Nat)(h0:w0<18446744073709551616)(hs:s<64):(w0/2^s)|||(w1*2^(64-s) % 18446744073709551616)=w0/2^s+w1*2^(64-s) % 18446744073709551616:=by refine K1a _ _ (64-s) (Nat.div_lt_of_lt_mul ?_) (k0u _ _ (by omega));rw[<-Nat.pow_add,show s+(64-s)=64 from by omega];exact h0
def p2 (e:Int):Rat:=(2:Rat)^e
theorem K3q (e:Int):0<p2 e:=Rat.zpow_pos (by decide)
theorem G2u (a b:Int):p2 (a+b)=p2 a*p2 b:=Rat.zpow_add (by decide) a b
theorem J1y :p2 0=1:=Rat.zpow_zero 2
theorem K3r (k:Nat):(((2:Int)^k:Int):Rat)=p2 k:=by
 unfold p2;rw[Rat.zpow_natCast]
 induction k with
 | zero=>rfl
 | succ k ih=>rw[Int.pow_succ,Rat.intCast_mul,ih,Rat.pow_succ];rfl
def qM (s e:Int):Rat:=(s:Rat)*p2 e
def qV (v:Vl):Rat:=qM (X0i v) v.e
def qN (x:Nm):Rat:=qM (mant x) x.exp
theorem H0c (s:Int)(k:Nat)(e:Int):qM (s*2^k) e=qM s (e+k):=by unfold qM;rw[Rat.intCast_mul,K3r,G2u];grind
theorem z1b (s t e:Int):qM (s+t) e=qM s e+qM t e:=by unfold qM;rw[Rat.intCast_add];grind
theorem Q2y (s t e f:Int):qM (s*t) (e+f)=qM s e*qM t f:=by unfold qM;rw[Rat.intCast_mul,G2u];grind
theorem K0h (e:Int):qM 0 e=0:=by unfold qM;rw[Rat.intCast_zero];grind
theorem z1a (s e:Int):qM (-s) e= -qM s e:=by unfold qM;rw[Rat.intCast_neg];grind
theorem qM_le {s t e:Int} :qM s e<=qM t e<->s<=t:=by unfold qM;constructor;intro h;exact Rat.intCast_le_intCast.1 (Rat.le_of_mul_le_mul_right h (K3q e));intro h;exact Rat.mul_le_mul_of_nonneg_right (Rat.intCast_le_intCast.2 h) (Rat.le_of_lt (K3q e))
theorem qM_lt {s t e:Int} :qM s e<qM t e<->s<t:=by rw[<-Rat.not_le,qM_le];omega
theorem qM_eq {s t e:Int} :qM s e=qM t e<->s=t:=by constructor;intro h;have h1:=(qM_le (s:=s) (t:=t) (e:=e)).1 (by rw[h];exact Rat.le_refl);have h2:=(qM_le (s:=t) (t:=s) (e:=e)).1 (by rw[h];exact Rat.le_refl);omega;rintro rfl;rfl
theorem v1m (s e g:Int)(h:g<=e):qM s e=qM (s*2^(e-g).toNat) g:=by rw[H0c];congr 1;omega
theorem w2l (s e:Int):qV (mkV s e)=qM s e:=by by_cases h:s=0;subst h;rw[Z2q,K0h];exact K0h 0;obtain⟨k,k1,k2,k3⟩:=H2w s e h;unfold qV;rw[k2,<-H0c,k1]
theorem z0n (neg:Bool)(m:Nat)(e:Int):qV (oddV neg m e)=qM (if neg then -(m:Int) else(m:Int)) e:=by rw[w1f,w2l]
theorem k3a (x:Nm):qV (ofX x)=qN x:=by rw[k3p,w2l];rfl
theorem K0n (x:Nm):qV (ofN x)=qN x:=rfl
theorem Z1w {v:Vl}(h:v.m=0):qV v=0:=by unfold qV;rw[Q1j h,K0h]
theorem U0z (a b:Vl):qV (V0x a b)=qV a+qV b:=by unfold V0x;split;rename_i h;rw[Z1w h];grind;split;rename_i h;rw[Z1w h];grind;rw[w2l,z1b,<-v1m _ _ _ (by omega),<-v1m _ _ _ (by omega)];rfl
theorem H0m (v:Vl):qV (V0r v)= -qV v:=by unfold qV;rw[Q1k,X1w,z1a]
theorem k0r (a b:Vl):qV (k0x a b)=qV a-qV b:=by unfold k0x;rw[U0z,H0m];grind
theorem Q3e {a b:Vl}(ha:a.m≠0)(hb:b.m≠0):X0i (byV a b)=X0i a*X0i b/\(byV a b).e=a.e+b.e:=by unfold byV;rw[if_neg (by omega)];refine⟨?_,rfl⟩;unfold X0i;cases a.neg<;>cases b.neg<;>simp[Int.neg_mul,Int.mul_neg]
theorem x0e (a b:Vl):qV (byV a b)=qV a*qV b:=by by_cases ha:a.m=0;rw[Z1w ha,Z1w (by unfold byV;rw[if_pos (.inl ha)])];grind;by_cases hb:b.m=0;rw[Z1w hb,Z1w (by unfold byV;rw[if_pos (.inr hb)])];grind;obtain⟨h1,h2⟩:=Q3e ha hb;unfold qV;rw[h1,h2,Q2y]
theorem U2k (m:Int):sgn m<=0<->m<=0:=by unfold sgn;split<;>(try split)<;>omega
theorem U2j (m:Int):sgn m<0<->m<0:=by unfold sgn;split<;>(try split)<;>omega
theorem J1z (a b:Vl):q0f a b<=0<->qV a<=qV b:=by
 unfold q0f;have h:=k0r a b;rw[j0f,U2k];have h2:X0i (k0x a b)<=0<->qV (k0x a b)<=0:=by rw[<-K0h (k0x a b).e];exact qM_le.symm
 rw[h2,h];grind
theorem G2w (a b:Vl):q0f a b<0<->qV a<qV b:=by
 unfold q0f;have h:=k0r a b;rw[j0f,U2j];have h2:X0i (k0x a b)<0<->qV (k0x a b)<0:=by rw[<-K0h (k0x a b).e];exact qM_lt.symm
 rw[h2,h];grind
theorem cmpN_le {a b:Nm} :cmpN a b<=0<->qN a<=qN b:=by rw[<-Y1c,J1z];rfl
theorem Q2p (a:Vl):K0t a<0<->qV a<0:=by rw[j0f,U2j,<-K0h a.e];exact qM_lt.symm
theorem Q2q (a:Vl):K0t a<=0<->qV a<=0:=by rw[j0f,U2k,<-K0h a.e];exact qM_le.symm
def canV (v:Vl):Prop:=v.m % 2=1\/v=⟨false,0,0⟩
theorem U0l (neg:Bool)(m:Nat)(e:Int):canV (oddV neg m e):=by unfold oddV canV;split;exact .inr rfl;exact .inl (U0n m (by assumption))
theorem j2l (s e:Int):canV (mkV s e):=U0l _ _ _
theorem X1l (x:Nm):canV (ofX x):=U0l _ _ _
theorem W0u {x:Nm}(h:Q0q x=true):canV (ofN x):=by rw[<-U3e h];exact X1l x
theorem G0s {a b:Vl}(ha:canV a)(hb:canV b):canV (V0x a b):=by unfold V0x;split;exact hb;split;exact ha;exact j2l _ _
theorem y0i {a:Vl}(ha:canV a):canV (V0r a):=by rcases ha with h | rfl;exact .inl (by rw[X1v];exact h);exact .inr rfl
theorem V1m {a b:Vl}(ha:canV a)(hb:canV b):canV (k0x a b):=G0s ha (y0i hb)
theorem Z1a {a b:Vl}(ha:canV a)(hb:canV b):canV (byV a b):=by rcases ha with h | rfl;rcases hb with k | rfl;exact .inl (by unfold byV;rw[if_neg (by omega)];exact U3f h k);exact .inr (by unfold byV;rw[if_pos (.inr rfl)]);exact .inr (by unfold byV;rw[if_pos (.inl rfl)])
theorem X0t {v:Vl}(h:canV v)(p:Nat)(up:Bool):canV (Z0z v p up):=by unfold Z0z;split;exact h;exact U0l _ _ _
theorem H0r {v:Vl}(h:canV v):okV v:=by rcases h with h | rfl;exact .inl h;exact .inr rfl
theorem j1y {v:Vl}(h:canV v):v=mkV (X0i v) v.e:=by
 rcases h with h | rfl
 . have:oddV v.neg v.m v.e=v:=by rw[X1g _ _ _ h]
   conv=>lhs;rw[<-this]
   rw[w1f];rfl
 rw[show X0i ⟨false,0,0⟩=0 from rfl,Z2q]
theorem k3v {s e t f:Int}(h:qM s e=qM t f):mkV s e=mkV t f:=by
 have h1:mkV s e=mkV (s*2^(e-min e f).toNat) (min e f):=by rw[H2v];congr 1;omega
 have h2:mkV t f=mkV (t*2^(f-min e f).toNat) (min e f):=by rw[H2v];congr 1;omega
 rw[v1m s e (min e f) (by omega),v1m t f (min e f) (by omega),qM_eq] at h;rw[h1,h2,h]
theorem X2m {v w:Vl}(hv:canV v)(hw:canV w)(h:qV v=qV w):v=w:=by rw[j1y hv,j1y hw];exact k3v h
theorem z1n {x:Nm}{v:Vl}(hv:canV v)(h:qN x=qV v):ofX x=v:=X2m (X1l x) hv (by rw[k3a,h])
theorem j0g (neg:Bool)(m d:Nat)(c:Nat)(e:Int):qM (if neg then -((m/2^d+c:Nat):Int) else((m/2^d+c:Nat):Int)) (e+(d:Int))=qM (if neg then -(((m/2^d+c)*2^d:Nat):Int) else(((m/2^d+c)*2^d:Nat):Int)) e:=by rw[<-H0c];congr 1;cases neg;simp;simp[Int.neg_mul]
theorem w0f (v:Vl)(p:Nat):qV (Z0z v p false)<=qV v:=by unfold Z0z;split;exact Rat.le_refl;rw[z0n,j0g];unfold qV X0i;rw[qM_le];generalize Q0j v.m-p=d;have h1:=Nat.div_add_mod v.m (2^d);have h2:=Nat.mod_lt v.m (Nat.two_pow_pos d);rw[Nat.mul_comm] at h1;rw[Nat.add_mul];cases v.neg;rw[if_neg (by simp),if_neg (by simp),if_neg (by simp),Nat.zero_mul];omega;rw[if_pos rfl,if_pos rfl];by_cases h3:v.m % 2^d=0;rw[if_neg (by simp[h3]),Nat.zero_mul];omega;rw[if_pos ⟨h3,by simp⟩,Nat.one_mul];omega
theorem w0g (v:Vl)(p:Nat):qV v<=qV (Z0z v p true):=by unfold Z0z;split;exact Rat.le_refl;rw[z0n,j0g];unfold qV X0i;rw[qM_le];generalize Q0j v.m-p=d;have h1:=Nat.div_add_mod v.m (2^d);have h2:=Nat.mod_lt v.m (Nat.two_pow_pos d);rw[Nat.mul_comm] at h1;rw[Nat.add_mul];cases v.neg;rw[if_neg (by simp),if_neg (by simp)];by_cases h3:v.m % 2^d=0;rw[if_neg (by simp[h3]),Nat.zero_mul];omega;rw[if_pos ⟨h3,by simp⟩,Nat.one_mul];omega;rw[if_pos rfl,if_pos rfl,if_neg (by simp),Nat.zero_mul];omega
theorem K0z {v:Vl}(hv:canV v)(h:(numV v).2=0):ofN (numV v).1=v/\qN (numV v).1=qV v:=by unfold numV at h⊢;split;rename_i h0;rcases hv with hv | rfl;omega;exact⟨rfl,rfl⟩;rename_i h0;rw[if_neg h0] at h;split;rename_i h1;rw[if_pos h1] at h;cases h;have e:ofN ⟨v.neg,v.e,Q0s v.m⟩=v:=(by unfold ofN;rw[Z0e]);exact⟨e,by rw[<-K0n,e]⟩
theorem Y0d {a b:Rat}(ha:0<=a)(hb:0<=b):0<=a*b:=Rat.mul_nonneg ha hb
theorem H3v {x y u v X U:Rat}(h1:x<=X)(h2:X<=y)(h3:u<=U)(h4:U<=v)(hx:0<=x)(hu:0<=u):x*u<=X*U:=by have a1:=Y0d (a:=X-x) (b:=u) (by grind) hu;have a2:=Y0d (a:=X) (b:=U-u) (by grind) (by grind);grind
theorem j2a {x y u v X U:Rat}(h1:x<=X)(h2:X<=y)(h3:u<=U)(h4:U<=v)(hx:0<=X)(hu:u<=0):y*u<=X*U:=by have a1:=Y0d (a:=y-X) (b:= -u) (by grind) (by grind);have a2:=Y0d (a:=X) (b:=U-u) (by grind) (by grind);grind
theorem x2z {x y u v X U:Rat}(h1:x<=X)(h2:X<=y)(h3:u<=U)(h4:U<=v)(hx:x<=0)(hu:0<=U):x*v<=X*U:=by have a1:=Y0d (a:= -x) (b:=v-U) (by grind) (by grind);have a2:=Y0d (a:=X-x) (b:=U) (by grind) (by grind);grind
theorem H3u {x y u v X U:Rat}(h1:x<=X)(h2:X<=y)(h3:u<=U)(h4:U<=v)(hx:y<=0)(hu:v<=0):y*v<=X*U:=by have a1:=Y0d (a:=y-X) (b:= -v) (by grind) (by grind);have a2:=Y0d (a:= -X) (b:=v-U) (by grind) (by grind);grind
theorem Y3u {a b:Rat}(ha:a<=0)(hb:b<=0):0<=a*b:=by have:=Y0d (a:= -a) (b:= -b) (by grind) (by grind);grind
theorem Y3v {a b:Rat}(ha:0<=a)(hb:b<=0):a*b<=0:=by have:=Y0d (a:=a) (b:= -b) ha (by grind);grind
theorem y2p {a b:Rat}(ha:a<=0)(hb:0<=b):a*b<=0:=by have:=Y0d (a:= -a) (b:=b) (by grind) hb;grind
def W0r (x y u v:Vl):Vl:=
 if 0<=K0t x/\0<=K0t u then byV x u else if 0<=K0t x then byV y u else if 0<=K0t u then byV x v else
 if K0t y<=0/\K0t v<=0 then byV y v else if q0f (byV y u) (byV x v)<0 then byV y u else byV x v
def z0p (x y u v:Vl):Vl:=V0r (W0r (V0r y) (V0r x) u v)
theorem Q2r (a:Vl):0<=K0t a<->0<=qV a:=by have:=Q2p a;rw[<-Rat.not_lt,<-this];omega
theorem q0j {x y u v:Vl}(hx:qV x<=qV y)(hu:qV u<=qV v){X U:Rat}(h1:qV x<=X)(h2:X<=qV y)(h3:qV u<=U)(h4:U<=qV v):qV (W0r x y u v)<=X*U:=by
 unfold W0r;simp only[Q2r,Q2q,G2w,x0e];split;rename_i h;rw[x0e];exact H3v h1 h2 h3 h4 h.1 h.2;rename_i n1;split;rename_i h;rw[x0e];exact j2a h1 h2 h3 h4 (by grind) (by grind);rename_i n2;split;rename_i h;rw[x0e];exact x2z h1 h2 h3 h4 (by grind) (by grind);rename_i n3;split;rename_i h;rw[x0e];exact H3u h1 h2 h3 h4 h.1 h.2;rename_i n4;have key:qV y*qV u<=X*U\/qV x*qV v<=X*U:=by by_cases hX:0<=X;exact .inl (j2a h1 h2 h3 h4 hX (by grind));by_cases hU:0<=U;exact .inr (x2z h1 h2 h3 h4 (by grind) hU);have p:=Y3u (a:=X) (b:=U) (by grind) (by grind);by_cases hy:0<=qV y;have:=Y3v (a:=qV y) (b:=qV u) hy (by grind);exact .inl (by grind);have:=y2p (a:=qV x) (b:=qV v) (by grind) (by grind);exact .inr (by grind)
 split;rename_i h;rw[x0e];grind;rename_i h;rw[x0e];grind
theorem j0n (x y u v:Vl):W0r x y u v=byV x u\/W0r x y u v=byV x v\/W0r x y u v=byV y u\/W0r x y u v=byV y v:=by
 unfold W0r
 repeat' split
 all_goals simp
theorem x0n {x y u v:Vl}(hx:qV x<=qV y)(hu:qV u<=qV v){X U:Rat}(h1:qV x<=X)(h2:X<=qV y)(h3:qV u<=U)(h4:U<=qV v):X*U<=qV (z0p x y u v):=by unfold z0p;have:=q0j (x:=V0r y) (y:=V0r x) (u:=u) (v:=v) (X:= -X) (U:=U) (by rw[H0m,H0m];grind) hu (by rw[H0m];grind) (by rw[H0m];grind) h3 h4;rw[H0m];grind
theorem Y1n (x y u v:Vl):qV (z0p x y u v)=qV x*qV u\/qV (z0p x y u v)=qV x*qV v\/qV (z0p x y u v)=qV y*qV u\/qV (z0p x y u v)=qV y*qV v:=by
 unfold z0p;rw[H0m];rcases j0n (V0r y) (V0r x) u v with h | h | h | h
 all_goals rw[h,x0e,H0m];grind
theorem Q1z {x y u v:Vl}(hx:canV x)(hy:canV y)(hu:canV u)(hv:canV v):canV (W0r x y u v):=by
 rcases j0n x y u v with h | h | h | h
 all_goals rw[h];exact Z1a (by assumption) (by assumption)
theorem U1i {x y u v:Vl}(hx:canV x)(hy:canV y)(hu:canV u)(hv:canV v):canV (z0p x y u v):=y0i (Q1z (y0i hy) (y0i hx) hu hv)
def exV (k:Nat)(a b:Vl):Vl:=if k=0 then V0x a b else if k=1 then k0x a b else byV a b
def exQ (k:Nat)(a b:Rat):Rat:=if k=0 then a+b else if k=1 then a-b else a*b
theorem exQ0 (a b:Rat):exQ 0 a b=a+b:=by simp[exQ]
theorem exQ2 (a b:Rat):exQ 2 a b=a*b:=by simp[exQ]
theorem k3b (k:Nat)(a b:Vl):qV (exV k a b)=exQ k (qV a) (qV b):=by unfold exV exQ;split;exact U0z a b;split;exact k0r a b;exact x0e a b
theorem y1r (k:Nat){a b:Vl}(ha:canV a)(hb:canV b):canV (exV k a b):=by unfold exV;split;exact G0s ha hb;split;exact V1m ha hb;exact Z1a ha hb
def Z0p (p:Int):Bool:=decide (8<=p)&&decide (p<=256)
def strN (k:Nat)(a b:Nm):Nm×Int:=if Q0q a=true/\Q0q b=true then numV (exV k (ofN a) (ofN b)) else(default,1)
def U0j (lo hi:Vl):Ivl×Int:=if (numV lo).2=0/\(numV hi).2=0 then(⟨(numV lo).1,(numV hi).1⟩,0) else(default,2)
def loV (k:Nat)(x y u v:Vl):Vl:=if k=0 then V0x x u else if k=1 then k0x x v else W0r x y u v
def hiV (k:Nat)(x y u v:Vl):Vl:=if k=0 then V0x y v else if k=1 then k0x y u else z0p x y u v
def opI (k:Nat)(a b:Ivl)(p:Int):Ivl×Int:=
 if Q0p a=true/\Q0p b=true/\Z0p p=true then U0j (Z0z (loV k (ofN a.lo) (ofN a.hi) (ofN b.lo) (ofN b.hi)) p.toNat false) (Z0z (hiV k (ofN a.lo) (ofN a.hi) (ofN b.lo) (ofN b.hi)) p.toNat true) else(default,1)
theorem loV0 (x y u v:Vl):loV 0 x y u v=V0x x u:=by simp[loV]
theorem hiV0 (x y u v:Vl):hiV 0 x y u v=V0x y v:=by simp[hiV]
theorem K3w (k:Nat){x y u v:Vl}(hx:qV x<=qV y)(hu:qV u<=qV v){X U:Rat}(h1:qV x<=X)(h2:X<=qV y)(h3:qV u<=U)(h4:U<=qV v):qV (loV k x y u v)<=exQ k X U:=by unfold loV exQ;split;rw[U0z];grind;split;rw[k0r];grind;exact q0j hx hu h1 h2 h3 h4
theorem K3x (k:Nat){x y u v:Vl}(hx:qV x<=qV y)(hu:qV u<=qV v){X U:Rat}(h1:qV x<=X)(h2:X<=qV y)(h3:qV u<=U)(h4:U<=qV v):exQ k X U<=qV (hiV k x y u v):=by unfold hiV exQ;split;rw[U0z];grind;split;rw[k0r];grind;exact x0n hx hu h1 h2 h3 h4
theorem V1l (k:Nat){x y u v:Vl}(hx:canV x)(hy:canV y)(hu:canV u)(hv:canV v):canV (loV k x y u v):=by unfold loV;split;exact G0s hx hu;split;exact V1m hx hv;exact Q1z hx hy hu hv
theorem V1n (k:Nat){x y u v:Vl}(hx:canV x)(hy:canV y)(hu:canV u)(hv:canV v):canV (hiV k x y u v):=by unfold hiV;split;exact G0s hy hv;split;exact V1m hy hu;exact U1i hx hy hu hv
theorem q0d {x:Ivl}(h:Q0p x=true):qV (ofN x.lo)<=qV (ofN x.hi):=cmpN_le.1 (Z0s h).2.2
theorem K1w {lo hi:Vl}(h1:canV lo)(h2:canV hi)(h:qV lo<=qV hi):Q0p (U0j lo hi).1=true:=by unfold U0j;split;rename_i hh;exact x0c (J0i (H0r h1)) (J0i (H0r h2)) (cmpN_le.2 (by rw[(K0z h1 hh.1).2,(K0z h2 hh.2).2];exact h));decide
theorem U3x (k:Nat){a b:Ivl}(ha:Q0p a=true)(hb:Q0p b=true)(p:Nat):
 qV (Z0z (loV k (ofN a.lo) (ofN a.hi) (ofN b.lo) (ofN b.hi)) p false)<=qV (Z0z (hiV k (ofN a.lo) (ofN a.hi) (ofN b.lo) (ofN b.hi)) p true):=by
 have h1:=w0f (loV k (ofN a.lo) (ofN a.hi) (ofN b.lo) (ofN b.hi)) p;have h2:=w0g (hiV k (ofN a.lo) (ofN a.hi) (ofN b.lo) (ofN b.hi)) p;have h3:=K3w k (q0d ha) (q0d hb) Rat.le_refl (q0d ha) Rat.le_refl (q0d hb);have h4:=K3x k (q0d ha) (q0d hb) Rat.le_refl (q0d ha) Rat.le_refl (q0d hb);grind
theorem canI {x:Ivl}(h:Q0p x=true):canV (ofN x.lo)/\canV (ofN x.hi):=⟨W0u (Z0s h).1,W0u (Z0s h).2.1⟩
theorem X0q (k:Nat)(a b:Ivl)(p:Int):Q0p (opI k a b p).1=true:=by unfold opI;split;rename_i h;have ca:=canI h.1;have cb:=canI h.2.1;exact K1w (X0t (V1l k ca.1 ca.2 cb.1 cb.2) _ _) (X0t (V1n k ca.1 ca.2 cb.1 cb.2) _ _) (U3x k h.1 h.2.1 _);decide
def memI (X:Rat)(a:Ivl):Prop:=qN a.lo<=X/\X<=qN a.hi
theorem K1b (k:Nat){a b:Ivl}{p:Int}(h:(opI k a b p).2=0){X U:Rat}(hX:memI X a)(hU:memI U b):memI (exQ k X U) (opI k a b p).1:=by unfold opI at h⊢;split;rename_i hr;rw[if_pos hr] at h;have ca:=canI hr.1;have cb:=canI hr.2.1;unfold U0j at h⊢;split;rename_i hh;have h1:=(K0z (X0t (V1l k ca.1 ca.2 cb.1 cb.2) _ _) hh.1).2;have h2:=(K0z (X0t (V1n k ca.1 ca.2 cb.1 cb.2) _ _) hh.2).2;have h3:=K3w k (q0d hr.1) (q0d hr.2.1) hX.1 hX.2 hU.1 hU.2;have h4:=K3x k (q0d hr.1) (q0d hr.2.1) hX.1 hX.2 hU.1 hU.2;have h5:=w0f (loV k (ofN a.lo) (ofN a.hi) (ofN b.lo) (ofN b.hi)) p.toNat;have h6:=w0g (hiV k (ofN a.lo) (ofN a.hi) (ofN b.lo) (ofN b.hi)) p.toNat;exact⟨by rw[h1];grind,by rw[h2];grind⟩;rename_i hh;rw[if_neg hh] at h;cases h;rename_i hr;rw[if_neg hr] at h;cases h
def bd (n k:Nat)(x:Nm):Prop:=x.w.length<=n/\ -(k:Int)<=x.exp/\x.exp<=k
theorem bd.mono {n k n' k':Nat}{x:Nm}(h:bd n k x)(h1:n<=n')(h2:k<=k'):bd n' k' x:=⟨by have:=h.1;omega,by have:=h.2.1;omega,by have:=h.2.2;omega⟩
theorem X0j {x:Nm}(h:Q0q x=true):bd 64 65536 x:=by unfold Q0q at h;by_cases hw:x.w= [];rw[if_pos hw] at h;simp at h;exact⟨by rw[hw];simp,by rw[h.2];omega,by rw[h.2];omega⟩;rw[if_neg hw] at h;simp only[q_i,decide_eq_true_eq] at h;exact⟨h.1.1.1.2,h.1.2,h.2⟩
theorem w2m (neg:Bool)(e:Int)(m:Nat):qN ⟨neg,e,Q0s m⟩=qM (if neg then -(m:Int) else(m:Int)) e:=by unfold qN mant;rw[Z0e]
theorem Y3q (b:Nm)(e:Int)(d:Nat)(h:b.exp=e+d):qN b=qM (if b.neg then -((valW b.w*2^d:Nat):Int) else((valW b.w*2^d:Nat):Int)) e:=by unfold qN;rw[h,<-H0c];congr 1;unfold mant;cases b.neg;simp;simp[Int.neg_mul]
theorem G3q (a b:Nm)(d:Nat)(h:b.exp=a.exp+d)(hn:a.neg=b.neg):qN ⟨a.neg,a.exp,Q0s (valW a.w+valW b.w*2^d)⟩=qN a+qN b:=by rw[w2m,Y3q b a.exp d h,show qN a=qM (mant a) a.exp from rfl,<-z1b];congr 1;unfold mant;rw[<-hn];cases a.neg<;>simp<;>omega
theorem Z3p (a b:Nm)(d:Nat)(h:b.exp=a.exp+d)(hn:a.neg≠b.neg)(hle:valW b.w*2^d<=valW a.w):qN ⟨a.neg,a.exp,Q0s (valW a.w-valW b.w*2^d)⟩=qN a+qN b:=by
 rw[w2m,Y3q b a.exp d h,show qN a=qM (mant a) a.exp from rfl,<-z1b];congr 1;unfold mant;generalize valW b.w*2^d=x at*
 cases ha:a.neg<;>cases hb:b.neg<;>simp[ha,hb] at hn⊢ <;>omega
theorem Z3o (a b:Nm)(d:Nat)(h:b.exp=a.exp+d)(hn:a.neg≠b.neg)(hle:valW a.w<=valW b.w*2^d):qN ⟨b.neg,a.exp,Q0s (valW b.w*2^d-valW a.w)⟩=qN a+qN b:=by
 rw[w2m,Y3q b a.exp d h,show qN a=qM (mant a) a.exp from rfl,<-z1b];congr 1;unfold mant;generalize valW b.w*2^d=x at*
 cases ha:a.neg<;>cases hb:b.neg<;>simp[ha,hb] at hn⊢ <;>omega
theorem q1f {x:Nm}(h:sgnN x=0):qN x=0:=by
 have:mant x=0:=by rw[k0o] at h;unfold sgn at h;split at h;assumption;split at h<;>omega
 unfold qN;rw[this,K0h]
theorem w3a (a b:Nm)(n k d:Nat)(ha:bd n k a)(hb:bd n k b)(hd:d<=2*k):(Q0s (valW a.w+valW b.w*2^d)).length<=n+k+1:=by
 refine J0e ?_;have h1:=K0d a.w;have h2:=K0d b.w;have hp: ∀l:Nat,l<=n->18446744073709551616^l<=2^(64*n):=fun l hl=>(by rw[w0l];exact Nat.pow_le_pow_right (by decide) (by omega));have h3:valW a.w<2^(64*n+d):=q_e h1 (Nat.le_trans (hp _ ha.1) (Nat.pow_le_pow_right (by decide) (by omega)));have h4:valW b.w*2^d<2^(64*n+d):=by rw[Nat.pow_add];exact Nat.mul_lt_mul_of_pos_right (q_e h2 (hp _ hb.1)) (Nat.two_pow_pos d)
 have h5:18446744073709551616^(n+k+1)=2^(64*(n+k+1)):=w0l _;have h6:2^(64*n+d+1)<=2^(64*(n+k+1)):=Nat.pow_le_pow_right (by decide) (by omega);have h7:2^(64*n+d+1)=2^(64*n+d)*2:=Nat.pow_succ ..;rw[h5];omega
theorem z2x (a b:Nm)(n k d m:Nat)(ha:bd n k a)(hb:bd n k b)(hd:d<=2*k)(hm:m<=valW a.w+valW b.w*2^d):(Q0s m).length<=n+k+1:=Nat.le_trans (W0k hm) (w3a a b n k d ha hb hd)
theorem k3d (a b:Nm):qN ⟨a.neg !=b.neg,a.exp+b.exp,Q0s (valW a.w*valW b.w)⟩=qN a*qN b:=by rw[w2m];show _=qM (mant a) a.exp*qM (mant b) b.exp;rw[<-Q2y];congr 1;unfold mant;cases a.neg<;>cases b.neg<;>simp[Int.neg_mul,Int.mul_neg]
theorem U3y (a b:Nm)(n k m l:Nat)(ha:bd n k a)(hb:bd m l b):bd (n+m) (k+l) ⟨a.neg !=b.neg,a.exp+b.exp,Q0s (valW a.w*valW b.w)⟩:=by refine⟨J0e ?_,?_,?_⟩;have h1:=K0d a.w;have h2:=K0d b.w;refine q_e (Nat.mul_lt_mul'' h1 h2) ?_;rw[<-Nat.pow_add];exact Nat.pow_le_pow_right (by decide) (by have:=ha.1;have:=hb.1;omega);have:=ha.2.1;have:=hb.2.1;simp only;omega;have:=ha.2.2;have:=hb.2.2;simp only;omega
theorem U1n (m:Nat)(h:m≠0):((Q0s m).getD 0 0).toNat % 2=m % 2:=by rw[<-v0s,Z0e]
theorem q1o (neg:Bool)(m:Nat)(e:Int)(h:m % 2=1):Q0q ⟨neg,e,Q0s m⟩=(decide ((Q0s m).length<=64)&&decide (-65536<=e)&&decide (e<=65536)):=by
 have hw:Q0s m≠ []:=fun e=>by rw[wordsOf_nil] at e;omega
 have h1:((Q0s m).getD 0 0).toNat % 2=1:=by rw[U1n m (by omega)];exact h
 unfold Q0q;rw[if_neg hw,Y0z];simp only[h1,decide_true,Bool.true_and,Bool.and_true]
def mkX (neg:Bool)(w:List UInt64)(e:Int):Nm×Int:=numV (oddV neg (valW w) e)
theorem Q3a {neg:Bool}{w:List UInt64}{e:Int}(h:valW w=0):mkX neg w e=(default,0):=by unfold mkX;rw[h,G0b];rfl
theorem H2u {neg:Bool}{w:List UInt64}{e:Int}(h:valW w≠0)(h2:65536<e\/e< -65536-((tz (valW w):Nat):Int)):mkX neg w e=(default,2):=by unfold mkX oddV;rw[if_neg h];have h1:valW w/2^tz (valW w)≠0:=(by have:=U0n (valW w) h;omega);unfold numV;rw[if_neg h1,if_pos (by simp only;omega)]
theorem Q3b {neg:Bool}{w:List UInt64}{e:Int}(h:valW w≠0):mkX neg w e=if Q0q ⟨neg,e+((tz (valW w):Nat):Int),Q0s (valW w/2^tz (valW w))⟩=true then(⟨neg,e+((tz (valW w):Nat):Int),Q0s (valW w/2^tz (valW w))⟩,0) else(default,2):=by have h0:=U0n (valW w) h;rw[q1o _ _ _ h0];unfold mkX oddV;rw[if_neg h];unfold numV;rw[if_neg (by simp only;omega)];simp only;by_cases hc:64<(Q0s (valW w/2^tz (valW w))).length\/e+((tz (valW w):Nat):Int)< -65536\/65536<e+((tz (valW w):Nat):Int);rw[if_pos hc,if_neg];simp only[q_i,decide_eq_true_eq];omega;rw[if_neg hc,if_pos];simp only[q_i,decide_eq_true_eq];omega
theorem H2t (x:Nm):mkX x.neg x.w x.exp=numV (ofX x):=rfl
def rndX (x:Nm)(p:Nat)(up:Bool):Nm:=
 if X0s x.w<=p then x else⟨x.neg,x.exp+((X0s x.w-p:Nat):Int),Q0s (valW x.w/2^(X0s x.w-p)+(if tz (valW x.w)<X0s x.w-p/\up≠x.neg then 1 else 0))⟩
theorem w2b (x:Nm)(p:Nat)(up:Bool)(hp:0<p):ofX (rndX x p up)=Z0z (ofX x) p up:=by unfold rndX;show _=Z0z (oddV x.neg (valW x.w) x.exp) p up;rw[K2f _ _ _ _ _ hp];unfold X0s;split;rfl;unfold ofX;rw[Z0e]
theorem Y3n (x:Nm)(p:Nat)(up:Bool)(n k:Nat)(h:bd n k x):bd (n+1) (k+64*n) (rndX x p up):=by have hb:=W0w x.w;have hl:=h.1;unfold rndX;split;exact h.mono (by omega) (by omega);refine⟨?_,?_,?_⟩;refine J0e ?_;have h1:=K0d x.w;have h2:valW x.w/2^(X0s x.w-p)<=valW x.w:=Nat.div_le_self _ _;have h3:18446744073709551616^x.w.length<=18446744073709551616^n:=Nat.pow_le_pow_right (by decide) hl;have h4:18446744073709551616^(n+1)=18446744073709551616^n*18446744073709551616:=Nat.pow_succ ..;split<;>omega;have:=h.2.1;simp only;omega;have:=h.2.2;simp only;omega
def hasI (a:Ivl)(x:Nm):Bool:=Q0p a&&Q0q x&&decide (cmpN a.lo x<=0)&&decide (cmpN x a.hi<=0)
def w1h (lo hi:Nm):Ivl×Int:=if Q0p ⟨lo,hi⟩=true then(⟨lo,hi⟩,0) else(default,1)
theorem G2c (a b:Nm):qN (J0x a b)<=qN a/\qN (J0x a b)<=qN b/\(qN (J0x a b)=qN a\/qN (J0x a b)=qN b):=by have h1:=cmpN_le.1 (V2h a b);have h2:=cmpN_le.1 (V2g a b);refine⟨h1,h2,?_⟩;unfold J0x;split;exact .inr rfl;exact .inl rfl
theorem G2d (a b:Nm):qN a<=qN (J0y a b)/\qN b<=qN (J0y a b)/\(qN (J0y a b)=qN a\/qN (J0y a b)=qN b):=by have h1:=cmpN_le.1 (V2o a b);have h2:=cmpN_le.1 (V2n a b);refine⟨h1,h2,?_⟩;unfold J0y;split;exact .inr rfl;exact .inl rfl
theorem V2r {a b:Ivl}(ha:Q0p a=true)(hb:Q0p b=true){p1 p2 p3 p4:Nm}(h1:qN p1=qN a.lo*qN b.lo)(h2:qN p2=qN a.lo*qN b.hi)(h3:qN p3=qN a.hi*qN b.lo)(h4:qN p4=qN a.hi*qN b.hi):
 ofX (J0x (J0x (J0x p1 p2) p3) p4)=loV 2 (ofN a.lo) (ofN a.hi) (ofN b.lo) (ofN b.hi):=by
 have ca:=canI ha;have cb:=canI hb;have la:=q0d ha;have lb:=q0d hb;show _=W0r (ofN a.lo) (ofN a.hi) (ofN b.lo) (ofN b.hi);refine z1n (Q1z ca.1 ca.2 cb.1 cb.2) ?_;have r1:=q0j la lb Rat.le_refl la Rat.le_refl lb;have r2:=q0j la lb Rat.le_refl la lb Rat.le_refl;have r3:=q0j la lb la Rat.le_refl Rat.le_refl lb;have r4:=q0j la lb la Rat.le_refl lb Rat.le_refl;have rr: ∀v w:Vl,W0r (ofN a.lo) (ofN a.hi) (ofN b.lo) (ofN b.hi)=byV v w->qV (W0r (ofN a.lo) (ofN a.hi) (ofN b.lo) (ofN b.hi))=qV v*qV w:=fun v w e=>(by rw[e,x0e]);have r5:qV (W0r (ofN a.lo) (ofN a.hi) (ofN b.lo) (ofN b.hi))=qV (ofN a.lo)*qV (ofN b.lo)\/qV (W0r (ofN a.lo) (ofN a.hi) (ofN b.lo) (ofN b.hi))=qV (ofN a.lo)*qV (ofN b.hi)\/qV (W0r (ofN a.lo) (ofN a.hi) (ofN b.lo) (ofN b.hi))=qV (ofN a.hi)*qV (ofN b.lo)\/qV (W0r (ofN a.lo) (ofN a.hi) (ofN b.lo) (ofN b.hi))=qV (ofN a.hi)*qV (ofN b.hi):=by rcases j0n (ofN a.lo) (ofN a.hi) (ofN b.lo) (ofN b.hi) with e | e | e | e;exact .inl (rr _ _ e);exact .inr (.inl (rr _ _ e));exact .inr (.inr (.inl (rr _ _ e)));exact .inr (.inr (.inr (rr _ _ e)))
 generalize qV (W0r (ofN a.lo) (ofN a.hi) (ofN b.lo) (ofN b.hi))=V at*
 simp only[K0n] at*
 rw[<-h1] at r1 r5;rw[<-h2] at r2 r5;rw[<-h3] at r3 r5;rw[<-h4] at r4 r5;obtain⟨s1,s2,s3⟩:=G2c p1 p2;obtain⟨t1,t2,t3⟩:=G2c (J0x p1 p2) p3;obtain⟨u1,u2,u3⟩:=G2c (J0x (J0x p1 p2) p3) p4;clear h1 h2 h3 h4 la lb rr;grind
theorem G1u {a b:Ivl}(ha:Q0p a=true)(hb:Q0p b=true){p1 p2 p3 p4:Nm}(h1:qN p1=qN a.lo*qN b.lo)(h2:qN p2=qN a.lo*qN b.hi)(h3:qN p3=qN a.hi*qN b.lo)(h4:qN p4=qN a.hi*qN b.hi):
 ofX (J0y (J0y (J0y p1 p2) p3) p4)=hiV 2 (ofN a.lo) (ofN a.hi) (ofN b.lo) (ofN b.hi):=by
 have ca:=canI ha;have cb:=canI hb;have la:=q0d ha;have lb:=q0d hb;show _=z0p (ofN a.lo) (ofN a.hi) (ofN b.lo) (ofN b.hi);refine z1n (U1i ca.1 ca.2 cb.1 cb.2) ?_;have r1:=x0n la lb Rat.le_refl la Rat.le_refl lb;have r2:=x0n la lb Rat.le_refl la lb Rat.le_refl;have r3:=x0n la lb la Rat.le_refl Rat.le_refl lb;have r4:=x0n la lb la Rat.le_refl lb Rat.le_refl;have r5:=Y1n (ofN a.lo) (ofN a.hi) (ofN b.lo) (ofN b.hi);generalize qV (z0p (ofN a.lo) (ofN a.hi) (ofN b.lo) (ofN b.hi))=V at*
 simp only[K0n] at*
 rw[<-h1] at r1 r5;rw[<-h2] at r2 r5;rw[<-h3] at r3 r5;rw[<-h4] at r4 r5;obtain⟨s1,s2,s3⟩:=G2d p1 p2;obtain⟨t1,t2,t3⟩:=G2d (J0y p1 p2) p3;obtain⟨u1,u2,u3⟩:=G2d (J0y (J0y p1 p2) p3) p4;clear h1 h2 h3 h4 la lb;grind
def opB (k:Nat)(a b:List Ivl)(p:Int):List Ivl×Int:=if rightB a=true/\rightB b=true/\a.length=b.length/\Z0p p=true then W2a (fun i x=>opI k x (b.getD i default) p) 0 a [] else([],1)
def k0a (x:Ivl)(b:List Ivl)(p:Int):List Ivl×Int:=if rightB b=true/\Q0p x=true/\Z0p p=true then W2a (fun _ y=>opI 2 x y p) 0 b [] else([],1)
theorem H2k (v:Vl):(numV v).2=0\/(numV v).2=2:=by unfold numV;split;exact .inl rfl;split;exact .inr rfl;exact .inl rfl
def bdV (n k:Nat)(v:Vl):Prop:=Q0j v.m<=n/\ -(k:Int)<=v.e/\v.e<=k
theorem bdV.mono {n k n' k':Nat}{v:Vl}(h:bdV n k v)(h1:n<=n')(h2:k<=k'):bdV n' k' v:=⟨by have:=h.1;omega,by have:=h.2.1;omega,by have:=h.2.2;omega⟩
theorem V1r {x:Nm}(h:Q0q x=true):bdV 4096 65536 (ofN x):=by have hb:=X0j h;have h1:=W0w x.w;exact⟨by show Q0j (valW x.w)<=_;unfold X0s at h1;have:=hb.1;omega,hb.2.1,hb.2.2⟩
theorem y1w {neg:Bool}{m:Nat}{e:Int}{n k:Nat}(h1:Q0j m<=n)(h2: -(k:Int)<=e)(h3:e<=k):bdV n (k+n) (oddV neg m e):=by unfold oddV;split;exact⟨by rw[J0l];omega,by simp only;omega,by simp only;omega⟩;have ht:=z0y m;have hl:=W0j (Nat.div_le_self m (2^tz m));exact⟨by simp only;omega,by simp only;omega,by simp only;omega⟩
theorem X2r {a b:Vl}{n k:Nat}(ha:bdV n k a)(hb:bdV n k b):bdV (n+2*k+1) (n+3*k+1) (V0x a b):=by
 unfold V0x;split;exact hb.mono (by omega) (by omega);split;exact ha.mono (by omega) (by omega);have h1:=V0q a.m (a.e-min a.e b.e).toNat;have h2:=V0q b.m (b.e-min a.e b.e).toNat;have h3:=y0j (a.m*2^(a.e-min a.e b.e).toNat) (b.m*2^(b.e-min a.e b.e).toNat);obtain⟨a1,a2,a3⟩:=ha;obtain⟨b1,b2,b3⟩:=hb;have hk1:(a.e-min a.e b.e).toNat<=2*k:=(by omega);have hk2:(b.e-min a.e b.e).toNat<=2*k:=(by omega);have hm:(X0i a*2^(a.e-min a.e b.e).toNat+X0i b*2^(b.e-min a.e b.e).toNat).natAbs<=a.m*2^(a.e-min a.e b.e).toNat+b.m*2^(b.e-min a.e b.e).toNat:=by
  have e1: ∀(v:Vl) (j:Nat),(X0i v*2^j).natAbs=v.m*2^j:=fun v j=>by rw[Int.natAbs_mul,Int.natAbs_pow];congr 1;unfold X0i;cases v.neg<;>simp
  have:=Int.natAbs_add_le (X0i a*2^(a.e-min a.e b.e).toNat) (X0i b*2^(b.e-min a.e b.e).toNat);rw[e1,e1] at this;exact this
 have h4:=W0j hm;have:=y1w (neg:=decide (X0i a*2^(a.e-min a.e b.e).toNat+X0i b*2^(b.e-min a.e b.e).toNat<0)) (m:=(X0i a*2^(a.e-min a.e b.e).toNat+X0i b*2^(b.e-min a.e b.e).toNat).natAbs) (e:=min a.e b.e) (n:=n+2*k+1) (k:=k) (by omega) (by omega) (by omega);exact this.mono (by omega) (by omega)
theorem k1g {a b:Vl}{n k m l:Nat}(ha:bdV n k a)(hb:bdV m l b):bdV (n+m) (k+l) (byV a b):=by
 unfold byV;split;exact⟨by rw[J0l];omega,by simp only;omega,by simp only;omega⟩;refine⟨?_,?_,?_⟩;have h:Q0j (a.m*b.m)<=Q0j a.m+Q0j b.m:=by rw[bitlen_le_iff,Nat.pow_add];exact Nat.mul_lt_mul'' (Z0g _) (Z0g _)
 have:=ha.1;have:=hb.1;simp only;omega;have:=ha.2.1;have:=hb.2.1;simp only;omega;have:=ha.2.2;have:=hb.2.2;simp only;omega
theorem Z1b {v:Vl}{n k:Nat}(h:bdV n k v)(hn:n<=1000000000000):(Q0e v.m).length<=1000000000000:=by have:=J0d v.m;have:=h.1;omega
def G0m (v:Vl):Vl:=if K0t v≠0 then { v with e:=v.e-3 } else v
def inV (a:Ivl)(k:Nat):Vl:=G0m (V0x (byV (ofN a.lo) (oddV false (8-k) 0)) (byV (ofN a.hi) (oddV false k 0)))
def inN (a:Ivl)(k:Nat):Nm:=if k=0 then a.lo else if k=8 then a.hi else if (numV (inV a k)).2≠0 then a.lo else(numV (inV a k)).1
theorem y2d :p2 3=8:=by have:=K3r 3;rw[<-show((3:Nat):Int)=3 from rfl,<-this];rfl
theorem G2f (s e:Int):qM s (e-3)*8=qM s e:=by unfold qM;have h:=G2u (e-3) 3;rw[show e-3+3=e from by omega,y2d] at h;rw[h];grind
theorem y0u {v:Vl}(h:K0t v=0):v.m=0:=by unfold K0t at h;split at h;assumption;split at h<;>omega
theorem G2e (v:Vl):qV (G0m v)*8=qV v:=by unfold G0m;split;exact G2f (X0i v) v.e;rename_i h;rw[Z1w (y0u (Classical.not_not.1 h))];grind
theorem y1s {v:Vl}(h:canV v):canV (G0m v):=by unfold G0m;split;rename_i h0;rcases h with h | rfl;exact .inl h;exact absurd rfl h0;exact h
theorem U1k {v:Vl}{n k:Nat}(h:bdV n k v):bdV n (k+3) (G0m v):=by unfold G0m;split;exact⟨h.1,by have:=h.2.1;simp only;omega,by have:=h.2.2;simp only;omega⟩;exact h.mono (by omega) (by omega)
theorem j0j (k:Nat):qV (oddV false k 0)=(k:Rat):=by rw[z0n,if_neg (by simp)];unfold qM;rw[J1y];show((k:Int):Rat)*1=_;rw[Rat.mul_one];rfl
theorem q0p {k:Nat}(h:k<=8):bdV 4 4 (oddV false k 0):=by have hb:Q0j k<=4:=bitlen_le_iff.2 (by omega);have:=y1w (neg:=false) (m:=k) (e:=0) (n:=4) (k:=0) hb (by omega) (by omega);exact this.mono (by omega) (by omega)
theorem Q4l {a:Ivl}{n m k:Nat}(h1:bdV n m (ofN a.lo))(h2:bdV n m (ofN a.hi))(hk:k<=8):bdV (n+2*m+13) (n+3*m+20) (inV a k):=by have b1:=k1g h1 (q0p (k:=8-k) (by omega));have b2:=k1g h2 (q0p hk);exact(U1k (X2r b1 b2)).mono (by omega) (by omega)
theorem J3a (k:Nat)(h:k<=8):((8-k:Nat):Rat)=8-(k:Rat):=by have:((8-k:Nat):Int)=8-(k:Int):=(by omega);show(((8-k:Nat):Int):Rat)=8-((k:Int):Rat);rw[this,Rat.intCast_sub];rfl
theorem G3e {a:Ivl}{k:Nat}(ha:Q0p a=true)(hk:k<=8):memI (qV (inV a k)) a:=by
 have h:=q0d ha;rw[K0n,K0n] at h;have e:=G2e (V0x (byV (ofN a.lo) (oddV false (8-k) 0)) (byV (ofN a.hi) (oddV false k 0)));rw[U0z,x0e,x0e,j0j,j0j,K0n,K0n,J3a k hk] at e;have k0:(0:Rat)<=(k:Rat):=Rat.natCast_nonneg;have k8:(k:Rat)<=8:=by have:=Rat.natCast_le_natCast.2 hk;exact this
 have a1:=Y0d (a:=qN a.hi-qN a.lo) (b:=(k:Rat)) (by grind) k0;have a2:=Y0d (a:=qN a.hi-qN a.lo) (b:=8-(k:Rat)) (by grind) (by grind);unfold inV;generalize qV (G0m (V0x (byV (ofN a.lo) (oddV false (8-k) 0)) (byV (ofN a.hi) (oddV false k 0))))=x at*
 exact⟨by grind,by grind⟩
theorem y1p {a:Ivl}{k:Nat}(ha:Q0p a=true):canV (inV a k):=by have c:=canI ha;exact y1s (G0s (Z1a c.1 (U0l _ _ _)) (Z1a c.2 (U0l _ _ _)))
theorem z2e {a:Ivl}(k:Nat)(ha:Q0p a=true):Q0q (inN a k)=true:=by have h:=Z0s ha;unfold inN;split;exact h.1;split;exact h.2.1;split;exact h.1;exact J0i (H0r (y1p ha))
theorem G3f {a:Ivl}{k:Nat}(ha:Q0p a=true)(hk:k<=8):memI (qN (inN a k)) a:=by have h:=q0d ha;rw[K0n,K0n] at h;unfold inN;split;exact⟨Rat.le_refl,h⟩;split;exact⟨h,Rat.le_refl⟩;split;exact⟨Rat.le_refl,h⟩;rename_i hn;rw[(K0z (y1p ha) (Classical.not_not.1 hn)).2];exact G3e ha hk
theorem v3l {a:Ivl}{n m k:Nat}(ha:Q0p a=true)(h1:bdV n m (ofN a.lo))(h2:bdV n m (ofN a.hi))(hk:k<=8):bdV (n+2*m+13) (n+3*m+20) (ofN (inN a k)):=by unfold inN;split;exact h1.mono (by omega) (by omega);split;exact h2.mono (by omega) (by omega);split;exact h1.mono (by omega) (by omega);rename_i hn;rw[(K0z (y1p ha) (Classical.not_not.1 hn)).1];exact Q4l h1 h2 hk
theorem z1q {v:Vl}{n k:Nat}(h:bdV n k v)(h1:n<=4096)(h2:k<=65536):(numV v).2=0:=by unfold numV;split;rfl;rw[if_neg];have hl:=q0r v.m;have:=h.1;have:=h.2.1;have:=h.2.2;omega
def smN (x:Nm):Prop:=Q0q x=true/\bdV 6 12 (ofN x)
def smI (a:Ivl):Prop:=Q0p a=true/\bdV 6 12 (ofN a.lo)/\bdV 6 12 (ofN a.hi)
theorem X2q {n k:Nat} :bdV n k (ofN default):=by refine⟨?_,?_,?_⟩;show Q0j 0<=n;rw[J0l];omega;show -(k:Int)<=0;omega;show(0:Int)<=k;omega
theorem v2m {neg:Bool}{w:List UInt64}{e:Int}(hw:Q0j (valW w)<=6)(h1: -6<=e)(h2:e<=6):smN (K1h neg w e).1:=by
 refine⟨q1p _ _ _,?_⟩;unfold K1h;split;exact X2q;split;exact X2q;have hb:=y1w (neg:=neg) (m:=valW w) (e:=e) (n:=6) (k:=6) hw (by omega) (by omega);have hf:=z1q hb (by omega) (by omega);have hc:canV (oddV neg (valW w) e):=by rename_i h0 _;exact U0l _ _ _
 rw[(K0z hc hf).1];exact hb
theorem U2b {x:Nm}(h:smN x):smI ⟨x,x⟩:=⟨q0z h.1,h.2,h.2⟩
theorem v2n {x y:Nm}(hx:smN x)(hy:smN y):smI (betw x y):=by refine⟨W2o hx.1 hy.1,?_⟩;unfold betw;split;exact⟨hy.2,hx.2⟩;exact⟨hx.2,hy.2⟩
end Go.Pv
end
