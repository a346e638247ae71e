/- Parts of the walk: M23, M24, M25, M26, M27, M28, M29, M30, M31, M32, M33. -/
import Derived.Test.YtldalepagmhnmaaGreatDoorZK
set_option linter.unusedVariables false
set_option linter.unusedSimpArgs false
section
namespace Go.Pv
def ofX (x:Nm):Vl:=oddV x.neg (valW x.w) x.exp
def Z0e (v:Vl)(p:Nat)(up:Bool):Vl:=
 if Q0g v.m<=p then v else
  oddV v.neg (v.m/2^(Q0g v.m-p)+(if v.m % 2^(Q0g v.m-p)≠0/\up≠v.neg then 1 else 0)) (v.e+((Q0g v.m-p:Nat):Int))
theorem G0i (neg:Bool)(e:Int):oddV neg 0 e=⟨false,0,0⟩:=by rw[oddV,if_pos rfl]
theorem X1b (neg:Bool)(m k:Nat)(e:Int):oddV neg (m*2^k) e=oddV neg m (e+k):=by
 by_cases h:m=0;subst h;rw[Nat.zero_mul,G0i,G0i]
 . have hp:m*2^k≠0:=Nat.mul_ne_zero h (Nat.ne_of_gt (Nat.two_pow_pos k));obtain⟨q,hq,hm⟩:=y0o m h;have hmk:m*2^k=2^(tz m+k)*q:=by
    conv=>lhs;rw[hm]
    rw[Nat.pow_add,Nat.mul_right_comm]
   have ht:tz (m*2^k)=tz m+k:=(by rw[hmk,H1i _ _ hq]);unfold oddV;rw[if_neg h,if_neg hp,ht];have e1:m*2^k/2^(tz m+k)=m/2^tz m:=by
    rw[hmk,Nat.mul_div_cancel_left _ (Nat.two_pow_pos _)]
    conv=>rhs;rw[hm]
    rw[H1i _ _ hq,Nat.mul_div_cancel_left _ (Nat.two_pow_pos _)]
   rw[e1];congr 1;omega
theorem X1c (neg:Bool)(m:Nat)(e:Int)(h:m % 2=1):oddV neg m e=⟨neg,m,e⟩:=by rw[oddV,if_neg (by omega),w1h h];simp
theorem k2f (z D q:Nat)(h:D<=z):2^z*q/2^D=q*2^(z-D):=by obtain⟨k,rfl⟩: ∃k,z=D+k:=⟨z-D,by omega⟩;rw[Nat.add_sub_cancel_left,Nat.pow_add,Nat.mul_assoc,Nat.mul_div_cancel_left _ (Nat.two_pow_pos _),Nat.mul_comm]
theorem K3q {x:Nm}(h:Q0r x=true):ofX x=ofN x:=by
 rcases K3m h with h1 | h1;exact X1c _ _ _ h1;have h0:valW x.w=0:=h1;have hw:x.w= []:=by refine Classical.byContradiction fun hw=> ?_;have h2:=h;unfold Q0r at h2;rw[if_neg hw] at h2;simp only[q_i,decide_eq_true_eq] at h2;have h3:=v0t x.w;omega
 have h2:=h;unfold Q0r at h2;rw[if_pos hw] at h2;simp at h2;unfold ofX ofN;rw[h0,G0i,h2.1,h2.2]
theorem X2b (neg:Bool)(m:Nat)(e:Int)(p:Nat)(up:Bool)(hp:0<p):Z0e (oddV neg m e) p up=
 if Q0g m<=p then oddV neg m e else oddV neg (m/2^(Q0g m-p)+(if tz m<Q0g m-p/\up≠neg then 1 else 0)) (e+((Q0g m-p:Nat):Int)):=by
 by_cases h0:m=0;subst h0;rw[if_pos (by rw[X0n];omega),G0i,Z0e,if_pos (by show Q0g 0<=p;rw[X0n];omega)];obtain⟨q,hq,hm⟩:=y0o m h0;have hq0:q≠0:=(by omega);have e1:oddV neg m e=⟨neg,q,e+tz m⟩:=by have:oddV neg (q*2^tz m) e=oddV neg q (e+tz m):=X1b neg q (tz m) e;rw[Nat.mul_comm,<-hm] at this;rw[this,X1c _ _ _ hq]
 have hb:Q0g m=Q0g q+tz m:=by have:=W0d q (tz m) hq0;rw[Nat.mul_comm,<-hm] at this;exact this
 rw[e1];unfold Z0e;simp only;by_cases h1:Q0g q<=p;rw[if_pos h1];by_cases h2:Q0g m<=p;rw[if_pos h2];rw[if_neg h2,if_neg (by omega),Nat.add_zero];have hdiv:m/2^(Q0g m-p)=q*2^(tz m-(Q0g m-p)):=by have h:=k2f (tz m) (Q0g m-p) q (by omega);rw[<-hm] at h;exact h
 rw[hdiv,X1b,X1c _ _ _ hq];congr 1;omega;rw[if_neg h1,if_neg (show¬Q0g m<=p by omega)];have hd:Q0g m-p=tz m+(Q0g q-p):=(by omega);have hdiv:m/2^(Q0g m-p)=q/2^(Q0g q-p):=by have h:=Nat.mul_div_cancel_left q (Nat.two_pow_pos (tz m));rw[<-hm] at h;rw[hd,Nat.pow_add,<-Nat.div_div_eq_div_mul,h]
 have hodd:q % 2^(Q0g q-p)≠0:=by intro h;have hdv:2∣q:=Nat.dvd_trans ⟨2^(Q0g q-p-1),by rw[<-Nat.pow_succ'];congr 1;omega⟩ (Nat.dvd_of_mod_eq_zero h);omega
 rw[hdiv];have hc:(q % 2^(Q0g q-p)≠0/\up≠neg)<->(tz m<Q0g m-p/\up≠neg):=⟨fun h=>⟨by omega,h.2⟩,fun h=>⟨hodd,h.2⟩⟩;by_cases hh:tz m<Q0g m-p/\up≠neg;rw[if_pos hh,if_pos (hc.2 hh)];congr 1;omega;rw[if_neg hh,if_neg (fun h=>hh (hc.1 h))];congr 1;omega
theorem k1n (neg:Bool)(m:Nat)(e:Int):oddV neg m e=mkV (if neg then -(m:Int) else(m:Int)) e:=by by_cases h:m=0;subst h;rw[G0i];unfold mkV;cases neg<;>simp[G0i];unfold mkV;cases neg;show oddV false m e=oddV (decide ((m:Int)<0)) (m:Int).natAbs e;rw[q_g (by omega),Int.natAbs_natCast];show oddV true m e=oddV (decide (-(m:Int)<0)) (-(m:Int)).natAbs e;rw[q_h (by omega),Int.natAbs_neg,Int.natAbs_natCast]
theorem q3l (x:Nm):ofX x=mkV (mant x) x.exp:=by rw[ofX,k1n];rfl
theorem U2f (s:Int)(k:Nat)(e:Int):mkV (s*2^k) e=mkV s (e+k):=by
 unfold mkV;have h1:(s*2^k).natAbs=s.natAbs*2^k:=by rw[Int.natAbs_mul,Int.natAbs_pow];rfl
 have h2:decide (s*2^k<0)=decide (s<0):=by have hp:=two_pow_pos k;by_cases h:s<0;rw[q_h h,q_h (Int.mul_neg_of_neg_of_pos h hp)];rw[q_g h,q_g (Int.not_lt.2 (Int.mul_nonneg (Int.not_lt.1 h) (Int.le_of_lt hp)))]
 rw[h1,h2,X1b]
theorem U2g (s e:Int)(h:s≠0): ∃k:Nat,X0u (mkV s e)*2^k=s/\(mkV s e).e=e+k/\(mkV s e).m≠0:=by have h0:s.natAbs≠0:=(by omega);refine⟨tz s.natAbs,?_,?_,?_⟩;unfold mkV oddV X0u;rw[if_neg h0];simp only;have h1:=Z2e s.natAbs;by_cases hs:s<0;rw[q_h hs,if_pos rfl,Int.neg_mul];have:((s.natAbs/2^tz s.natAbs:Nat):Int)*2^tz s.natAbs=(s.natAbs:Int):=(by rw[show((2:Int)^tz s.natAbs)=((2^tz s.natAbs:Nat):Int) from by simp,<-Int.natCast_mul,h1]);rw[this];omega;rw[q_g hs,if_neg (by simp)];have:((s.natAbs/2^tz s.natAbs:Nat):Int)*2^tz s.natAbs=(s.natAbs:Int):=(by rw[show((2:Int)^tz s.natAbs)=((2^tz s.natAbs:Nat):Int) from by simp,<-Int.natCast_mul,h1]);rw[this];omega;unfold mkV oddV;rw[if_neg h0];unfold mkV oddV;rw[if_neg h0];have:=U0u s.natAbs h0;simp only;omega
def byV (a b:Vl):Vl:=if a.m=0\/b.m=0 then⟨false,0,0⟩ else⟨a.neg !=b.neg,a.m*b.m,a.e+b.e⟩
theorem K3r {a b:Nat}(ha:a % 2=1)(hb:b % 2=1):a*b % 2=1:=by rw[Nat.mul_mod,ha,hb]
theorem x1w : ∀(k a b:Nat),a+b+1=2^k->a&&&b=0
 | 0,a,b,h=>by
  have:a=0:=by simp at h;omega
  subst this;exact Nat.zero_and b
 | k+1,a,b,h=>by have h2:a+b+1=2*2^k:=(by rw[h,Nat.pow_succ,Nat.mul_comm]);have ih:=x1w k (a/2) (b/2) (by omega);have hd:(a&&&b)/2=a/2&&&b/2:=Nat.and_div_two;have hm:(a&&&b) % 2≠1:=fun e=>(by have:=Nat.and_mod_two_eq_one.1 e;omega);omega
theorem U2l : ∀(n x:Nat),0<x->x<2^n->x&&&(2^n-x)=2^tz x
 | 0,x,h,hl=>by simp at hl;omega
 | n+1,x,h,hl=>by have hp:2^(n+1)=2*2^n:=(by rw[Nat.pow_succ,Nat.mul_comm]);have hd:(x&&&(2^(n+1)-x))/2=x/2&&&(2^(n+1)-x)/2:=Nat.and_div_two;rcases Nat.mod_two_eq_zero_or_one x with e | e;have ih:=U2l n (x/2) (by omega) (by omega);have h3:(2^(n+1)-x)/2=2^n-x/2:=(by omega);have hm:(x&&&(2^(n+1)-x)) % 2≠1:=fun e'=>(by have:=Nat.and_mod_two_eq_one.1 e';omega);rw[h3,ih] at hd;have hps:2^(tz (x/2)+1)=2^tz (x/2)*2:=Nat.pow_succ ..;rw[j1i (by omega) e];omega;have h4:=x1w n (x/2) ((2^(n+1)-x)/2) (by omega);have hm:(x&&&(2^(n+1)-x)) % 2=1:=Nat.and_mod_two_eq_one.2 ⟨e,by omega⟩;rw[h4] at hd;rw[w1h e,Nat.pow_zero];omega
theorem v2n (x:Nat)(h:0<x)(hl:x<18446744073709551616):x&&&(18446744073709551616-x)=2^tz x:=U2l 64 x h hl
theorem U1e (x:Nat)(h:0<x)(hl:x<18446744073709551616):tz x<64:=by have h1:=z0q x (by omega);have h2:=V1a x hl;omega
theorem H3d (w r:Nat)(h:0<w)(hl:w<18446744073709551616):tz (w+18446744073709551616*r)=tz w:=by obtain⟨q,hq,hw⟩:=y0o w (by omega);have ht:=U1e w h hl;have e:w+18446744073709551616*r=2^tz w*(q+2^(64-tz w)*r):=(by rw[Nat.mul_add,<-hw,<-Nat.mul_assoc,<-Nat.pow_add,show tz w+(64-tz w)=64 from by omega]);have h2:2^(64-tz w)*r % 2=0:=(by obtain⟨k,hk⟩: ∃k,64-tz w=k+1:=⟨63-tz w,by omega⟩;rw[hk,Nat.pow_succ,Nat.mul_assoc,Nat.mul_left_comm];exact Nat.mul_mod_right _ _);rw[e,H1i _ _ (by omega)]
theorem k0a (l:List UInt64)(i:Nat)(h:i<=l.length):valW l=valW (l.take i)+18446744073709551616^i*valW (l.drop i):=by
 conv=>lhs;rw[<-List.take_append_drop i l]
 rw[G0d,List.length_take,Nat.min_eq_left h]
theorem H1h (l:List UInt64)(i:Nat)(h:i<l.length):valW (l.drop i)=(l.getD i 0).toNat+18446744073709551616*valW (l.drop (i+1)):=by rw[List.drop_eq_getElem_cons h];simp only[valW,nW,List.map_cons,val];rw[q_a,List.getElem?_eq_getElem h];rfl
theorem z0m (l:List UInt64)(i:Nat)(h:l.length<=i):valW (l.drop i)=0:=by rw[List.drop_eq_nil_of_le h];rfl
theorem x0v (l:List UInt64)(i:Nat):valW (l.drop i)=(l.getD i 0).toNat+18446744073709551616*valW (l.drop (i+1)):=by by_cases h:i<l.length;exact H1h l i h;rw[z0m _ _ (by omega),z0m _ _ (by omega),G0q _ _ _ (by omega)];rfl
theorem y0b (l:List UInt64)(i:Nat)(h:i<=l.length):valW l/18446744073709551616^i=valW (l.drop i):=by have hl:=K0i (l.take i);rw[List.length_take,Nat.min_eq_left h] at hl;rw[k0a l i h,Nat.add_mul_div_left _ _ (Nat.pow_pos (by decide)),Nat.div_eq_of_lt hl,Nat.zero_add]
theorem x2f (l:List UInt64)(i:Nat)(hi:i<l.length)(hz:valW (l.take i)=0)(hn:(l.getD i 0).toNat≠0):tz (valW l)=64*i+tz (l.getD i 0).toNat:=by rw[k0a l i (by omega),hz,Nat.zero_add,H1h l i hi,Nat.mul_comm,w0l,x2g _ _ (by omega),H3d _ _ (by omega) (UInt64.toNat_lt _)];omega
theorem K1m (w0 w1 r s:Nat)(h0:w0<18446744073709551616)(hs:s<64):(w0+18446744073709551616*(w1+18446744073709551616*r))/2^s % 18446744073709551616=w0/2^s+w1*2^(64-s) % 18446744073709551616:=by
 have e:(18446744073709551616:Nat)=2^s*2^(64-s):=(by rw[<-Nat.pow_add,show s+(64-s)=64 from by omega]);have h1:(w0+18446744073709551616*(w1+18446744073709551616*r))/2^s=w0/2^s+2^(64-s)*(w1+18446744073709551616*r):=by
  conv=>lhs;rw[show 18446744073709551616*(w1+18446744073709551616*r)=2^s*(2^(64-s)*(w1+18446744073709551616*r)) from by rw[<-Nat.mul_assoc,<-e]]
  rw[Nat.add_mul_div_left _ _ (Nat.two_pow_pos s)]
 have h2:w0/2^s<2^(64-s):=Nat.div_lt_of_lt_mul (by rw[<-e];exact h0);have h3:w1*2^(64-s) % 18446744073709551616=2^(64-s)*(w1 % 2^s):=by
  conv=>lhs;rw[Nat.mul_comm,e,Nat.mul_comm (2^s),Nat.mul_mod_mul_left]
 have h4:2^(64-s)*(w1 % 2^s)+2^(64-s)<=18446744073709551616:=by have h5:w1 % 2^s+1<=2^s:=Nat.mod_lt _ (Nat.two_pow_pos s);have:=Nat.mul_le_mul_left (2^(64-s)) h5;rw[Nat.mul_add,Nat.mul_one] at this;rw[Nat.mul_comm (2^(64-s)) (2^s),<-e] at this;exact this
 rw[h1,h3];have h6:w0/2^s+2^(64-s)*(w1+18446744073709551616*r)=(w0/2^s+2^(64-s)*(w1 % 2^s))+18446744073709551616*(w1/2^s+2^(64-s)*r):=by have h7:=Nat.div_add_mod w1 (2^s);have h8:2^(64-s)*w1=2^(64-s)*(2^s*(w1/2^s))+2^(64-s)*(w1 % 2^s):=(by rw[<-Nat.mul_add,h7]);rw[<-Nat.mul_assoc,Nat.mul_comm (2^(64-s)) (2^s),<-e] at h8;rw[Nat.mul_add,Nat.mul_add,h8,Nat.mul_left_comm];omega
 rw[h6,Nat.add_mul_mod_self_left,Nat.mod_eq_of_lt (by omega)]
theorem y2i (w0 w1 s:Nat)(h0:w0<18446744073709551616)(hs:s<64):(w0/2^s)|||(w1*2^(64-s) % 18446744073709551616)=w0/2^s+w1*2^(64-s) % 18446744073709551616:=by refine J1p _ _ (64-s) (Nat.div_lt_of_lt_mul ?_) (k0v _ _ (by omega));rw[<-Nat.pow_add,show s+(64-s)=64 from by omega];exact h0
def p2 (e:Int):Rat:=(2:Rat)^e
theorem Z3l (e:Int):0<p2 e:=Rat.zpow_pos (by decide)
theorem Z3m (a b:Int):p2 (a+b)=p2 a*p2 b:=Rat.zpow_add (by decide) a b
theorem Y2i :p2 0=1:=Rat.zpow_zero 2
theorem q3i (k:Nat):(((2:Int)^k:Int):Rat)=p2 k:=by
 unfold p2;rw[Rat.zpow_natCast]
 induction k with
 | zero=>rfl
 | succ k ih=>rw[Int.pow_succ,Rat.intCast_mul,ih,Rat.pow_succ];rfl
def qM (s e:Int):Rat:=(s:Rat)*p2 e
def qV (v:Vl):Rat:=qM (X0u v) v.e
def qN (x:Nm):Rat:=qM (mant x) x.exp
theorem k0e (s:Int)(k:Nat)(e:Int):qM (s*2^k) e=qM s (e+k):=by unfold qM;rw[Rat.intCast_mul,q3i,Z3m];grind
theorem q1l (s t e:Int):qM (s+t) e=qM s e+qM t e:=by unfold qM;rw[Rat.intCast_add];grind
theorem W2t (s t e f:Int):qM (s*t) (e+f)=qM s e*qM t f:=by unfold qM;rw[Rat.intCast_mul,Z3m];grind
theorem W0j (e:Int):qM 0 e=0:=by unfold qM;rw[Rat.intCast_zero];grind
theorem w1v (s e:Int):qM (-s) e= -qM s e:=by unfold qM;rw[Rat.intCast_neg];grind
theorem qM_le {s t e:Int} :qM s e<=qM t e<->s<=t:=by unfold qM;constructor;intro h;exact Rat.intCast_le_intCast.1 (Rat.le_of_mul_le_mul_right h (Z3l e));intro h;exact Rat.mul_le_mul_of_nonneg_right (Rat.intCast_le_intCast.2 h) (Rat.le_of_lt (Z3l e))
theorem qM_lt {s t e:Int} :qM s e<qM t e<->s<t:=by rw[<-Rat.not_le,qM_le];omega
theorem qM_eq {s t e:Int} :qM s e=qM t e<->s=t:=by constructor;intro h;have h1:=(qM_le (s:=s) (t:=t) (e:=e)).1 (by rw[h];exact Rat.le_refl);have h2:=(qM_le (s:=t) (t:=s) (e:=e)).1 (by rw[h];exact Rat.le_refl);omega;rintro rfl;rfl
theorem j1x (s e g:Int)(h:g<=e):qM s e=qM (s*2^(e-g).toNat) g:=by rw[k0e];congr 1;omega
theorem J3z (s e:Int):qV (mkV s e)=qM s e:=by by_cases h:s=0;subst h;rw[y1l,W0j];exact W0j 0;obtain⟨k,k1,k2,k3⟩:=U2g s e h;unfold qV;rw[k2,<-k0e,k1]
theorem k0d (neg:Bool)(m:Nat)(e:Int):qV (oddV neg m e)=qM (if neg then -(m:Int) else(m:Int)) e:=by rw[k1n,J3z]
theorem H3v (x:Nm):qV (ofX x)=qN x:=by rw[q3l,J3z];rfl
theorem U0n (x:Nm):qV (ofN x)=qN x:=rfl
theorem V1p {v:Vl}(h:v.m=0):qV v=0:=by unfold qV;rw[Q1g h,W0j]
theorem k0s (a b:Vl):qV (U0i a b)=qV a+qV b:=by unfold U0i;split;rename_i h;rw[V1p h];grind;split;rename_i h;rw[V1p h];grind;rw[J3z,q1l,<-j1x _ _ _ (by omega),<-j1x _ _ _ (by omega)];rfl
theorem H0q (v:Vl):qV (V0g v)= -qV v:=by unfold qV;rw[Q1h,y0q,w1v]
theorem J1e (a b:Vl):qV (k0x a b)=qV a-qV b:=by unfold k0x;rw[k0s,H0q];grind
theorem v2l {a b:Vl}(ha:a.m≠0)(hb:b.m≠0):X0u (byV a b)=X0u a*X0u b/\(byV a b).e=a.e+b.e:=by unfold byV;rw[if_neg (by omega)];refine⟨?_,rfl⟩;unfold X0u;cases a.neg<;>cases b.neg<;>simp[Int.neg_mul,Int.mul_neg]
theorem J1f (a b:Vl):qV (byV a b)=qV a*qV b:=by by_cases ha:a.m=0;rw[V1p ha,V1p (by unfold byV;rw[if_pos (.inl ha)])];grind;by_cases hb:b.m=0;rw[V1p hb,V1p (by unfold byV;rw[if_pos (.inr hb)])];grind;obtain⟨h1,h2⟩:=v2l ha hb;unfold qV;rw[h1,h2,W2t]
theorem V2w (m:Int):sgn m<=0<->m<=0:=by unfold sgn;split<;>(try split)<;>omega
theorem V2v (m:Int):sgn m<0<->m<0:=by unfold sgn;split<;>(try split)<;>omega
theorem Y2l (a b:Vl):G0h a b<=0<->qV a<=qV b:=by
 unfold G0h;have h:=J1e a b;rw[j0c,V2w];have h2:X0u (k0x a b)<=0<->qV (k0x a b)<=0:=by rw[<-W0j (k0x a b).e];exact qM_le.symm
 rw[h2,h];grind
theorem Y2k (a b:Vl):G0h a b<0<->qV a<qV b:=by
 unfold G0h;have h:=J1e a b;rw[j0c,V2v];have h2:X0u (k0x a b)<0<->qV (k0x a b)<0:=by rw[<-W0j (k0x a b).e];exact qM_lt.symm
 rw[h2,h];grind
theorem cmpN_le {a b:Nm} :cmpN a b<=0<->qN a<=qN b:=by rw[<-W1p,Y2l];rfl
theorem w1n (a:Vl):J0c a<0<->qV a<0:=by rw[j0c,V2v,<-W0j a.e];exact qM_lt.symm
theorem U1k (a:Vl):J0c a<=0<->qV a<=0:=by rw[j0c,V2w,<-W0j a.e];exact qM_le.symm
def canV (v:Vl):Prop:=v.m % 2=1\/v=⟨false,0,0⟩
theorem y0e (neg:Bool)(m:Nat)(e:Int):canV (oddV neg m e):=by unfold oddV canV;split;exact .inr rfl;exact .inl (U0u m (by assumption))
theorem Y3j (s e:Int):canV (mkV s e):=y0e _ _ _
theorem X1k (x:Nm):canV (ofX x):=y0e _ _ _
theorem U0r {x:Nm}(h:Q0r x=true):canV (ofN x):=by rw[<-K3q h];exact X1k x
theorem x0r {a b:Vl}(ha:canV a)(hb:canV b):canV (U0i a b):=by unfold U0i;split;exact hb;split;exact ha;exact Y3j _ _
theorem y0d {a:Vl}(ha:canV a):canV (V0g a):=by rcases ha with h | rfl;exact .inl (by rw[y0p];exact h);exact .inr rfl
theorem K1x {a b:Vl}(ha:canV a)(hb:canV b):canV (k0x a b):=x0r ha (y0d hb)
theorem q2n {a b:Vl}(ha:canV a)(hb:canV b):canV (byV a b):=by rcases ha with h | rfl;rcases hb with k | rfl;exact .inl (by unfold byV;rw[if_neg (by omega)];exact K3r h k);exact .inr (by unfold byV;rw[if_pos (.inr rfl)]);exact .inr (by unfold byV;rw[if_pos (.inl rfl)])
theorem G0b {v:Vl}(h:canV v)(p:Nat)(up:Bool):canV (Z0e v p up):=by unfold Z0e;split;exact h;exact y0e _ _ _
theorem z0c {v:Vl}(h:canV v):okV v:=by rcases h with h | rfl;exact .inl h;exact .inr rfl
theorem x1l {v:Vl}(h:canV v):v=mkV (X0u v) v.e:=by
 rcases h with h | rfl
 . have:oddV v.neg v.m v.e=v:=by rw[X1c _ _ _ h]
   conv=>lhs;rw[<-this]
   rw[k1n];rfl
 rw[show X0u ⟨false,0,0⟩=0 from rfl,y1l]
theorem q3r {s e t f:Int}(h:qM s e=qM t f):mkV s e=mkV t f:=by
 have h1:mkV s e=mkV (s*2^(e-min e f).toNat) (min e f):=by rw[U2f];congr 1;omega
 have h2:mkV t f=mkV (t*2^(f-min e f).toNat) (min e f):=by rw[U2f];congr 1;omega
 rw[j1x s e (min e f) (by omega),j1x t f (min e f) (by omega),qM_eq] at h;rw[h1,h2,h]
theorem Q3b {v w:Vl}(hv:canV v)(hw:canV w)(h:qV v=qV w):v=w:=by rw[x1l hv,x1l hw];exact q3r h
theorem q1t {x:Nm}{v:Vl}(hv:canV v)(h:qN x=qV v):ofX x=v:=Q3b (X1k x) hv (by rw[H3v,h])
theorem y0v (neg:Bool)(m d:Nat)(c:Nat)(e:Int):qM (if neg then -((m/2^d+c:Nat):Int) else((m/2^d+c:Nat):Int)) (e+(d:Int))=qM (if neg then -(((m/2^d+c)*2^d:Nat):Int) else(((m/2^d+c)*2^d:Nat):Int)) e:=by rw[<-k0e];congr 1;cases neg;simp;simp[Int.neg_mul]
theorem H1y (v:Vl)(p:Nat):qV (Z0e v p false)<=qV v:=by unfold Z0e;split;exact Rat.le_refl;rw[k0d,y0v];unfold qV X0u;rw[qM_le];generalize Q0g v.m-p=d;have h1:=Nat.div_add_mod v.m (2^d);have h2:=Nat.mod_lt v.m (Nat.two_pow_pos d);rw[Nat.mul_comm] at h1;rw[Nat.add_mul];cases v.neg;rw[if_neg (by simp),if_neg (by simp),if_neg (by simp),Nat.zero_mul];omega;rw[if_pos rfl,if_pos rfl];by_cases h3:v.m % 2^d=0;rw[if_neg (by simp[h3]),Nat.zero_mul];omega;rw[if_pos ⟨h3,by simp⟩,Nat.one_mul];omega
theorem H1z (v:Vl)(p:Nat):qV v<=qV (Z0e v p true):=by unfold Z0e;split;exact Rat.le_refl;rw[k0d,y0v];unfold qV X0u;rw[qM_le];generalize Q0g v.m-p=d;have h1:=Nat.div_add_mod v.m (2^d);have h2:=Nat.mod_lt v.m (Nat.two_pow_pos d);rw[Nat.mul_comm] at h1;rw[Nat.add_mul];cases v.neg;rw[if_neg (by simp),if_neg (by simp)];by_cases h3:v.m % 2^d=0;rw[if_neg (by simp[h3]),Nat.zero_mul];omega;rw[if_pos ⟨h3,by simp⟩,Nat.one_mul];omega;rw[if_pos rfl,if_pos rfl,if_neg (by simp),Nat.zero_mul];omega
theorem q0w {v:Vl}(hv:canV v)(h:(numV v).2=0):ofN (numV v).1=v/\qN (numV v).1=qV v:=by unfold numV at h⊢;split;rename_i h0;rcases hv with hv | rfl;omega;exact⟨rfl,rfl⟩;rename_i h0;rw[if_neg h0] at h;split;rename_i h1;rw[if_pos h1] at h;cases h;have e:ofN ⟨v.neg,v.e,Q0q v.m⟩=v:=(by unfold ofN;rw[Z0g]);exact⟨e,by rw[<-U0n,e]⟩
theorem G0k {a b:Rat}(ha:0<=a)(hb:0<=b):0<=a*b:=Rat.mul_nonneg ha hb
theorem Y3b {x y u v X U:Rat}(h1:x<=X)(h2:X<=y)(h3:u<=U)(h4:U<=v)(hx:0<=x)(hu:0<=u):x*u<=X*U:=by have a1:=G0k (a:=X-x) (b:=u) (by grind) hu;have a2:=G0k (a:=X) (b:=U-u) (by grind) (by grind);grind
theorem q2c {x y u v X U:Rat}(h1:x<=X)(h2:X<=y)(h3:u<=U)(h4:U<=v)(hx:0<=X)(hu:u<=0):y*u<=X*U:=by have a1:=G0k (a:=y-X) (b:= -u) (by grind) (by grind);have a2:=G0k (a:=X) (b:=U-u) (by grind) (by grind);grind
theorem q2b {x y u v X U:Rat}(h1:x<=X)(h2:X<=y)(h3:u<=U)(h4:U<=v)(hx:x<=0)(hu:0<=U):x*v<=X*U:=by have a1:=G0k (a:= -x) (b:=v-U) (by grind) (by grind);have a2:=G0k (a:=X-x) (b:=U) (by grind) (by grind);grind
theorem Y3a {x y u v X U:Rat}(h1:x<=X)(h2:X<=y)(h3:u<=U)(h4:U<=v)(hx:y<=0)(hu:v<=0):y*v<=X*U:=by have a1:=G0k (a:=y-X) (b:= -v) (by grind) (by grind);have a2:=G0k (a:= -X) (b:=v-U) (by grind) (by grind);grind
theorem K3f {a b:Rat}(ha:a<=0)(hb:b<=0):0<=a*b:=by have:=G0k (a:= -a) (b:= -b) (by grind) (by grind);grind
theorem K3g {a b:Rat}(ha:0<=a)(hb:b<=0):a*b<=0:=by have:=G0k (a:=a) (b:= -b) ha (by grind);grind
theorem k2x {a b:Rat}(ha:a<=0)(hb:0<=b):a*b<=0:=by have:=G0k (a:= -a) (b:=b) (by grind) hb;grind
def V0j (x y u v:Vl):Vl:=
 if 0<=J0c x/\0<=J0c u then byV x u else if 0<=J0c x then byV y u else if 0<=J0c u then byV x v else
 if J0c y<=0/\J0c v<=0 then byV y v else if G0h (byV y u) (byV x v)<0 then byV y u else byV x v
def G0o (x y u v:Vl):Vl:=V0g (V0j (V0g y) (V0g x) u v)
theorem w1o (a:Vl):0<=J0c a<->0<=qV a:=by have:=w1n a;rw[<-Rat.not_lt,<-this];omega
theorem q0d {x y u v:Vl}(hx:qV x<=qV y)(hu:qV u<=qV v){X U:Rat}(h1:qV x<=X)(h2:X<=qV y)(h3:qV u<=U)(h4:U<=qV v):qV (V0j x y u v)<=X*U:=by
 unfold V0j;simp only[w1o,U1k,Y2k,J1f];split;rename_i h;rw[J1f];exact Y3b h1 h2 h3 h4 h.1 h.2;rename_i n1;split;rename_i h;rw[J1f];exact q2c h1 h2 h3 h4 (by grind) (by grind);rename_i n2;split;rename_i h;rw[J1f];exact q2b h1 h2 h3 h4 (by grind) (by grind);rename_i n3;split;rename_i h;rw[J1f];exact Y3a h1 h2 h3 h4 h.1 h.2;rename_i n4;have key:qV y*qV u<=X*U\/qV x*qV v<=X*U:=by by_cases hX:0<=X;exact .inl (q2c h1 h2 h3 h4 hX (by grind));by_cases hU:0<=U;exact .inr (q2b h1 h2 h3 h4 (by grind) hU);have p:=K3f (a:=X) (b:=U) (by grind) (by grind);by_cases hy:0<=qV y;have:=K3g (a:=qV y) (b:=qV u) hy (by grind);exact .inl (by grind);have:=k2x (a:=qV x) (b:=qV v) (by grind) (by grind);exact .inr (by grind)
 split;rename_i h;rw[J1f];grind;rename_i h;rw[J1f];grind
theorem j0k (x y u v:Vl):V0j x y u v=byV x u\/V0j x y u v=byV x v\/V0j x y u v=byV y u\/V0j x y u v=byV y v:=by
 unfold V0j
 repeat' split
 all_goals simp
theorem x0g {x y u v:Vl}(hx:qV x<=qV y)(hu:qV u<=qV v){X U:Rat}(h1:qV x<=X)(h2:X<=qV y)(h3:qV u<=U)(h4:U<=qV v):X*U<=qV (G0o x y u v):=by unfold G0o;have:=q0d (x:=V0g y) (y:=V0g x) (u:=u) (v:=v) (X:= -X) (U:=U) (by rw[H0q,H0q];grind) hu (by rw[H0q];grind) (by rw[H0q];grind) h3 h4;rw[H0q];grind
theorem J2k (x y u v:Vl):qV (G0o x y u v)=qV x*qV u\/qV (G0o x y u v)=qV x*qV v\/qV (G0o x y u v)=qV y*qV u\/qV (G0o x y u v)=qV y*qV v:=by
 unfold G0o;rw[H0q];rcases j0k (V0g y) (V0g x) u v with h | h | h | h
 all_goals rw[h,J1f,H0q];grind
theorem Q1s {x y u v:Vl}(hx:canV x)(hy:canV y)(hu:canV u)(hv:canV v):canV (V0j x y u v):=by
 rcases j0k x y u v with h | h | h | h
 all_goals rw[h];exact q2n (by assumption) (by assumption)
theorem Y1u {x y u v:Vl}(hx:canV x)(hy:canV y)(hu:canV u)(hv:canV v):canV (G0o x y u v):=y0d (Q1s (y0d hy) (y0d hx) hu hv)
def exV (k:Nat)(a b:Vl):Vl:=if k=0 then U0i a b else if k=1 then k0x a b else byV a b
def exQ (k:Nat)(a b:Rat):Rat:=if k=0 then a+b else if k=1 then a-b else a*b
theorem exQ0 (a b:Rat):exQ 0 a b=a+b:=by simp[exQ]
theorem exQ2 (a b:Rat):exQ 2 a b=a*b:=by simp[exQ]
theorem H3w (k:Nat)(a b:Vl):qV (exV k a b)=exQ k (qV a) (qV b):=by unfold exV exQ;split;exact k0s a b;split;exact J1e a b;exact J1f a b
theorem v1u (k:Nat){a b:Vl}(ha:canV a)(hb:canV b):canV (exV k a b):=by unfold exV;split;exact x0r ha hb;split;exact K1x ha hb;exact q2n ha hb
def Z0q (p:Int):Bool:=decide (8<=p)&&decide (p<=256)
def strN (k:Nat)(a b:Nm):Nm×Int:=if Q0r a=true/\Q0r b=true then numV (exV k (ofN a) (ofN b)) else(default,1)
def Y0i (lo hi:Vl):Ivl×Int:=if (numV lo).2=0/\(numV hi).2=0 then(⟨(numV lo).1,(numV hi).1⟩,0) else(default,2)
def loV (k:Nat)(x y u v:Vl):Vl:=if k=0 then U0i x u else if k=1 then k0x x v else V0j x y u v
def hiV (k:Nat)(x y u v:Vl):Vl:=if k=0 then U0i y v else if k=1 then k0x y u else G0o x y u v
def opI (k:Nat)(a b:Ivl)(p:Int):Ivl×Int:=
 if Q0m a=true/\Q0m b=true/\Z0q p=true then Y0i (Z0e (loV k (ofN a.lo) (ofN a.hi) (ofN b.lo) (ofN b.hi)) p.toNat false) (Z0e (hiV k (ofN a.lo) (ofN a.hi) (ofN b.lo) (ofN b.hi)) p.toNat true) else(default,1)
theorem loV0 (x y u v:Vl):loV 0 x y u v=U0i x u:=by simp[loV]
theorem hiV0 (x y u v:Vl):hiV 0 x y u v=U0i y v:=by simp[hiV]
theorem q3y (k:Nat){x y u v:Vl}(hx:qV x<=qV y)(hu:qV u<=qV v){X U:Rat}(h1:qV x<=X)(h2:X<=qV y)(h3:qV u<=U)(h4:U<=qV v):qV (loV k x y u v)<=exQ k X U:=by unfold loV exQ;split;rw[k0s];grind;split;rw[J1e];grind;exact q0d hx hu h1 h2 h3 h4
theorem z3i (k:Nat){x y u v:Vl}(hx:qV x<=qV y)(hu:qV u<=qV v){X U:Rat}(h1:qV x<=X)(h2:X<=qV y)(h3:qV u<=U)(h4:U<=qV v):exQ k X U<=qV (hiV k x y u v):=by unfold hiV exQ;split;rw[k0s];grind;split;rw[J1e];grind;exact x0g hx hu h1 h2 h3 h4
theorem q2l (k:Nat){x y u v:Vl}(hx:canV x)(hy:canV y)(hu:canV u)(hv:canV v):canV (loV k x y u v):=by unfold loV;split;exact x0r hx hu;split;exact K1x hx hv;exact Q1s hx hy hu hv
theorem q2m (k:Nat){x y u v:Vl}(hx:canV x)(hy:canV y)(hu:canV u)(hv:canV v):canV (hiV k x y u v):=by unfold hiV;split;exact x0r hy hv;split;exact K1x hy hu;exact Y1u hx hy hu hv
theorem y0z {x:Ivl}(h:Q0m x=true):qV (ofN x.lo)<=qV (ofN x.hi):=cmpN_le.1 (Z0n h).2.2
theorem v1e {lo hi:Vl}(h1:canV lo)(h2:canV hi)(h:qV lo<=qV hi):Q0m (Y0i lo hi).1=true:=by unfold Y0i;split;rename_i hh;exact z0t (K0a (z0c h1)) (K0a (z0c h2)) (cmpN_le.2 (by rw[(q0w h1 hh.1).2,(q0w h2 hh.2).2];exact h));decide
theorem X4x (k:Nat){a b:Ivl}(ha:Q0m a=true)(hb:Q0m b=true)(p:Nat):
 qV (Z0e (loV k (ofN a.lo) (ofN a.hi) (ofN b.lo) (ofN b.hi)) p false)<=qV (Z0e (hiV k (ofN a.lo) (ofN a.hi) (ofN b.lo) (ofN b.hi)) p true):=by
 have h1:=H1y (loV k (ofN a.lo) (ofN a.hi) (ofN b.lo) (ofN b.hi)) p;have h2:=H1z (hiV k (ofN a.lo) (ofN a.hi) (ofN b.lo) (ofN b.hi)) p;have h3:=q3y k (y0z ha) (y0z hb) Rat.le_refl (y0z ha) Rat.le_refl (y0z hb);have h4:=z3i k (y0z ha) (y0z hb) Rat.le_refl (y0z ha) Rat.le_refl (y0z hb);grind
theorem canI {x:Ivl}(h:Q0m x=true):canV (ofN x.lo)/\canV (ofN x.hi):=⟨U0r (Z0n h).1,U0r (Z0n h).2.1⟩
theorem X0t (k:Nat)(a b:Ivl)(p:Int):Q0m (opI k a b p).1=true:=by unfold opI;split;rename_i h;have ca:=canI h.1;have cb:=canI h.2.1;exact v1e (G0b (q2l k ca.1 ca.2 cb.1 cb.2) _ _) (G0b (q2m k ca.1 ca.2 cb.1 cb.2) _ _) (X4x k h.1 h.2.1 _);decide
def memI (X:Rat)(a:Ivl):Prop:=qN a.lo<=X/\X<=qN a.hi
def bd (n k:Nat)(x:Nm):Prop:=x.w.length<=n/\ -(k:Int)<=x.exp/\x.exp<=k
theorem bd.mono {n k n' k':Nat}{x:Nm}(h:bd n k x)(h1:n<=n')(h2:k<=k'):bd n' k' x:=⟨by have:=h.1;omega,by have:=h.2.1;omega,by have:=h.2.2;omega⟩
theorem X0i {x:Nm}(h:Q0r x=true):bd 64 65536 x:=by unfold Q0r at h;by_cases hw:x.w= [];rw[if_pos hw] at h;simp at h;exact⟨by rw[hw];simp,by rw[h.2];omega,by rw[h.2];omega⟩;rw[if_neg hw] at h;simp only[q_i,decide_eq_true_eq] at h;exact⟨h.1.1.1.2,h.1.2,h.2⟩
theorem j2t (neg:Bool)(e:Int)(m:Nat):qN ⟨neg,e,Q0q m⟩=qM (if neg then -(m:Int) else(m:Int)) e:=by unfold qN mant;rw[Z0g]
theorem K3a (b:Nm)(e:Int)(d:Nat)(h:b.exp=e+d):qN b=qM (if b.neg then -((valW b.w*2^d:Nat):Int) else((valW b.w*2^d:Nat):Int)) e:=by unfold qN;rw[h,<-k0e];congr 1;unfold mant;cases b.neg;simp;simp[Int.neg_mul]
theorem W3a (a b:Nm)(d:Nat)(h:b.exp=a.exp+d)(hn:a.neg=b.neg):qN ⟨a.neg,a.exp,Q0q (valW a.w+valW b.w*2^d)⟩=qN a+qN b:=by rw[j2t,K3a b a.exp d h,show qN a=qM (mant a) a.exp from rfl,<-q1l];congr 1;unfold mant;rw[<-hn];cases a.neg<;>simp<;>omega
theorem w2u (a b:Nm)(d:Nat)(h:b.exp=a.exp+d)(hn:a.neg≠b.neg)(hle:valW b.w*2^d<=valW a.w):qN ⟨a.neg,a.exp,Q0q (valW a.w-valW b.w*2^d)⟩=qN a+qN b:=by
 rw[j2t,K3a b a.exp d h,show qN a=qM (mant a) a.exp from rfl,<-q1l];congr 1;unfold mant;generalize valW b.w*2^d=x at*
 cases ha:a.neg<;>cases hb:b.neg<;>simp[ha,hb] at hn⊢ <;>omega
theorem w2t (a b:Nm)(d:Nat)(h:b.exp=a.exp+d)(hn:a.neg≠b.neg)(hle:valW a.w<=valW b.w*2^d):qN ⟨b.neg,a.exp,Q0q (valW b.w*2^d-valW a.w)⟩=qN a+qN b:=by
 rw[j2t,K3a b a.exp d h,show qN a=qM (mant a) a.exp from rfl,<-q1l];congr 1;unfold mant;generalize valW b.w*2^d=x at*
 cases ha:a.neg<;>cases hb:b.neg<;>simp[ha,hb] at hn⊢ <;>omega
theorem H1q {x:Nm}(h:sgnN x=0):qN x=0:=by
 have:mant x=0:=by rw[k0o] at h;unfold sgn at h;split at h;assumption;split at h<;>omega
 unfold qN;rw[this,W0j]
theorem z3u (a b:Nm)(n k d:Nat)(ha:bd n k a)(hb:bd n k b)(hd:d<=2*k):(Q0q (valW a.w+valW b.w*2^d)).length<=n+k+1:=by
 refine J0n ?_;have h1:=K0i a.w;have h2:=K0i b.w;have hp: ∀l:Nat,l<=n->18446744073709551616^l<=2^(64*n):=fun l hl=>(by rw[w0l];exact Nat.pow_le_pow_right (by decide) (by omega));have h3:valW a.w<2^(64*n+d):=q_e h1 (Nat.le_trans (hp _ ha.1) (Nat.pow_le_pow_right (by decide) (by omega)));have h4:valW b.w*2^d<2^(64*n+d):=by rw[Nat.pow_add];exact Nat.mul_lt_mul_of_pos_right (q_e h2 (hp _ hb.1)) (Nat.two_pow_pos d)
 have h5:18446744073709551616^(n+k+1)=2^(64*(n+k+1)):=w0l _;have h6:2^(64*n+d+1)<=2^(64*(n+k+1)):=Nat.pow_le_pow_right (by decide) (by omega);have h7:2^(64*n+d+1)=2^(64*n+d)*2:=Nat.pow_succ ..;rw[h5];omega
theorem H2b (a b:Nm)(n k d m:Nat)(ha:bd n k a)(hb:bd n k b)(hd:d<=2*k)(hm:m<=valW a.w+valW b.w*2^d):(Q0q m).length<=n+k+1:=Nat.le_trans (W0p hm) (z3u a b n k d ha hb hd)
theorem H3y (a b:Nm):qN ⟨a.neg !=b.neg,a.exp+b.exp,Q0q (valW a.w*valW b.w)⟩=qN a*qN b:=by rw[j2t];show _=qM (mant a) a.exp*qM (mant b) b.exp;rw[<-W2t];congr 1;unfold mant;cases a.neg<;>cases b.neg<;>simp[Int.neg_mul,Int.mul_neg]
theorem V3k (a b:Nm)(n k m l:Nat)(ha:bd n k a)(hb:bd m l b):bd (n+m) (k+l) ⟨a.neg !=b.neg,a.exp+b.exp,Q0q (valW a.w*valW b.w)⟩:=by refine⟨J0n ?_,?_,?_⟩;have h1:=K0i a.w;have h2:=K0i b.w;refine q_e (Nat.mul_lt_mul'' h1 h2) ?_;rw[<-Nat.pow_add];exact Nat.pow_le_pow_right (by decide) (by have:=ha.1;have:=hb.1;omega);have:=ha.2.1;have:=hb.2.1;simp only;omega;have:=ha.2.2;have:=hb.2.2;simp only;omega
theorem U1a (m:Nat)(h:m≠0):((Q0q m).getD 0 0).toNat % 2=m % 2:=by rw[<-v0t,Z0g]
theorem q1a (neg:Bool)(m:Nat)(e:Int)(h:m % 2=1):Q0r ⟨neg,e,Q0q m⟩=(decide ((Q0q m).length<=64)&&decide (-65536<=e)&&decide (e<=65536)):=by
 have hw:Q0q m≠ []:=fun e=>by rw[wordsOf_nil] at e;omega
 have h1:((Q0q m).getD 0 0).toNat % 2=1:=by rw[U1a m (by omega)];exact h
 unfold Q0r;rw[if_neg hw,U0g];simp only[h1,decide_true,Bool.true_and,Bool.and_true]
def mkX (neg:Bool)(w:List UInt64)(e:Int):Nm×Int:=numV (oddV neg (valW w) e)
theorem v2g {neg:Bool}{w:List UInt64}{e:Int}(h:valW w=0):mkX neg w e=(default,0):=by unfold mkX;rw[h,G0i];rfl
theorem U2e {neg:Bool}{w:List UInt64}{e:Int}(h:valW w≠0)(h2:65536<e\/e< -65536-((tz (valW w):Nat):Int)):mkX neg w e=(default,2):=by unfold mkX oddV;rw[if_neg h];have h1:valW w/2^tz (valW w)≠0:=(by have:=U0u (valW w) h;omega);unfold numV;rw[if_neg h1,if_pos (by simp only;omega)]
theorem v2h {neg:Bool}{w:List UInt64}{e:Int}(h:valW w≠0):mkX neg w e=if Q0r ⟨neg,e+((tz (valW w):Nat):Int),Q0q (valW w/2^tz (valW w))⟩=true then(⟨neg,e+((tz (valW w):Nat):Int),Q0q (valW w/2^tz (valW w))⟩,0) else(default,2):=by have h0:=U0u (valW w) h;rw[q1a _ _ _ h0];unfold mkX oddV;rw[if_neg h];unfold numV;rw[if_neg (by simp only;omega)];simp only;by_cases hc:64<(Q0q (valW w/2^tz (valW w))).length\/e+((tz (valW w):Nat):Int)< -65536\/65536<e+((tz (valW w):Nat):Int);rw[if_pos hc,if_neg];simp only[q_i,decide_eq_true_eq];omega;rw[if_neg hc,if_pos];simp only[q_i,decide_eq_true_eq];omega
theorem U2d (x:Nm):mkX x.neg x.w x.exp=numV (ofX x):=rfl
def rndX (x:Nm)(p:Nat)(up:Bool):Nm:=
 if X0w x.w<=p then x else⟨x.neg,x.exp+((X0w x.w-p:Nat):Int),Q0q (valW x.w/2^(X0w x.w-p)+(if tz (valW x.w)<X0w x.w-p/\up≠x.neg then 1 else 0))⟩
theorem j2h (x:Nm)(p:Nat)(up:Bool)(hp:0<p):ofX (rndX x p up)=Z0e (ofX x) p up:=by unfold rndX;show _=Z0e (oddV x.neg (valW x.w) x.exp) p up;rw[X2b _ _ _ _ _ hp];unfold X0w;split;rfl;unfold ofX;rw[Z0g]
theorem J3x (x:Nm)(p:Nat)(up:Bool)(n k:Nat)(h:bd n k x):bd (n+1) (k+64*n) (rndX x p up):=by have hb:=Y0f x.w;have hl:=h.1;unfold rndX;split;exact h.mono (by omega) (by omega);refine⟨?_,?_,?_⟩;refine J0n ?_;have h1:=K0i x.w;have h2:valW x.w/2^(X0w x.w-p)<=valW x.w:=Nat.div_le_self _ _;have h3:18446744073709551616^x.w.length<=18446744073709551616^n:=Nat.pow_le_pow_right (by decide) hl;have h4:18446744073709551616^(n+1)=18446744073709551616^n*18446744073709551616:=Nat.pow_succ ..;split<;>omega;have:=h.2.1;simp only;omega;have:=h.2.2;simp only;omega
def hasI (a:Ivl)(x:Nm):Bool:=Q0m a&&Q0r x&&decide (cmpN a.lo x<=0)&&decide (cmpN x a.hi<=0)
def k1p (lo hi:Nm):Ivl×Int:=if Q0m ⟨lo,hi⟩=true then(⟨lo,hi⟩,0) else(default,1)
theorem W2r (a b:Nm):qN (K0c a b)<=qN a/\qN (K0c a b)<=qN b/\(qN (K0c a b)=qN a\/qN (K0c a b)=qN b):=by have h1:=cmpN_le.1 (J2f a b);have h2:=cmpN_le.1 (J2e a b);refine⟨h1,h2,?_⟩;unfold K0c;split;exact .inr rfl;exact .inl rfl
theorem W2s (a b:Nm):qN a<=qN (K0d a b)/\qN b<=qN (K0d a b)/\(qN (K0d a b)=qN a\/qN (K0d a b)=qN b):=by have h1:=cmpN_le.1 (J2m a b);have h2:=cmpN_le.1 (J2l a b);refine⟨h1,h2,?_⟩;unfold K0d;split;exact .inr rfl;exact .inl rfl
theorem J2p {a b:Ivl}(ha:Q0m a=true)(hb:Q0m b=true){p1 p2 p3 p4:Nm}(h1:qN p1=qN a.lo*qN b.lo)(h2:qN p2=qN a.lo*qN b.hi)(h3:qN p3=qN a.hi*qN b.lo)(h4:qN p4=qN a.hi*qN b.hi):
 ofX (K0c (K0c (K0c p1 p2) p3) p4)=loV 2 (ofN a.lo) (ofN a.hi) (ofN b.lo) (ofN b.hi):=by
 have ca:=canI ha;have cb:=canI hb;have la:=y0z ha;have lb:=y0z hb;show _=V0j (ofN a.lo) (ofN a.hi) (ofN b.lo) (ofN b.hi);refine q1t (Q1s ca.1 ca.2 cb.1 cb.2) ?_;have r1:=q0d la lb Rat.le_refl la Rat.le_refl lb;have r2:=q0d la lb Rat.le_refl la lb Rat.le_refl;have r3:=q0d la lb la Rat.le_refl Rat.le_refl lb;have r4:=q0d la lb la Rat.le_refl lb Rat.le_refl;have rr: ∀v w:Vl,V0j (ofN a.lo) (ofN a.hi) (ofN b.lo) (ofN b.hi)=byV v w->qV (V0j (ofN a.lo) (ofN a.hi) (ofN b.lo) (ofN b.hi))=qV v*qV w:=fun v w e=>(by rw[e,J1f]);have r5:qV (V0j (ofN a.lo) (ofN a.hi) (ofN b.lo) (ofN b.hi))=qV (ofN a.lo)*qV (ofN b.lo)\/qV (V0j (ofN a.lo) (ofN a.hi) (ofN b.lo) (ofN b.hi))=qV (ofN a.lo)*qV (ofN b.hi)\/qV (V0j (ofN a.lo) (ofN a.hi) (ofN b.lo) (ofN b.hi))=qV (ofN a.hi)*qV (ofN b.lo)\/qV (V0j (ofN a.lo) (ofN a.hi) (ofN b.lo) (ofN b.hi))=qV (ofN a.hi)*qV (ofN b.hi):=by rcases j0k (ofN a.lo) (ofN a.hi) (ofN b.lo) (ofN b.hi) with e | e | e | e;exact .inl (rr _ _ e);exact .inr (.inl (rr _ _ e));exact .inr (.inr (.inl (rr _ _ e)));exact .inr (.inr (.inr (rr _ _ e)))
 generalize qV (V0j (ofN a.lo) (ofN a.hi) (ofN b.lo) (ofN b.hi))=V at*
 simp only[U0n] at*
 rw[<-h1] at r1 r5;rw[<-h2] at r2 r5;rw[<-h3] at r3 r5;rw[<-h4] at r4 r5;obtain⟨s1,s2,s3⟩:=W2r p1 p2;obtain⟨t1,t2,t3⟩:=W2r (K0c p1 p2) p3;obtain⟨u1,u2,u3⟩:=W2r (K0c (K0c p1 p2) p3) p4;clear h1 h2 h3 h4 la lb rr;grind
theorem G1i {a b:Ivl}(ha:Q0m a=true)(hb:Q0m b=true){p1 p2 p3 p4:Nm}(h1:qN p1=qN a.lo*qN b.lo)(h2:qN p2=qN a.lo*qN b.hi)(h3:qN p3=qN a.hi*qN b.lo)(h4:qN p4=qN a.hi*qN b.hi):
 ofX (K0d (K0d (K0d p1 p2) p3) p4)=hiV 2 (ofN a.lo) (ofN a.hi) (ofN b.lo) (ofN b.hi):=by
 have ca:=canI ha;have cb:=canI hb;have la:=y0z ha;have lb:=y0z hb;show _=G0o (ofN a.lo) (ofN a.hi) (ofN b.lo) (ofN b.hi);refine q1t (Y1u ca.1 ca.2 cb.1 cb.2) ?_;have r1:=x0g la lb Rat.le_refl la Rat.le_refl lb;have r2:=x0g la lb Rat.le_refl la lb Rat.le_refl;have r3:=x0g la lb la Rat.le_refl Rat.le_refl lb;have r4:=x0g la lb la Rat.le_refl lb Rat.le_refl;have r5:=J2k (ofN a.lo) (ofN a.hi) (ofN b.lo) (ofN b.hi);generalize qV (G0o (ofN a.lo) (ofN a.hi) (ofN b.lo) (ofN b.hi))=V at*
 simp only[U0n] at*
 rw[<-h1] at r1 r5;rw[<-h2] at r2 r5;rw[<-h3] at r3 r5;rw[<-h4] at r4 r5;obtain⟨s1,s2,s3⟩:=W2s p1 p2;obtain⟨t1,t2,t3⟩:=W2s (K0d p1 p2) p3;obtain⟨u1,u2,u3⟩:=W2s (K0d (K0d p1 p2) p3) p4;clear h1 h2 h3 h4 la lb;grind
def opB (k:Nat)(a b:List Ivl)(p:Int):List Ivl×Int:=if rightB a=true/\rightB b=true/\a.length=b.length/\Z0q p=true then v0f (fun i x=>opI k x (b.getD i default) p) 0 a [] else([],1)
def V0h (x:Ivl)(b:List Ivl)(p:Int):List Ivl×Int:=if rightB b=true/\Q0m x=true/\Z0q p=true then v0f (fun _ y=>opI 2 x y p) 0 b [] else([],1)
def ofB (q:List Nm):List Ivl:=q.map fun x=>⟨x,x⟩
theorem Y2x (v:Vl):(numV v).2=0\/(numV v).2=2:=by unfold numV;split;exact .inl rfl;split;exact .inr rfl;exact .inl rfl
def bdV (n k:Nat)(v:Vl):Prop:=Q0g v.m<=n/\ -(k:Int)<=v.e/\v.e<=k
theorem bdV.mono {n k n' k':Nat}{v:Vl}(h:bdV n k v)(h1:n<=n')(h2:k<=k'):bdV n' k' v:=⟨by have:=h.1;omega,by have:=h.2.1;omega,by have:=h.2.2;omega⟩
theorem Y0s {x:Nm}(h:Q0r x=true):bdV 4096 65536 (ofN x):=by have hb:=X0i h;have h1:=Y0f x.w;exact⟨by show Q0g (valW x.w)<=_;unfold X0w at h1;have:=hb.1;omega,hb.2.1,hb.2.2⟩
theorem V1b {neg:Bool}{m:Nat}{e:Int}{n k:Nat}(h1:Q0g m<=n)(h2: -(k:Int)<=e)(h3:e<=k):bdV n (k+n) (oddV neg m e):=by unfold oddV;split;exact⟨by rw[X0n];omega,by simp only;omega,by simp only;omega⟩;have ht:=z0r m;have hl:=J0b (Nat.div_le_self m (2^tz m));exact⟨by simp only;omega,by simp only;omega,by simp only;omega⟩
theorem Q2m {a b:Vl}{n k:Nat}(ha:bdV n k a)(hb:bdV n k b):bdV (n+2*k+1) (n+3*k+1) (U0i a b):=by
 unfold U0i;split;exact hb.mono (by omega) (by omega);split;exact ha.mono (by omega) (by omega);have h1:=V0v a.m (a.e-min a.e b.e).toNat;have h2:=V0v b.m (b.e-min a.e b.e).toNat;have h3:=U0t (a.m*2^(a.e-min a.e b.e).toNat) (b.m*2^(b.e-min a.e b.e).toNat);obtain⟨a1,a2,a3⟩:=ha;obtain⟨b1,b2,b3⟩:=hb;have hk1:(a.e-min a.e b.e).toNat<=2*k:=(by omega);have hk2:(b.e-min a.e b.e).toNat<=2*k:=(by omega);have hm:(X0u a*2^(a.e-min a.e b.e).toNat+X0u b*2^(b.e-min a.e b.e).toNat).natAbs<=a.m*2^(a.e-min a.e b.e).toNat+b.m*2^(b.e-min a.e b.e).toNat:=by
  have e1: ∀(v:Vl) (j:Nat),(X0u v*2^j).natAbs=v.m*2^j:=fun v j=>by rw[Int.natAbs_mul,Int.natAbs_pow];congr 1;unfold X0u;cases v.neg<;>simp
  have:=Int.natAbs_add_le (X0u a*2^(a.e-min a.e b.e).toNat) (X0u b*2^(b.e-min a.e b.e).toNat);rw[e1,e1] at this;exact this
 have h4:=J0b hm;have:=V1b (neg:=decide (X0u a*2^(a.e-min a.e b.e).toNat+X0u b*2^(b.e-min a.e b.e).toNat<0)) (m:=(X0u a*2^(a.e-min a.e b.e).toNat+X0u b*2^(b.e-min a.e b.e).toNat).natAbs) (e:=min a.e b.e) (n:=n+2*k+1) (k:=k) (by omega) (by omega) (by omega);exact this.mono (by omega) (by omega)
theorem y0f {a:Vl}{n k:Nat}(ha:bdV n k a):bdV n k (V0g a):=by unfold bdV;rw[y0p,y0q];exact ha
theorem Q2n {a b:Vl}{n k m l:Nat}(ha:bdV n k a)(hb:bdV m l b):bdV (n+m) (k+l) (byV a b):=by
 unfold byV;split;exact⟨by rw[X0n];omega,by simp only;omega,by simp only;omega⟩;refine⟨?_,?_,?_⟩;have h:Q0g (a.m*b.m)<=Q0g a.m+Q0g b.m:=by rw[bitlen_le_iff,Nat.pow_add];exact Nat.mul_lt_mul'' (Z0b _) (Z0b _)
 have:=ha.1;have:=hb.1;simp only;omega;have:=ha.2.1;have:=hb.2.1;simp only;omega;have:=ha.2.2;have:=hb.2.2;simp only;omega
theorem q0l {a:Vl}{n k:Nat}(ha:bdV n k a)(p:Nat)(up:Bool):bdV (n+1) (k+2*n+1) (Z0e a p up):=by
 unfold Z0e;split;exact ha.mono (by omega) (by omega);have h1:=ha.1;have h2:=J0b (Nat.div_le_self a.m (2^(Q0g a.m-p)));have h3:Q0g (a.m/2^(Q0g a.m-p)+(if a.m % 2^(Q0g a.m-p)≠0/\up≠a.neg then 1 else 0))<=n+1:=by have b1:Q0g 1=1:=rfl;have h:=U0t (a.m/2^(Q0g a.m-p)) 1;split;by_cases hq:Q0g (a.m/2^(Q0g a.m-p))=0;have hn:0<Q0g a.m:=(by rename_i hh _;omega);omega;omega;rw[Nat.add_zero];omega
 have:=V1b (neg:=a.neg) (e:=a.e+((Q0g a.m-p:Nat):Int)) (k:=k+n) h3 (by have:=ha.2.1;omega) (by have:=ha.2.2;omega);exact this.mono (by omega) (by omega)
theorem x1v {x y u v:Vl}{n k m l:Nat}(hx:bdV n k x)(hy:bdV n k y)(hu:bdV m l u)(hv:bdV m l v):bdV (n+m) (k+l) (V0j x y u v):=by
 rcases j0k x y u v with h | h | h | h
 all_goals rw[h];exact Q2n (by assumption) (by assumption)
theorem q2x {x y u v:Vl}{n k m l:Nat}(hx:bdV n k x)(hy:bdV n k y)(hu:bdV m l u)(hv:bdV m l v):bdV (n+m) (k+l) (G0o x y u v):=y0f (x1v (y0f hy) (y0f hx) hu hv)
theorem V0d {v:Vl}{n k:Nat}(h:bdV n k v)(hn:n<=1000000000000):(Q0c v.m).length<=1000000000000:=by have:=Z0o v.m;have:=h.1;omega
theorem Z2v {v:Vl}(h:J0c v=0):v.m=0:=by unfold J0c at h;split at h;assumption;split at h<;>omega
theorem j2s (k:Nat):qV (oddV false k 0)=(k:Rat):=by rw[k0d,if_neg (by simp)];unfold qM;rw[Y2i];show((k:Int):Rat)*1=_;rw[Rat.mul_one];rfl
theorem x1u {k:Nat}(h:k<=8):bdV 4 4 (oddV false k 0):=by have hb:Q0g k<=4:=bitlen_le_iff.2 (by omega);have:=V1b (neg:=false) (m:=k) (e:=0) (n:=4) (k:=0) hb (by omega) (by omega);exact this.mono (by omega) (by omega)
theorem v2i {a:Ivl}{x:Nm}(h:hasI a x=true):Q0m a=true/\Q0r x=true/\memI (qN x) a:=by unfold hasI at h;simp only[q_i,decide_eq_true_eq] at h;exact⟨h.1.1.1,h.1.1.2,cmpN_le.1 h.1.2,cmpN_le.1 h.2⟩
theorem q1v {v:Vl}{n k:Nat}(h:bdV n k v)(h1:n<=4096)(h2:k<=65536):(numV v).2=0:=by unfold numV;split;rfl;rw[if_neg];have hl:=q0n v.m;have:=h.1;have:=h.2.1;have:=h.2.2;omega
end Go.Pv
end
