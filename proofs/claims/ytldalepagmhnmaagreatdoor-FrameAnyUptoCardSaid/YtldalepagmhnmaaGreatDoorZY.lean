/- Parts of the walk: M23, M24, M25, M26, M27, M28, M29, M30, M31, M32, M33, M34, M35, M36. -/
import Derived.Test.YtldalepagmhnmaaGreatDoorZK
set_option linter.unusedVariables false
set_option linter.unusedSimpArgs false
section
namespace Go.Pv
def ofX (x:Nm):Vl:=oddV x.neg (valW x.w) x.exp
def Z0o (v:Vl)(p:Nat)(up:Bool):Vl:=
 if Q0i v.m<=p then v else
  oddV v.neg (v.m/2^(Q0i v.m-p)+(if v.m % 2^(Q0i v.m-p)≠0/\up≠v.neg then 1 else 0)) (v.e+((Q0i v.m-p:Nat):Int))
theorem G0o (neg:Bool)(e:Int):oddV neg 0 e=⟨false,0,0⟩:=by rw[oddV,if_pos rfl]
theorem J1e (neg:Bool)(m k:Nat)(e:Int):oddV neg (m*2^k) e=oddV neg m (e+k):=by
 by_cases h:m=0;subst h;rw[Nat.zero_mul,G0o,G0o]
 . have hp:m*2^k≠0:=Nat.mul_ne_zero h (Nat.ne_of_gt (Nat.two_pow_pos k));obtain⟨q,hq,hm⟩:=Q1m m h;have hmk:m*2^k=2^(tz m+k)*q:=by
    conv=>lhs;rw[hm]
    rw[Nat.pow_add,Nat.mul_right_comm]
   have ht:tz (m*2^k)=tz m+k:=(by rw[hmk,z1r _ _ hq]);unfold oddV;rw[if_neg h,if_neg hp,ht];have e1:m*2^k/2^(tz m+k)=m/2^tz m:=by
    rw[hmk,Nat.mul_div_cancel_left _ (Nat.two_pow_pos _)]
    conv=>rhs;rw[hm]
    rw[z1r _ _ hq,Nat.mul_div_cancel_left _ (Nat.two_pow_pos _)]
   rw[e1];congr 1;omega
theorem y0f (neg:Bool)(m:Nat)(e:Int)(h:m % 2=1):oddV neg m e=⟨neg,m,e⟩:=by rw[oddV,if_neg oG,Z2c h];simp
theorem w2m (z D q:Nat)(h:D<=z):2^z*q/2^D=q*2^(z-D):=by obtain⟨k,rfl⟩: ∃k,z=D+k:=⟨z-D,oG⟩;rw[Nat.add_sub_cancel_left,Nat.pow_add,Nat.mul_assoc,Nat.mul_div_cancel_left _ (Nat.two_pow_pos _),Nat.mul_comm]
theorem H2d {x:Nm}(h:Q0h x=true):ofX x=ofN x:=by
 rcases w1y h with h1 | h1;exact y0f _ _ _ h1;have h0:valW x.w=0:=h1;have hw:x.w= []:=by refine Classical.byContradiction fun hw=> ?_;have h2:=h;unfold Q0h at h2;rw[if_neg hw] at h2;simp only[q_i,decide_eq_true_eq] at h2;have h3:=w0d x.w;omega
 have h2:=h;unfold Q0h at h2;rw[if_pos hw] at h2;simp at h2;unfold ofX ofN;rw[h0,G0o,h2.1,h2.2]
theorem V2c (neg:Bool)(m:Nat)(e:Int)(p:Nat)(up:Bool)(hp:0<p):Z0o (oddV neg m e) p up=
 if Q0i m<=p then oddV neg m e else oddV neg (m/2^(Q0i m-p)+(if tz m<Q0i m-p/\up≠neg then 1 else 0)) (e+((Q0i m-p:Nat):Int)):=by
 by_cases h0:m=0;subst h0;rw[if_pos (by rw[X0w];omega),G0o,Z0o,if_pos (by show Q0i 0<=p;rw[X0w];omega)];obtain⟨q,hq,hm⟩:=Q1m m h0;have hq0:q≠0:=oG;have e1:oddV neg m e=⟨neg,q,e+tz m⟩:=by have:oddV neg (q*2^tz m) e=oddV neg q (e+tz m):=J1e neg q (tz m) e;rw[Nat.mul_comm,<-hm] at this;rw[this,y0f _ _ _ hq]
 have hb:Q0i m=Q0i q+tz m:=by have:=U0f q (tz m) hq0;rw[Nat.mul_comm,<-hm] at this;exact this
 rw[e1];unfold Z0o;simp only;by_cases h1:Q0i q<=p;rw[if_pos h1];by_cases h2:Q0i m<=p;rw[if_pos h2];rw[if_neg h2,if_neg oG,Nat.add_zero];have hdiv:m/2^(Q0i m-p)=q*2^(tz m-(Q0i m-p)):=by have h:=w2m (tz m) (Q0i m-p) q oG;rw[<-hm] at h;exact h
 rw[hdiv,J1e,y0f _ _ _ hq];congr 1;omega;rw[if_neg h1,if_neg (show¬Q0i m<=p by omega)];have hd:Q0i m-p=tz m+(Q0i q-p):=oG;have hdiv:m/2^(Q0i m-p)=q/2^(Q0i q-p):=by have h:=Nat.mul_div_cancel_left q (Nat.two_pow_pos (tz m));rw[<-hm] at h;rw[hd,Nat.pow_add,<-Nat.div_div_eq_div_mul,h]
 have hodd:q % 2^(Q0i q-p)≠0:=by intro h;have hdv:2∣q:=Nat.dvd_trans ⟨2^(Q0i q-p-1),by rw[<-Nat.pow_succ'];congr 1;omega⟩ (Nat.dvd_of_mod_eq_zero h);omega
 rw[hdiv];have hc:(q % 2^(Q0i q-p)≠0/\up≠neg)<->(tz m<Q0i m-p/\up≠neg):=⟨fun h=>⟨oG,h.2⟩,fun h=>⟨hodd,h.2⟩⟩;by_cases hh:tz m<Q0i m-p/\up≠neg;rw[if_pos hh,if_pos (hc.2 hh)];congr 1;omega;rw[if_neg hh,if_neg (fun h=>hh (hc.1 h))];congr 1;omega
theorem y1i (neg:Bool)(m:Nat)(e:Int):oddV neg m e=mkV (if neg then -(m:Int) else(m:Int)) e:=by by_cases h:m=0;subst h;rw[G0o];unfold mkV;cases neg<;>simp[G0o];unfold mkV;cases neg;show oddV false m e=oddV (decide ((m:Int)<0)) (m:Int).natAbs e;rw[q_g oG,Int.natAbs_natCast];show oddV true m e=oddV (decide (-(m:Int)<0)) (-(m:Int)).natAbs e;rw[q_h oG,Int.natAbs_neg,Int.natAbs_natCast]
theorem x3x (x:Nm):ofX x=mkV (mant x) x.exp:=by rw[ofX,y1i];rfl
theorem H2v (s:Int)(k:Nat)(e:Int):mkV (s*2^k) e=mkV s (e+k):=by
 unfold mkV;have h1:(s*2^k).natAbs=s.natAbs*2^k:=by rw[Int.natAbs_mul,Int.natAbs_pow];rfl
 have h2:decide (s*2^k<0)=decide (s<0):=by have hp:=two_pow_pos k;by_cases h:s<0;rw[q_h h,q_h (Int.mul_neg_of_neg_of_pos h hp)];rw[q_g h,q_g (Int.not_lt.2 (Int.mul_nonneg (Int.not_lt.1 h) (Int.le_of_lt hp)))]
 rw[h1,h2,J1e]
theorem H2w (s e:Int)(h:s≠0): ∃k:Nat,J0j (mkV s e)*2^k=s/\(mkV s e).e=e+k/\(mkV s e).m≠0:=by have h0:s.natAbs≠0:=oG;refine⟨tz s.natAbs,?_,?_,?_⟩;unfold mkV oddV J0j;rw[if_neg h0];simp only;have h1:=K2l s.natAbs;by_cases hs:s<0;rw[q_h hs,if_pos rfl,Int.neg_mul];have:((s.natAbs/2^tz s.natAbs:Nat):Int)*2^tz s.natAbs=(s.natAbs:Int):=(by rw[show((2:Int)^tz s.natAbs)=((2^tz s.natAbs:Nat):Int) from by simp,<-Int.natCast_mul,h1]);rw[this];omega;rw[q_g hs,if_neg (by simp)];have:((s.natAbs/2^tz s.natAbs:Nat):Int)*2^tz s.natAbs=(s.natAbs:Int):=(by rw[show((2:Int)^tz s.natAbs)=((2^tz s.natAbs:Nat):Int) from by simp,<-Int.natCast_mul,h1]);rw[this];omega;unfold mkV oddV;rw[if_neg h0];unfold mkV oddV;rw[if_neg h0];have:=q0f s.natAbs h0;simp only;omega
def byV (a b:Vl):Vl:=if a.m=0\/b.m=0 then⟨false,0,0⟩ else⟨a.neg !=b.neg,a.m*b.m,a.e+b.e⟩
theorem U3j {a b:Nat}(ha:a % 2=1)(hb:b % 2=1):a*b % 2=1:=by rw[Nat.mul_mod,ha,hb]
theorem v1s : ∀(k a b:Nat),a+b+1=2^k->a&&&b=0
 | 0,a,b,h=>by
  have:a=0:=by simp at h;omega
  subst this;exact Nat.zero_and b
 | k+1,a,b,h=>by have h2:a+b+1=2*2^k:=(by rw[h,Nat.pow_succ,Nat.mul_comm]);have ih:=v1s k (a/2) (b/2) oG;have hd:(a&&&b)/2=a/2&&&b/2:=Nat.and_div_two;have hm:(a&&&b) % 2≠1:=fun e=>(by have:=Nat.and_mod_two_eq_one.1 e;omega);omega
theorem q2j : ∀(n x:Nat),0<x->x<2^n->x&&&(2^n-x)=2^tz x
 | 0,x,h,hl=>by simp at hl;omega
 | n+1,x,h,hl=>by have hp:2^(n+1)=2*2^n:=(by rw[Nat.pow_succ,Nat.mul_comm]);have hd:(x&&&(2^(n+1)-x))/2=x/2&&&(2^(n+1)-x)/2:=Nat.and_div_two;rcases Nat.mod_two_eq_zero_or_one x with e | e;have ih:=q2j n (x/2) oG oG;have h3:(2^(n+1)-x)/2=2^n-x/2:=oG;have hm:(x&&&(2^(n+1)-x)) % 2≠1:=fun e'=>(by have:=Nat.and_mod_two_eq_one.1 e';omega);rw[h3,ih] at hd;have hps:2^(tz (x/2)+1)=2^tz (x/2)*2:=Nat.pow_succ ..;rw[w1c oG e];omega;have h4:=v1s n (x/2) ((2^(n+1)-x)/2) oG;have hm:(x&&&(2^(n+1)-x)) % 2=1:=Nat.and_mod_two_eq_one.2 ⟨e,oG⟩;rw[h4] at hd;rw[Z2c e,Nat.pow_zero];omega
theorem Q3f (x:Nat)(h:0<x)(hl:x<18446744073709551616):x&&&(18446744073709551616-x)=2^tz x:=q2j 64 x h hl
theorem G1r (x:Nat)(h:0<x)(hl:x<18446744073709551616):tz x<64:=by have h1:=x0g x oG;have h2:=v1o x hl;omega
theorem z3p (w r:Nat)(h:0<w)(hl:w<18446744073709551616):tz (w+18446744073709551616*r)=tz w:=by obtain⟨q,hq,hw⟩:=Q1m w oG;have ht:=G1r w h hl;have e:w+18446744073709551616*r=2^tz w*(q+2^(64-tz w)*r):=(by rw[Nat.mul_add,<-hw,<-Nat.mul_assoc,<-Nat.pow_add,show tz w+(64-tz w)=64 from oG]);have h2:2^(64-tz w)*r % 2=0:=(by obtain⟨k,hk⟩: ∃k,64-tz w=k+1:=⟨63-tz w,oG⟩;rw[hk,Nat.pow_succ,Nat.mul_assoc,Nat.mul_left_comm];exact Nat.mul_mod_right _ _);rw[e,z1r _ _ oG]
theorem W0h (l:List UInt64)(i:Nat)(h:i<=l.length):valW l=valW (l.take i)+18446744073709551616^i*valW (l.drop i):=by
 conv=>lhs;rw[<-List.take_append_drop i l]
 rw[V0k,List.length_take,Nat.min_eq_left h]
theorem z1p (l:List UInt64)(i:Nat)(h:i<l.length):valW (l.drop i)=(l.getD i 0).toNat+18446744073709551616*valW (l.drop (i+1)):=by rw[List.drop_eq_getElem_cons h];simp only[valW,nW,List.map_cons,val];rw[q_a,List.getElem?_eq_getElem h];rfl
theorem x0d (l:List UInt64)(i:Nat)(h:l.length<=i):valW (l.drop i)=0:=by rw[List.drop_eq_nil_of_le h];rfl
theorem q0e (l:List UInt64)(i:Nat):valW (l.drop i)=(l.getD i 0).toNat+18446744073709551616*valW (l.drop (i+1)):=by by_cases h:i<l.length;exact z1p l i h;rw[x0d _ _ oG,x0d _ _ oG,z0l _ _ _ oG];rfl
theorem Q1d (l:List UInt64)(i:Nat)(h:i<=l.length):valW l/18446744073709551616^i=valW (l.drop i):=by have hl:=X0r (l.take i);rw[List.length_take,Nat.min_eq_left h] at hl;rw[W0h l i h,Nat.add_mul_div_left _ _ (Nat.pow_pos (by decide)),Nat.div_eq_of_lt hl,Nat.zero_add]
theorem k2w (l:List UInt64)(i:Nat)(hi:i<l.length)(hz:valW (l.take i)=0)(hn:(l.getD i 0).toNat≠0):tz (valW l)=64*i+tz (l.getD i 0).toNat:=by rw[W0h l i oG,hz,Nat.zero_add,z1p l i hi,Nat.mul_comm,y0a,k2x _ _ oG,z3p _ _ oG (UInt64.toNat_lt _)];omega
theorem W1k (w0 w1 r s:Nat)(h0:w0<18446744073709551616)(hs:s<64):(w0+18446744073709551616*(w1+18446744073709551616*r))/2^s % 18446744073709551616=w0/2^s+w1*2^(64-s) % 18446744073709551616:=by
 have e:(18446744073709551616:Nat)=2^s*2^(64-s):=(by rw[<-Nat.pow_add,show s+(64-s)=64 from oG]);have h1:(w0+18446744073709551616*(w1+18446744073709551616*r))/2^s=w0/2^s+2^(64-s)*(w1+18446744073709551616*r):=by
  conv=>lhs;rw[show 18446744073709551616*(w1+18446744073709551616*r)=2^s*(2^(64-s)*(w1+18446744073709551616*r)) from by rw[<-Nat.mul_assoc,<-e]]
  rw[Nat.add_mul_div_left _ _ (Nat.two_pow_pos s)]
 have h2:w0/2^s<2^(64-s):=Nat.div_lt_of_lt_mul (by rw[<-e];exact h0);have h3:w1*2^(64-s) % 18446744073709551616=2^(64-s)*(w1 % 2^s):=by
  conv=>lhs;rw[Nat.mul_comm,e,Nat.mul_comm (2^s),Nat.mul_mod_mul_left]
 have h4:2^(64-s)*(w1 % 2^s)+2^(64-s)<=18446744073709551616:=by have h5:w1 % 2^s+1<=2^s:=Nat.mod_lt _ (Nat.two_pow_pos s);have:=Nat.mul_le_mul_left (2^(64-s)) h5;rw[Nat.mul_add,Nat.mul_one] at this;rw[Nat.mul_comm (2^(64-s)) (2^s),<-e] at this;exact this
 rw[h1,h3];have h6:w0/2^s+2^(64-s)*(w1+18446744073709551616*r)=(w0/2^s+2^(64-s)*(w1 % 2^s))+18446744073709551616*(w1/2^s+2^(64-s)*r):=by have h7:=Nat.div_add_mod w1 (2^s);have h8:2^(64-s)*w1=2^(64-s)*(2^s*(w1/2^s))+2^(64-s)*(w1 % 2^s):=(by rw[<-Nat.mul_add,h7]);rw[<-Nat.mul_assoc,Nat.mul_comm (2^(64-s)) (2^s),<-e] at h8;rw[Nat.mul_add,Nat.mul_add,h8,Nat.mul_left_comm];omega
 rw[h6,Nat.add_mul_mod_self_left,Nat.mod_eq_of_lt oG]
theorem X3f (w0 w1 s:Nat)(h0:w0<18446744073709551616)(hs:s<64):(w0/2^s)|||(w1*2^(64-s) % 18446744073709551616)=w0/2^s+w1*2^(64-s) % 18446744073709551616:=by refine K1y _ _ (64-s) (Nat.div_lt_of_lt_mul ?_) (v0m _ _ oG);rw[<-Nat.pow_add,show s+(64-s)=64 from oG];exact h0
def p2 (e:Int):Rat:=(2:Rat)^e
theorem K3n (e:Int):0<p2 e:=Rat.zpow_pos (by decide)
theorem G2s (a b:Int):p2 (a+b)=p2 a*p2 b:=Rat.zpow_add (by decide) a b
theorem Y3z :p2 0=1:=Rat.zpow_zero 2
theorem K3o (k:Nat):(((2:Int)^k:Int):Rat)=p2 k:=by
 unfold p2;rw[Rat.zpow_natCast]
 induction k with
 | zero=>rfl
 | succ k ih=>rw[Int.pow_succ,Rat.intCast_mul,ih,Rat.pow_succ];rfl
def qM (s e:Int):Rat:=(s:Rat)*p2 e
def qV (v:Vl):Rat:=qM (J0j v) v.e
def qN (x:Nm):Rat:=qM (mant x) x.exp
theorem H0k (s:Int)(k:Nat)(e:Int):qM (s*2^k) e=qM s (e+k):=by unfold qM;rw[Rat.intCast_mul,K3o,G2s];grind
theorem X2b (s t e:Int):qM (s+t) e=qM s e+qM t e:=by unfold qM;rw[Rat.intCast_add];grind
theorem G2j (s t e f:Int):qM (s*t) (e+f)=qM s e*qM t f:=by unfold qM;rw[Rat.intCast_mul,G2s];grind
theorem K0k (e:Int):qM 0 e=0:=by unfold qM;rw[Rat.intCast_zero];grind
theorem X1j (s e:Int):qM (-s) e= -qM s e:=by unfold qM;rw[Rat.intCast_neg];grind
theorem qM_le {s t e:Int} :qM s e<=qM t e<->s<=t:=by unfold qM;constructor;intro h;exact Rat.intCast_le_intCast.1 (Rat.le_of_mul_le_mul_right h (K3n e));intro h;exact Rat.mul_le_mul_of_nonneg_right (Rat.intCast_le_intCast.2 h) (Rat.le_of_lt (K3n e))
theorem qM_lt {s t e:Int} :qM s e<qM t e<->s<t:=by rw[<-Rat.not_le,qM_le];omega
theorem Q4v {s t e:Int} :qM s e=qM t e<->s=t:=by constructor;intro h;have h1:=(qM_le (s:=s) (t:=t) (e:=e)).1 (by rw[h];exact Rat.le_refl);have h2:=(qM_le (s:=t) (t:=s) (e:=e)).1 (by rw[h];exact Rat.le_refl);omega;rintro rfl;rfl
theorem x1y (s e g:Int)(h:g<=e):qM s e=qM (s*2^(e-g).toNat) g:=by rw[H0k];congr 1;omega
theorem Y3n (s e:Int):qV (mkV s e)=qM s e:=by by_cases h:s=0;subst h;rw[X2u,K0k];exact K0k 0;obtain⟨k,k1,k2,k3⟩:=H2w s e h;unfold qV;rw[k2,<-H0k,k1]
theorem X1h (neg:Bool)(m:Nat)(e:Int):qV (oddV neg m e)=qM (if neg then -(m:Int) else(m:Int)) e:=by rw[y1i,Y3n]
theorem K3i (x:Nm):qV (ofX x)=qN x:=by rw[x3x,Y3n];rfl
theorem J0p (x:Nm):qV (ofN x)=qN x:=rfl
theorem H1g {v:Vl}(h:v.m=0):qV v=0:=by unfold qV;rw[Z1h h,K0k]
theorem v0g (a b:Vl):qV (U0v a b)=qV a+qV b:=by unfold U0v;split;rename_i h;rw[H1g h];grind;split;rename_i h;rw[H1g h];grind;rw[Y3n,X2b,<-x1y _ _ _ oG,<-x1y _ _ _ oG];rfl
theorem H0x (v:Vl):qV (V0g v)= -qV v:=by unfold qV;rw[Z1i,Q1o,X1j]
theorem v0h (a b:Vl):qV (q0n a b)=qV a-qV b:=by unfold q0n;rw[v0g,H0x];grind
theorem Q3d {a b:Vl}(ha:a.m≠0)(hb:b.m≠0):J0j (byV a b)=J0j a*J0j b/\(byV a b).e=a.e+b.e:=by unfold byV;rw[if_neg oG];refine⟨?_,rfl⟩;unfold J0j;cases a.neg<;>cases b.neg<;>simp[Int.neg_mul,Int.mul_neg]
theorem Y1h (a b:Vl):qV (byV a b)=qV a*qV b:=by by_cases ha:a.m=0;rw[H1g ha,H1g (by unfold byV;rw[if_pos (.inl ha)])];grind;by_cases hb:b.m=0;rw[H1g hb,H1g (by unfold byV;rw[if_pos (.inr hb)])];grind;obtain⟨h1,h2⟩:=Q3d ha hb;unfold qV;rw[h1,h2,G2j]
theorem U2i (m:Int):sgn m<=0<->m<=0:=by unfold sgn;split<;>(try split)<;>omega
theorem K3g (m:Int):sgn m<0<->m<0:=by unfold sgn;split<;>(try split)<;>omega
theorem G2x (a b:Vl):W0d a b<=0<->qV a<=qV b:=by
 unfold W0d;have h:=v0h a b;rw[j0t,U2i];have h2:J0j (q0n a b)<=0<->qV (q0n a b)<=0:=by rw[<-K0k (q0n a b).e];exact qM_le.symm
 rw[h2,h];grind
theorem y0d (a b:Vl):W0d a b<0<->qV a<qV b:=by
 unfold W0d;have h:=v0h a b;rw[j0t,K3g];have h2:J0j (q0n a b)<0<->qV (q0n a b)<0:=by rw[<-K0k (q0n a b).e];exact qM_lt.symm
 rw[h2,h];grind
theorem cmpN_le {a b:Nm} :cmpN a b<=0<->qN a<=qN b:=by rw[<-Z1a,G2x];rfl
theorem cmpN_lt {a b:Nm} :cmpN a b<0<->qN a<qN b:=by rw[<-Z1a,y0d];rfl
theorem cmpN_gt {a b:Nm} :0<cmpN a b<->qN b<qN a:=by have:=cmpN_le (a:=a) (b:=b);rw[<-Rat.not_le,<-this];omega
theorem Z2j (a:Vl):V0m a<0<->qV a<0:=by rw[j0t,K3g,<-K0k a.e];exact qM_lt.symm
theorem v2l (a:Vl):V0m a<=0<->qV a<=0:=by rw[j0t,U2i,<-K0k a.e];exact qM_le.symm
def canV (v:Vl):Prop:=v.m % 2=1\/v=⟨false,0,0⟩
theorem J1l (neg:Bool)(m:Nat)(e:Int):canV (oddV neg m e):=by unfold oddV canV;split;exact .inr rfl;exact .inl (q0f m (by assumption))
theorem H3w (s e:Int):canV (mkV s e):=J1l _ _ _
theorem q1w (x:Nm):canV (ofX x):=J1l _ _ _
theorem Y0e {x:Nm}(h:Q0h x=true):canV (ofN x):=by rw[<-H2d h];exact q1w x
theorem q0w {a b:Vl}(ha:canV a)(hb:canV b):canV (U0v a b):=by unfold U0v;split;exact hb;split;exact ha;exact H3w _ _
theorem Q1f {a:Vl}(ha:canV a):canV (V0g a):=by rcases ha with h | rfl;exact .inl (by rw[Q1n];exact h);exact .inr rfl
theorem W1t {a b:Vl}(ha:canV a)(hb:canV b):canV (q0n a b):=q0w ha (Q1f hb)
theorem x2w {a b:Vl}(ha:canV a)(hb:canV b):canV (byV a b):=by rcases ha with h | rfl;rcases hb with k | rfl;exact .inl (by unfold byV;rw[if_neg oG];exact U3j h k);exact .inr (by unfold byV;rw[if_pos (.inr rfl)]);exact .inr (by unfold byV;rw[if_pos (.inl rfl)])
theorem V0a {v:Vl}(h:canV v)(p:Nat)(up:Bool):canV (Z0o v p up):=by unfold Z0o;split;exact h;exact J1l _ _ _
theorem Z1y {v:Vl}(h:canV v):okV v:=by rcases h with h | rfl;exact .inl h;exact .inr rfl
theorem v1g {v:Vl}(h:canV v):v=mkV (J0j v) v.e:=by
 rcases h with h | rfl
 . have:oddV v.neg v.m v.e=v:=by rw[y0f _ _ _ h]
   conv=>lhs;rw[<-this]
   rw[y1i];rfl
 rw[show J0j ⟨false,0,0⟩=0 from rfl,X2u]
theorem j3f {s e t f:Int}(h:qM s e=qM t f):mkV s e=mkV t f:=by
 have h1:mkV s e=mkV (s*2^(e-min e f).toNat) (min e f):=by rw[H2v];congr 1;omega
 have h2:mkV t f=mkV (t*2^(f-min e f).toNat) (min e f):=by rw[H2v];congr 1;omega
 rw[x1y s e (min e f) oG,x1y t f (min e f) oG,Q4v] at h;rw[h1,h2,h]
theorem q1y {v w:Vl}(hv:canV v)(hw:canV w)(h:qV v=qV w):v=w:=by rw[v1g hv,v1g hw];exact j3f h
theorem X1l {x:Nm}{v:Vl}(hv:canV v)(h:qN x=qV v):ofX x=v:=q1y (q1w x) hv (by rw[K3i,h])
theorem Q1t (neg:Bool)(m d:Nat)(c:Nat)(e:Int):qM (if neg then -((m/2^d+c:Nat):Int) else((m/2^d+c:Nat):Int)) (e+(d:Int))=qM (if neg then -(((m/2^d+c)*2^d:Nat):Int) else(((m/2^d+c)*2^d:Nat):Int)) e:=by rw[<-H0k];congr 1;cases neg;simp;simp[Int.neg_mul]
theorem w0t (v:Vl)(p:Nat):qV (Z0o v p false)<=qV v:=by unfold Z0o;split;exact Rat.le_refl;rw[X1h,Q1t];unfold qV J0j;rw[qM_le];generalize Q0i v.m-p=d;have h1:=Nat.div_add_mod v.m (2^d);have h2:=Nat.mod_lt v.m (Nat.two_pow_pos d);rw[Nat.mul_comm] at h1;rw[Nat.add_mul];cases v.neg;rw[if_neg (by simp),if_neg (by simp),if_neg (by simp),Nat.zero_mul];omega;rw[if_pos rfl,if_pos rfl];by_cases h3:v.m % 2^d=0;rw[if_neg (by simp[h3]),Nat.zero_mul];omega;rw[if_pos ⟨h3,by simp⟩,Nat.one_mul];omega
theorem U0j (v:Vl)(p:Nat):qV v<=qV (Z0o v p true):=by unfold Z0o;split;exact Rat.le_refl;rw[X1h,Q1t];unfold qV J0j;rw[qM_le];generalize Q0i v.m-p=d;have h1:=Nat.div_add_mod v.m (2^d);have h2:=Nat.mod_lt v.m (Nat.two_pow_pos d);rw[Nat.mul_comm] at h1;rw[Nat.add_mul];cases v.neg;rw[if_neg (by simp),if_neg (by simp)];by_cases h3:v.m % 2^d=0;rw[if_neg (by simp[h3]),Nat.zero_mul];omega;rw[if_pos ⟨h3,by simp⟩,Nat.one_mul];omega;rw[if_pos rfl,if_pos rfl,if_neg (by simp),Nat.zero_mul];omega
theorem j0y {v:Vl}(hv:canV v)(h:(numV v).2=0):ofN (numV v).1=v/\qN (numV v).1=qV v:=by unfold numV at h⊢;split;rename_i h0;rcases hv with hv | rfl;omega;exact⟨rfl,rfl⟩;rename_i h0;rw[if_neg h0] at h;split;rename_i h1;rw[if_pos h1] at h;cases h;have e:ofN ⟨v.neg,v.e,Q0p v.m⟩=v:=(by unfold ofN;rw[Z0h]);exact⟨e,by rw[<-J0p,e]⟩
theorem J1f {x:Nm}(h:Q0h x=true):numV (ofN x)=(x,0):=by unfold numV ofN;simp only;have h2:=h;unfold Q0h at h2;by_cases hw:x.w= [];rw[if_pos hw] at h2;simp at h2;rw[if_pos (by rw[hw];rfl)];congr 1;obtain⟨n,e,w⟩:=x;simp at hw h2;obtain⟨rfl,rfl⟩:=h2;subst hw;rfl;rw[if_neg hw] at h2;simp only[q_i,decide_eq_true_eq] at h2;rw[if_neg (by have:=(X0b h);intro e;exact hw (this.1 e)),Z0a,Q1v h,if_neg oG]
theorem W0o {a b:Rat}(ha:0<=a)(hb:0<=b):0<=a*b:=Rat.mul_nonneg ha hb
theorem H3n {x y u v X U:Rat}(h1:x<=X)(h2:X<=y)(h3:u<=U)(h4:U<=v)(hx:0<=x)(hu:0<=u):x*u<=X*U:=by have a1:=W0o (a:=X-x) (b:=u) (by grind) hu;have a2:=W0o (a:=X) (b:=U-u) (by grind) (by grind);grind
theorem x2n {x y u v X U:Rat}(h1:x<=X)(h2:X<=y)(h3:u<=U)(h4:U<=v)(hx:0<=X)(hu:u<=0):y*u<=X*U:=by have a1:=W0o (a:=y-X) (b:= -u) (by grind) (by grind);have a2:=W0o (a:=X) (b:=U-u) (by grind) (by grind);grind
theorem x2m {x y u v X U:Rat}(h1:x<=X)(h2:X<=y)(h3:u<=U)(h4:U<=v)(hx:x<=0)(hu:0<=U):x*v<=X*U:=by have a1:=W0o (a:= -x) (b:=v-U) (by grind) (by grind);have a2:=W0o (a:=X-x) (b:=U) (by grind) (by grind);grind
theorem H3m {x y u v X U:Rat}(h1:x<=X)(h2:X<=y)(h3:u<=U)(h4:U<=v)(hx:y<=0)(hu:v<=0):y*v<=X*U:=by have a1:=W0o (a:=y-X) (b:= -v) (by grind) (by grind);have a2:=W0o (a:= -X) (b:=v-U) (by grind) (by grind);grind
theorem Y3v {a b:Rat}(ha:a<=0)(hb:b<=0):0<=a*b:=by have:=W0o (a:= -a) (b:= -b) (by grind) (by grind);grind
theorem Y3w {a b:Rat}(ha:0<=a)(hb:b<=0):a*b<=0:=by have:=W0o (a:=a) (b:= -b) ha (by grind);grind
theorem y2g {a b:Rat}(ha:a<=0)(hb:0<=b):a*b<=0:=by have:=W0o (a:= -a) (b:=b) (by grind) hb;grind
def V0p (x y u v:Vl):Vl:=
 if 0<=V0m x/\0<=V0m u then byV x u else if 0<=V0m x then byV y u else if 0<=V0m u then byV x v else
 if V0m y<=0/\V0m v<=0 then byV y v else if W0d (byV y u) (byV x v)<0 then byV y u else byV x v
def G0x (x y u v:Vl):Vl:=V0g (V0p (V0g y) (V0g x) u v)
theorem v2m (a:Vl):0<=V0m a<->0<=qV a:=by have:=Z2j a;rw[<-Rat.not_lt,<-this];omega
theorem q0o {x y u v:Vl}(hx:qV x<=qV y)(hu:qV u<=qV v){X U:Rat}(h1:qV x<=X)(h2:X<=qV y)(h3:qV u<=U)(h4:U<=qV v):qV (V0p x y u v)<=X*U:=by
 unfold V0p;simp only[v2m,v2l,y0d,Y1h];split;rename_i h;rw[Y1h];exact H3n h1 h2 h3 h4 h.1 h.2;rename_i n1;split;rename_i h;rw[Y1h];exact x2n h1 h2 h3 h4 (by grind) (by grind);rename_i n2;split;rename_i h;rw[Y1h];exact x2m h1 h2 h3 h4 (by grind) (by grind);rename_i n3;split;rename_i h;rw[Y1h];exact H3m h1 h2 h3 h4 h.1 h.2;rename_i n4;have key:qV y*qV u<=X*U\/qV x*qV v<=X*U:=by by_cases hX:0<=X;exact .inl (x2n h1 h2 h3 h4 hX (by grind));by_cases hU:0<=U;exact .inr (x2m h1 h2 h3 h4 (by grind) hU);have p:=Y3v (a:=X) (b:=U) (by grind) (by grind);by_cases hy:0<=qV y;have:=Y3w (a:=qV y) (b:=qV u) hy (by grind);exact .inl (by grind);have:=y2g (a:=qV x) (b:=qV v) (by grind) (by grind);exact .inr (by grind)
 split;rename_i h;rw[Y1h];grind;rename_i h;rw[Y1h];grind
theorem k0b (x y u v:Vl):V0p x y u v=byV x u\/V0p x y u v=byV x v\/V0p x y u v=byV y u\/V0p x y u v=byV y v:=by
 unfold V0p
 repeat' split
 all_goals simp
theorem x0z {x y u v:Vl}(hx:qV x<=qV y)(hu:qV u<=qV v){X U:Rat}(h1:qV x<=X)(h2:X<=qV y)(h3:qV u<=U)(h4:U<=qV v):X*U<=qV (G0x x y u v):=by unfold G0x;have:=q0o (x:=V0g y) (y:=V0g x) (u:=u) (v:=v) (X:= -X) (U:=U) (by rw[H0x,H0x];grind) hu (by rw[H0x];grind) (by rw[H0x];grind) h3 h4;rw[H0x];grind
theorem W2i (x y u v:Vl):qV (G0x x y u v)=qV x*qV u\/qV (G0x x y u v)=qV x*qV v\/qV (G0x x y u v)=qV y*qV u\/qV (G0x x y u v)=qV y*qV v:=by
 unfold G0x;rw[H0x];rcases k0b (V0g y) (V0g x) u v with h | h | h | h
 all_goals rw[h,Y1h,H0x];grind
theorem Z1z {x y u v:Vl}(hx:canV x)(hy:canV y)(hu:canV u)(hv:canV v):canV (V0p x y u v):=by
 rcases k0b x y u v with h | h | h | h
 all_goals rw[h];exact x2w (by assumption) (by assumption)
theorem G1j {x y u v:Vl}(hx:canV x)(hy:canV y)(hu:canV u)(hv:canV v):canV (G0x x y u v):=Q1f (Z1z (Q1f hy) (Q1f hx) hu hv)
def exV (k:Nat)(a b:Vl):Vl:=if k=0 then U0v a b else if k=1 then q0n a b else byV a b
def exQ (k:Nat)(a b:Rat):Rat:=if k=0 then a+b else if k=1 then a-b else a*b
theorem exQ0 (a b:Rat):exQ 0 a b=a+b:=by simp[exQ]
theorem exQ1 (a b:Rat):exQ 1 a b=a-b:=by simp[exQ]
theorem exQ2 (a b:Rat):exQ 2 a b=a*b:=by simp[exQ]
theorem H1h (k:Nat)(a b:Vl):qV (exV k a b)=exQ k (qV a) (qV b):=by unfold exV exQ;split;exact v0g a b;split;exact v0h a b;exact Y1h a b
theorem Q2m (k:Nat){a b:Vl}(ha:canV a)(hb:canV b):canV (exV k a b):=by unfold exV;split;exact q0w ha hb;split;exact W1t ha hb;exact x2w ha hb
def Z0b (p:Int):Bool:=decide (8<=p)&&decide (p<=256)
def Q0r (k:Nat)(a b:Nm)(p:Int)(up:Bool):Nm×Int:=if Q0h a=true/\Q0h b=true/\Z0b p=true then numV (Z0o (exV k (ofN a) (ofN b)) p.toNat up) else(default,1)
def Y0o (x:Nm)(k:Int):Nm×Int:=if Q0h x=true then(if x.w= [] then(x,0) else if k< -131072\/131072<k then(default,2) else numV ⟨x.neg,valW x.w,x.exp+k⟩) else(default,1)
def x0c (lo hi:Vl):Ivl×Int:=if (numV lo).2=0/\(numV hi).2=0 then(⟨(numV lo).1,(numV hi).1⟩,0) else(default,2)
def loV (k:Nat)(x y u v:Vl):Vl:=if k=0 then U0v x u else if k=1 then q0n x v else V0p x y u v
def hiV (k:Nat)(x y u v:Vl):Vl:=if k=0 then U0v y v else if k=1 then q0n y u else G0x x y u v
def opI (k:Nat)(a b:Ivl)(p:Int):Ivl×Int:=
 if Q0y a=true/\Q0y b=true/\Z0b p=true then x0c (Z0o (loV k (ofN a.lo) (ofN a.hi) (ofN b.lo) (ofN b.hi)) p.toNat false) (Z0o (hiV k (ofN a.lo) (ofN a.hi) (ofN b.lo) (ofN b.hi)) p.toNat true) else(default,1)
theorem loV0 (x y u v:Vl):loV 0 x y u v=U0v x u:=by simp[loV]
theorem hiV0 (x y u v:Vl):hiV 0 x y u v=U0v y v:=by simp[hiV]
theorem loV1 (x y u v:Vl):loV 1 x y u v=q0n x v:=by simp[loV]
theorem hiV1 (x y u v:Vl):hiV 1 x y u v=q0n y u:=by simp[hiV]
theorem K3u (k:Nat){x y u v:Vl}(hx:qV x<=qV y)(hu:qV u<=qV v){X U:Rat}(h1:qV x<=X)(h2:X<=qV y)(h3:qV u<=U)(h4:U<=qV v):qV (loV k x y u v)<=exQ k X U:=by unfold loV exQ;split;rw[v0g];grind;split;rw[v0h];grind;exact q0o hx hu h1 h2 h3 h4
theorem K3v (k:Nat){x y u v:Vl}(hx:qV x<=qV y)(hu:qV u<=qV v){X U:Rat}(h1:qV x<=X)(h2:X<=qV y)(h3:qV u<=U)(h4:U<=qV v):exQ k X U<=qV (hiV k x y u v):=by unfold hiV exQ;split;rw[v0g];grind;split;rw[v0h];grind;exact x0z hx hu h1 h2 h3 h4
theorem q1x (k:Nat){x y u v:Vl}(hx:canV x)(hy:canV y)(hu:canV u)(hv:canV v):canV (loV k x y u v):=by unfold loV;split;exact q0w hx hu;split;exact W1t hx hv;exact Z1z hx hy hu hv
theorem q1z (k:Nat){x y u v:Vl}(hx:canV x)(hy:canV y)(hu:canV u)(hv:canV v):canV (hiV k x y u v):=by unfold hiV;split;exact q0w hy hv;split;exact W1t hy hu;exact G1j hx hy hu hv
theorem x0u {x:Ivl}(h:Q0y x=true):qV (ofN x.lo)<=qV (ofN x.hi):=cmpN_le.1 (Q0x h).2.2
theorem y1z {lo hi:Vl}(h1:canV lo)(h2:canV hi)(h:qV lo<=qV hi):Q0y (x0c lo hi).1=true:=by unfold x0c;split;rename_i hh;exact K1i (W0m (Z1y h1)) (W0m (Z1y h2)) (cmpN_le.2 (by rw[(j0y h1 hh.1).2,(j0y h2 hh.2).2];exact h));decide
theorem Z4h (k:Nat){a b:Ivl}(ha:Q0y a=true)(hb:Q0y b=true)(p:Nat):
 qV (Z0o (loV k (ofN a.lo) (ofN a.hi) (ofN b.lo) (ofN b.hi)) p false)<=qV (Z0o (hiV k (ofN a.lo) (ofN a.hi) (ofN b.lo) (ofN b.hi)) p true):=by
 have h1:=w0t (loV k (ofN a.lo) (ofN a.hi) (ofN b.lo) (ofN b.hi)) p;have h2:=U0j (hiV k (ofN a.lo) (ofN a.hi) (ofN b.lo) (ofN b.hi)) p;have h3:=K3u k (x0u ha) (x0u hb) Rat.le_refl (x0u ha) Rat.le_refl (x0u hb);have h4:=K3v k (x0u ha) (x0u hb) Rat.le_refl (x0u ha) Rat.le_refl (x0u hb);grind
theorem canI {x:Ivl}(h:Q0y x=true):canV (ofN x.lo)/\canV (ofN x.hi):=⟨Y0e (Q0x h).1,Y0e (Q0x h).2.1⟩
theorem G0n (k:Nat)(a b:Ivl)(p:Int):Q0y (opI k a b p).1=true:=by unfold opI;split;rename_i h;have ca:=canI h.1;have cb:=canI h.2.1;exact y1z (V0a (q1x k ca.1 ca.2 cb.1 cb.2) _ _) (V0a (q1z k ca.1 ca.2 cb.1 cb.2) _ _) (Z4h k h.1 h.2.1 _);decide
def memI (X:Rat)(a:Ivl):Prop:=qN a.lo<=X/\X<=qN a.hi
theorem w1w (k:Nat){a b:Ivl}{p:Int}(h:(opI k a b p).2=0){X U:Rat}(hX:memI X a)(hU:memI U b):memI (exQ k X U) (opI k a b p).1:=by unfold opI at h⊢;split;rename_i hr;rw[if_pos hr] at h;have ca:=canI hr.1;have cb:=canI hr.2.1;unfold x0c at h⊢;split;rename_i hh;have h1:=(j0y (V0a (q1x k ca.1 ca.2 cb.1 cb.2) _ _) hh.1).2;have h2:=(j0y (V0a (q1z k ca.1 ca.2 cb.1 cb.2) _ _) hh.2).2;have h3:=K3u k (x0u hr.1) (x0u hr.2.1) hX.1 hX.2 hU.1 hU.2;have h4:=K3v k (x0u hr.1) (x0u hr.2.1) hX.1 hX.2 hU.1 hU.2;have h5:=w0t (loV k (ofN a.lo) (ofN a.hi) (ofN b.lo) (ofN b.hi)) p.toNat;have h6:=U0j (hiV k (ofN a.lo) (ofN a.hi) (ofN b.lo) (ofN b.hi)) p.toNat;exact⟨by rw[h1];grind,by rw[h2];grind⟩;rename_i hh;rw[if_neg hh] at h;cases h;rename_i hr;rw[if_neg hr] at h;cases h
def bd (n k:Nat)(x:Nm):Prop:=x.w.length<=n/\ -(k:Int)<=x.exp/\x.exp<=k
theorem bd.mono {n k n' k':Nat}{x:Nm}(h:bd n k x)(h1:n<=n')(h2:k<=k'):bd n' k' x:=⟨by have:=h.1;omega,by have:=h.2.1;omega,by have:=h.2.2;omega⟩
theorem Z0v {x:Nm}(h:Q0h x=true):bd 64 65536 x:=by unfold Q0h at h;by_cases hw:x.w= [];rw[if_pos hw] at h;simp at h;exact⟨by rw[hw];simp,by rw[h.2];omega,by rw[h.2];omega⟩;rw[if_neg hw] at h;simp only[q_i,decide_eq_true_eq] at h;exact⟨h.1.1.1.2,h.1.2,h.2⟩
theorem x3m (x:Nm):qN { x with neg:= !x.neg } = -qN x:=by unfold qN mant;rw[<-X1j];congr 1;cases x.neg<;>simp
theorem w2g (neg:Bool)(e:Int)(m:Nat):qN ⟨neg,e,Q0p m⟩=qM (if neg then -(m:Int) else(m:Int)) e:=by unfold qN mant;rw[Z0h]
theorem Y3p (b:Nm)(e:Int)(d:Nat)(h:b.exp=e+d):qN b=qM (if b.neg then -((valW b.w*2^d:Nat):Int) else((valW b.w*2^d:Nat):Int)) e:=by unfold qN;rw[h,<-H0k];congr 1;unfold mant;cases b.neg;simp;simp[Int.neg_mul]
theorem G3p (a b:Nm)(d:Nat)(h:b.exp=a.exp+d)(hn:a.neg=b.neg):qN ⟨a.neg,a.exp,Q0p (valW a.w+valW b.w*2^d)⟩=qN a+qN b:=by rw[w2g,Y3p b a.exp d h,show qN a=qM (mant a) a.exp from rfl,<-X2b];congr 1;unfold mant;rw[<-hn];cases a.neg<;>simp<;>omega
theorem Z3u (a b:Nm)(d:Nat)(h:b.exp=a.exp+d)(hn:a.neg≠b.neg)(hle:valW b.w*2^d<=valW a.w):qN ⟨a.neg,a.exp,Q0p (valW a.w-valW b.w*2^d)⟩=qN a+qN b:=by
 rw[w2g,Y3p b a.exp d h,show qN a=qM (mant a) a.exp from rfl,<-X2b];congr 1;unfold mant;generalize valW b.w*2^d=x at*
 cases ha:a.neg<;>cases hb:b.neg<;>simp[ha,hb] at hn⊢ <;>omega
theorem Z3t (a b:Nm)(d:Nat)(h:b.exp=a.exp+d)(hn:a.neg≠b.neg)(hle:valW a.w<=valW b.w*2^d):qN ⟨b.neg,a.exp,Q0p (valW b.w*2^d-valW a.w)⟩=qN a+qN b:=by
 rw[w2g,Y3p b a.exp d h,show qN a=qM (mant a) a.exp from rfl,<-X2b];congr 1;unfold mant;generalize valW b.w*2^d=x at*
 cases ha:a.neg<;>cases hb:b.neg<;>simp[ha,hb] at hn⊢ <;>omega
theorem x1b {x:Nm}(h:sgnN x=0):qN x=0:=by
 have:mant x=0:=by rw[Q1s] at h;unfold sgn at h;split at h;assumption;split at h<;>omega
 unfold qN;rw[this,K0k]
theorem j3t (a b:Nm)(n k d:Nat)(ha:bd n k a)(hb:bd n k b)(hd:d<=2*k):(Q0p (valW a.w+valW b.w*2^d)).length<=n+k+1:=by
 refine X0c ?_;have h1:=X0r a.w;have h2:=X0r b.w;have hp: ∀l:Nat,l<=n->18446744073709551616^l<=2^(64*n):=fun l hl=>(by rw[y0a];exact Nat.pow_le_pow_right (by decide) oG);have h3:valW a.w<2^(64*n+d):=q_e h1 (Nat.le_trans (hp _ ha.1) (Nat.pow_le_pow_right (by decide) oG));have h4:valW b.w*2^d<2^(64*n+d):=by rw[Nat.pow_add];exact Nat.mul_lt_mul_of_pos_right (q_e h2 (hp _ hb.1)) (Nat.two_pow_pos d)
 have h5:18446744073709551616^(n+k+1)=2^(64*(n+k+1)):=y0a _;have h6:2^(64*n+d+1)<=2^(64*(n+k+1)):=Nat.pow_le_pow_right (by decide) oG;have h7:2^(64*n+d+1)=2^(64*n+d)*2:=Nat.pow_succ ..;rw[h5];omega
theorem z2u (a b:Nm)(n k d m:Nat)(ha:bd n k a)(hb:bd n k b)(hd:d<=2*k)(hm:m<=valW a.w+valW b.w*2^d):(Q0p m).length<=n+k+1:=Nat.le_trans (W0r hm) (j3t a b n k d ha hb hd)
theorem x3n (a b:Nm):qN ⟨a.neg !=b.neg,a.exp+b.exp,Q0p (valW a.w*valW b.w)⟩=qN a*qN b:=by rw[w2g];show _=qM (mant a) a.exp*qM (mant b) b.exp;rw[<-G2j];congr 1;unfold mant;cases a.neg<;>cases b.neg<;>simp[Int.neg_mul,Int.mul_neg]
theorem U3z (a b:Nm)(n k m l:Nat)(ha:bd n k a)(hb:bd m l b):bd (n+m) (k+l) ⟨a.neg !=b.neg,a.exp+b.exp,Q0p (valW a.w*valW b.w)⟩:=by refine⟨X0c ?_,?_,?_⟩;have h1:=X0r a.w;have h2:=X0r b.w;refine q_e (Nat.mul_lt_mul'' h1 h2) ?_;rw[<-Nat.pow_add];exact Nat.pow_le_pow_right (by decide) (by have:=ha.1;have:=hb.1;omega);have:=ha.2.1;have:=hb.2.1;simp only;omega;have:=ha.2.2;have:=hb.2.2;simp only;omega
theorem G1m (m:Nat)(h:m≠0):((Q0p m).getD 0 0).toNat % 2=m % 2:=by rw[<-w0d,Z0h]
theorem x1k (neg:Bool)(m:Nat)(e:Int)(h:m % 2=1):Q0h ⟨neg,e,Q0p m⟩=(decide ((Q0p m).length<=64)&&decide (-65536<=e)&&decide (e<=65536)):=by
 have hw:Q0p m≠ []:=fun e=>by rw[wordsOf_nil] at e;omega
 have h1:((Q0p m).getD 0 0).toNat % 2=1:=by rw[G1m m oG];exact h
 unfold Q0h;rw[if_neg hw,U0r];simp only[h1,decide_true,Bool.true_and,Bool.and_true]
def mkX (neg:Bool)(w:List UInt64)(e:Int):Nm×Int:=numV (oddV neg (valW w) e)
theorem y2p {neg:Bool}{w:List UInt64}{e:Int}(h:valW w=0):mkX neg w e=(default,0):=by unfold mkX;rw[h,G0o];rfl
theorem H2u {neg:Bool}{w:List UInt64}{e:Int}(h:valW w≠0)(h2:65536<e\/e< -65536-((tz (valW w):Nat):Int)):mkX neg w e=(default,2):=by unfold mkX oddV;rw[if_neg h];have h1:valW w/2^tz (valW w)≠0:=(by have:=q0f (valW w) h;omega);unfold numV;rw[if_neg h1,if_pos (by simp only;omega)]
theorem y2r {neg:Bool}{w:List UInt64}{e:Int}(h:valW w≠0):mkX neg w e=if Q0h ⟨neg,e+((tz (valW w):Nat):Int),Q0p (valW w/2^tz (valW w))⟩=true then(⟨neg,e+((tz (valW w):Nat):Int),Q0p (valW w/2^tz (valW w))⟩,0) else(default,2):=by have h0:=q0f (valW w) h;rw[x1k _ _ _ h0];unfold mkX oddV;rw[if_neg h];unfold numV;rw[if_neg (by simp only;omega)];simp only;by_cases hc:64<(Q0p (valW w/2^tz (valW w))).length\/e+((tz (valW w):Nat):Int)< -65536\/65536<e+((tz (valW w):Nat):Int);rw[if_pos hc,if_neg];simp only[q_i,decide_eq_true_eq];omega;rw[if_neg hc,if_pos];simp only[q_i,decide_eq_true_eq];omega
theorem y1h (x:Nm):mkX x.neg x.w x.exp=numV (ofX x):=rfl
def rndX (x:Nm)(p:Nat)(up:Bool):Nm:=
 if X0m x.w<=p then x else⟨x.neg,x.exp+((X0m x.w-p:Nat):Int),Q0p (valW x.w/2^(X0m x.w-p)+(if tz (valW x.w)<X0m x.w-p/\up≠x.neg then 1 else 0))⟩
theorem Z2m (x:Nm)(p:Nat)(up:Bool)(hp:0<p):ofX (rndX x p up)=Z0o (ofX x) p up:=by unfold rndX;show _=Z0o (oddV x.neg (valW x.w) x.exp) p up;rw[V2c _ _ _ _ _ hp];unfold X0m;split;rfl;unfold ofX;rw[Z0h]
theorem U2q (x:Nm)(p:Nat)(up:Bool)(n k:Nat)(h:bd n k x):bd (n+1) (k+64*n) (rndX x p up):=by have hb:=Y0g x.w;have hl:=h.1;unfold rndX;split;exact h.mono oG oG;refine⟨?_,?_,?_⟩;refine X0c ?_;have h1:=X0r x.w;have h2:valW x.w/2^(X0m x.w-p)<=valW x.w:=Nat.div_le_self _ _;have h3:18446744073709551616^x.w.length<=18446744073709551616^n:=Nat.pow_le_pow_right (by decide) hl;have h4:18446744073709551616^(n+1)=18446744073709551616^n*18446744073709551616:=Nat.pow_succ ..;split<;>omega;have:=h.2.1;simp only;omega;have:=h.2.2;simp only;omega
def hasI (a:Ivl)(x:Nm):Bool:=Q0y a&&Q0h x&&decide (cmpN a.lo x<=0)&&decide (cmpN x a.hi<=0)
def q2g (lo hi:Nm):Ivl×Int:=if Q0y ⟨lo,hi⟩=true then(⟨lo,hi⟩,0) else(default,1)
def y0r (v:Vl):Vl:=if v.m=0 then v else { v with e:=v.e-1 }
def midV (a:Ivl)(p:Nat):Vl:=Z0o (y0r (U0v (ofN a.lo) (ofN a.hi))) p false
def midI (a:Ivl)(p:Int):Nm×Int:=if Q0y a=true/\Z0b p=true then(if W0d (midV a p.toNat) (ofN a.lo)<0 then(a.lo,0) else numV (midV a p.toNat)) else(default,1)
theorem x3u :p2 1=2:=by have:=K3o 1;rw[<-show((1:Nat):Int)=1 from rfl,<-this];rfl
theorem G2k (s e:Int):qM s (e-1)*2=qM s e:=by unfold qM;have h:=G2s (e-1) 1;rw[show e-1+1=e from oG,x3u] at h;rw[h];grind
theorem Y3o (v:Vl):qV (y0r v)*2=qV v:=by unfold y0r;split;rename_i h;rw[H1g h];grind;exact G2k (J0j v) v.e
theorem v1h {v:Vl}(h:canV v):canV (y0r v):=by unfold y0r;split;exact h;rename_i h0;rcases h with h | rfl;exact .inl h;exact absurd rfl h0
theorem Y3q (x:Nm):qN { x with exp:=x.exp-1 } *2=qN x:=G2k (mant x) x.exp
theorem W3r {a b:Rat}(h:a*2=b*2):a=b:=by grind
theorem w2u {x:Nm}{v:Vl}(hv:canV v)(h:qN x=qV v):ofX { x with exp:=x.exp-1 } =y0r v:=by refine X1l (v1h hv) (W3r ?_);rw[Y3q,Y3o,h]
theorem x1l {x y:Nm}(hx:Q0h x=true)(hy:Q0h y=true)(h:qN x=qN y):x=y:=by have h1:=q1y (Y0e hx) (Y0e hy) (by rw[J0p,J0p,h]);have h2:=J1f hx;rw[h1,J1f hy] at h2;exact(congrArg Prod.fst h2).symm
theorem j1m {a:Ivl}{p:Nat}{y:Nm}(hr:Q0y a=true)(h:ofX y=midV a p):numV (ofX (X0y a.lo y))=if W0d (midV a p) (ofN a.lo)<0 then(a.lo,0) else numV (midV a p):=by
 have hlo:=(Q0x hr).1;have hq:qN y=qV (midV a p):=(by rw[<-h,K3i]);unfold X0y;by_cases c:cmpN y a.lo>0;rw[if_pos c,h,if_neg];intro hh;have h1:=(y0d _ _).1 hh;have h2:=cmpN_gt.1 c;rw[J0p,<-hq] at h1;grind;rw[if_neg c,H2d hlo,J1f hlo];by_cases d:W0d (midV a p) (ofN a.lo)<0;rw[if_pos d];rw[if_neg d];have h1: ¬qV (midV a p)<qV (ofN a.lo):=fun e=>d ((y0d _ _).2 e);have h2: ¬qN a.lo<qN y:=fun e=>c (cmpN_gt.2 e);have h3:qV (midV a p)=qV (ofN a.lo):=(by rw[J0p] at h1⊢;rw[<-hq] at h1⊢;grind);have h4:midV a p=ofN a.lo:=by rw[<-h];exact q1y (q1w y) (Y0e hlo) (by rw[h,h3])
 rw[h4,J1f hlo]
theorem G2h (a b:Nm):qN (K0g a b)<=qN a/\qN (K0g a b)<=qN b/\(qN (K0g a b)=qN a\/qN (K0g a b)=qN b):=by have h1:=cmpN_le.1 (W2b a b);have h2:=cmpN_le.1 (W2a a b);refine⟨h1,h2,?_⟩;unfold K0g;split;exact .inr rfl;exact .inl rfl
theorem X2a (a b:Nm):qN a<=qN (X0y a b)/\qN b<=qN (X0y a b)/\(qN (X0y a b)=qN a\/qN (X0y a b)=qN b):=by have h1:=cmpN_le.1 (W2k a b);have h2:=cmpN_le.1 (W2j a b);refine⟨h1,h2,?_⟩;unfold X0y;split;exact .inr rfl;exact .inl rfl
theorem W2n {a b:Ivl}(ha:Q0y a=true)(hb:Q0y b=true){p1 p2 p3 p4:Nm}(h1:qN p1=qN a.lo*qN b.lo)(h2:qN p2=qN a.lo*qN b.hi)(h3:qN p3=qN a.hi*qN b.lo)(h4:qN p4=qN a.hi*qN b.hi):
 ofX (K0g (K0g (K0g p1 p2) p3) p4)=loV 2 (ofN a.lo) (ofN a.hi) (ofN b.lo) (ofN b.hi):=by
 have ca:=canI ha;have cb:=canI hb;have la:=x0u ha;have lb:=x0u hb;show _=V0p (ofN a.lo) (ofN a.hi) (ofN b.lo) (ofN b.hi);refine X1l (Z1z ca.1 ca.2 cb.1 cb.2) ?_;have r1:=q0o la lb Rat.le_refl la Rat.le_refl lb;have r2:=q0o la lb Rat.le_refl la lb Rat.le_refl;have r3:=q0o la lb la Rat.le_refl Rat.le_refl lb;have r4:=q0o la lb la Rat.le_refl lb Rat.le_refl;have rr: ∀v w:Vl,V0p (ofN a.lo) (ofN a.hi) (ofN b.lo) (ofN b.hi)=byV v w->qV (V0p (ofN a.lo) (ofN a.hi) (ofN b.lo) (ofN b.hi))=qV v*qV w:=fun v w e=>(by rw[e,Y1h]);have r5:qV (V0p (ofN a.lo) (ofN a.hi) (ofN b.lo) (ofN b.hi))=qV (ofN a.lo)*qV (ofN b.lo)\/qV (V0p (ofN a.lo) (ofN a.hi) (ofN b.lo) (ofN b.hi))=qV (ofN a.lo)*qV (ofN b.hi)\/qV (V0p (ofN a.lo) (ofN a.hi) (ofN b.lo) (ofN b.hi))=qV (ofN a.hi)*qV (ofN b.lo)\/qV (V0p (ofN a.lo) (ofN a.hi) (ofN b.lo) (ofN b.hi))=qV (ofN a.hi)*qV (ofN b.hi):=by rcases k0b (ofN a.lo) (ofN a.hi) (ofN b.lo) (ofN b.hi) with e | e | e | e;exact .inl (rr _ _ e);exact .inr (.inl (rr _ _ e));exact .inr (.inr (.inl (rr _ _ e)));exact .inr (.inr (.inr (rr _ _ e)))
 generalize qV (V0p (ofN a.lo) (ofN a.hi) (ofN b.lo) (ofN b.hi))=V at*
 simp only[J0p] at*
 rw[<-h1] at r1 r5;rw[<-h2] at r2 r5;rw[<-h3] at r3 r5;rw[<-h4] at r4 r5;obtain⟨s1,s2,s3⟩:=G2h p1 p2;obtain⟨t1,t2,t3⟩:=G2h (K0g p1 p2) p3;obtain⟨u1,u2,u3⟩:=G2h (K0g (K0g p1 p2) p3) p4;clear h1 h2 h3 h4 la lb rr;grind
theorem q1g {a b:Ivl}(ha:Q0y a=true)(hb:Q0y b=true){p1 p2 p3 p4:Nm}(h1:qN p1=qN a.lo*qN b.lo)(h2:qN p2=qN a.lo*qN b.hi)(h3:qN p3=qN a.hi*qN b.lo)(h4:qN p4=qN a.hi*qN b.hi):
 ofX (X0y (X0y (X0y p1 p2) p3) p4)=hiV 2 (ofN a.lo) (ofN a.hi) (ofN b.lo) (ofN b.hi):=by
 have ca:=canI ha;have cb:=canI hb;have la:=x0u ha;have lb:=x0u hb;show _=G0x (ofN a.lo) (ofN a.hi) (ofN b.lo) (ofN b.hi);refine X1l (G1j ca.1 ca.2 cb.1 cb.2) ?_;have r1:=x0z la lb Rat.le_refl la Rat.le_refl lb;have r2:=x0z la lb Rat.le_refl la lb Rat.le_refl;have r3:=x0z la lb la Rat.le_refl Rat.le_refl lb;have r4:=x0z la lb la Rat.le_refl lb Rat.le_refl;have r5:=W2i (ofN a.lo) (ofN a.hi) (ofN b.lo) (ofN b.hi);generalize qV (G0x (ofN a.lo) (ofN a.hi) (ofN b.lo) (ofN b.hi))=V at*
 simp only[J0p] at*
 rw[<-h1] at r1 r5;rw[<-h2] at r2 r5;rw[<-h3] at r3 r5;rw[<-h4] at r4 r5;obtain⟨s1,s2,s3⟩:=X2a p1 p2;obtain⟨t1,t2,t3⟩:=X2a (X0y p1 p2) p3;obtain⟨u1,u2,u3⟩:=X2a (X0y (X0y p1 p2) p3) p4;clear h1 h2 h3 h4 la lb;grind
def opB (k:Nat)(a b:List Ivl)(p:Int):List Ivl×Int:=if rightB a=true/\rightB b=true/\a.length=b.length/\Z0b p=true then V0d (fun i x=>opI k x (b.getD i default) p) 0 a [] else([],1)
def k0o (x:Ivl)(b:List Ivl)(p:Int):List Ivl×Int:=if rightB b=true/\Q0y x=true/\Z0b p=true then V0d (fun _ y=>opI 2 x y p) 0 b [] else([],1)
def midB (b:List Ivl)(p:Int):List Nm×Int:=if rightB b=true/\Z0b p=true then V0d (fun _ a=>midI a p) 0 b [] else([],1)
def ofB (q:List Nm):List Ivl:=q.map fun x=>⟨x,x⟩
theorem W1j {α β:Type}[Inhabited α](F:Nat->α->β×Int)(l:List α)(h:0<l.length)(e:Int)(he:e≠0)(hf: ∀i x,(F i x).2=e):V0d F 0 l []=([],e):=by
 cases l with
 | nil=>simp at h
 | cons x l=>
  rw[V0d,if_pos (by rw[hf];exact he),hf]
theorem U3d {k:Nat}{a b:Ivl}{p:Int}(h:Z0b p=false):opI k a b p=(default,1):=by rw[opI,if_neg (fun hh=>by simp[h] at hh)]
theorem y2u {a:Ivl}{p:Int}(h:Z0b p=false):midI a p=(default,1):=by rw[midI,if_neg (fun hh=>by simp[h] at hh)]
theorem Z1f (a:Ivl)(p:Int):Q0h (midI a p).1=true:=by unfold midI;split;rename_i h;split;exact(Q0x h.1).1;have c:=canI h.1;exact W0m (Z1y (V0a (v1h (q0w c.1 c.2)) _ _));exact K0f
theorem x1c (x:Nm)(k:Int):Q0h (Y0o x k).1=true:=by unfold Y0o;split;rename_i h;split;exact h;split;exact K0f;refine W0m ?_;have h1:=w1y h;rcases h1 with h1 | h1;exact .inl h1;exact .inr h1;exact K0f
theorem Z0k (k:Nat)(a b:Nm)(p:Int)(up:Bool):Q0h (Q0r k a b p up).1=true:=by unfold Q0r;split;rename_i h;exact W0m (Z1y (V0a (Q2m k (Y0e h.1) (Y0e h.2.1)) _ _));exact K0f
theorem y1a (v:Vl):(numV v).2=0\/(numV v).2=2:=by unfold numV;split;exact .inl rfl;split;exact .inr rfl;exact .inl rfl
theorem j0v {k:Nat}{a b:Nm}{p:Int}{up:Bool}(ha:Q0h a=true)(hb:Q0h b=true)(hp:Z0b p=true):(Q0r k a b p up).2=0\/(Q0r k a b p up).2=2:=by rw[Q0r,if_pos ⟨ha,hb,hp⟩];exact y1a _
def bdV (n k:Nat)(v:Vl):Prop:=Q0i v.m<=n/\ -(k:Int)<=v.e/\v.e<=k
theorem bdV.mono {n k n' k':Nat}{v:Vl}(h:bdV n k v)(h1:n<=n')(h2:k<=k'):bdV n' k' v:=⟨by have:=h.1;omega,by have:=h.2.1;omega,by have:=h.2.2;omega⟩
theorem J0c {x:Nm}(h:Q0h x=true):bdV 4096 65536 (ofN x):=by have hb:=Z0v h;have h1:=Y0g x.w;exact⟨by show Q0i (valW x.w)<=_;unfold X0m at h1;have:=hb.1;omega,hb.2.1,hb.2.2⟩
theorem Q2q {neg:Bool}{m:Nat}{e:Int}{n k:Nat}(h1:Q0i m<=n)(h2: -(k:Int)<=e)(h3:e<=k):bdV n (k+n) (oddV neg m e):=by unfold oddV;split;exact⟨by rw[X0w];omega,by simp only;omega,by simp only;omega⟩;have ht:=X1c m;have hl:=J0n (Nat.div_le_self m (2^tz m));exact⟨by simp only;omega,by simp only;omega,by simp only;omega⟩
theorem k0g {a b:Vl}{n k:Nat}(ha:bdV n k a)(hb:bdV n k b):bdV (n+2*k+1) (n+3*k+1) (U0v a b):=by
 unfold U0v;split;exact hb.mono oG oG;split;exact ha.mono oG oG;have h1:=W0b a.m (a.e-min a.e b.e).toNat;have h2:=W0b b.m (b.e-min a.e b.e).toNat;have h3:=U0x (a.m*2^(a.e-min a.e b.e).toNat) (b.m*2^(b.e-min a.e b.e).toNat);obtain⟨a1,a2,a3⟩:=ha;obtain⟨b1,b2,b3⟩:=hb;have hk1:(a.e-min a.e b.e).toNat<=2*k:=oG;have hk2:(b.e-min a.e b.e).toNat<=2*k:=oG;have hm:(J0j a*2^(a.e-min a.e b.e).toNat+J0j b*2^(b.e-min a.e b.e).toNat).natAbs<=a.m*2^(a.e-min a.e b.e).toNat+b.m*2^(b.e-min a.e b.e).toNat:=by
  have e1: ∀(v:Vl) (j:Nat),(J0j v*2^j).natAbs=v.m*2^j:=fun v j=>by rw[Int.natAbs_mul,Int.natAbs_pow];congr 1;unfold J0j;cases v.neg<;>simp
  have:=Int.natAbs_add_le (J0j a*2^(a.e-min a.e b.e).toNat) (J0j b*2^(b.e-min a.e b.e).toNat);rw[e1,e1] at this;exact this
 have h4:=J0n hm;have:=Q2q (neg:=decide (J0j a*2^(a.e-min a.e b.e).toNat+J0j b*2^(b.e-min a.e b.e).toNat<0)) (m:=(J0j a*2^(a.e-min a.e b.e).toNat+J0j b*2^(b.e-min a.e b.e).toNat).natAbs) (e:=min a.e b.e) (n:=n+2*k+1) (k:=k) oG oG oG;exact this.mono oG oG
theorem k0f {a:Vl}{n k:Nat}(ha:bdV n k a):bdV n k (V0g a):=by unfold bdV;rw[Q1n,Q1o];exact ha
theorem z1b {a b:Vl}{n k:Nat}(ha:bdV n k a)(hb:bdV n k b):bdV (n+2*k+1) (n+3*k+1) (q0n a b):=k0g ha (k0f hb)
theorem J2x {a b:Vl}{n k m l:Nat}(ha:bdV n k a)(hb:bdV m l b):bdV (n+m) (k+l) (byV a b):=by
 unfold byV;split;exact⟨by rw[X0w];omega,by simp only;omega,by simp only;omega⟩;refine⟨?_,?_,?_⟩;have h:Q0i (a.m*b.m)<=Q0i a.m+Q0i b.m:=by rw[bitlen_le_iff,Nat.pow_add];exact Nat.mul_lt_mul'' (Z0g _) (Z0g _)
 have:=ha.1;have:=hb.1;simp only;omega;have:=ha.2.1;have:=hb.2.1;simp only;omega;have:=ha.2.2;have:=hb.2.2;simp only;omega
theorem J3c {a:Vl}{n k:Nat}(ha:bdV n k a):bdV n (k+1) (y0r a):=by unfold y0r;split;exact ha.mono oG oG;exact⟨ha.1,by have:=ha.2.1;simp only;omega,by have:=ha.2.2;simp only;omega⟩
theorem V0v {a:Vl}{n k:Nat}(ha:bdV n k a)(p:Nat)(up:Bool):bdV (n+1) (k+2*n+1) (Z0o a p up):=by
 unfold Z0o;split;exact ha.mono oG oG;have h1:=ha.1;have h2:=J0n (Nat.div_le_self a.m (2^(Q0i a.m-p)));have h3:Q0i (a.m/2^(Q0i a.m-p)+(if a.m % 2^(Q0i a.m-p)≠0/\up≠a.neg then 1 else 0))<=n+1:=by have b1:Q0i 1=1:=rfl;have h:=U0x (a.m/2^(Q0i a.m-p)) 1;split;by_cases hq:Q0i (a.m/2^(Q0i a.m-p))=0;have hn:0<Q0i a.m:=(by rename_i hh _;omega);omega;omega;rw[Nat.add_zero];omega
 have:=Q2q (neg:=a.neg) (e:=a.e+((Q0i a.m-p:Nat):Int)) (k:=k+n) h3 (by have:=ha.2.1;omega) (by have:=ha.2.2;omega);exact this.mono oG oG
theorem v1q {x y u v:Vl}{n k m l:Nat}(hx:bdV n k x)(hy:bdV n k y)(hu:bdV m l u)(hv:bdV m l v):bdV (n+m) (k+l) (V0p x y u v):=by
 rcases k0b x y u v with h | h | h | h
 all_goals rw[h];exact J2x (by assumption) (by assumption)
theorem j2m {x y u v:Vl}{n k m l:Nat}(hx:bdV n k x)(hy:bdV n k y)(hu:bdV m l u)(hv:bdV m l v):bdV (n+m) (k+l) (G0x x y u v):=k0f (v1q (k0f hy) (k0f hx) hu hv)
theorem X0x {v:Vl}{n k:Nat}(h:bdV n k v)(hn:n<=1000000000000):(Q0f v.m).length<=1000000000000:=by have:=Z0z v.m;have:=h.1;omega
def smI (a:Ivl):Prop:=Q0y a=true/\bdV 6 12 (ofN a.lo)/\bdV 6 12 (ofN a.hi)
theorem J2w {n k:Nat} :bdV n k (ofN default):=by refine⟨?_,?_,?_⟩;show Q0i 0<=n;rw[X0w];omega;show -(k:Int)<=0;omega;show(0:Int)<=k;omega
theorem Z3g {α:Type}(l:List α)(i j:Nat)(x d:α)(hj:j<l.length):(l.set i x).getD j d=if i=j then x else l.getD j d:=by simp only[q_a,List.getElem?_set];split;rename_i h;subst h;simp[hj];rfl
end Go.Pv
end
