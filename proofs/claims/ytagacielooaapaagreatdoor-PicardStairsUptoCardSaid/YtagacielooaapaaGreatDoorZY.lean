/- Parts of the walk: M23, M24, M25, M26, M27, M28, M29, M30, M31, M32, M33. -/
import Derived.Test.YtagacielooaapaaGreatDoorZL
set_option linter.unusedVariables false
set_option linter.unusedSimpArgs false
section
/-Exact values and their rounding:what numbers that are not in one form stand for. No program in it. -/
namespace Go.Pv
def ofX (x:Nm):Vl:=oddV x.neg (valW x.w) x.exp
def Q0y (v:Vl) (p:Nat) (up:Bool):Vl:=
 if Q0i v.m≤p then v else
  oddV v.neg (v.m/2^(Q0i v.m-p)+(if v.m % 2^(Q0i v.m-p)≠0∧up≠v.neg then 1 else 0)) (v.e+((Q0i v.m-p:Nat):Int))
theorem U0u (neg:Bool) (e:Int):oddV neg 0 e=⟨false,0,0⟩:=by rw [oddV,if_pos rfl]
theorem G1j (neg:Bool) (m k:Nat) (e:Int):oddV neg (m*2^k) e=oddV neg m (e+k):=by
 by_cases h:m=0
 · subst h;rw [Nat.zero_mul,U0u,U0u]
 · have hp:m*2^k≠0:=Nat.mul_ne_zero h (Nat.ne_of_gt (Nat.two_pow_pos k))
   obtain⟨q,hq,hm⟩:=y0s m h
   have hmk:m*2^k=2^(tz m+k)*q:=by
    conv=>lhs;rw [hm]
    rw [Nat.pow_add,Nat.mul_right_comm]
   have ht:tz (m*2^k)=tz m+k:=by rw [hmk,q1b _ _ hq]
   unfold oddV
   rw [if_neg h,if_neg hp,ht]
   have e1:m*2^k/2^(tz m+k)=m/2^tz m:=by
    rw [hmk,Nat.mul_div_cancel_left _ (Nat.two_pow_pos _)]
    conv=>rhs;rw [hm]
    rw [q1b _ _ hq,Nat.mul_div_cancel_left _ (Nat.two_pow_pos _)]
   rw [e1]
   congr 1
   omega
theorem w0m (neg:Bool) (m:Nat) (e:Int) (h:m % 2=1):oddV neg m e=⟨neg,m,e⟩:=by
 rw [oddV,if_neg (by omega),y1o h];simp
theorem k2p (z D q:Nat) (h:D≤z):2^z*q/2^D=q*2^(z-D):=by
 obtain⟨k,rfl⟩: ∃k,z=D+k:=⟨z-D,by omega⟩
 rw [Nat.add_sub_cancel_left,Nat.pow_add,Nat.mul_assoc,Nat.mul_div_cancel_left _ (Nat.two_pow_pos _),Nat.mul_comm]
theorem W3g {x:Nm} (h:Q0g x=true):ofX x=ofN x:=by
 rcases v1o h with h1 | h1
 · exact w0m _ _ _ h1
 · have h0:valW x.w=0:=h1
   have hw:x.w= []:=by
    refine Classical.byContradiction fun hw=> ?_
    have h2:=h
    unfold Q0g at h2
    rw [if_neg hw] at h2
    simp only [Bool.and_eq_true,decide_eq_true_eq] at h2
    have h3:=v0l x.w
    omega
   have h2:=h
   unfold Q0g at h2
   rw [if_pos hw] at h2
   simp at h2
   unfold ofX ofN
   rw [h0,U0u,h2.1,h2.2]
theorem J2s (neg:Bool) (m:Nat) (e:Int) (p:Nat) (up:Bool) (hp:0<p):Q0y (oddV neg m e) p up=
 if Q0i m≤p then oddV neg m e else oddV neg (m/2^(Q0i m-p)+(if tz m<Q0i m-p∧up≠neg then 1 else 0)) (e+((Q0i m-p:Nat):Int)):=by
 by_cases h0:m=0
 · subst h0
   rw [if_pos (by rw [J0b];omega),U0u,Q0y,if_pos (by show Q0i 0≤p;rw [J0b];omega)]
 obtain⟨q,hq,hm⟩:=y0s m h0
 have hq0:q≠0:=by omega
 have e1:oddV neg m e=⟨neg,q,e+tz m⟩:=by
  have:oddV neg (q*2^tz m) e=oddV neg q (e+tz m):=G1j neg q (tz m) e
  rw [Nat.mul_comm,←hm] at this
  rw [this,w0m _ _ _ hq]
 have hb:Q0i m=Q0i q+tz m:=by
  have:=V0h q (tz m) hq0
  rw [Nat.mul_comm,←hm] at this
  exact this
 rw [e1]
 unfold Q0y
 simp only
 by_cases h1:Q0i q≤p
 · rw [if_pos h1]
   by_cases h2:Q0i m≤p
   · rw [if_pos h2]
   · rw [if_neg h2,if_neg (by omega),Nat.add_zero]
     have hdiv:m/2^(Q0i m-p)=q*2^(tz m-(Q0i m-p)):=by
      have h:=k2p (tz m) (Q0i m-p) q (by omega)
      rw [←hm] at h;exact h
     rw [hdiv,G1j,w0m _ _ _ hq]
     congr 1
     omega
 · rw [if_neg h1,if_neg (show¬Q0i m≤p by omega)]
   have hd:Q0i m-p=tz m+(Q0i q-p):=by omega
   have hdiv:m/2^(Q0i m-p)=q/2^(Q0i q-p):=by
    have h:=Nat.mul_div_cancel_left q (Nat.two_pow_pos (tz m))
    rw [←hm] at h
    rw [hd,Nat.pow_add,←Nat.div_div_eq_div_mul,h]
   have hodd:q % 2^(Q0i q-p)≠0:=by
    intro h
    have hdv:2∣q:=Nat.dvd_trans ⟨2^(Q0i q-p-1),by rw [←Nat.pow_succ'];congr 1;omega⟩ (Nat.dvd_of_mod_eq_zero h)
    omega
   rw [hdiv]
   have hc:(q % 2^(Q0i q-p)≠0∧up≠neg)↔(tz m<Q0i m-p∧up≠neg):=⟨fun h=>⟨by omega,h.2⟩,fun h=>⟨hodd,h.2⟩⟩
   by_cases hh:tz m<Q0i m-p∧up≠neg
   · rw [if_pos hh,if_pos (hc.2 hh)]
     congr 1
     omega
   · rw [if_neg hh,if_neg (fun h=>hh (hc.1 h))]
     congr 1
     omega
end Go.Pv
end
section
/-Exact sums and products,whatever form the numbers have. No program in it. -/
namespace Go.Pv
theorem v1t (neg:Bool) (m:Nat) (e:Int):oddV neg m e=mkV (if neg then -(m:Int) else(m:Int)) e:=by
 by_cases h:m=0
 · subst h
   rw [U0u]
   unfold mkV
   cases neg<;>simp [U0u]
 · unfold mkV
   cases neg
   · show oddV false m e=oddV (decide ((m:Int)<0)) (m:Int).natAbs e
     rw [decide_eq_false (by omega),Int.natAbs_natCast]
   · show oddV true m e=oddV (decide (-(m:Int)<0)) (-(m:Int)).natAbs e
     rw [decide_eq_true (by omega),Int.natAbs_neg,Int.natAbs_natCast]
theorem x3z (x:Nm):ofX x=mkV (mant x) x.exp:=by rw [ofX,v1t];rfl
theorem G2m (s:Int) (k:Nat) (e:Int):mkV (s*2^k) e=mkV s (e+k):=by
 unfold mkV
 have h1:(s*2^k).natAbs=s.natAbs*2^k:=by
  rw [Int.natAbs_mul,Int.natAbs_pow];rfl
 have h2:decide (s*2^k<0)=decide (s<0):=by
  have hp:=two_pow_pos k
  by_cases h:s<0
  · rw [decide_eq_true h,decide_eq_true (Int.mul_neg_of_neg_of_pos h hp)]
  · rw [decide_eq_false h,decide_eq_false (Int.not_lt.2 (Int.mul_nonneg (Int.not_lt.1 h) (Int.le_of_lt hp)))]
 rw [h1,h2,G1j]
theorem G2n (s e:Int) (h:s≠0): ∃k:Nat,Z0u (mkV s e)*2^k=s∧(mkV s e).e=e+k∧(mkV s e).m≠0:=by
 have h0:s.natAbs≠0:=by omega
 refine⟨tz s.natAbs,?_,?_,?_⟩
 · unfold mkV oddV Z0u
   rw [if_neg h0]
   simp only
   have h1:=W1c s.natAbs
   by_cases hs:s<0
   · rw [decide_eq_true hs,if_pos rfl,Int.neg_mul]
     have:((s.natAbs/2^tz s.natAbs:Nat):Int)*2^tz s.natAbs=(s.natAbs:Int):=by
      rw [show((2:Int)^tz s.natAbs)=((2^tz s.natAbs:Nat):Int) from by simp,←Int.natCast_mul,h1]
     rw [this];omega
   · rw [decide_eq_false hs,if_neg (by simp)]
     have:((s.natAbs/2^tz s.natAbs:Nat):Int)*2^tz s.natAbs=(s.natAbs:Int):=by
      rw [show((2:Int)^tz s.natAbs)=((2^tz s.natAbs:Nat):Int) from by simp,←Int.natCast_mul,h1]
     rw [this];omega
 · unfold mkV oddV;rw [if_neg h0]
 · unfold mkV oddV
   rw [if_neg h0]
   have:=W0k s.natAbs h0
   simp only;omega
def byV (a b:Vl):Vl:=if a.m=0∨b.m=0 then⟨false,0,0⟩ else⟨a.neg !=b.neg,a.m*b.m,a.e+b.e⟩
theorem W3h {a b:Nat} (ha:a % 2=1) (hb:b % 2=1):a*b % 2=1:=by rw [Nat.mul_mod,ha,hb]
end Go.Pv
end
section
/-The lowest set bit of a word,and how many noughts lie below it. No program in it. -/
namespace Go.Pv
theorem k1d : ∀(k a b:Nat),a+b+1=2^k→a&&&b=0
 | 0,a,b,h=>by
  have:a=0:=by simp at h;omega
  subst this;exact Nat.zero_and b
 | k+1,a,b,h=>by
  have h2:a+b+1=2*2^k:=by rw [h,Nat.pow_succ,Nat.mul_comm]
  have ih:=k1d k (a/2) (b/2) (by omega)
  have hd:(a&&&b)/2=a/2&&&b/2:=Nat.and_div_two
  have hm:(a&&&b) % 2≠1:=fun e=>by have:=Nat.and_mod_two_eq_one.1 e;omega
  omega
theorem G2u : ∀(n x:Nat),0<x→x<2^n→x&&&(2^n-x)=2^tz x
 | 0,x,h,hl=>by simp at hl;omega
 | n+1,x,h,hl=>by
  have hp:2^(n+1)=2*2^n:=by rw [Nat.pow_succ,Nat.mul_comm]
  have hd:(x&&&(2^(n+1)-x))/2=x/2&&&(2^(n+1)-x)/2:=Nat.and_div_two
  rcases Nat.mod_two_eq_zero_or_one x with e | e
  · have ih:=G2u n (x/2) (by omega) (by omega)
    have h3:(2^(n+1)-x)/2=2^n-x/2:=by omega
    have hm:(x&&&(2^(n+1)-x)) % 2≠1:=fun e'=>by have:=Nat.and_mod_two_eq_one.1 e';omega
    rw [h3,ih] at hd
    have hps:2^(tz (x/2)+1)=2^tz (x/2)*2:=Nat.pow_succ ..
    rw [k1n (by omega) e]
    omega
  · have h4:=k1d n (x/2) ((2^(n+1)-x)/2) (by omega)
    have hm:(x&&&(2^(n+1)-x)) % 2=1:=Nat.and_mod_two_eq_one.2 ⟨e,by omega⟩
    rw [h4] at hd
    rw [y1o e,Nat.pow_zero];omega
theorem w2d (x:Nat) (h:0<x) (hl:x<18446744073709551616):x&&&(18446744073709551616-x)=2^tz x:=G2u 64 x h hl
theorem U1i (x:Nat) (h:0<x) (hl:x<18446744073709551616):tz x<64:=by
 have h1:=G0o x (by omega)
 have h2:=V1h x hl
 omega
theorem z3i (w r:Nat) (h:0<w) (hl:w<18446744073709551616):tz (w+18446744073709551616*r)=tz w:=by
 obtain⟨q,hq,hw⟩:=y0s w (by omega)
 have ht:=U1i w h hl
 have e:w+18446744073709551616*r=2^tz w*(q+2^(64-tz w)*r):=by
  rw [Nat.mul_add,←hw,←Nat.mul_assoc,←Nat.pow_add,show tz w+(64-tz w)=64 from by omega]
 have h2:2^(64-tz w)*r % 2=0:=by
  obtain⟨k,hk⟩: ∃k,64-tz w=k+1:=⟨63-tz w,by omega⟩
  rw [hk,Nat.pow_succ,Nat.mul_assoc,Nat.mul_left_comm];exact Nat.mul_mod_right _ _
 rw [e,q1b _ _ (by omega)]
theorem j0s (l:List UInt64) (i:Nat) (h:i≤l.length):valW l=valW (l.take i)+18446744073709551616^i*valW (l.drop i):=by
 conv=>lhs;rw [←List.take_append_drop i l]
 rw [U0l,List.length_take,Nat.min_eq_left h]
theorem q1a (l:List UInt64) (i:Nat) (h:i<l.length):valW (l.drop i)=(l.getD i 0).toNat+18446744073709551616*valW (l.drop (i+1)):=by
 rw [List.drop_eq_getElem_cons h]
 simp only [valW,nW,List.map_cons,val]
 rw [List.getD_eq_getElem?_getD,List.getElem?_eq_getElem h];rfl
theorem z0k (l:List UInt64) (i:Nat) (h:l.length≤i):valW (l.drop i)=0:=by
 rw [List.drop_eq_nil_of_le h];rfl
theorem V1x (l:List UInt64) (i:Nat):valW (l.drop i)=(l.getD i 0).toNat+18446744073709551616*valW (l.drop (i+1)):=by
 by_cases h:i<l.length
 · exact q1a l i h
 · rw [z0k _ _ (by omega),z0k _ _ (by omega),H0e _ _ _ (by omega)];rfl
theorem y0i (l:List UInt64) (i:Nat) (h:i≤l.length):valW l/18446744073709551616^i=valW (l.drop i):=by
 have hl:=J0k (l.take i)
 rw [List.length_take,Nat.min_eq_left h] at hl
 rw [j0s l i h,Nat.add_mul_div_left _ _ (Nat.pow_pos (by decide)),Nat.div_eq_of_lt hl,Nat.zero_add]
theorem j2b (l:List UInt64) (i:Nat) (hi:i<l.length) (hz:valW (l.take i)=0) (hn:(l.getD i 0).toNat≠0):tz (valW l)=64*i+tz (l.getD i 0).toNat:=by
 rw [j0s l i (by omega),hz,Nat.zero_add,q1a l i hi,Nat.mul_comm,w0f,y1n _ _ (by omega),z3i _ _ (by omega) (UInt64.toNat_lt _)]
 omega
theorem K1z (w0 w1 r s:Nat) (h0:w0<18446744073709551616) (hs:s<64):(w0+18446744073709551616*(w1+18446744073709551616*r))/2^s % 18446744073709551616=w0/2^s+w1*2^(64-s) % 18446744073709551616:=by
 have e:(18446744073709551616:Nat)=2^s*2^(64-s):=by rw [←Nat.pow_add,show s+(64-s)=64 from by omega]
 have h1:(w0+18446744073709551616*(w1+18446744073709551616*r))/2^s=w0/2^s+2^(64-s)*(w1+18446744073709551616*r):=by
  conv=>lhs;rw [show 18446744073709551616*(w1+18446744073709551616*r)=2^s*(2^(64-s)*(w1+18446744073709551616*r)) from by rw [←Nat.mul_assoc,←e]]
  rw [Nat.add_mul_div_left _ _ (Nat.two_pow_pos s)]
 have h2:w0/2^s<2^(64-s):=Nat.div_lt_of_lt_mul (by rw [←e];exact h0)
 have h3:w1*2^(64-s) % 18446744073709551616=2^(64-s)*(w1 % 2^s):=by
  conv=>lhs;rw [Nat.mul_comm,e,Nat.mul_comm (2^s),Nat.mul_mod_mul_left]
 have h4:2^(64-s)*(w1 % 2^s)+2^(64-s)≤18446744073709551616:=by
  have h5:w1 % 2^s+1≤2^s:=Nat.mod_lt _ (Nat.two_pow_pos s)
  have:=Nat.mul_le_mul_left (2^(64-s)) h5
  rw [Nat.mul_add,Nat.mul_one] at this
  rw [Nat.mul_comm (2^(64-s)) (2^s),←e] at this
  exact this
 rw [h1,h3]
 have h6:w0/2^s+2^(64-s)*(w1+18446744073709551616*r)=(w0/2^s+2^(64-s)*(w1 % 2^s))+18446744073709551616*(w1/2^s+2^(64-s)*r):=by
  have h7:=Nat.div_add_mod w1 (2^s)
  have h8:2^(64-s)*w1=2^(64-s)*(2^s*(w1/2^s))+2^(64-s)*(w1 % 2^s):=by rw [←Nat.mul_add,h7]
  rw [←Nat.mul_assoc,Nat.mul_comm (2^(64-s)) (2^s),←e] at h8
  rw [Nat.mul_add,Nat.mul_add,h8,Nat.mul_left_comm]
  omega
 rw [h6,Nat.add_mul_mod_self_left,Nat.mod_eq_of_lt (by omega)]
theorem Q3d (w0 w1 s:Nat) (h0:w0<18446744073709551616) (hs:s<64):(w0/2^s)|||(w1*2^(64-s) % 18446744073709551616)=w0/2^s+w1*2^(64-s) % 18446744073709551616:=by
 refine z1x _ _ (64-s) (Nat.div_lt_of_lt_mul ?_) (k0p _ _ (by omega))
 rw [←Nat.pow_add,show s+(64-s)=64 from by omega];exact h0
end Go.Pv
end
section
/-Values as rational numbers. No program in it. -/
namespace Go.Pv
def p2 (e:Int):Rat:=(2:Rat)^e
theorem z0v (e:Int):0<p2 e:=Rat.zpow_pos (by decide)
theorem V4y (e:Int):p2 e≠0:=Rat.ne_of_gt (z0v e)
theorem H0u (a b:Int):p2 (a+b)=p2 a*p2 b:=Rat.zpow_add (by decide) a b
theorem p2_zero :p2 0=1:=Rat.zpow_zero 2
theorem Q2v (k:Nat):(((2:Int)^k:Int):Rat)=p2 k:=by
 unfold p2;rw [Rat.zpow_natCast]
 induction k with
 | zero=>rfl
 | succ k ih=>rw [Int.pow_succ,Rat.intCast_mul,ih,Rat.pow_succ];rfl
def qM (s e:Int):Rat:=(s:Rat)*p2 e
def qV (v:Vl):Rat:=qM (Z0u v) v.e
def qN (x:Nm):Rat:=qM (mant x) x.exp
theorem W0c (s:Int) (k:Nat) (e:Int):qM (s*2^k) e=qM s (e+k):=by
 unfold qM;rw [Rat.intCast_mul,Q2v,H0u];grind
theorem W1q (s t e:Int):qM (s+t) e=qM s e+qM t e:=by unfold qM;rw [Rat.intCast_add];grind
theorem Q2g (s t e f:Int):qM (s*t) (e+f)=qM s e*qM t f:=by unfold qM;rw [Rat.intCast_mul,H0u];grind
theorem X0x (e:Int):qM 0 e=0:=by unfold qM;rw [Rat.intCast_zero];grind
theorem z0p (s e:Int):qM (-s) e= -qM s e:=by unfold qM;rw [Rat.intCast_neg];grind
theorem qM_le {s t e:Int} :qM s e≤qM t e↔s≤t:=by
 unfold qM
 constructor
 · intro h
   exact Rat.intCast_le_intCast.1 (Rat.le_of_mul_le_mul_right h (z0v e))
 · intro h
   exact Rat.mul_le_mul_of_nonneg_right (Rat.intCast_le_intCast.2 h) (Rat.le_of_lt (z0v e))
theorem qM_lt {s t e:Int} :qM s e<qM t e↔s<t:=by
 rw [←Rat.not_le,qM_le];omega
theorem qM_eq {s t e:Int} :qM s e=qM t e↔s=t:=by
 constructor
 · intro h
   have h1:=(qM_le (s:=s) (t:=t) (e:=e)).1 (by rw [h];exact Rat.le_refl)
   have h2:=(qM_le (s:=t) (t:=s) (e:=e)).1 (by rw [h];exact Rat.le_refl)
   omega
 · rintro rfl;rfl
theorem k2d (s e g:Int) (h:g≤e):qM s e=qM (s*2^(e-g).toNat) g:=by
 rw [W0c];congr 1;omega
theorem Y2y (s e:Int):qV (mkV s e)=qM s e:=by
 by_cases h:s=0
 · subst h
   rw [Z2i,X0x]
   exact X0x 0
 · obtain⟨k,k1,k2,k3⟩:=G2n s e h
   unfold qV
   rw [k2,←W0c,k1]
theorem Z1g (neg:Bool) (m:Nat) (e:Int):qV (oddV neg m e)=qM (if neg then -(m:Int) else(m:Int)) e:=by rw [v1t,Y2y]
theorem x3m (x:Nm):qV (ofX x)=qN x:=by rw [x3z,Y2y];rfl
theorem Q0p (x:Nm):qV (ofN x)=qN x:=rfl
theorem z0h {v:Vl} (h:v.m=0):qV v=0:=by unfold qV;rw [Q1m h,X0x]
theorem J0n (a b:Vl):qV (K0o a b)=qV a+qV b:=by
 unfold K0o
 split
 · rename_i h;rw [z0h h];grind
 · split
   · rename_i h;rw [z0h h];grind
   · rw [Y2y,W1q,←k2d _ _ _ (by omega),←k2d _ _ _ (by omega)];rfl
theorem W0n (v:Vl):qV (V0s v)= -qV v:=by
 unfold qV;rw [Q1n,U1k,z0p]
theorem W0o (a b:Vl):qV (H0c a b)=qV a-qV b:=by
 unfold H0c;rw [J0n,W0n];grind
theorem v2z {a b:Vl} (ha:a.m≠0) (hb:b.m≠0):Z0u (byV a b)=Z0u a*Z0u b∧(byV a b).e=a.e+b.e:=by
 unfold byV
 rw [if_neg (by omega)]
 refine⟨?_,rfl⟩
 unfold Z0u
 cases a.neg<;>cases b.neg<;>simp [Int.neg_mul,Int.mul_neg]
theorem Y0t (a b:Vl):qV (byV a b)=qV a*qV b:=by
 by_cases ha:a.m=0
 · rw [z0h ha,z0h (by unfold byV;rw [if_pos (.inl ha)])];grind
 · by_cases hb:b.m=0
   · rw [z0h hb,z0h (by unfold byV;rw [if_pos (.inr hb)])];grind
   · obtain⟨h1,h2⟩:=v2z ha hb
     unfold qV
     rw [h1,h2,Q2g]
theorem Y2k (m:Int):sgn m≤0↔m≤0:=by unfold sgn;split<;>(try split)<;>omega
theorem Y2j (m:Int):sgn m<0↔m<0:=by unfold sgn;split<;>(try split)<;>omega
theorem w0i (a b:Vl):V0d a b≤0↔qV a≤qV b:=by
 unfold V0d
 have h:=W0o a b
 rw [q0i,Y2k]
 have h2:Z0u (H0c a b)≤0↔qV (H0c a b)≤0:=by
  rw [←X0x (H0c a b).e];exact qM_le.symm
 rw [h2,h];grind
theorem z1v (a b:Vl):V0d a b<0↔qV a<qV b:=by
 unfold V0d
 have h:=W0o a b
 rw [q0i,Y2j]
 have h2:Z0u (H0c a b)<0↔qV (H0c a b)<0:=by
  rw [←X0x (H0c a b).e];exact qM_lt.symm
 rw [h2,h];grind
theorem cmpN_le {a b:Nm} :cmpN a b≤0↔qN a≤qN b:=by rw [←Q1j,w0i];rfl
theorem cmpN_lt {a b:Nm} :cmpN a b<0↔qN a<qN b:=by rw [←Q1j,z1v];rfl
theorem cmpN_ge {a b:Nm} :0≤cmpN a b↔qN b≤qN a:=by
 have:=cmpN_lt (a:=a) (b:=b)
 rw [←Rat.not_lt,←this];omega
theorem cmpN_gt {a b:Nm} :0<cmpN a b↔qN b<qN a:=by
 have:=cmpN_le (a:=a) (b:=b)
 rw [←Rat.not_le,←this];omega
theorem y1v (a:Vl):K0l a<0↔qV a<0:=by
 rw [q0i,Y2j,←X0x a.e];exact qM_lt.symm
theorem y1w (a:Vl):K0l a≤0↔qV a≤0:=by
 rw [q0i,Y2k,←X0x a.e];exact qM_le.symm
def canV (v:Vl):Prop:=v.m % 2=1∨v=⟨false,0,0⟩
theorem Y0y (neg:Bool) (m:Nat) (e:Int):canV (oddV neg m e):=by
 unfold oddV canV
 split
 · exact .inr rfl
 · exact .inl (W0k m (by assumption))
theorem z2m (s e:Int):canV (mkV s e):=Y0y _ _ _
theorem X2f (x:Nm):canV (ofX x):=Y0y _ _ _
theorem X0g {x:Nm} (h:Q0g x=true):canV (ofN x):=by rw [←W3g h];exact X2f x
theorem Y0l {a b:Vl} (ha:canV a) (hb:canV b):canV (K0o a b):=by
 unfold K0o
 split
 · exact hb
 · split
   · exact ha
   · exact z2m _ _
theorem x0l {a:Vl} (ha:canV a):canV (V0s a):=by
 rcases ha with h | rfl
 · exact .inl (by rw [U1j];exact h)
 · exact .inr rfl
theorem Y0m {a b:Vl} (ha:canV a) (hb:canV b):canV (H0c a b):=Y0l ha (x0l hb)
theorem v0c {a b:Vl} (ha:canV a) (hb:canV b):canV (byV a b):=by
 rcases ha with h | rfl
 · rcases hb with k | rfl
   · exact .inl (by unfold byV;rw [if_neg (by omega)];exact W3h h k)
   · exact .inr (by unfold byV;rw [if_pos (.inr rfl)])
 · exact .inr (by unfold byV;rw [if_pos (.inl rfl)])
theorem Z0i {v:Vl} (h:canV v) (p:Nat) (up:Bool):canV (Q0y v p up):=by
 unfold Q0y
 split
 · exact h
 · exact Y0y _ _ _
theorem x0m {v:Vl} (h:canV v):okV v:=by
 rcases h with h | rfl
 · exact .inl h
 · exact .inr rfl
theorem j1v {v:Vl} (h:canV v):v=mkV (Z0u v) v.e:=by
 rcases h with h | rfl
 · have:oddV v.neg v.m v.e=v:=by rw [w0m _ _ _ h]
   conv=>lhs;rw [←this]
   rw [v1t];rfl
 · rw [show Z0u ⟨false,0,0⟩=0 from rfl,Z2i]
theorem j3h {s e t f:Int} (h:qM s e=qM t f):mkV s e=mkV t f:=by
 have h1:mkV s e=mkV (s*2^(e-min e f).toNat) (min e f):=by rw [G2m];congr 1;omega
 have h2:mkV t f=mkV (t*2^(f-min e f).toNat) (min e f):=by rw [G2m];congr 1;omega
 rw [k2d s e (min e f) (by omega),k2d t f (min e f) (by omega),qM_eq] at h
 rw [h1,h2,h]
theorem j0f {v w:Vl} (hv:canV v) (hw:canV w) (h:qV v=qV w):v=w:=by
 rw [j1v hv,j1v hw]
 exact j3h h
theorem w0l {x:Nm} {v:Vl} (hv:canV v) (h:qN x=qV v):ofX x=v:=j0f (X2f x) hv (by rw [x3m,h])
theorem x0y (neg:Bool) (m d:Nat) (c:Nat) (e:Int):qM (if neg then -((m/2^d+c:Nat):Int) else((m/2^d+c:Nat):Int)) (e+(d:Int))=qM (if neg then -(((m/2^d+c)*2^d:Nat):Int) else(((m/2^d+c)*2^d:Nat):Int)) e:=by
 rw [←W0c]
 congr 1
 cases neg
 · simp
 · simp [Int.neg_mul]
theorem V0w (v:Vl) (p:Nat):qV (Q0y v p false)≤qV v:=by
 unfold Q0y
 split
 · exact Rat.le_refl
 · rw [Z1g,x0y]
   unfold qV Z0u
   rw [qM_le]
   generalize Q0i v.m-p=d
   have h1:=Nat.div_add_mod v.m (2^d)
   have h2:=Nat.mod_lt v.m (Nat.two_pow_pos d)
   rw [Nat.mul_comm] at h1
   rw [Nat.add_mul]
   cases v.neg
   · rw [if_neg (by simp),if_neg (by simp),if_neg (by simp),Nat.zero_mul];omega
   · rw [if_pos rfl,if_pos rfl]
     by_cases h3:v.m % 2^d=0
     · rw [if_neg (by simp [h3]),Nat.zero_mul];omega
     · rw [if_pos ⟨h3,by simp⟩,Nat.one_mul];omega
theorem U0o (v:Vl) (p:Nat):qV v≤qV (Q0y v p true):=by
 unfold Q0y
 split
 · exact Rat.le_refl
 · rw [Z1g,x0y]
   unfold qV Z0u
   rw [qM_le]
   generalize Q0i v.m-p=d
   have h1:=Nat.div_add_mod v.m (2^d)
   have h2:=Nat.mod_lt v.m (Nat.two_pow_pos d)
   rw [Nat.mul_comm] at h1
   rw [Nat.add_mul]
   cases v.neg
   · rw [if_neg (by simp),if_neg (by simp)]
     by_cases h3:v.m % 2^d=0
     · rw [if_neg (by simp [h3]),Nat.zero_mul];omega
     · rw [if_pos ⟨h3,by simp⟩,Nat.one_mul];omega
   · rw [if_pos rfl,if_pos rfl,if_neg (by simp),Nat.zero_mul];omega
theorem J0u {v:Vl} (hv:canV v) (h:(numV v).2=0):ofN (numV v).1=v∧qN (numV v).1=qV v:=by
 unfold numV at h⊢
 split
 · rename_i h0
   rcases hv with hv | rfl
   · omega
   · exact⟨rfl,rfl⟩
 · rename_i h0
   rw [if_neg h0] at h
   split
   · rename_i h1;rw [if_pos h1] at h;cases h
   · have e:ofN ⟨v.neg,v.e,Q0o v.m⟩=v:=by unfold ofN;rw [Z0q]
     exact⟨e,by rw [←Q0p,e]⟩
theorem Z2b {x:Nm} (h:Q0g x=true):numV (ofN x)=(x,0):=by
 unfold numV ofN
 simp only
 have h2:=h
 unfold Q0g at h2
 by_cases hw:x.w= []
 · rw [if_pos hw] at h2
   simp at h2
   rw [if_pos (by rw [hw];rfl)]
   congr 1
   obtain⟨n,e,w⟩:=x
   simp at hw h2
   obtain⟨rfl,rfl⟩:=h2
   subst hw;rfl
 · rw [if_neg hw] at h2
   simp only [Bool.and_eq_true,decide_eq_true_eq] at h2
   rw [if_neg (by have:=(Y0r h);intro e;exact hw (this.1 e)),Q0x,y0y h,if_neg (by omega)]
end Go.Pv
end
section
/-What sums,differences and products of intervals come to. No program in it. -/
namespace Go.Pv
theorem X0i {a b:Rat} (ha:0≤a) (hb:0≤b):0≤a*b:=Rat.mul_nonneg ha hb
theorem U3x {x y u v X U:Rat} (h1:x≤X) (h2:X≤y) (h3:u≤U) (h4:U≤v) (hx:0≤x) (hu:0≤u):x*u≤X*U:=by
 have a1:=X0i (a:=X-x) (b:=u) (by grind) hu
 have a2:=X0i (a:=X) (b:=U-u) (by grind) (by grind)
 grind
theorem z2a {x y u v X U:Rat} (h1:x≤X) (h2:X≤y) (h3:u≤U) (h4:U≤v) (hx:0≤X) (hu:u≤0):y*u≤X*U:=by
 have a1:=X0i (a:=y-X) (b:= -u) (by grind) (by grind)
 have a2:=X0i (a:=X) (b:=U-u) (by grind) (by grind)
 grind
theorem q2z {x y u v X U:Rat} (h1:x≤X) (h2:X≤y) (h3:u≤U) (h4:U≤v) (hx:x≤0) (hu:0≤U):x*v≤X*U:=by
 have a1:=X0i (a:= -x) (b:=v-U) (by grind) (by grind)
 have a2:=X0i (a:=X-x) (b:=U) (by grind) (by grind)
 grind
theorem U3w {x y u v X U:Rat} (h1:x≤X) (h2:X≤y) (h3:u≤U) (h4:U≤v) (hx:y≤0) (hu:v≤0):y*v≤X*U:=by
 have a1:=X0i (a:=y-X) (b:= -v) (by grind) (by grind)
 have a2:=X0i (a:= -X) (b:=v-U) (by grind) (by grind)
 grind
theorem V3x {a b:Rat} (ha:a≤0) (hb:b≤0):0≤a*b:=by
 have:=X0i (a:= -a) (b:= -b) (by grind) (by grind)
 grind
theorem V3y {a b:Rat} (ha:0≤a) (hb:b≤0):a*b≤0:=by
 have:=X0i (a:=a) (b:= -b) ha (by grind)
 grind
theorem v2m {a b:Rat} (ha:a≤0) (hb:0≤b):a*b≤0:=by
 have:=X0i (a:= -a) (b:=b) (by grind) hb
 grind
def V0q (x y u v:Vl):Vl:=
 if 0≤K0l x∧0≤K0l u then byV x u else if 0≤K0l x then byV y u else if 0≤K0l u then byV x v else
 if K0l y≤0∧K0l v≤0 then byV y v else if V0d (byV y u) (byV x v)<0 then byV y u else byV x v
def H0y (x y u v:Vl):Vl:=V0s (V0q (V0s y) (V0s x) u v)
theorem y1x (a:Vl):0≤K0l a↔0≤qV a:=by
 have:=y1v a
 rw [←Rat.not_lt,←this];omega
theorem H0x {x y u v:Vl} (hx:qV x≤qV y) (hu:qV u≤qV v) {X U:Rat} (h1:qV x≤X) (h2:X≤qV y) (h3:qV u≤U) (h4:U≤qV v):qV (V0q x y u v)≤X*U:=by
 unfold V0q
 simp only [y1x,y1w,z1v,Y0t]
 split
 · rename_i h;rw [Y0t];exact U3x h1 h2 h3 h4 h.1 h.2
 · rename_i n1
   split
   · rename_i h;rw [Y0t];exact z2a h1 h2 h3 h4 (by grind) (by grind)
   · rename_i n2
     split
     · rename_i h;rw [Y0t];exact q2z h1 h2 h3 h4 (by grind) (by grind)
     · rename_i n3
       split
       · rename_i h;rw [Y0t];exact U3w h1 h2 h3 h4 h.1 h.2
       · rename_i n4
         have key:qV y*qV u≤X*U∨qV x*qV v≤X*U:=by
          by_cases hX:0≤X
          · exact .inl (z2a h1 h2 h3 h4 hX (by grind))
          · by_cases hU:0≤U
            · exact .inr (q2z h1 h2 h3 h4 (by grind) hU)
            · have p:=V3x (a:=X) (b:=U) (by grind) (by grind)
              by_cases hy:0≤qV y
              · have:=V3y (a:=qV y) (b:=qV u) hy (by grind);exact .inl (by grind)
              · have:=v2m (a:=qV x) (b:=qV v) (by grind) (by grind);exact .inr (by grind)
         split
         · rename_i h;rw [Y0t];grind
         · rename_i h;rw [Y0t];grind
theorem U0f (x y u v:Vl):V0q x y u v=byV x u∨V0q x y u v=byV x v∨V0q x y u v=byV y u∨V0q x y u v=byV y v:=by
 unfold V0q
 repeat' split
 all_goals simp
theorem x0e {x y u v:Vl} (hx:qV x≤qV y) (hu:qV u≤qV v) {X U:Rat} (h1:qV x≤X) (h2:X≤qV y) (h3:qV u≤U) (h4:U≤qV v):X*U≤qV (H0y x y u v):=by
 unfold H0y
 have:=H0x (x:=V0s y) (y:=V0s x) (u:=u) (v:=v) (X:= -X) (U:=U) (by rw [W0n,W0n];grind) hu (by rw [W0n];grind) (by rw [W0n];grind) h3 h4
 rw [W0n];grind
theorem j0d (x y u v:Vl):qV (H0y x y u v)=qV x*qV u∨qV (H0y x y u v)=qV x*qV v∨qV (H0y x y u v)=qV y*qV u∨qV (H0y x y u v)=qV y*qV v:=by
 unfold H0y
 rw [W0n]
 rcases U0f (V0s y) (V0s x) u v with h | h | h | h
 all_goals rw [h,Y0t,W0n];grind
theorem Q1x {x y u v:Vl} (hx:canV x) (hy:canV y) (hu:canV u) (hv:canV v):canV (V0q x y u v):=by
 rcases U0f x y u v with h | h | h | h
 all_goals rw [h];exact v0c (by assumption) (by assumption)
theorem Y1x {x y u v:Vl} (hx:canV x) (hy:canV y) (hu:canV u) (hv:canV v):canV (H0y x y u v):=x0l (Q1x (x0l hy) (x0l hx) hu hv)
def exV (k:Nat) (a b:Vl):Vl:=if k=0 then K0o a b else if k=1 then H0c a b else byV a b
def exQ (k:Nat) (a b:Rat):Rat:=if k=0 then a+b else if k=1 then a-b else a*b
theorem exQ0 (a b:Rat):exQ 0 a b=a+b:=by simp [exQ]
theorem exQ1 (a b:Rat):exQ 1 a b=a-b:=by simp [exQ]
theorem exQ2 (a b:Rat):exQ 2 a b=a*b:=by simp [exQ]
theorem k2b (k:Nat) (a b:Vl):qV (exV k a b)=exQ k (qV a) (qV b):=by
 unfold exV exQ
 split
 · exact J0n a b
 · split
   · exact W0o a b
   · exact Y0t a b
theorem Q1y (k:Nat) {a b:Vl} (ha:canV a) (hb:canV b):canV (exV k a b):=by
 unfold exV
 split
 · exact Y0l ha hb
 · split
   · exact Y0m ha hb
   · exact v0c ha hb
def Z0l (p:Int):Bool:=decide (8≤p)&&decide (p≤256)
def J0s (k:Nat) (a b:Nm) (p:Int) (up:Bool):Nm×Int:=if Q0g a=true∧Q0g b=true∧Z0l p=true then numV (Q0y (exV k (ofN a) (ofN b)) p.toNat up) else(default,1)
def strN (k:Nat) (a b:Nm):Nm×Int:=if Q0g a=true∧Q0g b=true then numV (exV k (ofN a) (ofN b)) else(default,1)
def X0f (x:Nm) (k:Int):Nm×Int:=if Q0g x=true then(if x.w= [] then(x,0) else if k< -131072∨131072<k then(default,2) else numV ⟨x.neg,valW x.w,x.exp+k⟩) else(default,1)
def H0g (lo hi:Vl):Ivl×Int:=if (numV lo).2=0∧(numV hi).2=0 then(⟨(numV lo).1,(numV hi).1⟩,0) else(default,2)
def loV (k:Nat) (x y u v:Vl):Vl:=if k=0 then K0o x u else if k=1 then H0c x v else V0q x y u v
def hiV (k:Nat) (x y u v:Vl):Vl:=if k=0 then K0o y v else if k=1 then H0c y u else H0y x y u v
def opI (k:Nat) (a b:Ivl) (p:Int):Ivl×Int:=
 if Q0h a=true∧Q0h b=true∧Z0l p=true then H0g (Q0y (loV k (ofN a.lo) (ofN a.hi) (ofN b.lo) (ofN b.hi)) p.toNat false) (Q0y (hiV k (ofN a.lo) (ofN a.hi) (ofN b.lo) (ofN b.hi)) p.toNat true) else(default,1)
theorem loV0 (x y u v:Vl):loV 0 x y u v=K0o x u:=by simp [loV]
theorem hiV0 (x y u v:Vl):hiV 0 x y u v=K0o y v:=by simp [hiV]
theorem X3o (k:Nat) {x y u v:Vl} (hx:qV x≤qV y) (hu:qV u≤qV v) {X U:Rat} (h1:qV x≤X) (h2:X≤qV y) (h3:qV u≤U) (h4:U≤qV v):qV (loV k x y u v)≤exQ k X U:=by
 unfold loV exQ
 split
 · rw [J0n];grind
 · split
   · rw [W0o];grind
   · exact H0x hx hu h1 h2 h3 h4
theorem X3p (k:Nat) {x y u v:Vl} (hx:qV x≤qV y) (hu:qV u≤qV v) {X U:Rat} (h1:qV x≤X) (h2:X≤qV y) (h3:qV u≤U) (h4:U≤qV v):exQ k X U≤qV (hiV k x y u v):=by
 unfold hiV exQ
 split
 · rw [J0n];grind
 · split
   · rw [W0o];grind
   · exact x0e hx hu h1 h2 h3 h4
theorem H0j (k:Nat) {x y u v:Vl} (hx:canV x) (hy:canV y) (hu:canV u) (hv:canV v):canV (loV k x y u v):=by
 unfold loV
 split
 · exact Y0l hx hu
 · split
   · exact Y0m hx hv
   · exact Q1x hx hy hu hv
theorem H0k (k:Nat) {x y u v:Vl} (hx:canV x) (hy:canV y) (hu:canV u) (hv:canV v):canV (hiV k x y u v):=by
 unfold hiV
 split
 · exact Y0l hy hv
 · split
   · exact Y0m hy hu
   · exact Y1x hx hy hu hv
theorem K0m {x:Ivl} (h:Q0h x=true):qV (ofN x.lo)≤qV (ofN x.hi):=cmpN_le.1 (Q0n h).2.2
theorem k0x {lo hi:Vl} (h1:canV lo) (h2:canV hi) (h:qV lo≤qV hi):Q0h (H0g lo hi).1=true:=by
 unfold H0g
 split
 · rename_i hh
   exact V0y (X0w (x0m h1)) (X0w (x0m h2)) (cmpN_le.2 (by rw [(J0u h1 hh.1).2,(J0u h2 hh.2).2];exact h))
 · decide
theorem W3w (k:Nat) {a b:Ivl} (ha:Q0h a=true) (hb:Q0h b=true) (p:Nat):
 qV (Q0y (loV k (ofN a.lo) (ofN a.hi) (ofN b.lo) (ofN b.hi)) p false)≤qV (Q0y (hiV k (ofN a.lo) (ofN a.hi) (ofN b.lo) (ofN b.hi)) p true):=by
 have h1:=V0w (loV k (ofN a.lo) (ofN a.hi) (ofN b.lo) (ofN b.hi)) p
 have h2:=U0o (hiV k (ofN a.lo) (ofN a.hi) (ofN b.lo) (ofN b.hi)) p
 have h3:=X3o k (K0m ha) (K0m hb) Rat.le_refl (K0m ha) Rat.le_refl (K0m hb)
 have h4:=X3p k (K0m ha) (K0m hb) Rat.le_refl (K0m ha) Rat.le_refl (K0m hb)
 grind
theorem canI {x:Ivl} (h:Q0h x=true):canV (ofN x.lo)∧canV (ofN x.hi):=⟨X0g (Q0n h).1,X0g (Q0n h).2.1⟩
theorem w0k (k:Nat) (a b:Ivl) (p:Int):Q0h (opI k a b p).1=true:=by
 unfold opI
 split
 · rename_i h
   have ca:=canI h.1
   have cb:=canI h.2.1
   exact k0x (Z0i (H0j k ca.1 ca.2 cb.1 cb.2) _ _) (Z0i (H0k k ca.1 ca.2 cb.1 cb.2) _ _) (W3w k h.1 h.2.1 _)
 · decide
def memI (X:Rat) (a:Ivl):Prop:=qN a.lo≤X∧X≤qN a.hi
theorem q0o (k:Nat) {a b:Ivl} {p:Int} (h:(opI k a b p).2=0) {X U:Rat} (hX:memI X a) (hU:memI U b):memI (exQ k X U) (opI k a b p).1:=by
 unfold opI at h⊢
 split
 · rename_i hr
   rw [if_pos hr] at h
   have ca:=canI hr.1
   have cb:=canI hr.2.1
   unfold H0g at h⊢
   split
   · rename_i hh
     have h1:=(J0u (Z0i (H0j k ca.1 ca.2 cb.1 cb.2) _ _) hh.1).2
     have h2:=(J0u (Z0i (H0k k ca.1 ca.2 cb.1 cb.2) _ _) hh.2).2
     have h3:=X3o k (K0m hr.1) (K0m hr.2.1) hX.1 hX.2 hU.1 hU.2
     have h4:=X3p k (K0m hr.1) (K0m hr.2.1) hX.1 hX.2 hU.1 hU.2
     have h5:=V0w (loV k (ofN a.lo) (ofN a.hi) (ofN b.lo) (ofN b.hi)) p.toNat
     have h6:=U0o (hiV k (ofN a.lo) (ofN a.hi) (ofN b.lo) (ofN b.hi)) p.toNat
     exact⟨by rw [h1];grind,by rw [h2];grind⟩
   · rename_i hh;rw [if_neg hh] at h;cases h
 · rename_i hr;rw [if_neg hr] at h;cases h
end Go.Pv
end
section
/-Exact sums and products of numbers in any form,and how long they get. No program in it. -/
namespace Go.Pv
def bd (n k:Nat) (x:Nm):Prop:=x.w.length≤n∧ -(k:Int)≤x.exp∧x.exp≤k
theorem bd.mono {n k n' k':Nat} {x:Nm} (h:bd n k x) (h1:n≤n') (h2:k≤k'):bd n' k' x:=⟨by have:=h.1;omega,by have:=h.2.1;omega,by have:=h.2.2;omega⟩
theorem X0e {x:Nm} (h:Q0g x=true):bd 64 65536 x:=by
 unfold Q0g at h
 by_cases hw:x.w= []
 · rw [if_pos hw] at h
   simp at h
   exact⟨by rw [hw];simp,by rw [h.2];omega,by rw [h.2];omega⟩
 · rw [if_neg hw] at h
   simp only [Bool.and_eq_true,decide_eq_true_eq] at h
   exact⟨h.1.1.1.2,h.1.2,h.2⟩
theorem x3n (x:Nm):qN { x with neg:= !x.neg } = -qN x:=by
 unfold qN mant
 rw [←z0p]
 congr 1
 cases x.neg<;>simp
theorem k2c (neg:Bool) (e:Int) (m:Nat):qN ⟨neg,e,Q0o m⟩=qM (if neg then -(m:Int) else(m:Int)) e:=by
 unfold qN mant;rw [Z0q]
theorem V3n (b:Nm) (e:Int) (d:Nat) (h:b.exp=e+d):qN b=qM (if b.neg then -((valW b.w*2^d:Nat):Int) else((valW b.w*2^d:Nat):Int)) e:=by
 unfold qN
 rw [h,←W0c]
 congr 1
 unfold mant
 cases b.neg
 · simp
 · simp [Int.neg_mul]
theorem Y3t (a b:Nm) (d:Nat) (h:b.exp=a.exp+d) (hn:a.neg=b.neg):qN ⟨a.neg,a.exp,Q0o (valW a.w+valW b.w*2^d)⟩=qN a+qN b:=by
 rw [k2c,V3n b a.exp d h,show qN a=qM (mant a) a.exp from rfl,←W1q]
 congr 1
 unfold mant
 rw [←hn]
 cases a.neg<;>simp<;>omega
theorem y2r (a b:Nm) (d:Nat) (h:b.exp=a.exp+d) (hn:a.neg≠b.neg) (hle:valW b.w*2^d≤valW a.w):qN ⟨a.neg,a.exp,Q0o (valW a.w-valW b.w*2^d)⟩=qN a+qN b:=by
 rw [k2c,V3n b a.exp d h,show qN a=qM (mant a) a.exp from rfl,←W1q]
 congr 1
 unfold mant
 generalize valW b.w*2^d=x at*
 cases ha:a.neg<;>cases hb:b.neg<;>simp [ha,hb] at hn⊢ <;>omega
theorem y2p (a b:Nm) (d:Nat) (h:b.exp=a.exp+d) (hn:a.neg≠b.neg) (hle:valW a.w≤valW b.w*2^d):qN ⟨b.neg,a.exp,Q0o (valW b.w*2^d-valW a.w)⟩=qN a+qN b:=by
 rw [k2c,V3n b a.exp d h,show qN a=qM (mant a) a.exp from rfl,←W1q]
 congr 1
 unfold mant
 generalize valW b.w*2^d=x at*
 cases ha:a.neg<;>cases hb:b.neg<;>simp [ha,hb] at hn⊢ <;>omega
theorem q1j {x:Nm} (h:sgnN x=0):qN x=0:=by
 have:mant x=0:=by
  rw [k0d] at h
  unfold sgn at h
  split at h
  · assumption
  · split at h<;>omega
 unfold qN;rw [this,X0x]
theorem k3r (a b:Nm) (n k d:Nat) (ha:bd n k a) (hb:bd n k b) (hd:d≤2*k):(Q0o (valW a.w+valW b.w*2^d)).length≤n+k+1:=by
 refine X0t ?_
 have h1:=J0k a.w
 have h2:=J0k b.w
 have hp: ∀l:Nat,l≤n→18446744073709551616^l≤2^(64*n):=fun l hl=>by rw [w0f];exact Nat.pow_le_pow_right (by decide) (by omega)
 have h3:valW a.w<2^(64*n+d):=Nat.lt_of_lt_of_le h1 (Nat.le_trans (hp _ ha.1) (Nat.pow_le_pow_right (by decide) (by omega)))
 have h4:valW b.w*2^d<2^(64*n+d):=by
  rw [Nat.pow_add]
  exact Nat.mul_lt_mul_of_pos_right (Nat.lt_of_lt_of_le h2 (hp _ hb.1)) (Nat.two_pow_pos d)
 have h5:18446744073709551616^(n+k+1)=2^(64*(n+k+1)):=w0f _
 have h6:2^(64*n+d+1)≤2^(64*(n+k+1)):=Nat.pow_le_pow_right (by decide) (by omega)
 have h7:2^(64*n+d+1)=2^(64*n+d)*2:=Nat.pow_succ ..
 rw [h5]
 omega
theorem q2e (a b:Nm) (n k d m:Nat) (ha:bd n k a) (hb:bd n k b) (hd:d≤2*k) (hm:m≤valW a.w+valW b.w*2^d):(Q0o m).length≤n+k+1:=Nat.le_trans (Y0a hm) (k3r a b n k d ha hb hd)
theorem x3o (a b:Nm):qN ⟨a.neg !=b.neg,a.exp+b.exp,Q0o (valW a.w*valW b.w)⟩=qN a*qN b:=by
 rw [k2c]
 show _=qM (mant a) a.exp*qM (mant b) b.exp
 rw [←Q2g]
 congr 1
 unfold mant
 cases a.neg<;>cases b.neg<;>simp [Int.neg_mul,Int.mul_neg]
theorem W3x (a b:Nm) (n k m l:Nat) (ha:bd n k a) (hb:bd m l b):bd (n+m) (k+l) ⟨a.neg !=b.neg,a.exp+b.exp,Q0o (valW a.w*valW b.w)⟩:=by
 refine⟨X0t ?_,?_,?_⟩
 · have h1:=J0k a.w
   have h2:=J0k b.w
   refine Nat.lt_of_lt_of_le (Nat.mul_lt_mul'' h1 h2) ?_
   rw [←Nat.pow_add]
   exact Nat.pow_le_pow_right (by decide) (by have:=ha.1;have:=hb.1;omega)
 · have:=ha.2.1;have:=hb.2.1;simp only;omega
 · have:=ha.2.2;have:=hb.2.2;simp only;omega
end Go.Pv
end
section
/-The right number of words by a power of two,rounded or not. No program in it. -/
namespace Go.Pv
theorem U1f (m:Nat) (h:m≠0):((Q0o m).getD 0 0).toNat % 2=m % 2:=by
 rw [←v0l,Z0q]
theorem q1s (neg:Bool) (m:Nat) (e:Int) (h:m % 2=1):Q0g ⟨neg,e,Q0o m⟩=(decide ((Q0o m).length≤64)&&decide (-65536≤e)&&decide (e≤65536)):=by
 have hw:Q0o m≠ []:=fun e=>by rw [wordsOf_nil] at e;omega
 have h1:((Q0o m).getD 0 0).toNat % 2=1:=by rw [U1f m (by omega)];exact h
 unfold Q0g
 rw [if_neg hw,Y0k]
 simp only [h1,decide_true,Bool.true_and,Bool.and_true]
def mkX (neg:Bool) (w:List UInt64) (e:Int):Nm×Int:=numV (oddV neg (valW w) e)
theorem v2u {neg:Bool} {w:List UInt64} {e:Int} (h:valW w=0):mkX neg w e=(default,0):=by
 unfold mkX;rw [h,U0u];rfl
theorem G2l {neg:Bool} {w:List UInt64} {e:Int} (h:valW w≠0) (h2:65536<e∨e< -65536-((tz (valW w):Nat):Int)):mkX neg w e=(default,2):=by
 unfold mkX oddV
 rw [if_neg h]
 have h1:valW w/2^tz (valW w)≠0:=by have:=W0k (valW w) h;omega
 unfold numV
 rw [if_neg h1,if_pos (by simp only;omega)]
theorem v2v {neg:Bool} {w:List UInt64} {e:Int} (h:valW w≠0):mkX neg w e=if Q0g ⟨neg,e+((tz (valW w):Nat):Int),Q0o (valW w/2^tz (valW w))⟩=true then(⟨neg,e+((tz (valW w):Nat):Int),Q0o (valW w/2^tz (valW w))⟩,0) else(default,2):=by
 have h0:=W0k (valW w) h
 rw [q1s _ _ _ h0]
 unfold mkX oddV
 rw [if_neg h]
 unfold numV
 rw [if_neg (by simp only;omega)]
 simp only
 by_cases hc:64<(Q0o (valW w/2^tz (valW w))).length∨e+((tz (valW w):Nat):Int)< -65536∨65536<e+((tz (valW w):Nat):Int)
 · rw [if_pos hc,if_neg]
   simp only [Bool.and_eq_true,decide_eq_true_eq];omega
 · rw [if_neg hc,if_pos]
   simp only [Bool.and_eq_true,decide_eq_true_eq];omega
theorem G2k (x:Nm):mkX x.neg x.w x.exp=numV (ofX x):=rfl
def rndX (x:Nm) (p:Nat) (up:Bool):Nm:=
 if K0j x.w≤p then x else⟨x.neg,x.exp+((K0j x.w-p:Nat):Int),Q0o (valW x.w/2^(K0j x.w-p)+(if tz (valW x.w)<K0j x.w-p∧up≠x.neg then 1 else 0))⟩
theorem j2s (x:Nm) (p:Nat) (up:Bool) (hp:0<p):ofX (rndX x p up)=Q0y (ofX x) p up:=by
 unfold rndX
 show _=Q0y (oddV x.neg (valW x.w) x.exp) p up
 rw [J2s _ _ _ _ _ hp]
 unfold K0j
 split
 · rfl
 · unfold ofX
   rw [Z0q]
theorem V3j (x:Nm) (p:Nat) (up:Bool) (n k:Nat) (h:bd n k x):bd (n+1) (k+64*n) (rndX x p up):=by
 have hb:=G0x x.w
 have hl:=h.1
 unfold rndX
 split
 · exact h.mono (by omega) (by omega)
 · refine⟨?_,?_,?_⟩
   · refine X0t ?_
     have h1:=J0k x.w
     have h2:valW x.w/2^(K0j x.w-p)≤valW x.w:=Nat.div_le_self _ _
     have h3:18446744073709551616^x.w.length≤18446744073709551616^n:=Nat.pow_le_pow_right (by decide) hl
     have h4:18446744073709551616^(n+1)=18446744073709551616^n*18446744073709551616:=Nat.pow_succ ..
     split<;>omega
   · have:=h.2.1;simp only;omega
   · have:=h.2.2;simp only;omega
end Go.Pv
end
section
/-Intervals:has,meet,middle,width. No program in it. -/
namespace Go.Pv
def hasI (a:Ivl) (x:Nm):Bool:=Q0h a&&Q0g x&&decide (cmpN a.lo x≤0)&&decide (cmpN x a.hi≤0)
def q4q (lo hi:Nm):Ivl×Int:=if Q0h ⟨lo,hi⟩=true then(⟨lo,hi⟩,0) else(default,1)
def W4r (v:Vl):Vl:=if v.m=0 then v else { v with e:=v.e-1 }
def midV (a:Ivl) (p:Nat):Vl:=Q0y (W4r (K0o (ofN a.lo) (ofN a.hi))) p false
def midI (a:Ivl) (p:Int):Nm×Int:=if Q0h a=true∧Z0l p=true then(if V0d (midV a p.toNat) (ofN a.lo)<0 then(a.lo,0) else numV (midV a p.toNat)) else(default,1)
def J0f (a:Ivl) (p:Int):Nm×Int:=if Q0h a=true∧Z0l p=true then numV (Q0y (H0c (ofN a.hi) (ofN a.lo)) p.toNat true) else(default,1)
theorem x3w :p2 1=2:=by
 have:=Q2v 1
 rw [←show((1:Nat):Int)=1 from rfl,←this];rfl
theorem V3o (s e:Int):qM s (e-1)*2=qM s e:=by
 unfold qM
 have h:=H0u (e-1) 1
 rw [show e-1+1=e from by omega,x3w] at h
 rw [h];grind
theorem K3q {a b:Rat} (h:a*2=b*2):a=b:=by grind
theorem q1v {x y:Nm} (hx:Q0g x=true) (hy:Q0g y=true) (h:qN x=qN y):x=y:=by
 have h1:=j0f (X0g hx) (X0g hy) (by rw [Q0p,Q0p,h])
 have h2:=Z2b hx
 rw [h1,Z2b hy] at h2
 exact(congrArg Prod.fst h2).symm
theorem Q2e (a b:Nm):qN (Z0c a b)≤qN a∧qN (Z0c a b)≤qN b∧(qN (Z0c a b)=qN a∨qN (Z0c a b)=qN b):=by
 have h1:=cmpN_le.1 (Y1d a b)
 have h2:=cmpN_le.1 (K2x a b)
 refine⟨h1,h2,?_⟩
 unfold Z0c
 split
 · exact .inr rfl
 · exact .inl rfl
theorem Q2f (a b:Nm):qN a≤qN (Z0d a b)∧qN b≤qN (Z0d a b)∧(qN (Z0d a b)=qN a∨qN (Z0d a b)=qN b):=by
 have h1:=cmpN_le.1 (Y1i a b)
 have h2:=cmpN_le.1 (V2d a b)
 refine⟨h1,h2,?_⟩
 unfold Z0d
 split
 · exact .inr rfl
 · exact .inl rfl
theorem V2g {a b:Ivl} (ha:Q0h a=true) (hb:Q0h b=true) {p1 p2 p3 p4:Nm} (h1:qN p1=qN a.lo*qN b.lo) (h2:qN p2=qN a.lo*qN b.hi) (h3:qN p3=qN a.hi*qN b.lo) (h4:qN p4=qN a.hi*qN b.hi):
 ofX (Z0c (Z0c (Z0c p1 p2) p3) p4)=loV 2 (ofN a.lo) (ofN a.hi) (ofN b.lo) (ofN b.hi):=by
 have ca:=canI ha
 have cb:=canI hb
 have la:=K0m ha
 have lb:=K0m hb
 show _=V0q (ofN a.lo) (ofN a.hi) (ofN b.lo) (ofN b.hi)
 refine w0l (Q1x ca.1 ca.2 cb.1 cb.2) ?_
 have r1:=H0x la lb Rat.le_refl la Rat.le_refl lb
 have r2:=H0x la lb Rat.le_refl la lb Rat.le_refl
 have r3:=H0x la lb la Rat.le_refl Rat.le_refl lb
 have r4:=H0x la lb la Rat.le_refl lb Rat.le_refl
 have rr: ∀v w:Vl,V0q (ofN a.lo) (ofN a.hi) (ofN b.lo) (ofN b.hi)=byV v w→qV (V0q (ofN a.lo) (ofN a.hi) (ofN b.lo) (ofN b.hi))=qV v*qV w:=fun v w e=>by rw [e,Y0t]
 have r5:qV (V0q (ofN a.lo) (ofN a.hi) (ofN b.lo) (ofN b.hi))=qV (ofN a.lo)*qV (ofN b.lo)∨qV (V0q (ofN a.lo) (ofN a.hi) (ofN b.lo) (ofN b.hi))=qV (ofN a.lo)*qV (ofN b.hi)∨qV (V0q (ofN a.lo) (ofN a.hi) (ofN b.lo) (ofN b.hi))=qV (ofN a.hi)*qV (ofN b.lo)∨qV (V0q (ofN a.lo) (ofN a.hi) (ofN b.lo) (ofN b.hi))=qV (ofN a.hi)*qV (ofN b.hi):=by
  rcases U0f (ofN a.lo) (ofN a.hi) (ofN b.lo) (ofN b.hi) with e | e | e | e
  · exact .inl (rr _ _ e)
  · exact .inr (.inl (rr _ _ e))
  · exact .inr (.inr (.inl (rr _ _ e)))
  · exact .inr (.inr (.inr (rr _ _ e)))
 generalize qV (V0q (ofN a.lo) (ofN a.hi) (ofN b.lo) (ofN b.hi))=V at*
 simp only [Q0p] at*
 rw [←h1] at r1 r5
 rw [←h2] at r2 r5
 rw [←h3] at r3 r5
 rw [←h4] at r4 r5
 obtain⟨s1,s2,s3⟩:=Q2e p1 p2
 obtain⟨t1,t2,t3⟩:=Q2e (Z0c p1 p2) p3
 obtain⟨u1,u2,u3⟩:=Q2e (Z0c (Z0c p1 p2) p3) p4
 clear h1 h2 h3 h4 la lb rr
 grind
theorem H1c {a b:Ivl} (ha:Q0h a=true) (hb:Q0h b=true) {p1 p2 p3 p4:Nm} (h1:qN p1=qN a.lo*qN b.lo) (h2:qN p2=qN a.lo*qN b.hi) (h3:qN p3=qN a.hi*qN b.lo) (h4:qN p4=qN a.hi*qN b.hi):
 ofX (Z0d (Z0d (Z0d p1 p2) p3) p4)=hiV 2 (ofN a.lo) (ofN a.hi) (ofN b.lo) (ofN b.hi):=by
 have ca:=canI ha
 have cb:=canI hb
 have la:=K0m ha
 have lb:=K0m hb
 show _=H0y (ofN a.lo) (ofN a.hi) (ofN b.lo) (ofN b.hi)
 refine w0l (Y1x ca.1 ca.2 cb.1 cb.2) ?_
 have r1:=x0e la lb Rat.le_refl la Rat.le_refl lb
 have r2:=x0e la lb Rat.le_refl la lb Rat.le_refl
 have r3:=x0e la lb la Rat.le_refl Rat.le_refl lb
 have r4:=x0e la lb la Rat.le_refl lb Rat.le_refl
 have r5:=j0d (ofN a.lo) (ofN a.hi) (ofN b.lo) (ofN b.hi)
 generalize qV (H0y (ofN a.lo) (ofN a.hi) (ofN b.lo) (ofN b.hi))=V at*
 simp only [Q0p] at*
 rw [←h1] at r1 r5
 rw [←h2] at r2 r5
 rw [←h3] at r3 r5
 rw [←h4] at r4 r5
 obtain⟨s1,s2,s3⟩:=Q2f p1 p2
 obtain⟨t1,t2,t3⟩:=Q2f (Z0d p1 p2) p3
 obtain⟨u1,u2,u3⟩:=Q2f (Z0d (Z0d p1 p2) p3) p4
 clear h1 h2 h3 h4 la lb
 grind
end Go.Pv
end
section
/-What boxes are reckoned to. No program in it. -/
namespace Go.Pv
def opB (k:Nat) (a b:List Ivl) (p:Int):List Ivl×Int:=if rightB a=true∧rightB b=true∧a.length=b.length∧Z0l p=true then W0e (fun i x=>opI k x (b.getD i default) p) 0 a [] else([],1)
def J0r (x:Ivl) (b:List Ivl) (p:Int):List Ivl×Int:=if rightB b=true∧Q0h x=true∧Z0l p=true then W0e (fun _ y=>opI 2 x y p) 0 b [] else([],1)
def midB (b:List Ivl) (p:Int):List Nm×Int:=if rightB b=true∧Z0l p=true then W0e (fun _ a=>midI a p) 0 b [] else([],1)
def hasB (b:List Ivl) (q:List Nm):Bool:=rightB b&&decide (q.length=b.length)&&(List.range b.length).all fun i=>hasI (b.getD i default) (q.getD i default)
def ofB (q:List Nm):List Ivl:=q.map fun x=>⟨x,x⟩
def V0u (b:List Ivl) (p:Int):List Nm×Int:=if rightB b=true∧Z0l p=true then W0e (fun _ a=>J0f a p) 0 b [] else([],1)
def amax (l:List Nm):Nat→Nat
 | 0=>0
 | n+1=>if cmpR (l.getD n default) (l.getD (amax l n) default)>0 then n else amax l n
def q4k (b:List Ivl) (p:Int):Nm×Int:=if (V0u b p).2=0 then((V0u b p).1.getD (amax (V0u b p).1 b.length) default,0) else(default,(V0u b p).2)
def V0g (a:Ivl) (p:Int):Ivl×Int:=
 if (J0f a p).2≠0 then(default,(J0f a p).2) else if (X0f (J0f a p).1 (-2)).2≠0 then(default,(X0f (J0f a p).1 (-2)).2) else
 if (J0s 1 a.lo (X0f (J0f a p).1 (-2)).1 p false).2≠0∨(J0s 0 a.hi (X0f (J0f a p).1 (-2)).1 p true).2≠0 then(default,2) else
 (⟨(J0s 1 a.lo (X0f (J0f a p).1 (-2)).1 p false).1,(J0s 0 a.hi (X0f (J0f a p).1 (-2)).1 p true).1⟩,0)
def G0i (b:List Ivl) (p:Int):List Ivl×Int:=if rightB b=true∧Z0l p=true then W0e (fun _ a=>V0g a p) 0 b [] else([],1)
def q4j (b:List Ivl) (at':Nat) (x:Ivl):List Ivl:=b.set at' x
def H4l (b:List Ivl) (p:Int):(List Ivl×List Ivl)×Int:=
 if (V0u b p).2≠0 then(([],[]),(V0u b p).2) else
 if (midI (b.getD (amax (V0u b p).1 b.length) default) p).2≠0 then(([],[]),(midI (b.getD (amax (V0u b p).1 b.length) default) p).2) else
 ((b.set (amax (V0u b p).1 b.length) ⟨(b.getD (amax (V0u b p).1 b.length) default).lo,(midI (b.getD (amax (V0u b p).1 b.length) default) p).1⟩,
  b.set (amax (V0u b p).1 b.length) ⟨(midI (b.getD (amax (V0u b p).1 b.length) default) p).1,(b.getD (amax (V0u b p).1 b.length) default).hi⟩),0)
theorem k0z {α β:Type} [Inhabited α] (F:Nat→α→β×Int) (l:List α) (h:0<l.length) (e:Int) (he:e≠0) (hf: ∀i x,(F i x).2=e):W0e F 0 l []=([],e):=by
 cases l with
 | nil=>simp at h
 | cons x l=>
  rw [W0e,if_pos (by rw [hf];exact he),hf]
theorem U2x {k:Nat} {a b:Ivl} {p:Int} (h:Z0l p=false):opI k a b p=(default,1):=by
 rw [opI,if_neg (fun hh=>by simp [h] at hh)]
theorem W2k {a:Ivl} {p:Int} (h:Z0l p=false):J0f a p=(default,1):=by
 rw [J0f,if_neg (fun hh=>by simp [h] at hh)]
theorem z2x {a:Ivl} {p:Int} (h:Z0l p=false):V0g a p=(default,1):=by
 rw [V0g,W2k h,if_pos (by decide)]
theorem X1r (a:Ivl) (p:Int):Q0g (J0f a p).1=true:=by
 unfold J0f
 split
 · rename_i h
   have c:=canI h.1
   exact X0w (x0m (Z0i (Y0m c.2 c.1) _ _))
 · exact X0n
theorem z0n (x:Nm) (k:Int):Q0g (X0f x k).1=true:=by
 unfold X0f
 split
 · rename_i h
   split
   · exact h
   · split
     · exact X0n
     · refine X0w ?_
       have h1:=v1o h
       rcases h1 with h1 | h1
       · exact .inl h1
       · exact .inr h1
 · exact X0n
theorem q0j (k:Nat) (a b:Nm) (p:Int) (up:Bool):Q0g (J0s k a b p up).1=true:=by
 unfold J0s
 split
 · rename_i h
   exact X0w (x0m (Z0i (Q1y k (X0g h.1) (X0g h.2.1)) _ _))
 · exact X0n
theorem W3j (v:Vl):(numV v).2=0∨(numV v).2=2:=by
 unfold numV
 split
 · exact .inl rfl
 · split
   · exact .inr rfl
   · exact .inl rfl
theorem Q2c {k:Nat} {a b:Nm} {p:Int} {up:Bool} (ha:Q0g a=true) (hb:Q0g b=true) (hp:Z0l p=true):(J0s k a b p up).2=0∨(J0s k a b p up).2=2:=by
 rw [J0s,if_pos ⟨ha,hb,hp⟩];exact W3j _
end Go.Pv
end
section
/-How long values get. No program in it. -/
namespace Go.Pv
def bdV (n k:Nat) (v:Vl):Prop:=Q0i v.m≤n∧ -(k:Int)≤v.e∧v.e≤k
theorem bdV.mono {n k n' k':Nat} {v:Vl} (h:bdV n k v) (h1:n≤n') (h2:k≤k'):bdV n' k' v:=⟨by have:=h.1;omega,by have:=h.2.1;omega,by have:=h.2.2;omega⟩
theorem y1g {x:Nm} (h:Q0g x=true):bdV 4096 65536 (ofN x):=by
 have hb:=X0e h
 have h1:=G0x x.w
 exact⟨by show Q0i (valW x.w)≤_;unfold K0j at h1;have:=hb.1;omega,hb.2.1,hb.2.2⟩
theorem y1h {neg:Bool} {m:Nat} {e:Int} {n k:Nat} (h1:Q0i m≤n) (h2: -(k:Int)≤e) (h3:e≤k):bdV n (k+n) (oddV neg m e):=by
 unfold oddV
 split
 · exact⟨by rw [J0b];omega,by simp only;omega,by simp only;omega⟩
 · have ht:=z0l m
   have hl:=G0j (Nat.div_le_self m (2^tz m))
   exact⟨by simp only;omega,by simp only;omega,by simp only;omega⟩
theorem X2l {a b:Vl} {n k:Nat} (ha:bdV n k a) (hb:bdV n k b):bdV (n+2*k+1) (n+3*k+1) (K0o a b):=by
 unfold K0o
 split
 · exact hb.mono (by omega) (by omega)
 · split
   · exact ha.mono (by omega) (by omega)
   · have h1:=K0y a.m (a.e-min a.e b.e).toNat
     have h2:=K0y b.m (b.e-min a.e b.e).toNat
     have h3:=y0m (a.m*2^(a.e-min a.e b.e).toNat) (b.m*2^(b.e-min a.e b.e).toNat)
     obtain⟨a1,a2,a3⟩:=ha
     obtain⟨b1,b2,b3⟩:=hb
     have hk1:(a.e-min a.e b.e).toNat≤2*k:=by omega
     have hk2:(b.e-min a.e b.e).toNat≤2*k:=by omega
     have hm:(Z0u a*2^(a.e-min a.e b.e).toNat+Z0u b*2^(b.e-min a.e b.e).toNat).natAbs≤a.m*2^(a.e-min a.e b.e).toNat+b.m*2^(b.e-min a.e b.e).toNat:=by
      have e1: ∀(v:Vl) (j:Nat),(Z0u v*2^j).natAbs=v.m*2^j:=fun v j=>by
       rw [Int.natAbs_mul,Int.natAbs_pow]
       congr 1
       unfold Z0u;cases v.neg<;>simp
      have:=Int.natAbs_add_le (Z0u a*2^(a.e-min a.e b.e).toNat) (Z0u b*2^(b.e-min a.e b.e).toNat)
      rw [e1,e1] at this
      exact this
     have h4:=G0j hm
     have:=y1h (neg:=decide (Z0u a*2^(a.e-min a.e b.e).toNat+Z0u b*2^(b.e-min a.e b.e).toNat<0)) (m:=(Z0u a*2^(a.e-min a.e b.e).toNat+Z0u b*2^(b.e-min a.e b.e).toNat).natAbs) (e:=min a.e b.e) (n:=n+2*k+1) (k:=k) (by omega) (by omega) (by omega)
     exact this.mono (by omega) (by omega)
theorem X2m {a b:Vl} {n k m l:Nat} (ha:bdV n k a) (hb:bdV m l b):bdV (n+m) (k+l) (byV a b):=by
 unfold byV
 split
 · exact⟨by rw [J0b];omega,by simp only;omega,by simp only;omega⟩
 · refine⟨?_,?_,?_⟩
   · have h:Q0i (a.m*b.m)≤Q0i a.m+Q0i b.m:=by
      rw [bitlen_le_iff,Nat.pow_add]
      exact Nat.mul_lt_mul'' (Z0s _) (Z0s _)
     have:=ha.1;have:=hb.1;simp only;omega
   · have:=ha.2.1;have:=hb.2.1;simp only;omega
   · have:=ha.2.2;have:=hb.2.2;simp only;omega
theorem U1b {v:Vl} {n k:Nat} (h:bdV n k v) (hn:n≤1000000000000):(Q0d v.m).length≤1000000000000:=by
 have:=X0s v.m
 have:=h.1
 omega
end Go.Pv
end
section
/-A number of an interval,by parts of 8. No program in it. -/
namespace Go.Pv
def G0f (v:Vl):Vl:=if K0l v≠0 then { v with e:=v.e-3 } else v
def inV (a:Ivl) (k:Nat):Vl:=G0f (K0o (byV (ofN a.lo) (oddV false (8-k) 0)) (byV (ofN a.hi) (oddV false k 0)))
def inN (a:Ivl) (k:Nat):Nm:=if k=0 then a.lo else if k=8 then a.hi else if (numV (inV a k)).2≠0 then a.lo else(numV (inV a k)).1
theorem Q2u :p2 3=8:=by
 have:=Q2v 3
 rw [←show((3:Nat):Int)=3 from rfl,←this];rfl
theorem z1h (s e:Int):qM s (e-3)*8=qM s e:=by
 unfold qM
 have h:=H0u (e-3) 3
 rw [show e-3+3=e from by omega,Q2u] at h
 rw [h];grind
theorem J2m {v:Vl} (h:K0l v=0):v.m=0:=by
 unfold K0l at h
 split at h
 · assumption
 · split at h<;>omega
theorem Y2z (v:Vl):qV (G0f v)*8=qV v:=by
 unfold G0f
 split
 · exact z1h (Z0u v) v.e
 · rename_i h
   rw [z0h (J2m (Classical.not_not.1 h))];grind
theorem w1z {v:Vl} (h:canV v):canV (G0f v):=by
 unfold G0f
 split
 · rename_i h0
   rcases h with h | rfl
   · exact .inl h
   · exact absurd rfl h0
 · exact h
theorem U1a {v:Vl} {n k:Nat} (h:bdV n k v):bdV n (k+3) (G0f v):=by
 unfold G0f
 split
 · exact⟨h.1,by have:=h.2.1;simp only;omega,by have:=h.2.2;simp only;omega⟩
 · exact h.mono (by omega) (by omega)
theorem X1b (k:Nat):qV (oddV false k 0)=(k:Rat):=by
 rw [Z1g,if_neg (by simp)]
 unfold qM
 rw [p2_zero]
 show((k:Int):Rat)*1=_
 rw [Rat.mul_one];rfl
theorem y0n {k:Nat} (h:k≤8):bdV 4 4 (oddV false k 0):=by
 have hb:Q0i k≤4:=bitlen_le_iff.2 (by omega)
 have:=y1h (neg:=false) (m:=k) (e:=0) (n:=4) (k:=0) hb (by omega) (by omega)
 exact this.mono (by omega) (by omega)
theorem y3d {a:Ivl} {n m k:Nat} (h1:bdV n m (ofN a.lo)) (h2:bdV n m (ofN a.hi)) (hk:k≤8):bdV (n+2*m+13) (n+3*m+20) (inV a k):=by
 have b1:=X2m h1 (y0n (k:=8-k) (by omega))
 have b2:=X2m h2 (y0n hk)
 exact(U1a (X2l b1 b2)).mono (by omega) (by omega)
theorem Q3s (k:Nat) (h:k≤8):((8-k:Nat):Rat)=8-(k:Rat):=by
 have:((8-k:Nat):Int)=8-(k:Int):=by omega
 show(((8-k:Nat):Int):Rat)=8-((k:Int):Rat)
 rw [this,Rat.intCast_sub];rfl
theorem Y3e {a:Ivl} {k:Nat} (ha:Q0h a=true) (hk:k≤8):memI (qV (inV a k)) a:=by
 have h:=K0m ha
 rw [Q0p,Q0p] at h
 have e:=Y2z (K0o (byV (ofN a.lo) (oddV false (8-k) 0)) (byV (ofN a.hi) (oddV false k 0)))
 rw [J0n,Y0t,Y0t,X1b,X1b,Q0p,Q0p,Q3s k hk] at e
 have k0:(0:Rat)≤(k:Rat):=Rat.natCast_nonneg
 have k8:(k:Rat)≤8:=by
  have:=Rat.natCast_le_natCast.2 hk
  exact this
 have a1:=X0i (a:=qN a.hi-qN a.lo) (b:=(k:Rat)) (by grind) k0
 have a2:=X0i (a:=qN a.hi-qN a.lo) (b:=8-(k:Rat)) (by grind) (by grind)
 unfold inV
 generalize qV (G0f (K0o (byV (ofN a.lo) (oddV false (8-k) 0)) (byV (ofN a.hi) (oddV false k 0))))=x at*
 exact⟨by grind,by grind⟩
theorem w1y {a:Ivl} {k:Nat} (ha:Q0h a=true):canV (inV a k):=by
 have c:=canI ha
 exact w1z (Y0l (v0c c.1 (Y0y _ _ _)) (v0c c.2 (Y0y _ _ _)))
theorem H2q {a:Ivl} (k:Nat) (ha:Q0h a=true):Q0g (inN a k)=true:=by
 have h:=Q0n ha
 unfold inN
 split
 · exact h.1
 · split
   · exact h.2.1
   · split
     · exact h.1
     · exact X0w (x0m (w1y ha))
theorem Y3f {a:Ivl} {k:Nat} (ha:Q0h a=true) (hk:k≤8):memI (qN (inN a k)) a:=by
 have h:=K0m ha
 rw [Q0p,Q0p] at h
 unfold inN
 split
 · exact⟨Rat.le_refl,h⟩
 · split
   · exact⟨h,Rat.le_refl⟩
   · split
     · exact⟨Rat.le_refl,h⟩
     · rename_i hn
       rw [(J0u (w1y ha) (Classical.not_not.1 hn)).2]
       exact Y3e ha hk
theorem j3z {a:Ivl} {n m k:Nat} (ha:Q0h a=true) (h1:bdV n m (ofN a.lo)) (h2:bdV n m (ofN a.hi)) (hk:k≤8):bdV (n+2*m+13) (n+3*m+20) (ofN (inN a k)):=by
 unfold inN
 split
 · exact h1.mono (by omega) (by omega)
 · split
   · exact h2.mono (by omega) (by omega)
   · split
     · exact h1.mono (by omega) (by omega)
     · rename_i hn
       rw [(J0u (w1y ha) (Classical.not_not.1 hn)).1]
       exact y3d h1 h2 hk
theorem Z2q {a:Ivl} {x:Nm} (ha:Q0h a=true) (hx:Q0g x=true) (h:memI (qN x) a):hasI a x=true:=by
 unfold hasI
 rw [ha,hx]
 simp only [Bool.true_and,Bool.and_eq_true,decide_eq_true_eq]
 exact⟨cmpN_le.2 h.1,cmpN_le.2 h.2⟩
theorem v2x {a:Ivl} {x:Nm} (h:hasI a x=true):Q0h a=true∧Q0g x=true∧memI (qN x) a:=by
 unfold hasI at h
 simp only [Bool.and_eq_true,decide_eq_true_eq] at h
 exact⟨h.1.1.1,h.1.1.2,cmpN_le.1 h.1.2,cmpN_le.1 h.2⟩
theorem z1y {v:Vl} {n k:Nat} (h:bdV n k v) (h1:n≤4096) (h2:k≤65536):(numV v).2=0:=by
 unfold numV
 split
 · rfl
 · rw [if_neg]
   have hl:=X1p v.m
   have:=h.1;have:=h.2.1;have:=h.2.2
   omega
end Go.Pv
end
