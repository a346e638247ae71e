/- Parts of the walk: M23, M24, M25, M26, M27, M28, M29, M30, M31, M32, M33. -/
import Derived.Test.YtofoadghajnglaaGreatDoorQK
set_option linter.unusedVariables false
set_option linter.unusedSimpArgs false
section
/-Exact values and their rounding:what numbers that are not in one form stand for. No program in it. -/
namespace Go.Pv
def ofX (x:Nm):Vl:=oddV x.neg (valW x.w) x.exp
def Z0l (v:Vl) (p:Nat) (up:Bool):Vl:=
 if Q0g v.m≤p then v else
  oddV v.neg (v.m/2^(Q0g v.m-p)+(if v.m % 2^(Q0g v.m-p)≠0∧up≠v.neg then 1 else 0)) (v.e+((Q0g v.m-p:Nat):Int))
theorem V0s (neg:Bool) (e:Int):oddV neg 0 e=⟨false,0,0⟩:=by rw [oddV,if_pos rfl]
theorem Z1h (neg:Bool) (m k:Nat) (e:Int):oddV neg (m*2^k) e=oddV neg m (e+k):=by
 by_cases h:m=0
 · subst h;rw [Nat.zero_mul,V0s,V0s]
 · have hp:m*2^k≠0:=Nat.mul_ne_zero h (Nat.ne_of_gt (Nat.two_pow_pos k))
   obtain⟨q,hq,hm⟩:=z0h m h
   have hmk:m*2^k=2^(tz m+k)*q:=by
    conv=>lhs;rw [hm]
    rw [Nat.pow_add,Nat.mul_right_comm]
   have ht:tz (m*2^k)=tz m+k:=by rw [hmk,G1a _ _ hq]
   unfold oddV
   rw [if_neg h,if_neg hp,ht]
   have e1:m*2^k/2^(tz m+k)=m/2^tz m:=by
    rw [hmk,Nat.mul_div_cancel_left _ (Nat.two_pow_pos _)]
    conv=>rhs;rw [hm]
    rw [G1a _ _ hq,Nat.mul_div_cancel_left _ (Nat.two_pow_pos _)]
   rw [e1]
   congr 1
   omega
theorem j0h (neg:Bool) (m:Nat) (e:Int) (h:m % 2=1):oddV neg m e=⟨neg,m,e⟩:=by
 rw [oddV,if_neg (by omega),U1z h];simp
theorem J2r (z D q:Nat) (h:D≤z):2^z*q/2^D=q*2^(z-D):=by
 obtain⟨k,rfl⟩: ∃k,z=D+k:=⟨z-D,by omega⟩
 rw [Nat.add_sub_cancel_left,Nat.pow_add,Nat.mul_assoc,Nat.mul_div_cancel_left _ (Nat.two_pow_pos _),Nat.mul_comm]
theorem q2v {x:Nm} (h:Q0i x=true):ofX x=ofN x:=by
 rcases q2u h with h1 | h1
 · exact j0h _ _ _ h1
 · have h0:valW x.w=0:=h1
   have hw:x.w= []:=by
    refine Classical.byContradiction fun hw=> ?_
    have h2:=h
    unfold Q0i at h2
    rw [if_neg hw] at h2
    simp only [Bool.and_eq_true,decide_eq_true_eq] at h2
    have h3:=H0m x.w
    omega
   have h2:=h
   unfold Q0i at h2
   rw [if_pos hw] at h2
   simp at h2
   unfold ofX ofN
   rw [h0,V0s,h2.1,h2.2]
theorem z1h (neg:Bool) (m:Nat) (e:Int) (p:Nat) (up:Bool) (hp:0<p):Z0l (oddV neg m e) p up=
 if Q0g m≤p then oddV neg m e else oddV neg (m/2^(Q0g m-p)+(if tz m<Q0g m-p∧up≠neg then 1 else 0)) (e+((Q0g m-p:Nat):Int)):=by
 by_cases h0:m=0
 · subst h0
   rw [if_pos (by rw [K0r];omega),V0s,Z0l,if_pos (by show Q0g 0≤p;rw [K0r];omega)]
 obtain⟨q,hq,hm⟩:=z0h m h0
 have hq0:q≠0:=by omega
 have e1:oddV neg m e=⟨neg,q,e+tz m⟩:=by
  have:oddV neg (q*2^tz m) e=oddV neg q (e+tz m):=Z1h neg q (tz m) e
  rw [Nat.mul_comm,←hm] at this
  rw [this,j0h _ _ _ hq]
 have hb:Q0g m=Q0g q+tz m:=by
  have:=W0o q (tz m) hq0
  rw [Nat.mul_comm,←hm] at this
  exact this
 rw [e1]
 unfold Z0l
 simp only
 by_cases h1:Q0g q≤p
 · rw [if_pos h1]
   by_cases h2:Q0g m≤p
   · rw [if_pos h2]
   · rw [if_neg h2,if_neg (by omega),Nat.add_zero]
     have hdiv:m/2^(Q0g m-p)=q*2^(tz m-(Q0g m-p)):=by
      have h:=J2r (tz m) (Q0g m-p) q (by omega)
      rw [←hm] at h;exact h
     rw [hdiv,Z1h,j0h _ _ _ hq]
     congr 1
     omega
 · rw [if_neg h1,if_neg (show¬Q0g m≤p by omega)]
   have hd:Q0g m-p=tz m+(Q0g q-p):=by omega
   have hdiv:m/2^(Q0g m-p)=q/2^(Q0g q-p):=by
    have h:=Nat.mul_div_cancel_left q (Nat.two_pow_pos (tz m))
    rw [←hm] at h
    rw [hd,Nat.pow_add,←Nat.div_div_eq_div_mul,h]
   have hodd:q % 2^(Q0g q-p)≠0:=by
    intro h
    have hdv:2∣q:=Nat.dvd_trans ⟨2^(Q0g q-p-1),by rw [←Nat.pow_succ'];congr 1;omega⟩ (Nat.dvd_of_mod_eq_zero h)
    omega
   rw [hdiv]
   have hc:(q % 2^(Q0g q-p)≠0∧up≠neg)↔(tz m<Q0g m-p∧up≠neg):=⟨fun h=>⟨by omega,h.2⟩,fun h=>⟨hodd,h.2⟩⟩
   by_cases hh:tz m<Q0g m-p∧up≠neg
   · rw [if_pos hh,if_pos (hc.2 hh)]
     congr 1
     omega
   · rw [if_neg hh,if_neg (fun h=>hh (hc.1 h))]
     congr 1
     omega
end Go.Pv
end
section
/-Exact sums and products,whatever form the numbers have. No program in it. -/
namespace Go.Pv
theorem Y1m (neg:Bool) (m:Nat) (e:Int):oddV neg m e=mkV (if neg then -(m:Int) else(m:Int)) e:=by
 by_cases h:m=0
 · subst h
   rw [V0s]
   unfold mkV
   cases neg<;>simp [V0s]
 · unfold mkV
   cases neg
   · show oddV false m e=oddV (decide ((m:Int)<0)) (m:Int).natAbs e
     rw [decide_eq_false (by omega),Int.natAbs_natCast]
   · show oddV true m e=oddV (decide (-(m:Int)<0)) (-(m:Int)).natAbs e
     rw [decide_eq_true (by omega),Int.natAbs_neg,Int.natAbs_natCast]
theorem y2k (x:Nm):ofX x=mkV (mant x) x.exp:=by rw [ofX,Y1m];rfl
theorem w1g (s:Int) (k:Nat) (e:Int):mkV (s*2^k) e=mkV s (e+k):=by
 unfold mkV
 have h1:(s*2^k).natAbs=s.natAbs*2^k:=by
  rw [Int.natAbs_mul,Int.natAbs_pow];rfl
 have h2:decide (s*2^k<0)=decide (s<0):=by
  have hp:=two_pow_pos k
  by_cases h:s<0
  · rw [decide_eq_true h,decide_eq_true (Int.mul_neg_of_neg_of_pos h hp)]
  · rw [decide_eq_false h,decide_eq_false (Int.not_lt.2 (Int.mul_nonneg (Int.not_lt.1 h) (Int.le_of_lt hp)))]
 rw [h1,h2,Z1h]
theorem w1h (s e:Int) (h:s≠0): ∃k:Nat,J0g (mkV s e)*2^k=s∧(mkV s e).e=e+k∧(mkV s e).m≠0:=by
 have h0:s.natAbs≠0:=by omega
 refine⟨tz s.natAbs,?_,?_,?_⟩
 · unfold mkV oddV J0g
   rw [if_neg h0]
   simp only
   have h1:=q1o s.natAbs
   by_cases hs:s<0
   · rw [decide_eq_true hs,if_pos rfl,Int.neg_mul]
     have:((s.natAbs/2^tz s.natAbs:Nat):Int)*2^tz s.natAbs=(s.natAbs:Int):=by
      rw [show((2:Int)^tz s.natAbs)=((2^tz s.natAbs:Nat):Int) from by simp,←Int.natCast_mul,h1]
     rw [this];omega
   · rw [decide_eq_false hs,if_neg (by simp)]
     have:((s.natAbs/2^tz s.natAbs:Nat):Int)*2^tz s.natAbs=(s.natAbs:Int):=by
      rw [show((2:Int)^tz s.natAbs)=((2^tz s.natAbs:Nat):Int) from by simp,←Int.natCast_mul,h1]
     rw [this];omega
 · unfold mkV oddV;rw [if_neg h0]
 · unfold mkV oddV
   rw [if_neg h0]
   have:=W0s s.natAbs h0
   simp only;omega
def byV (a b:Vl):Vl:=if a.m=0∨b.m=0 then⟨false,0,0⟩ else⟨a.neg !=b.neg,a.m*b.m,a.e+b.e⟩
theorem q2x {a b:Nat} (ha:a % 2=1) (hb:b % 2=1):a*b % 2=1:=by rw [Nat.mul_mod,ha,hb]
end Go.Pv
end
section
/-The lowest set bit of a word,and how many noughts lie below it. No program in it. -/
namespace Go.Pv
theorem W1b : ∀(k a b:Nat),a+b+1=2^k→a&&&b=0
 | 0,a,b,h=>by
  have:a=0:=by simp at h;omega
  subst this;exact Nat.zero_and b
 | k+1,a,b,h=>by
  have h2:a+b+1=2*2^k:=by rw [h,Nat.pow_succ,Nat.mul_comm]
  have ih:=W1b k (a/2) (b/2) (by omega)
  have hd:(a&&&b)/2=a/2&&&b/2:=Nat.and_div_two
  have hm:(a&&&b) % 2≠1:=fun e=>by have:=Nat.and_mod_two_eq_one.1 e;omega
  omega
theorem w1u : ∀(n x:Nat),0<x→x<2^n→x&&&(2^n-x)=2^tz x
 | 0,x,h,hl=>by simp at hl;omega
 | n+1,x,h,hl=>by
  have hp:2^(n+1)=2*2^n:=by rw [Nat.pow_succ,Nat.mul_comm]
  have hd:(x&&&(2^(n+1)-x))/2=x/2&&&(2^(n+1)-x)/2:=Nat.and_div_two
  rcases Nat.mod_two_eq_zero_or_one x with e | e
  · have ih:=w1u n (x/2) (by omega) (by omega)
    have h3:(2^(n+1)-x)/2=2^n-x/2:=by omega
    have hm:(x&&&(2^(n+1)-x)) % 2≠1:=fun e'=>by have:=Nat.and_mod_two_eq_one.1 e';omega
    rw [h3,ih] at hd
    have hps:2^(tz (x/2)+1)=2^tz (x/2)*2:=Nat.pow_succ ..
    rw [W1h (by omega) e]
    omega
  · have h4:=W1b n (x/2) ((2^(n+1)-x)/2) (by omega)
    have hm:(x&&&(2^(n+1)-x)) % 2=1:=Nat.and_mod_two_eq_one.2 ⟨e,by omega⟩
    rw [h4] at hd
    rw [U1z e,Nat.pow_zero];omega
theorem K2y (x:Nat) (h:0<x) (hl:x<18446744073709551616):x&&&(18446744073709551616-x)=2^tz x:=w1u 64 x h hl
theorem Q1p (x:Nat) (h:0<x) (hl:x<18446744073709551616):tz x<64:=by
 have h1:=x0j x (by omega)
 have h2:=V1y x hl
 omega
theorem w2j (w r:Nat) (h:0<w) (hl:w<18446744073709551616):tz (w+18446744073709551616*r)=tz w:=by
 obtain⟨q,hq,hw⟩:=z0h w (by omega)
 have ht:=Q1p w h hl
 have e:w+18446744073709551616*r=2^tz w*(q+2^(64-tz w)*r):=by
  rw [Nat.mul_add,←hw,←Nat.mul_assoc,←Nat.pow_add,show tz w+(64-tz w)=64 from by omega]
 have h2:2^(64-tz w)*r % 2=0:=by
  obtain⟨k,hk⟩: ∃k,64-tz w=k+1:=⟨63-tz w,by omega⟩
  rw [hk,Nat.pow_succ,Nat.mul_assoc,Nat.mul_left_comm];exact Nat.mul_mod_right _ _
 rw [e,G1a _ _ (by omega)]
theorem J0q (l:List UInt64) (i:Nat) (h:i≤l.length):valW l=valW (l.take i)+18446744073709551616^i*valW (l.drop i):=by
 conv=>lhs;rw [←List.take_append_drop i l]
 rw [J0u,List.length_take,Nat.min_eq_left h]
theorem X1m (l:List UInt64) (i:Nat) (h:i<l.length):valW (l.drop i)=(l.getD i 0).toNat+18446744073709551616*valW (l.drop (i+1)):=by
 rw [List.drop_eq_getElem_cons h]
 simp only [valW,nW,List.map_cons,val]
 rw [List.getD_eq_getElem?_getD,List.getElem?_eq_getElem h];rfl
theorem Y0w (l:List UInt64) (i:Nat) (h:l.length≤i):valW (l.drop i)=0:=by
 rw [List.drop_eq_nil_of_le h];rfl
theorem W0r (l:List UInt64) (i:Nat):valW (l.drop i)=(l.getD i 0).toNat+18446744073709551616*valW (l.drop (i+1)):=by
 by_cases h:i<l.length
 · exact X1m l i h
 · rw [Y0w _ _ (by omega),Y0w _ _ (by omega),y1l _ _ _ (by omega)];rfl
theorem z0b (l:List UInt64) (i:Nat) (h:i≤l.length):valW l/18446744073709551616^i=valW (l.drop i):=by
 have hl:=Z0r (l.take i)
 rw [List.length_take,Nat.min_eq_left h] at hl
 rw [J0q l i h,Nat.add_mul_div_left _ _ (Nat.pow_pos (by decide)),Nat.div_eq_of_lt hl,Nat.zero_add]
theorem X2f (l:List UInt64) (i:Nat) (hi:i<l.length) (hz:valW (l.take i)=0) (hn:(l.getD i 0).toNat≠0):tz (valW l)=64*i+tz (l.getD i 0).toNat:=by
 rw [J0q l i (by omega),hz,Nat.zero_add,X1m l i hi,Nat.mul_comm,z0q,X2g _ _ (by omega),w2j _ _ (by omega) (UInt64.toNat_lt _)]
 omega
theorem v0u (w0 w1 r s:Nat) (h0:w0<18446744073709551616) (hs:s<64):(w0+18446744073709551616*(w1+18446744073709551616*r))/2^s % 18446744073709551616=w0/2^s+w1*2^(64-s) % 18446744073709551616:=by
 have e:(18446744073709551616:Nat)=2^s*2^(64-s):=by rw [←Nat.pow_add,show s+(64-s)=64 from by omega]
 have h1:(w0+18446744073709551616*(w1+18446744073709551616*r))/2^s=w0/2^s+2^(64-s)*(w1+18446744073709551616*r):=by
  conv=>lhs;rw [show 18446744073709551616*(w1+18446744073709551616*r)=2^s*(2^(64-s)*(w1+18446744073709551616*r)) from by rw [←Nat.mul_assoc,←e]]
  rw [Nat.add_mul_div_left _ _ (Nat.two_pow_pos s)]
 have h2:w0/2^s<2^(64-s):=Nat.div_lt_of_lt_mul (by rw [←e];exact h0)
 have h3:w1*2^(64-s) % 18446744073709551616=2^(64-s)*(w1 % 2^s):=by
  conv=>lhs;rw [Nat.mul_comm,e,Nat.mul_comm (2^s),Nat.mul_mod_mul_left]
 have h4:2^(64-s)*(w1 % 2^s)+2^(64-s)≤18446744073709551616:=by
  have h5:w1 % 2^s+1≤2^s:=Nat.mod_lt _ (Nat.two_pow_pos s)
  have:=Nat.mul_le_mul_left (2^(64-s)) h5
  rw [Nat.mul_add,Nat.mul_one] at this
  rw [Nat.mul_comm (2^(64-s)) (2^s),←e] at this
  exact this
 rw [h1,h3]
 have h6:w0/2^s+2^(64-s)*(w1+18446744073709551616*r)=(w0/2^s+2^(64-s)*(w1 % 2^s))+18446744073709551616*(w1/2^s+2^(64-s)*r):=by
  have h7:=Nat.div_add_mod w1 (2^s)
  have h8:2^(64-s)*w1=2^(64-s)*(2^s*(w1/2^s))+2^(64-s)*(w1 % 2^s):=by rw [←Nat.mul_add,h7]
  rw [←Nat.mul_assoc,Nat.mul_comm (2^(64-s)) (2^s),←e] at h8
  rw [Nat.mul_add,Nat.mul_add,h8,Nat.mul_left_comm]
  omega
 rw [h6,Nat.add_mul_mod_self_left,Nat.mod_eq_of_lt (by omega)]
theorem W2o (w0 w1 s:Nat) (h0:w0<18446744073709551616) (hs:s<64):(w0/2^s)|||(w1*2^(64-s) % 18446744073709551616)=w0/2^s+w1*2^(64-s) % 18446744073709551616:=by
 refine v1n _ _ (64-s) (Nat.div_lt_of_lt_mul ?_) (v0b _ _ (by omega))
 rw [←Nat.pow_add,show s+(64-s)=64 from by omega];exact h0
end Go.Pv
end
section
/-Values as rational numbers. No program in it. -/
namespace Go.Pv
def p2 (e:Int):Rat:=(2:Rat)^e
theorem U2l (e:Int):0<p2 e:=Rat.zpow_pos (by decide)
theorem U2m (a b:Int):p2 (a+b)=p2 a*p2 b:=Rat.zpow_add (by decide) a b
theorem v1i :p2 0=1:=Rat.zpow_zero 2
theorem y2h (k:Nat):(((2:Int)^k:Int):Rat)=p2 k:=by
 unfold p2;rw [Rat.zpow_natCast]
 induction k with
 | zero=>rfl
 | succ k ih=>rw [Int.pow_succ,Rat.intCast_mul,ih,Rat.pow_succ];rfl
def qM (s e:Int):Rat:=(s:Rat)*p2 e
def qV (v:Vl):Rat:=qM (J0g v) v.e
def qN (x:Nm):Rat:=qM (mant x) x.exp
theorem Y0t (s:Int) (k:Nat) (e:Int):qM (s*2^k) e=qM s (e+k):=by
 unfold qM;rw [Rat.intCast_mul,y2h,U2m];grind
theorem G1w (s t e:Int):qM (s+t) e=qM s e+qM t e:=by unfold qM;rw [Rat.intCast_add];grind
theorem v1d (s t e f:Int):qM (s*t) (e+f)=qM s e*qM t f:=by unfold qM;rw [Rat.intCast_mul,U2m];grind
theorem J0f (e:Int):qM 0 e=0:=by unfold qM;rw [Rat.intCast_zero];grind
theorem x0n (s e:Int):qM (-s) e= -qM s e:=by unfold qM;rw [Rat.intCast_neg];grind
theorem qM_le {s t e:Int} :qM s e≤qM t e↔s≤t:=by
 unfold qM
 constructor
 · intro h
   exact Rat.intCast_le_intCast.1 (Rat.le_of_mul_le_mul_right h (U2l e))
 · intro h
   exact Rat.mul_le_mul_of_nonneg_right (Rat.intCast_le_intCast.2 h) (Rat.le_of_lt (U2l e))
theorem qM_lt {s t e:Int} :qM s e<qM t e↔s<t:=by
 rw [←Rat.not_le,qM_le];omega
theorem G3c {s t e:Int} :qM s e=qM t e↔s=t:=by
 constructor
 · intro h
   have h1:=(qM_le (s:=s) (t:=t) (e:=e)).1 (by rw [h];exact Rat.le_refl)
   have h2:=(qM_le (s:=t) (t:=s) (e:=e)).1 (by rw [h];exact Rat.le_refl)
   omega
 · rintro rfl;rfl
theorem W1y (s e g:Int) (h:g≤e):qM s e=qM (s*2^(e-g).toNat) g:=by
 rw [Y0t];congr 1;omega
theorem q2d (s e:Int):qV (mkV s e)=qM s e:=by
 by_cases h:s=0
 · subst h
   rw [H1k,J0f]
   exact J0f 0
 · obtain⟨k,k1,k2,k3⟩:=w1h s e h
   unfold qV
   rw [k2,←Y0t,k1]
theorem q0h (neg:Bool) (m:Nat) (e:Int):qV (oddV neg m e)=qM (if neg then -(m:Int) else(m:Int)) e:=by rw [Y1m,q2d]
theorem w2x (x:Nm):qV (ofX x)=qN x:=by rw [y2k,q2d];rfl
theorem X0l (x:Nm):qV (ofN x)=qN x:=rfl
theorem J1q {v:Vl} (h:v.m=0):qV v=0:=by unfold qV;rw [z0t h,J0f]
theorem z0p (a b:Vl):qV (k0r a b)=qV a+qV b:=by
 unfold k0r
 split
 · rename_i h;rw [J1q h];grind
 · split
   · rename_i h;rw [J1q h];grind
   · rw [q2d,G1w,←W1y _ _ _ (by omega),←W1y _ _ _ (by omega)];rfl
theorem W0k (v:Vl):qV (K0a v)= -qV v:=by
 unfold qV;rw [z0u,Q1r,x0n]
theorem G0z (a b:Vl):qV (G0m a b)=qV a-qV b:=by
 unfold G0m;rw [z0p,W0k];grind
theorem K2x {a b:Vl} (ha:a.m≠0) (hb:b.m≠0):J0g (byV a b)=J0g a*J0g b∧(byV a b).e=a.e+b.e:=by
 unfold byV
 rw [if_neg (by omega)]
 refine⟨?_,rfl⟩
 unfold J0g
 cases a.neg<;>cases b.neg<;>simp [Int.neg_mul,Int.mul_neg]
theorem w0n (a b:Vl):qV (byV a b)=qV a*qV b:=by
 by_cases ha:a.m=0
 · rw [J1q ha,J1q (by unfold byV;rw [if_pos (.inl ha)])];grind
 · by_cases hb:b.m=0
   · rw [J1q hb,J1q (by unfold byV;rw [if_pos (.inr hb)])];grind
   · obtain⟨h1,h2⟩:=K2x ha hb
     unfold qV
     rw [h1,h2,v1d]
theorem k1j (m:Int):sgn m≤0↔m≤0:=by unfold sgn;split<;>(try split)<;>omega
theorem U2d (m:Int):sgn m<0↔m<0:=by unfold sgn;split<;>(try split)<;>omega
theorem v1k (a b:Vl):G0r a b≤0↔qV a≤qV b:=by
 unfold G0r
 have h:=G0z a b
 rw [U0y,k1j]
 have h2:J0g (G0m a b)≤0↔qV (G0m a b)≤0:=by
  rw [←J0f (G0m a b).e];exact qM_le.symm
 rw [h2,h];grind
theorem J1w (a b:Vl):G0r a b<0↔qV a<qV b:=by
 unfold G0r
 have h:=G0z a b
 rw [U0y,U2d]
 have h2:J0g (G0m a b)<0↔qV (G0m a b)<0:=by
  rw [←J0f (G0m a b).e];exact qM_lt.symm
 rw [h2,h];grind
theorem cmpN_le {a b:Nm} :cmpN a b≤0↔qN a≤qN b:=by rw [←y0d,v1k];rfl
theorem cmpN_lt {a b:Nm} :cmpN a b<0↔qN a<qN b:=by rw [←y0d,J1w];rfl
theorem cmpN_gt {a b:Nm} :0<cmpN a b↔qN b<qN a:=by
 have:=cmpN_le (a:=a) (b:=b)
 rw [←Rat.not_le,←this];omega
theorem G1h (a:Vl):G0j a<0↔qV a<0:=by
 rw [U0y,U2d,←J0f a.e];exact qM_lt.symm
theorem X2w (a:Vl):G0j a≤0↔qV a≤0:=by
 rw [U0y,k1j,←J0f a.e];exact qM_le.symm
def canV (v:Vl):Prop:=v.m % 2=1∨v=⟨false,0,0⟩
theorem j0m (neg:Bool) (m:Nat) (e:Int):canV (oddV neg m e):=by
 unfold oddV canV
 split
 · exact .inr rfl
 · exact .inl (W0s m (by assumption))
theorem j2p (s e:Int):canV (mkV s e):=j0m _ _ _
theorem q1a (x:Nm):canV (ofX x):=j0m _ _ _
theorem K0d {x:Nm} (h:Q0i x=true):canV (ofN x):=by rw [←q2v h];exact q1a x
theorem z0d {a b:Vl} (ha:canV a) (hb:canV b):canV (k0r a b):=by
 unfold k0r
 split
 · exact hb
 · split
   · exact ha
   · exact j2p _ _
theorem z0c {a:Vl} (ha:canV a):canV (K0a a):=by
 rcases ha with h | rfl
 · exact .inl (by rw [Q1q];exact h)
 · exact .inr rfl
theorem w0a {a b:Vl} (ha:canV a) (hb:canV b):canV (G0m a b):=z0d ha (z0c hb)
theorem Z2a {a b:Vl} (ha:canV a) (hb:canV b):canV (byV a b):=by
 rcases ha with h | rfl
 · rcases hb with k | rfl
   · exact .inl (by unfold byV;rw [if_neg (by omega)];exact q2x h k)
   · exact .inr (by unfold byV;rw [if_pos (.inr rfl)])
 · exact .inr (by unfold byV;rw [if_pos (.inl rfl)])
theorem J0n {v:Vl} (h:canV v) (p:Nat) (up:Bool):canV (Z0l v p up):=by
 unfold Z0l
 split
 · exact h
 · exact j0m _ _ _
theorem v0z {v:Vl} (h:canV v):okV v:=by
 rcases h with h | rfl
 · exact .inl h
 · exact .inr rfl
theorem V1s {v:Vl} (h:canV v):v=mkV (J0g v) v.e:=by
 rcases h with h | rfl
 · have:oddV v.neg v.m v.e=v:=by rw [j0h _ _ _ h]
   conv=>lhs;rw [←this]
   rw [Y1m];rfl
 · rw [show J0g ⟨false,0,0⟩=0 from rfl,H1k]
theorem y2p {s e t f:Int} (h:qM s e=qM t f):mkV s e=mkV t f:=by
 have h1:mkV s e=mkV (s*2^(e-min e f).toNat) (min e f):=by rw [w1g];congr 1;omega
 have h2:mkV t f=mkV (t*2^(f-min e f).toNat) (min e f):=by rw [w1g];congr 1;omega
 rw [W1y s e (min e f) (by omega),W1y t f (min e f) (by omega),G3c] at h
 rw [h1,h2,h]
theorem X1b {v w:Vl} (hv:canV v) (hw:canV w) (h:qV v=qV w):v=w:=by
 rw [V1s hv,V1s hw]
 exact y2p h
theorem k0z {x:Nm} {v:Vl} (hv:canV v) (h:qN x=qV v):ofX x=v:=X1b (q1a x) hv (by rw [w2x,h])
theorem z0l (neg:Bool) (m d:Nat) (c:Nat) (e:Int):qM (if neg then -((m/2^d+c:Nat):Int) else((m/2^d+c:Nat):Int)) (e+(d:Int))=qM (if neg then -(((m/2^d+c)*2^d:Nat):Int) else(((m/2^d+c)*2^d:Nat):Int)) e:=by
 rw [←Y0t]
 congr 1
 cases neg
 · simp
 · simp [Int.neg_mul]
theorem q0c (v:Vl) (p:Nat):qV (Z0l v p false)≤qV v:=by
 unfold Z0l
 split
 · exact Rat.le_refl
 · rw [q0h,z0l]
   unfold qV J0g
   rw [qM_le]
   generalize Q0g v.m-p=d
   have h1:=Nat.div_add_mod v.m (2^d)
   have h2:=Nat.mod_lt v.m (Nat.two_pow_pos d)
   rw [Nat.mul_comm] at h1
   rw [Nat.add_mul]
   cases v.neg
   · rw [if_neg (by simp),if_neg (by simp),if_neg (by simp),Nat.zero_mul];omega
   · rw [if_pos rfl,if_pos rfl]
     by_cases h3:v.m % 2^d=0
     · rw [if_neg (by simp [h3]),Nat.zero_mul];omega
     · rw [if_pos ⟨h3,by simp⟩,Nat.one_mul];omega
theorem K0x (v:Vl) (p:Nat):qV v≤qV (Z0l v p true):=by
 unfold Z0l
 split
 · exact Rat.le_refl
 · rw [q0h,z0l]
   unfold qV J0g
   rw [qM_le]
   generalize Q0g v.m-p=d
   have h1:=Nat.div_add_mod v.m (2^d)
   have h2:=Nat.mod_lt v.m (Nat.two_pow_pos d)
   rw [Nat.mul_comm] at h1
   rw [Nat.add_mul]
   cases v.neg
   · rw [if_neg (by simp),if_neg (by simp)]
     by_cases h3:v.m % 2^d=0
     · rw [if_neg (by simp [h3]),Nat.zero_mul];omega
     · rw [if_pos ⟨h3,by simp⟩,Nat.one_mul];omega
   · rw [if_pos rfl,if_pos rfl,if_neg (by simp),Nat.zero_mul];omega
theorem G0b {v:Vl} (hv:canV v) (h:(numV v).2=0):ofN (numV v).1=v∧qN (numV v).1=qV v:=by
 unfold numV at h⊢
 split
 · rename_i h0
   rcases hv with hv | rfl
   · omega
   · exact⟨rfl,rfl⟩
 · rename_i h0
   rw [if_neg h0] at h
   split
   · rename_i h1;rw [if_pos h1] at h;cases h
   · have e:ofN ⟨v.neg,v.e,Q0k v.m⟩=v:=by unfold ofN;rw [Q0t]
     exact⟨e,by rw [←X0l,e]⟩
theorem H1c {x:Nm} (h:Q0i x=true):numV (ofN x)=(x,0):=by
 unfold numV ofN
 simp only
 have h2:=h
 unfold Q0i at h2
 by_cases hw:x.w= []
 · rw [if_pos hw] at h2
   simp at h2
   rw [if_pos (by rw [hw];rfl)]
   congr 1
   obtain⟨n,e,w⟩:=x
   simp at hw h2
   obtain⟨rfl,rfl⟩:=h2
   subst hw;rfl
 · rw [if_neg hw] at h2
   simp only [Bool.and_eq_true,decide_eq_true_eq] at h2
   rw [if_neg (by have:=(X0h h);intro e;exact hw (this.1 e)),Q0o,z0m h,if_neg (by omega)]
end Go.Pv
end
section
/-What sums,differences and products of intervals come to. No program in it. -/
namespace Go.Pv
theorem J0v {a b:Rat} (ha:0≤a) (hb:0≤b):0≤a*b:=Rat.mul_nonneg ha hb
theorem j2h {x y u v X U:Rat} (h1:x≤X) (h2:X≤y) (h3:u≤U) (h4:U≤v) (hx:0≤x) (hu:0≤u):x*u≤X*U:=by
 have a1:=J0v (a:=X-x) (b:=u) (by grind) hu
 have a2:=J0v (a:=X) (b:=U-u) (by grind) (by grind)
 grind
theorem Q2r {x y u v X U:Rat} (h1:x≤X) (h2:X≤y) (h3:u≤U) (h4:U≤v) (hx:0≤X) (hu:u≤0):y*u≤X*U:=by
 have a1:=J0v (a:=y-X) (b:= -u) (by grind) (by grind)
 have a2:=J0v (a:=X) (b:=U-u) (by grind) (by grind)
 grind
theorem Q2q {x y u v X U:Rat} (h1:x≤X) (h2:X≤y) (h3:u≤U) (h4:U≤v) (hx:x≤0) (hu:0≤U):x*v≤X*U:=by
 have a1:=J0v (a:= -x) (b:=v-U) (by grind) (by grind)
 have a2:=J0v (a:=X-x) (b:=U) (by grind) (by grind)
 grind
theorem j2g {x y u v X U:Rat} (h1:x≤X) (h2:X≤y) (h3:u≤U) (h4:U≤v) (hx:y≤0) (hu:v≤0):y*v≤X*U:=by
 have a1:=J0v (a:=y-X) (b:= -v) (by grind) (by grind)
 have a2:=J0v (a:= -X) (b:=v-U) (by grind) (by grind)
 grind
theorem q2i {a b:Rat} (ha:a≤0) (hb:b≤0):0≤a*b:=by
 have:=J0v (a:= -a) (b:= -b) (by grind) (by grind)
 grind
theorem q2j {a b:Rat} (ha:0≤a) (hb:b≤0):a*b≤0:=by
 have:=J0v (a:=a) (b:= -b) ha (by grind)
 grind
theorem K2h {a b:Rat} (ha:a≤0) (hb:0≤b):a*b≤0:=by
 have:=J0v (a:= -a) (b:=b) (by grind) hb
 grind
def K0h (x y u v:Vl):Vl:=
 if 0≤G0j x∧0≤G0j u then byV x u else if 0≤G0j x then byV y u else if 0≤G0j u then byV x v else
 if G0j y≤0∧G0j v≤0 then byV y v else if G0r (byV y u) (byV x v)<0 then byV y u else byV x v
def U0f (x y u v:Vl):Vl:=K0a (K0h (K0a y) (K0a x) u v)
theorem X2x (a:Vl):0≤G0j a↔0≤qV a:=by
 have:=G1h a
 rw [←Rat.not_lt,←this];omega
theorem W0y {x y u v:Vl} (hx:qV x≤qV y) (hu:qV u≤qV v) {X U:Rat} (h1:qV x≤X) (h2:X≤qV y) (h3:qV u≤U) (h4:U≤qV v):qV (K0h x y u v)≤X*U:=by
 unfold K0h
 simp only [X2x,X2w,J1w,w0n]
 split
 · rename_i h;rw [w0n];exact j2h h1 h2 h3 h4 h.1 h.2
 · rename_i n1
   split
   · rename_i h;rw [w0n];exact Q2r h1 h2 h3 h4 (by grind) (by grind)
   · rename_i n2
     split
     · rename_i h;rw [w0n];exact Q2q h1 h2 h3 h4 (by grind) (by grind)
     · rename_i n3
       split
       · rename_i h;rw [w0n];exact j2g h1 h2 h3 h4 h.1 h.2
       · rename_i n4
         have key:qV y*qV u≤X*U∨qV x*qV v≤X*U:=by
          by_cases hX:0≤X
          · exact .inl (Q2r h1 h2 h3 h4 hX (by grind))
          · by_cases hU:0≤U
            · exact .inr (Q2q h1 h2 h3 h4 (by grind) hU)
            · have p:=q2i (a:=X) (b:=U) (by grind) (by grind)
              by_cases hy:0≤qV y
              · have:=q2j (a:=qV y) (b:=qV u) hy (by grind);exact .inl (by grind)
              · have:=K2h (a:=qV x) (b:=qV v) (by grind) (by grind);exact .inr (by grind)
         split
         · rename_i h;rw [w0n];grind
         · rename_i h;rw [w0n];grind
theorem z0v (x y u v:Vl):K0h x y u v=byV x u∨K0h x y u v=byV x v∨K0h x y u v=byV y u∨K0h x y u v=byV y v:=by
 unfold K0h
 repeat' split
 all_goals simp
theorem U0e {x y u v:Vl} (hx:qV x≤qV y) (hu:qV u≤qV v) {X U:Rat} (h1:qV x≤X) (h2:X≤qV y) (h3:qV u≤U) (h4:U≤qV v):X*U≤qV (U0f x y u v):=by
 unfold U0f
 have:=W0y (x:=K0a y) (y:=K0a x) (u:=u) (v:=v) (X:= -X) (U:=U) (by rw [W0k,W0k];grind) hu (by rw [W0k];grind) (by rw [W0k];grind) h3 h4
 rw [W0k];grind
theorem x1k (x y u v:Vl):qV (U0f x y u v)=qV x*qV u∨qV (U0f x y u v)=qV x*qV v∨qV (U0f x y u v)=qV y*qV u∨qV (U0f x y u v)=qV y*qV v:=by
 unfold U0f
 rw [W0k]
 rcases z0v (K0a y) (K0a x) u v with h | h | h | h
 all_goals rw [h,w0n,W0k];grind
theorem x0h {x y u v:Vl} (hx:canV x) (hy:canV y) (hu:canV u) (hv:canV v):canV (K0h x y u v):=by
 rcases z0v x y u v with h | h | h | h
 all_goals rw [h];exact Z2a (by assumption) (by assumption)
theorem Q1h {x y u v:Vl} (hx:canV x) (hy:canV y) (hu:canV u) (hv:canV v):canV (U0f x y u v):=z0c (x0h (z0c hy) (z0c hx) hu hv)
def exV (k:Nat) (a b:Vl):Vl:=if k=0 then k0r a b else if k=1 then G0m a b else byV a b
def exQ (k:Nat) (a b:Rat):Rat:=if k=0 then a+b else if k=1 then a-b else a*b
theorem exQ0 (a b:Rat):exQ 0 a b=a+b:=by simp [exQ]
theorem exQ1 (a b:Rat):exQ 1 a b=a-b:=by simp [exQ]
theorem exQ2 (a b:Rat):exQ 2 a b=a*b:=by simp [exQ]
theorem Z1d (k:Nat) (a b:Vl):qV (exV k a b)=exQ k (qV a) (qV b):=by
 unfold exV exQ
 split
 · exact z0p a b
 · split
   · exact G0z a b
   · exact w0n a b
theorem U1m (k:Nat) {a b:Vl} (ha:canV a) (hb:canV b):canV (exV k a b):=by
 unfold exV
 split
 · exact z0d ha hb
 · split
   · exact w0a ha hb
   · exact Z2a ha hb
def Z0b (p:Int):Bool:=decide (8≤p)&&decide (p≤256)
def Q0p (k:Nat) (a b:Nm) (p:Int) (up:Bool):Nm×Int:=if Q0i a=true∧Q0i b=true∧Z0b p=true then numV (Z0l (exV k (ofN a) (ofN b)) p.toNat up) else(default,1)
def w0s (lo hi:Vl):Ivl×Int:=if (numV lo).2=0∧(numV hi).2=0 then(⟨(numV lo).1,(numV hi).1⟩,0) else(default,2)
def loV (k:Nat) (x y u v:Vl):Vl:=if k=0 then k0r x u else if k=1 then G0m x v else K0h x y u v
def hiV (k:Nat) (x y u v:Vl):Vl:=if k=0 then k0r y v else if k=1 then G0m y u else U0f x y u v
def opI (k:Nat) (a b:Ivl) (p:Int):Ivl×Int:=
 if Q0v a=true∧Q0v b=true∧Z0b p=true then w0s (Z0l (loV k (ofN a.lo) (ofN a.hi) (ofN b.lo) (ofN b.hi)) p.toNat false) (Z0l (hiV k (ofN a.lo) (ofN a.hi) (ofN b.lo) (ofN b.hi)) p.toNat true) else(default,1)
theorem loV0 (x y u v:Vl):loV 0 x y u v=k0r x u:=by simp [loV]
theorem hiV0 (x y u v:Vl):hiV 0 x y u v=k0r y v:=by simp [hiV]
theorem loV1 (x y u v:Vl):loV 1 x y u v=G0m x v:=by simp [loV]
theorem hiV1 (x y u v:Vl):hiV 1 x y u v=G0m y u:=by simp [hiV]
theorem U2r (k:Nat) {x y u v:Vl} (hx:qV x≤qV y) (hu:qV u≤qV v) {X U:Rat} (h1:qV x≤X) (h2:X≤qV y) (h3:qV u≤U) (h4:U≤qV v):qV (loV k x y u v)≤exQ k X U:=by
 unfold loV exQ
 split
 · rw [z0p];grind
 · split
   · rw [G0z];grind
   · exact W0y hx hu h1 h2 h3 h4
theorem U2t (k:Nat) {x y u v:Vl} (hx:qV x≤qV y) (hu:qV u≤qV v) {X U:Rat} (h1:qV x≤X) (h2:X≤qV y) (h3:qV u≤U) (h4:U≤qV v):exQ k X U≤qV (hiV k x y u v):=by
 unfold hiV exQ
 split
 · rw [z0p];grind
 · split
   · rw [G0z];grind
   · exact U0e hx hu h1 h2 h3 h4
theorem X1a (k:Nat) {x y u v:Vl} (hx:canV x) (hy:canV y) (hu:canV u) (hv:canV v):canV (loV k x y u v):=by
 unfold loV
 split
 · exact z0d hx hu
 · split
   · exact w0a hx hv
   · exact x0h hx hy hu hv
theorem X1c (k:Nat) {x y u v:Vl} (hx:canV x) (hy:canV y) (hu:canV u) (hv:canV v):canV (hiV k x y u v):=by
 unfold hiV
 split
 · exact z0d hy hv
 · split
   · exact w0a hy hu
   · exact Q1h hx hy hu hv
theorem Y0x {x:Ivl} (h:Q0v x=true):qV (ofN x.lo)≤qV (ofN x.hi):=cmpN_le.1 (Z0a h).2.2
theorem U1c {lo hi:Vl} (h1:canV lo) (h2:canV hi) (h:qV lo≤qV hi):Q0v (w0s lo hi).1=true:=by
 unfold w0s
 split
 · rename_i hh
   exact k0h (V0p (v0z h1)) (V0p (v0z h2)) (cmpN_le.2 (by rw [(G0b h1 hh.1).2,(G0b h2 hh.2).2];exact h))
 · decide
theorem G3r (k:Nat) {a b:Ivl} (ha:Q0v a=true) (hb:Q0v b=true) (p:Nat):
 qV (Z0l (loV k (ofN a.lo) (ofN a.hi) (ofN b.lo) (ofN b.hi)) p false)≤qV (Z0l (hiV k (ofN a.lo) (ofN a.hi) (ofN b.lo) (ofN b.hi)) p true):=by
 have h1:=q0c (loV k (ofN a.lo) (ofN a.hi) (ofN b.lo) (ofN b.hi)) p
 have h2:=K0x (hiV k (ofN a.lo) (ofN a.hi) (ofN b.lo) (ofN b.hi)) p
 have h3:=U2r k (Y0x ha) (Y0x hb) Rat.le_refl (Y0x ha) Rat.le_refl (Y0x hb)
 have h4:=U2t k (Y0x ha) (Y0x hb) Rat.le_refl (Y0x ha) Rat.le_refl (Y0x hb)
 grind
theorem canI {x:Ivl} (h:Q0v x=true):canV (ofN x.lo)∧canV (ofN x.hi):=⟨K0d (Z0a h).1,K0d (Z0a h).2.1⟩
theorem U0b (k:Nat) (a b:Ivl) (p:Int):Q0v (opI k a b p).1=true:=by
 unfold opI
 split
 · rename_i h
   have ca:=canI h.1
   have cb:=canI h.2.1
   exact U1c (J0n (X1a k ca.1 ca.2 cb.1 cb.2) _ _) (J0n (X1c k ca.1 ca.2 cb.1 cb.2) _ _) (G3r k h.1 h.2.1 _)
 · decide
def memI (X:Rat) (a:Ivl):Prop:=qN a.lo≤X∧X≤qN a.hi
theorem Y1h (k:Nat) {a b:Ivl} {p:Int} (h:(opI k a b p).2=0) {X U:Rat} (hX:memI X a) (hU:memI U b):memI (exQ k X U) (opI k a b p).1:=by
 unfold opI at h⊢
 split
 · rename_i hr
   rw [if_pos hr] at h
   have ca:=canI hr.1
   have cb:=canI hr.2.1
   unfold w0s at h⊢
   split
   · rename_i hh
     have h1:=(G0b (J0n (X1a k ca.1 ca.2 cb.1 cb.2) _ _) hh.1).2
     have h2:=(G0b (J0n (X1c k ca.1 ca.2 cb.1 cb.2) _ _) hh.2).2
     have h3:=U2r k (Y0x hr.1) (Y0x hr.2.1) hX.1 hX.2 hU.1 hU.2
     have h4:=U2t k (Y0x hr.1) (Y0x hr.2.1) hX.1 hX.2 hU.1 hU.2
     have h5:=q0c (loV k (ofN a.lo) (ofN a.hi) (ofN b.lo) (ofN b.hi)) p.toNat
     have h6:=K0x (hiV k (ofN a.lo) (ofN a.hi) (ofN b.lo) (ofN b.hi)) p.toNat
     exact⟨by rw [h1];grind,by rw [h2];grind⟩
   · rename_i hh;rw [if_neg hh] at h;cases h
 · rename_i hr;rw [if_neg hr] at h;cases h
end Go.Pv
end
section
/-Exact sums and products of numbers in any form,and how long they get. No program in it. -/
namespace Go.Pv
def bd (n k:Nat) (x:Nm):Prop:=x.w.length≤n∧ -(k:Int)≤x.exp∧x.exp≤k
theorem bd.mono {n k n' k':Nat} {x:Nm} (h:bd n k x) (h1:n≤n') (h2:k≤k'):bd n' k' x:=⟨by have:=h.1;omega,by have:=h.2.1;omega,by have:=h.2.2;omega⟩
theorem Z0t {x:Nm} (h:Q0i x=true):bd 64 65536 x:=by
 unfold Q0i at h
 by_cases hw:x.w= []
 · rw [if_pos hw] at h
   simp at h
   exact⟨by rw [hw];simp,by rw [h.2];omega,by rw [h.2];omega⟩
 · rw [if_neg hw] at h
   simp only [Bool.and_eq_true,decide_eq_true_eq] at h
   exact⟨h.1.1.1.2,h.1.2,h.2⟩
theorem w2y (x:Nm):qN { x with neg:= !x.neg } = -qN x:=by
 unfold qN mant
 rw [←x0n]
 congr 1
 cases x.neg<;>simp
theorem J2m (neg:Bool) (e:Int) (m:Nat):qN ⟨neg,e,Q0k m⟩=qM (if neg then -(m:Int) else(m:Int)) e:=by
 unfold qN mant;rw [Q0t]
theorem q2e (b:Nm) (e:Int) (d:Nat) (h:b.exp=e+d):qN b=qM (if b.neg then -((valW b.w*2^d:Nat):Int) else((valW b.w*2^d:Nat):Int)) e:=by
 unfold qN
 rw [h,←Y0t]
 congr 1
 unfold mant
 cases b.neg
 · simp
 · simp [Int.neg_mul]
theorem x2h (a b:Nm) (d:Nat) (h:b.exp=a.exp+d) (hn:a.neg=b.neg):qN ⟨a.neg,a.exp,Q0k (valW a.w+valW b.w*2^d)⟩=qN a+qN b:=by
 rw [J2m,q2e b a.exp d h,show qN a=qM (mant a) a.exp from rfl,←G1w]
 congr 1
 unfold mant
 rw [←hn]
 cases a.neg<;>simp<;>omega
theorem W2e (a b:Nm) (d:Nat) (h:b.exp=a.exp+d) (hn:a.neg≠b.neg) (hle:valW b.w*2^d≤valW a.w):qN ⟨a.neg,a.exp,Q0k (valW a.w-valW b.w*2^d)⟩=qN a+qN b:=by
 rw [J2m,q2e b a.exp d h,show qN a=qM (mant a) a.exp from rfl,←G1w]
 congr 1
 unfold mant
 generalize valW b.w*2^d=x at*
 cases ha:a.neg<;>cases hb:b.neg<;>simp [ha,hb] at hn⊢ <;>omega
theorem W2d (a b:Nm) (d:Nat) (h:b.exp=a.exp+d) (hn:a.neg≠b.neg) (hle:valW a.w≤valW b.w*2^d):qN ⟨b.neg,a.exp,Q0k (valW b.w*2^d-valW a.w)⟩=qN a+qN b:=by
 rw [J2m,q2e b a.exp d h,show qN a=qM (mant a) a.exp from rfl,←G1w]
 congr 1
 unfold mant
 generalize valW b.w*2^d=x at*
 cases ha:a.neg<;>cases hb:b.neg<;>simp [ha,hb] at hn⊢ <;>omega
theorem X1z {x:Nm} (h:sgnN x=0):qN x=0:=by
 have:mant x=0:=by
  rw [z0k] at h
  unfold sgn at h
  split at h
  · assumption
  · split at h<;>omega
 unfold qN;rw [this,J0f]
theorem Q3n (a b:Nm) (n k d:Nat) (ha:bd n k a) (hb:bd n k b) (hd:d≤2*k):(Q0k (valW a.w+valW b.w*2^d)).length≤n+k+1:=by
 refine Z0h ?_
 have h1:=Z0r a.w
 have h2:=Z0r b.w
 have hp: ∀l:Nat,l≤n→18446744073709551616^l≤2^(64*n):=fun l hl=>by rw [z0q];exact Nat.pow_le_pow_right (by decide) (by omega)
 have h3:valW a.w<2^(64*n+d):=Nat.lt_of_lt_of_le h1 (Nat.le_trans (hp _ ha.1) (Nat.pow_le_pow_right (by decide) (by omega)))
 have h4:valW b.w*2^d<2^(64*n+d):=by
  rw [Nat.pow_add]
  exact Nat.mul_lt_mul_of_pos_right (Nat.lt_of_lt_of_le h2 (hp _ hb.1)) (Nat.two_pow_pos d)
 have h5:18446744073709551616^(n+k+1)=2^(64*(n+k+1)):=z0q _
 have h6:2^(64*n+d+1)≤2^(64*(n+k+1)):=Nat.pow_le_pow_right (by decide) (by omega)
 have h7:2^(64*n+d+1)=2^(64*n+d)*2:=Nat.pow_succ ..
 rw [h5]
 omega
theorem y1w (a b:Nm) (n k d m:Nat) (ha:bd n k a) (hb:bd n k b) (hd:d≤2*k) (hm:m≤valW a.w+valW b.w*2^d):(Q0k m).length≤n+k+1:=Nat.le_trans (J0x hm) (Q3n a b n k d ha hb hd)
theorem w2z (a b:Nm):qN ⟨a.neg !=b.neg,a.exp+b.exp,Q0k (valW a.w*valW b.w)⟩=qN a*qN b:=by
 rw [J2m]
 show _=qM (mant a) a.exp*qM (mant b) b.exp
 rw [←v1d]
 congr 1
 unfold mant
 cases a.neg<;>cases b.neg<;>simp [Int.neg_mul,Int.mul_neg]
theorem z2n (a b:Nm) (n k m l:Nat) (ha:bd n k a) (hb:bd m l b):bd (n+m) (k+l) ⟨a.neg !=b.neg,a.exp+b.exp,Q0k (valW a.w*valW b.w)⟩:=by
 refine⟨Z0h ?_,?_,?_⟩
 · have h1:=Z0r a.w
   have h2:=Z0r b.w
   refine Nat.lt_of_lt_of_le (Nat.mul_lt_mul'' h1 h2) ?_
   rw [←Nat.pow_add]
   exact Nat.pow_le_pow_right (by decide) (by have:=ha.1;have:=hb.1;omega)
 · have:=ha.2.1;have:=hb.2.1;simp only;omega
 · have:=ha.2.2;have:=hb.2.2;simp only;omega
end Go.Pv
end
section
/-The right number of words by a power of two,rounded or not. No program in it. -/
namespace Go.Pv
theorem Q1m (m:Nat) (h:m≠0):((Q0k m).getD 0 0).toNat % 2=m % 2:=by
 rw [←H0m,Q0t]
theorem J1f (neg:Bool) (m:Nat) (e:Int) (h:m % 2=1):Q0i ⟨neg,e,Q0k m⟩=(decide ((Q0k m).length≤64)&&decide (-65536≤e)&&decide (e≤65536)):=by
 have hw:Q0k m≠ []:=fun e=>by rw [wordsOf_nil] at e;omega
 have h1:((Q0k m).getD 0 0).toNat % 2=1:=by rw [Q1m m (by omega)];exact h
 unfold Q0i
 rw [if_neg hw,V0d]
 simp only [h1,decide_true,Bool.true_and,Bool.and_true]
def mkX (neg:Bool) (w:List UInt64) (e:Int):Nm×Int:=numV (oddV neg (valW w) e)
theorem K2o {neg:Bool} {w:List UInt64} {e:Int} (h:valW w=0):mkX neg w e=(default,0):=by
 unfold mkX;rw [h,V0s];rfl
theorem w1f {neg:Bool} {w:List UInt64} {e:Int} (h:valW w≠0) (h2:65536<e∨e< -65536-((tz (valW w):Nat):Int)):mkX neg w e=(default,2):=by
 unfold mkX oddV
 rw [if_neg h]
 have h1:valW w/2^tz (valW w)≠0:=by have:=W0s (valW w) h;omega
 unfold numV
 rw [if_neg h1,if_pos (by simp only;omega)]
theorem K2p {neg:Bool} {w:List UInt64} {e:Int} (h:valW w≠0):mkX neg w e=if Q0i ⟨neg,e+((tz (valW w):Nat):Int),Q0k (valW w/2^tz (valW w))⟩=true then(⟨neg,e+((tz (valW w):Nat):Int),Q0k (valW w/2^tz (valW w))⟩,0) else(default,2):=by
 have h0:=W0s (valW w) h
 rw [J1f _ _ _ h0]
 unfold mkX oddV
 rw [if_neg h]
 unfold numV
 rw [if_neg (by simp only;omega)]
 simp only
 by_cases hc:64<(Q0k (valW w/2^tz (valW w))).length∨e+((tz (valW w):Nat):Int)< -65536∨65536<e+((tz (valW w):Nat):Int)
 · rw [if_pos hc,if_neg]
   simp only [Bool.and_eq_true,decide_eq_true_eq];omega
 · rw [if_neg hc,if_pos]
   simp only [Bool.and_eq_true,decide_eq_true_eq];omega
theorem z2d (x:Nm):mkX x.neg x.w x.exp=numV (ofX x):=rfl
def rndX (x:Nm) (p:Nat) (up:Bool):Nm:=
 if Z0x x.w≤p then x else⟨x.neg,x.exp+((Z0x x.w-p:Nat):Int),Q0k (valW x.w/2^(Z0x x.w-p)+(if tz (valW x.w)<Z0x x.w-p∧up≠x.neg then 1 else 0))⟩
theorem J2e (x:Nm) (p:Nat) (up:Bool) (hp:0<p):ofX (rndX x p up)=Z0l (ofX x) p up:=by
 unfold rndX
 show _=Z0l (oddV x.neg (valW x.w) x.exp) p up
 rw [z1h _ _ _ _ _ hp]
 unfold Z0x
 split
 · rfl
 · unfold ofX
   rw [Q0t]
theorem H2y (x:Nm) (p:Nat) (up:Bool) (n k:Nat) (h:bd n k x):bd (n+1) (k+64*n) (rndX x p up):=by
 have hb:=V0k x.w
 have hl:=h.1
 unfold rndX
 split
 · exact h.mono (by omega) (by omega)
 · refine⟨?_,?_,?_⟩
   · refine Z0h ?_
     have h1:=Z0r x.w
     have h2:valW x.w/2^(Z0x x.w-p)≤valW x.w:=Nat.div_le_self _ _
     have h3:18446744073709551616^x.w.length≤18446744073709551616^n:=Nat.pow_le_pow_right (by decide) hl
     have h4:18446744073709551616^(n+1)=18446744073709551616^n*18446744073709551616:=Nat.pow_succ ..
     split<;>omega
   · have:=h.2.1;simp only;omega
   · have:=h.2.2;simp only;omega
end Go.Pv
end
section
/-Intervals:has,meet,middle,width. No program in it. -/
namespace Go.Pv
def hasI (a:Ivl) (x:Nm):Bool:=Q0v a&&Q0i x&&decide (cmpN a.lo x≤0)&&decide (cmpN x a.hi≤0)
def w1t (lo hi:Nm):Ivl×Int:=if Q0v ⟨lo,hi⟩=true then(⟨lo,hi⟩,0) else(default,1)
theorem J1g {x y:Nm} (hx:Q0i x=true) (hy:Q0i y=true) (h:qN x=qN y):x=y:=by
 have h1:=X1b (K0d hx) (K0d hy) (by rw [X0l,X0l,h])
 have h2:=H1c hx
 rw [h1,H1c hy] at h2
 exact(congrArg Prod.fst h2).symm
theorem v1c (a b:Nm):qN (X0m a b)≤qN a∧qN (X0m a b)≤qN b∧(qN (X0m a b)=qN a∨qN (X0m a b)=qN b):=by
 have h1:=cmpN_le.1 (x1c a b)
 have h2:=cmpN_le.1 (x1b a b)
 refine⟨h1,h2,?_⟩
 unfold X0m
 split
 · exact .inr rfl
 · exact .inl rfl
theorem G1v (a b:Nm):qN a≤qN (X0j a b)∧qN b≤qN (X0j a b)∧(qN (X0j a b)=qN a∨qN (X0j a b)=qN b):=by
 have h1:=cmpN_le.1 (x1m a b)
 have h2:=cmpN_le.1 (x1l a b)
 refine⟨h1,h2,?_⟩
 unfold X0j
 split
 · exact .inr rfl
 · exact .inl rfl
theorem x1q {a b:Ivl} (ha:Q0v a=true) (hb:Q0v b=true) {p1 p2 p3 p4:Nm} (h1:qN p1=qN a.lo*qN b.lo) (h2:qN p2=qN a.lo*qN b.hi) (h3:qN p3=qN a.hi*qN b.lo) (h4:qN p4=qN a.hi*qN b.hi):
 ofX (X0m (X0m (X0m p1 p2) p3) p4)=loV 2 (ofN a.lo) (ofN a.hi) (ofN b.lo) (ofN b.hi):=by
 have ca:=canI ha
 have cb:=canI hb
 have la:=Y0x ha
 have lb:=Y0x hb
 show _=K0h (ofN a.lo) (ofN a.hi) (ofN b.lo) (ofN b.hi)
 refine k0z (x0h ca.1 ca.2 cb.1 cb.2) ?_
 have r1:=W0y la lb Rat.le_refl la Rat.le_refl lb
 have r2:=W0y la lb Rat.le_refl la lb Rat.le_refl
 have r3:=W0y la lb la Rat.le_refl Rat.le_refl lb
 have r4:=W0y la lb la Rat.le_refl lb Rat.le_refl
 have rr: ∀v w:Vl,K0h (ofN a.lo) (ofN a.hi) (ofN b.lo) (ofN b.hi)=byV v w→qV (K0h (ofN a.lo) (ofN a.hi) (ofN b.lo) (ofN b.hi))=qV v*qV w:=fun v w e=>by rw [e,w0n]
 have r5:qV (K0h (ofN a.lo) (ofN a.hi) (ofN b.lo) (ofN b.hi))=qV (ofN a.lo)*qV (ofN b.lo)∨qV (K0h (ofN a.lo) (ofN a.hi) (ofN b.lo) (ofN b.hi))=qV (ofN a.lo)*qV (ofN b.hi)∨qV (K0h (ofN a.lo) (ofN a.hi) (ofN b.lo) (ofN b.hi))=qV (ofN a.hi)*qV (ofN b.lo)∨qV (K0h (ofN a.lo) (ofN a.hi) (ofN b.lo) (ofN b.hi))=qV (ofN a.hi)*qV (ofN b.hi):=by
  rcases z0v (ofN a.lo) (ofN a.hi) (ofN b.lo) (ofN b.hi) with e | e | e | e
  · exact .inl (rr _ _ e)
  · exact .inr (.inl (rr _ _ e))
  · exact .inr (.inr (.inl (rr _ _ e)))
  · exact .inr (.inr (.inr (rr _ _ e)))
 generalize qV (K0h (ofN a.lo) (ofN a.hi) (ofN b.lo) (ofN b.hi))=V at*
 simp only [X0l] at*
 rw [←h1] at r1 r5
 rw [←h2] at r2 r5
 rw [←h3] at r3 r5
 rw [←h4] at r4 r5
 obtain⟨s1,s2,s3⟩:=v1c p1 p2
 obtain⟨t1,t2,t3⟩:=v1c (X0m p1 p2) p3
 obtain⟨u1,u2,u3⟩:=v1c (X0m (X0m p1 p2) p3) p4
 clear h1 h2 h3 h4 la lb rr
 grind
theorem Z1t {a b:Ivl} (ha:Q0v a=true) (hb:Q0v b=true) {p1 p2 p3 p4:Nm} (h1:qN p1=qN a.lo*qN b.lo) (h2:qN p2=qN a.lo*qN b.hi) (h3:qN p3=qN a.hi*qN b.lo) (h4:qN p4=qN a.hi*qN b.hi):
 ofX (X0j (X0j (X0j p1 p2) p3) p4)=hiV 2 (ofN a.lo) (ofN a.hi) (ofN b.lo) (ofN b.hi):=by
 have ca:=canI ha
 have cb:=canI hb
 have la:=Y0x ha
 have lb:=Y0x hb
 show _=U0f (ofN a.lo) (ofN a.hi) (ofN b.lo) (ofN b.hi)
 refine k0z (Q1h ca.1 ca.2 cb.1 cb.2) ?_
 have r1:=U0e la lb Rat.le_refl la Rat.le_refl lb
 have r2:=U0e la lb Rat.le_refl la lb Rat.le_refl
 have r3:=U0e la lb la Rat.le_refl Rat.le_refl lb
 have r4:=U0e la lb la Rat.le_refl lb Rat.le_refl
 have r5:=x1k (ofN a.lo) (ofN a.hi) (ofN b.lo) (ofN b.hi)
 generalize qV (U0f (ofN a.lo) (ofN a.hi) (ofN b.lo) (ofN b.hi))=V at*
 simp only [X0l] at*
 rw [←h1] at r1 r5
 rw [←h2] at r2 r5
 rw [←h3] at r3 r5
 rw [←h4] at r4 r5
 obtain⟨s1,s2,s3⟩:=G1v p1 p2
 obtain⟨t1,t2,t3⟩:=G1v (X0j p1 p2) p3
 obtain⟨u1,u2,u3⟩:=G1v (X0j (X0j p1 p2) p3) p4
 clear h1 h2 h3 h4 la lb
 grind
end Go.Pv
end
section
/-What boxes are reckoned to. No program in it. -/
namespace Go.Pv
def opB (k:Nat) (a b:List Ivl) (p:Int):List Ivl×Int:=if rightB a=true∧rightB b=true∧a.length=b.length∧Z0b p=true then x1t (fun i x=>opI k x (b.getD i default) p) 0 a [] else([],1)
def G0n (x:Ivl) (b:List Ivl) (p:Int):List Ivl×Int:=if rightB b=true∧Q0v x=true∧Z0b p=true then x1t (fun _ y=>opI 2 x y p) 0 b [] else([],1)
def ofB (q:List Nm):List Ivl:=q.map fun x=>⟨x,x⟩
theorem Z0g (k:Nat) (a b:Nm) (p:Int) (up:Bool):Q0i (Q0p k a b p up).1=true:=by
 unfold Q0p
 split
 · rename_i h
   exact V0p (v0z (J0n (U1m k (K0d h.1) (K0d h.2.1)) _ _))
 · exact K0s
theorem v1w (v:Vl):(numV v).2=0∨(numV v).2=2:=by
 unfold numV
 split
 · exact .inl rfl
 · split
   · exact .inr rfl
   · exact .inl rfl
theorem j0e {k:Nat} {a b:Nm} {p:Int} {up:Bool} (ha:Q0i a=true) (hb:Q0i b=true) (hp:Z0b p=true):(Q0p k a b p up).2=0∨(Q0p k a b p up).2=2:=by
 rw [Q0p,if_pos ⟨ha,hb,hp⟩];exact v1w _
end Go.Pv
end
