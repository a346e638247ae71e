/- Parts of the walk: M23, M24, M25, M26, M27, M28, M29, M30, M31, M32, M33. -/
import Derived.Test.YtagacielooaapaaGreatDoorZL
set_option linter.unusedVariables false
set_option linter.unusedSimpArgs false
section
/-Exact values and their rounding:what numbers that are not in one form stand for. No program in it. -/
namespace Go.Pv
def ofX (x:Nm):Vl:=oddV x.neg (valW x.w) x.exp
def Q0w (v:Vl) (p:Nat) (up:Bool):Vl:=
 if Q0g v.m≤p then v else
  oddV v.neg (v.m/2^(Q0g v.m-p)+(if v.m % 2^(Q0g v.m-p)≠0∧up≠v.neg then 1 else 0)) (v.e+((Q0g v.m-p:Nat):Int))
theorem U0j (neg:Bool) (e:Int):oddV neg 0 e=⟨false,0,0⟩:=by rw [oddV,if_pos rfl]
theorem U1b (neg:Bool) (m k:Nat) (e:Int):oddV neg (m*2^k) e=oddV neg m (e+k):=by
 by_cases h:m=0
 · subst h;rw [Nat.zero_mul,U0j,U0j]
 · have hp:m*2^k≠0:=Nat.mul_ne_zero h (Nat.ne_of_gt (Nat.two_pow_pos k))
   obtain⟨q,hq,hm⟩:=w0o m h
   have hmk:m*2^k=2^(tz m+k)*q:=by
    conv=>lhs;rw [hm]
    rw [Nat.pow_add,Nat.mul_right_comm]
   have ht:tz (m*2^k)=tz m+k:=by rw [hmk,G1m _ _ hq]
   unfold oddV
   rw [if_neg h,if_neg hp,ht]
   have e1:m*2^k/2^(tz m+k)=m/2^tz m:=by
    rw [hmk,Nat.mul_div_cancel_left _ (Nat.two_pow_pos _)]
    conv=>rhs;rw [hm]
    rw [G1m _ _ hq,Nat.mul_div_cancel_left _ (Nat.two_pow_pos _)]
   rw [e1]
   congr 1
   omega
theorem Z1d (neg:Bool) (m:Nat) (e:Int) (h:m % 2=1):oddV neg m e=⟨neg,m,e⟩:=by
 rw [oddV,if_neg (by omega),w1g h];simp
theorem k2d (z D q:Nat) (h:D≤z):2^z*q/2^D=q*2^(z-D):=by
 obtain⟨k,rfl⟩: ∃k,z=D+k:=⟨z-D,by omega⟩
 rw [Nat.add_sub_cancel_left,Nat.pow_add,Nat.mul_assoc,Nat.mul_div_cancel_left _ (Nat.two_pow_pos _),Nat.mul_comm]
theorem V3j {x:Nm} (h:Q0i x=true):ofX x=ofN x:=by
 rcases U2g h with h1 | h1
 · exact Z1d _ _ _ h1
 · have h0:valW x.w=0:=h1
   have hw:x.w= []:=by
    refine Classical.byContradiction fun hw=> ?_
    have h2:=h
    unfold Q0i at h2
    rw [if_neg hw] at h2
    simp only [Bool.and_eq_true,decide_eq_true_eq] at h2
    have h3:=k0q x.w
    omega
   have h2:=h
   unfold Q0i at h2
   rw [if_pos hw] at h2
   simp at h2
   unfold ofX ofN
   rw [h0,U0j,h2.1,h2.2]
theorem X2s (neg:Bool) (m:Nat) (e:Int) (p:Nat) (up:Bool) (hp:0<p):Q0w (oddV neg m e) p up=
 if Q0g m≤p then oddV neg m e else oddV neg (m/2^(Q0g m-p)+(if tz m<Q0g m-p∧up≠neg then 1 else 0)) (e+((Q0g m-p:Nat):Int)):=by
 by_cases h0:m=0
 · subst h0
   rw [if_pos (by rw [X0i];omega),U0j,Q0w,if_pos (by show Q0g 0≤p;rw [X0i];omega)]
 obtain⟨q,hq,hm⟩:=w0o m h0
 have hq0:q≠0:=by omega
 have e1:oddV neg m e=⟨neg,q,e+tz m⟩:=by
  have:oddV neg (q*2^tz m) e=oddV neg q (e+tz m):=U1b neg q (tz m) e
  rw [Nat.mul_comm,←hm] at this
  rw [this,Z1d _ _ _ hq]
 have hb:Q0g m=Q0g q+tz m:=by
  have:=V0f q (tz m) hq0
  rw [Nat.mul_comm,←hm] at this
  exact this
 rw [e1]
 unfold Q0w
 simp only
 by_cases h1:Q0g q≤p
 · rw [if_pos h1]
   by_cases h2:Q0g m≤p
   · rw [if_pos h2]
   · rw [if_neg h2,if_neg (by omega),Nat.add_zero]
     have hdiv:m/2^(Q0g m-p)=q*2^(tz m-(Q0g m-p)):=by
      have h:=k2d (tz m) (Q0g m-p) q (by omega)
      rw [←hm] at h;exact h
     rw [hdiv,U1b,Z1d _ _ _ hq]
     congr 1
     omega
 · rw [if_neg h1,if_neg (show¬Q0g m≤p by omega)]
   have hd:Q0g m-p=tz m+(Q0g q-p):=by omega
   have hdiv:m/2^(Q0g m-p)=q/2^(Q0g q-p):=by
    have h:=Nat.mul_div_cancel_left q (Nat.two_pow_pos (tz m))
    rw [←hm] at h
    rw [hd,Nat.pow_add,←Nat.div_div_eq_div_mul,h]
   have hodd:q % 2^(Q0g q-p)≠0:=by
    intro h
    have hdv:2∣q:=Nat.dvd_trans ⟨2^(Q0g q-p-1),by rw [←Nat.pow_succ'];congr 1;omega⟩ (Nat.dvd_of_mod_eq_zero h)
    omega
   rw [hdiv]
   have hc:(q % 2^(Q0g q-p)≠0∧up≠neg)↔(tz m<Q0g m-p∧up≠neg):=⟨fun h=>⟨by omega,h.2⟩,fun h=>⟨hodd,h.2⟩⟩
   by_cases hh:tz m<Q0g m-p∧up≠neg
   · rw [if_pos hh,if_pos (hc.2 hh)]
     congr 1
     omega
   · rw [if_neg hh,if_neg (fun h=>hh (hc.1 h))]
     congr 1
     omega
end Go.Pv
end
section
/-Exact sums and products,whatever form the numbers have. No program in it. -/
namespace Go.Pv
theorem k1k (neg:Bool) (m:Nat) (e:Int):oddV neg m e=mkV (if neg then -(m:Int) else(m:Int)) e:=by
 by_cases h:m=0
 · subst h
   rw [U0j]
   unfold mkV
   cases neg<;>simp [U0j]
 · unfold mkV
   cases neg
   · show oddV false m e=oddV (decide ((m:Int)<0)) (m:Int).natAbs e
     rw [decide_eq_false (by omega),Int.natAbs_natCast]
   · show oddV true m e=oddV (decide (-(m:Int)<0)) (-(m:Int)).natAbs e
     rw [decide_eq_true (by omega),Int.natAbs_neg,Int.natAbs_natCast]
theorem z3z (x:Nm):ofX x=mkV (mant x) x.exp:=by rw [ofX,k1k];rfl
theorem U2u (s:Int) (k:Nat) (e:Int):mkV (s*2^k) e=mkV s (e+k):=by
 unfold mkV
 have h1:(s*2^k).natAbs=s.natAbs*2^k:=by
  rw [Int.natAbs_mul,Int.natAbs_pow];rfl
 have h2:decide (s*2^k<0)=decide (s<0):=by
  have hp:=two_pow_pos k
  by_cases h:s<0
  · rw [decide_eq_true h,decide_eq_true (Int.mul_neg_of_neg_of_pos h hp)]
  · rw [decide_eq_false h,decide_eq_false (Int.not_lt.2 (Int.mul_nonneg (Int.not_lt.1 h) (Int.le_of_lt hp)))]
 rw [h1,h2,U1b]
theorem U2v (s e:Int) (h:s≠0): ∃k:Nat,Z0w (mkV s e)*2^k=s∧(mkV s e).e=e+k∧(mkV s e).m≠0:=by
 have h0:s.natAbs≠0:=by omega
 refine⟨tz s.natAbs,?_,?_,?_⟩
 · unfold mkV oddV Z0w
   rw [if_neg h0]
   simp only
   have h1:=Z2t s.natAbs
   by_cases hs:s<0
   · rw [decide_eq_true hs,if_pos rfl,Int.neg_mul]
     have:((s.natAbs/2^tz s.natAbs:Nat):Int)*2^tz s.natAbs=(s.natAbs:Int):=by
      rw [show((2:Int)^tz s.natAbs)=((2^tz s.natAbs:Nat):Int) from by simp,←Int.natCast_mul,h1]
     rw [this];omega
   · rw [decide_eq_false hs,if_neg (by simp)]
     have:((s.natAbs/2^tz s.natAbs:Nat):Int)*2^tz s.natAbs=(s.natAbs:Int):=by
      rw [show((2:Int)^tz s.natAbs)=((2^tz s.natAbs:Nat):Int) from by simp,←Int.natCast_mul,h1]
     rw [this];omega
 · unfold mkV oddV;rw [if_neg h0]
 · unfold mkV oddV
   rw [if_neg h0]
   have:=U0a s.natAbs h0
   simp only;omega
def byV (a b:Vl):Vl:=if a.m=0∨b.m=0 then⟨false,0,0⟩ else⟨a.neg !=b.neg,a.m*b.m,a.e+b.e⟩
theorem V3k {a b:Nat} (ha:a % 2=1) (hb:b % 2=1):a*b % 2=1:=by rw [Nat.mul_mod,ha,hb]
end Go.Pv
end
section
/-The lowest set bit of a word,and how many noughts lie below it. No program in it. -/
namespace Go.Pv
theorem x1p : ∀(k a b:Nat),a+b+1=2^k→a&&&b=0
 | 0,a,b,h=>by
  have:a=0:=by simp at h;omega
  subst this;exact Nat.zero_and b
 | k+1,a,b,h=>by
  have h2:a+b+1=2*2^k:=by rw [h,Nat.pow_succ,Nat.mul_comm]
  have ih:=x1p k (a/2) (b/2) (by omega)
  have hd:(a&&&b)/2=a/2&&&b/2:=Nat.and_div_two
  have hm:(a&&&b) % 2≠1:=fun e=>by have:=Nat.and_mod_two_eq_one.1 e;omega
  omega
theorem G2c : ∀(n x:Nat),0<x→x<2^n→x&&&(2^n-x)=2^tz x
 | 0,x,h,hl=>by simp at hl;omega
 | n+1,x,h,hl=>by
  have hp:2^(n+1)=2*2^n:=by rw [Nat.pow_succ,Nat.mul_comm]
  have hd:(x&&&(2^(n+1)-x))/2=x/2&&&(2^(n+1)-x)/2:=Nat.and_div_two
  rcases Nat.mod_two_eq_zero_or_one x with e | e
  · have ih:=G2c n (x/2) (by omega) (by omega)
    have h3:(2^(n+1)-x)/2=2^n-x/2:=by omega
    have hm:(x&&&(2^(n+1)-x)) % 2≠1:=fun e'=>by have:=Nat.and_mod_two_eq_one.1 e';omega
    rw [h3,ih] at hd
    have hps:2^(tz (x/2)+1)=2^tz (x/2)*2:=Nat.pow_succ ..
    rw [x1z (by omega) e]
    omega
  · have h4:=x1p n (x/2) ((2^(n+1)-x)/2) (by omega)
    have hm:(x&&&(2^(n+1)-x)) % 2=1:=Nat.and_mod_two_eq_one.2 ⟨e,by omega⟩
    rw [h4] at hd
    rw [w1g e,Nat.pow_zero];omega
theorem v2n (x:Nat) (h:0<x) (hl:x<18446744073709551616):x&&&(18446744073709551616-x)=2^tz x:=G2c 64 x h hl
theorem Y1f (x:Nat) (h:0<x) (hl:x<18446744073709551616):tz x<64:=by
 have h1:=z0d x (by omega)
 have h2:=K1l x hl
 omega
theorem q3j (w r:Nat) (h:0<w) (hl:w<18446744073709551616):tz (w+18446744073709551616*r)=tz w:=by
 obtain⟨q,hq,hw⟩:=w0o w (by omega)
 have ht:=Y1f w h hl
 have e:w+18446744073709551616*r=2^tz w*(q+2^(64-tz w)*r):=by
  rw [Nat.mul_add,←hw,←Nat.mul_assoc,←Nat.pow_add,show tz w+(64-tz w)=64 from by omega]
 have h2:2^(64-tz w)*r % 2=0:=by
  obtain⟨k,hk⟩: ∃k,64-tz w=k+1:=⟨63-tz w,by omega⟩
  rw [hk,Nat.pow_succ,Nat.mul_assoc,Nat.mul_left_comm];exact Nat.mul_mod_right _ _
 rw [e,G1m _ _ (by omega)]
theorem j0c (l:List UInt64) (i:Nat) (h:i≤l.length):valW l=valW (l.take i)+18446744073709551616^i*valW (l.drop i):=by
 conv=>lhs;rw [←List.take_append_drop i l]
 rw [U0g,List.length_take,Nat.min_eq_left h]
theorem G1l (l:List UInt64) (i:Nat) (h:i<l.length):valW (l.drop i)=(l.getD i 0).toNat+18446744073709551616*valW (l.drop (i+1)):=by
 rw [List.drop_eq_getElem_cons h]
 simp only [valW,nW,List.map_cons,val]
 rw [List.getD_eq_getElem?_getD,List.getElem?_eq_getElem h];rfl
theorem z0b (l:List UInt64) (i:Nat) (h:l.length≤i):valW (l.drop i)=0:=by
 rw [List.drop_eq_nil_of_le h];rfl
theorem x0g (l:List UInt64) (i:Nat):valW (l.drop i)=(l.getD i 0).toNat+18446744073709551616*valW (l.drop (i+1)):=by
 by_cases h:i<l.length
 · exact G1l l i h
 · rw [z0b _ _ (by omega),z0b _ _ (by omega),U0q _ _ _ (by omega)];rfl
theorem v0y (l:List UInt64) (i:Nat) (h:i≤l.length):valW l/18446744073709551616^i=valW (l.drop i):=by
 have hl:=J0o (l.take i)
 rw [List.length_take,Nat.min_eq_left h] at hl
 rw [j0c l i h,Nat.add_mul_div_left _ _ (Nat.pow_pos (by decide)),Nat.div_eq_of_lt hl,Nat.zero_add]
theorem x2n (l:List UInt64) (i:Nat) (hi:i<l.length) (hz:valW (l.take i)=0) (hn:(l.getD i 0).toNat≠0):tz (valW l)=64*i+tz (l.getD i 0).toNat:=by
 rw [j0c l i (by omega),hz,Nat.zero_add,G1l l i hi,Nat.mul_comm,v0j,x2o _ _ (by omega),q3j _ _ (by omega) (UInt64.toNat_lt _)]
 omega
theorem K1d (w0 w1 r s:Nat) (h0:w0<18446744073709551616) (hs:s<64):(w0+18446744073709551616*(w1+18446744073709551616*r))/2^s % 18446744073709551616=w0/2^s+w1*2^(64-s) % 18446744073709551616:=by
 have e:(18446744073709551616:Nat)=2^s*2^(64-s):=by rw [←Nat.pow_add,show s+(64-s)=64 from by omega]
 have h1:(w0+18446744073709551616*(w1+18446744073709551616*r))/2^s=w0/2^s+2^(64-s)*(w1+18446744073709551616*r):=by
  conv=>lhs;rw [show 18446744073709551616*(w1+18446744073709551616*r)=2^s*(2^(64-s)*(w1+18446744073709551616*r)) from by rw [←Nat.mul_assoc,←e]]
  rw [Nat.add_mul_div_left _ _ (Nat.two_pow_pos s)]
 have h2:w0/2^s<2^(64-s):=Nat.div_lt_of_lt_mul (by rw [←e];exact h0)
 have h3:w1*2^(64-s) % 18446744073709551616=2^(64-s)*(w1 % 2^s):=by
  conv=>lhs;rw [Nat.mul_comm,e,Nat.mul_comm (2^s),Nat.mul_mod_mul_left]
 have h4:2^(64-s)*(w1 % 2^s)+2^(64-s)≤18446744073709551616:=by
  have h5:w1 % 2^s+1≤2^s:=Nat.mod_lt _ (Nat.two_pow_pos s)
  have:=Nat.mul_le_mul_left (2^(64-s)) h5
  rw [Nat.mul_add,Nat.mul_one] at this
  rw [Nat.mul_comm (2^(64-s)) (2^s),←e] at this
  exact this
 rw [h1,h3]
 have h6:w0/2^s+2^(64-s)*(w1+18446744073709551616*r)=(w0/2^s+2^(64-s)*(w1 % 2^s))+18446744073709551616*(w1/2^s+2^(64-s)*r):=by
  have h7:=Nat.div_add_mod w1 (2^s)
  have h8:2^(64-s)*w1=2^(64-s)*(2^s*(w1/2^s))+2^(64-s)*(w1 % 2^s):=by rw [←Nat.mul_add,h7]
  rw [←Nat.mul_assoc,Nat.mul_comm (2^(64-s)) (2^s),←e] at h8
  rw [Nat.mul_add,Nat.mul_add,h8,Nat.mul_left_comm]
  omega
 rw [h6,Nat.add_mul_mod_self_left,Nat.mod_eq_of_lt (by omega)]
theorem y2e (w0 w1 s:Nat) (h0:w0<18446744073709551616) (hs:s<64):(w0/2^s)|||(w1*2^(64-s) % 18446744073709551616)=w0/2^s+w1*2^(64-s) % 18446744073709551616:=by
 refine V1x _ _ (64-s) (Nat.div_lt_of_lt_mul ?_) (j0t _ _ (by omega))
 rw [←Nat.pow_add,show s+(64-s)=64 from by omega];exact h0
end Go.Pv
end
section
/-Values as rational numbers. No program in it. -/
namespace Go.Pv
def p2 (e:Int):Rat:=(2:Rat)^e
theorem X1z (e:Int):0<p2 e:=Rat.zpow_pos (by decide)
theorem K4y (e:Int):p2 e≠0:=Rat.ne_of_gt (X1z e)
theorem j0g (a b:Int):p2 (a+b)=p2 a*p2 b:=Rat.zpow_add (by decide) a b
theorem Y1x :p2 0=1:=Rat.zpow_zero 2
theorem y1j (k:Nat):(((2:Int)^k:Int):Rat)=p2 k:=by
 unfold p2;rw [Rat.zpow_natCast]
 induction k with
 | zero=>rfl
 | succ k ih=>rw [Int.pow_succ,Rat.intCast_mul,ih,Rat.pow_succ];rfl
def qM (s e:Int):Rat:=(s:Rat)*p2 e
def qV (v:Vl):Rat:=qM (Z0w v) v.e
def qN (x:Nm):Rat:=qM (mant x) x.exp
theorem V0q (s:Int) (k:Nat) (e:Int):qM (s*2^k) e=qM s (e+k):=by
 unfold qM;rw [Rat.intCast_mul,y1j,j0g];grind
theorem H1m (s t e:Int):qM (s+t) e=qM s e+qM t e:=by unfold qM;rw [Rat.intCast_add];grind
theorem w1w (s t e f:Int):qM (s*t) (e+f)=qM s e*qM t f:=by unfold qM;rw [Rat.intCast_mul,j0g];grind
theorem J0s (e:Int):qM 0 e=0:=by unfold qM;rw [Rat.intCast_zero];grind
theorem v0h (s e:Int):qM (-s) e= -qM s e:=by unfold qM;rw [Rat.intCast_neg];grind
theorem qM_le {s t e:Int} :qM s e≤qM t e↔s≤t:=by
 unfold qM
 constructor
 · intro h
   exact Rat.intCast_le_intCast.1 (Rat.le_of_mul_le_mul_right h (X1z e))
 · intro h
   exact Rat.mul_le_mul_of_nonneg_right (Rat.intCast_le_intCast.2 h) (Rat.le_of_lt (X1z e))
theorem qM_lt {s t e:Int} :qM s e<qM t e↔s<t:=by
 rw [←Rat.not_le,qM_le];omega
theorem qM_eq {s t e:Int} :qM s e=qM t e↔s=t:=by
 constructor
 · intro h
   have h1:=(qM_le (s:=s) (t:=t) (e:=e)).1 (by rw [h];exact Rat.le_refl)
   have h2:=(qM_le (s:=t) (t:=s) (e:=e)).1 (by rw [h];exact Rat.le_refl)
   omega
 · rintro rfl;rfl
theorem j1q (s e g:Int) (h:g≤e):qM s e=qM (s*2^(e-g).toNat) g:=by
 rw [V0q];congr 1;omega
theorem j2r (s e:Int):qV (mkV s e)=qM s e:=by
 by_cases h:s=0
 · subst h
   rw [Q2c,J0s]
   exact J0s 0
 · obtain⟨k,k1,k2,k3⟩:=U2v s e h
   unfold qV
   rw [k2,←V0q,k1]
theorem z0g (neg:Bool) (m:Nat) (e:Int):qV (oddV neg m e)=qM (if neg then -(m:Int) else(m:Int)) e:=by rw [k1k,j2r]
theorem z3m (x:Nm):qV (ofX x)=qN x:=by rw [z3z,j2r];rfl
theorem Z0u (x:Nm):qV (ofN x)=qN x:=rfl
theorem v0g {v:Vl} (h:v.m=0):qV v=0:=by unfold qV;rw [y0f h,J0s]
theorem K0y (a b:Vl):qV (K0n a b)=qV a+qV b:=by
 unfold K0n
 split
 · rename_i h;rw [v0g h];grind
 · split
   · rename_i h;rw [v0g h];grind
   · rw [j2r,H1m,←j1q _ _ _ (by omega),←j1q _ _ _ (by omega)];rfl
theorem W0m (v:Vl):qV (K0i v)= -qV v:=by
 unfold qV;rw [y0g,Z1s,v0h]
theorem Y0f (a b:Vl):qV (H0k a b)=qV a-qV b:=by
 unfold H0k;rw [K0y,W0m];grind
theorem v2j {a b:Vl} (ha:a.m≠0) (hb:b.m≠0):Z0w (byV a b)=Z0w a*Z0w b∧(byV a b).e=a.e+b.e:=by
 unfold byV
 rw [if_neg (by omega)]
 refine⟨?_,rfl⟩
 unfold Z0w
 cases a.neg<;>cases b.neg<;>simp [Int.neg_mul,Int.mul_neg]
theorem H0g (a b:Vl):qV (byV a b)=qV a*qV b:=by
 by_cases ha:a.m=0
 · rw [v0g ha,v0g (by unfold byV;rw [if_pos (.inl ha)])];grind
 · by_cases hb:b.m=0
   · rw [v0g hb,v0g (by unfold byV;rw [if_pos (.inr hb)])];grind
   · obtain⟨h1,h2⟩:=v2j ha hb
     unfold qV
     rw [h1,h2,w1w]
theorem W2k (m:Int):sgn m≤0↔m≤0:=by unfold sgn;split<;>(try split)<;>omega
theorem Z3d (m:Int):sgn m<0↔m<0:=by unfold sgn;split<;>(try split)<;>omega
theorem v0k (a b:Vl):W0b a b≤0↔qV a≤qV b:=by
 unfold W0b
 have h:=Y0f a b
 rw [x0k,W2k]
 have h2:Z0w (H0k a b)≤0↔qV (H0k a b)≤0:=by
  rw [←J0s (H0k a b).e];exact qM_le.symm
 rw [h2,h];grind
theorem H1z (a b:Vl):W0b a b<0↔qV a<qV b:=by
 unfold W0b
 have h:=Y0f a b
 rw [x0k,Z3d]
 have h2:Z0w (H0k a b)<0↔qV (H0k a b)<0:=by
  rw [←J0s (H0k a b).e];exact qM_lt.symm
 rw [h2,h];grind
theorem cmpN_le {a b:Nm} :cmpN a b≤0↔qN a≤qN b:=by rw [←y0d,v0k];rfl
theorem cmpN_lt {a b:Nm} :cmpN a b<0↔qN a<qN b:=by rw [←y0d,H1z];rfl
theorem cmpN_ge {a b:Nm} :0≤cmpN a b↔qN b≤qN a:=by
 have:=cmpN_lt (a:=a) (b:=b)
 rw [←Rat.not_lt,←this];omega
theorem cmpN_gt {a b:Nm} :0<cmpN a b↔qN b<qN a:=by
 have:=cmpN_le (a:=a) (b:=b)
 rw [←Rat.not_le,←this];omega
theorem w1m (a:Vl):V0u a<0↔qV a<0:=by
 rw [x0k,Z3d,←J0s a.e];exact qM_lt.symm
theorem w1n (a:Vl):V0u a≤0↔qV a≤0:=by
 rw [x0k,W2k,←J0s a.e];exact qM_le.symm
def canV (v:Vl):Prop:=v.m % 2=1∨v=⟨false,0,0⟩
theorem Y0x (neg:Bool) (m:Nat) (e:Int):canV (oddV neg m e):=by
 unfold oddV canV
 split
 · exact .inr rfl
 · exact .inl (U0a m (by assumption))
theorem z2e (s e:Int):canV (mkV s e):=Y0x _ _ _
theorem Q2y (x:Nm):canV (ofX x):=Y0x _ _ _
theorem X0m {x:Nm} (h:Q0i x=true):canV (ofN x):=by rw [←V3j h];exact Q2y x
theorem Y0d {a b:Vl} (ha:canV a) (hb:canV b):canV (K0n a b):=by
 unfold K0n
 split
 · exact hb
 · split
   · exact ha
   · exact z2e _ _
theorem w0d {a:Vl} (ha:canV a):canV (K0i a):=by
 rcases ha with h | rfl
 · exact .inl (by rw [Z1r];exact h)
 · exact .inr rfl
theorem U0z {a b:Vl} (ha:canV a) (hb:canV b):canV (H0k a b):=Y0d ha (w0d hb)
theorem k0i {a b:Vl} (ha:canV a) (hb:canV b):canV (byV a b):=by
 rcases ha with h | rfl
 · rcases hb with k | rfl
   · exact .inl (by unfold byV;rw [if_neg (by omega)];exact V3k h k)
   · exact .inr (by unfold byV;rw [if_pos (.inr rfl)])
 · exact .inr (by unfold byV;rw [if_pos (.inl rfl)])
theorem Q0y {v:Vl} (h:canV v) (p:Nat) (up:Bool):canV (Q0w v p up):=by
 unfold Q0w
 split
 · exact h
 · exact Y0x _ _ _
theorem x0b {v:Vl} (h:canV v):okV v:=by
 rcases h with h | rfl
 · exact .inl h
 · exact .inr rfl
theorem x1h {v:Vl} (h:canV v):v=mkV (Z0w v) v.e:=by
 rcases h with h | rfl
 · have:oddV v.neg v.m v.e=v:=by rw [Z1d _ _ _ h]
   conv=>lhs;rw [←this]
   rw [k1k];rfl
 · rw [show Z0w ⟨false,0,0⟩=0 from rfl,Q2c]
theorem x3f {s e t f:Int} (h:qM s e=qM t f):mkV s e=mkV t f:=by
 have h1:mkV s e=mkV (s*2^(e-min e f).toNat) (min e f):=by rw [U2u];congr 1;omega
 have h2:mkV t f=mkV (t*2^(f-min e f).toNat) (min e f):=by rw [U2u];congr 1;omega
 rw [j1q s e (min e f) (by omega),j1q t f (min e f) (by omega),qM_eq] at h
 rw [h1,h2,h]
theorem Q2z {v w:Vl} (hv:canV v) (hw:canV w) (h:qV v=qV w):v=w:=by
 rw [x1h hv,x1h hw]
 exact x3f h
theorem y1u {x:Nm} {v:Vl} (hv:canV v) (h:qN x=qV v):ofX x=v:=Q2z (Q2y x) hv (by rw [z3m,h])
theorem x0m (neg:Bool) (m d:Nat) (c:Nat) (e:Int):qM (if neg then -((m/2^d+c:Nat):Int) else((m/2^d+c:Nat):Int)) (e+(d:Int))=qM (if neg then -(((m/2^d+c)*2^d:Nat):Int) else(((m/2^d+c)*2^d:Nat):Int)) e:=by
 rw [←V0q]
 congr 1
 cases neg
 · simp
 · simp [Int.neg_mul]
theorem V0x (v:Vl) (p:Nat):qV (Q0w v p false)≤qV v:=by
 unfold Q0w
 split
 · exact Rat.le_refl
 · rw [z0g,x0m]
   unfold qV Z0w
   rw [qM_le]
   generalize Q0g v.m-p=d
   have h1:=Nat.div_add_mod v.m (2^d)
   have h2:=Nat.mod_lt v.m (Nat.two_pow_pos d)
   rw [Nat.mul_comm] at h1
   rw [Nat.add_mul]
   cases v.neg
   · rw [if_neg (by simp),if_neg (by simp),if_neg (by simp),Nat.zero_mul];omega
   · rw [if_pos rfl,if_pos rfl]
     by_cases h3:v.m % 2^d=0
     · rw [if_neg (by simp [h3]),Nat.zero_mul];omega
     · rw [if_pos ⟨h3,by simp⟩,Nat.one_mul];omega
theorem W0w (v:Vl) (p:Nat):qV v≤qV (Q0w v p true):=by
 unfold Q0w
 split
 · exact Rat.le_refl
 · rw [z0g,x0m]
   unfold qV Z0w
   rw [qM_le]
   generalize Q0g v.m-p=d
   have h1:=Nat.div_add_mod v.m (2^d)
   have h2:=Nat.mod_lt v.m (Nat.two_pow_pos d)
   rw [Nat.mul_comm] at h1
   rw [Nat.add_mul]
   cases v.neg
   · rw [if_neg (by simp),if_neg (by simp)]
     by_cases h3:v.m % 2^d=0
     · rw [if_neg (by simp [h3]),Nat.zero_mul];omega
     · rw [if_pos ⟨h3,by simp⟩,Nat.one_mul];omega
   · rw [if_pos rfl,if_pos rfl,if_neg (by simp),Nat.zero_mul];omega
theorem J0g {v:Vl} (hv:canV v) (h:(numV v).2=0):ofN (numV v).1=v∧qN (numV v).1=qV v:=by
 unfold numV at h⊢
 split
 · rename_i h0
   rcases hv with hv | rfl
   · omega
   · exact⟨rfl,rfl⟩
 · rename_i h0
   rw [if_neg h0] at h
   split
   · rename_i h1;rw [if_pos h1] at h;cases h
   · have e:ofN ⟨v.neg,v.e,Q0m v.m⟩=v:=by unfold ofN;rw [Z0a]
     exact⟨e,by rw [←Z0u,e]⟩
theorem k2q {x:Nm} (h:Q0i x=true):numV (ofN x)=(x,0):=by
 unfold numV ofN
 simp only
 have h2:=h
 unfold Q0i at h2
 by_cases hw:x.w= []
 · rw [if_pos hw] at h2
   simp at h2
   rw [if_pos (by rw [hw];rfl)]
   congr 1
   obtain⟨n,e,w⟩:=x
   simp at hw h2
   obtain⟨rfl,rfl⟩:=h2
   subst hw;rfl
 · rw [if_neg hw] at h2
   simp only [Bool.and_eq_true,decide_eq_true_eq] at h2
   rw [if_neg (by have:=(Y0m h);intro e;exact hw (this.1 e)),Q0u,V1o h,if_neg (by omega)]
end Go.Pv
end
section
/-What sums,differences and products of intervals come to. No program in it. -/
namespace Go.Pv
theorem X0z {a b:Rat} (ha:0≤a) (hb:0≤b):0≤a*b:=Rat.mul_nonneg ha hb
theorem Y3z {x y u v X U:Rat} (h1:x≤X) (h2:X≤y) (h3:u≤U) (h4:U≤v) (hx:0≤x) (hu:0≤u):x*u≤X*U:=by
 have a1:=X0z (a:=X-x) (b:=u) (by grind) hu
 have a2:=X0z (a:=X) (b:=U-u) (by grind) (by grind)
 grind
theorem q2t {x y u v X U:Rat} (h1:x≤X) (h2:X≤y) (h3:u≤U) (h4:U≤v) (hx:0≤X) (hu:u≤0):y*u≤X*U:=by
 have a1:=X0z (a:=y-X) (b:= -u) (by grind) (by grind)
 have a2:=X0z (a:=X) (b:=U-u) (by grind) (by grind)
 grind
theorem q2s {x y u v X U:Rat} (h1:x≤X) (h2:X≤y) (h3:u≤U) (h4:U≤v) (hx:x≤0) (hu:0≤U):x*v≤X*U:=by
 have a1:=X0z (a:= -x) (b:=v-U) (by grind) (by grind)
 have a2:=X0z (a:=X-x) (b:=U) (by grind) (by grind)
 grind
theorem Y3y {x y u v X U:Rat} (h1:x≤X) (h2:X≤y) (h3:u≤U) (h4:U≤v) (hx:y≤0) (hu:v≤0):y*v≤X*U:=by
 have a1:=X0z (a:=y-X) (b:= -v) (by grind) (by grind)
 have a2:=X0z (a:= -X) (b:=v-U) (by grind) (by grind)
 grind
theorem K3z {a b:Rat} (ha:a≤0) (hb:b≤0):0≤a*b:=by
 have:=X0z (a:= -a) (b:= -b) (by grind) (by grind)
 grind
theorem V3a {a b:Rat} (ha:0≤a) (hb:b≤0):a*b≤0:=by
 have:=X0z (a:=a) (b:= -b) ha (by grind)
 grind
theorem k2x {a b:Rat} (ha:a≤0) (hb:0≤b):a*b≤0:=by
 have:=X0z (a:= -a) (b:=b) (by grind) hb
 grind
def W0c (x y u v:Vl):Vl:=
 if 0≤V0u x∧0≤V0u u then byV x u else if 0≤V0u x then byV y u else if 0≤V0u u then byV x v else
 if V0u y≤0∧V0u v≤0 then byV y v else if W0b (byV y u) (byV x v)<0 then byV y u else byV x v
def q0w (x y u v:Vl):Vl:=K0i (W0c (K0i y) (K0i x) u v)
theorem w1o (a:Vl):0≤V0u a↔0≤qV a:=by
 have:=w1m a
 rw [←Rat.not_lt,←this];omega
theorem H0m {x y u v:Vl} (hx:qV x≤qV y) (hu:qV u≤qV v) {X U:Rat} (h1:qV x≤X) (h2:X≤qV y) (h3:qV u≤U) (h4:U≤qV v):qV (W0c x y u v)≤X*U:=by
 unfold W0c
 simp only [w1o,w1n,H1z,H0g]
 split
 · rename_i h;rw [H0g];exact Y3z h1 h2 h3 h4 h.1 h.2
 · rename_i n1
   split
   · rename_i h;rw [H0g];exact q2t h1 h2 h3 h4 (by grind) (by grind)
   · rename_i n2
     split
     · rename_i h;rw [H0g];exact q2s h1 h2 h3 h4 (by grind) (by grind)
     · rename_i n3
       split
       · rename_i h;rw [H0g];exact Y3y h1 h2 h3 h4 h.1 h.2
       · rename_i n4
         have key:qV y*qV u≤X*U∨qV x*qV v≤X*U:=by
          by_cases hX:0≤X
          · exact .inl (q2t h1 h2 h3 h4 hX (by grind))
          · by_cases hU:0≤U
            · exact .inr (q2s h1 h2 h3 h4 (by grind) hU)
            · have p:=K3z (a:=X) (b:=U) (by grind) (by grind)
              by_cases hy:0≤qV y
              · have:=V3a (a:=qV y) (b:=qV u) hy (by grind);exact .inl (by grind)
              · have:=k2x (a:=qV x) (b:=qV v) (by grind) (by grind);exact .inr (by grind)
         split
         · rename_i h;rw [H0g];grind
         · rename_i h;rw [H0g];grind
theorem H0l (x y u v:Vl):W0c x y u v=byV x u∨W0c x y u v=byV x v∨W0c x y u v=byV y u∨W0c x y u v=byV y v:=by
 unfold W0c
 repeat' split
 all_goals simp
theorem z0r {x y u v:Vl} (hx:qV x≤qV y) (hu:qV u≤qV v) {X U:Rat} (h1:qV x≤X) (h2:X≤qV y) (h3:qV u≤U) (h4:U≤qV v):X*U≤qV (q0w x y u v):=by
 unfold q0w
 have:=H0m (x:=K0i y) (y:=K0i x) (u:=u) (v:=v) (X:= -X) (U:=U) (by rw [W0m,W0m];grind) hu (by rw [W0m];grind) (by rw [W0m];grind) h3 h4
 rw [W0m];grind
theorem y0i (x y u v:Vl):qV (q0w x y u v)=qV x*qV u∨qV (q0w x y u v)=qV x*qV v∨qV (q0w x y u v)=qV y*qV u∨qV (q0w x y u v)=qV y*qV v:=by
 unfold q0w
 rw [W0m]
 rcases H0l (K0i y) (K0i x) u v with h | h | h | h
 all_goals rw [h,H0g,W0m];grind
theorem y0w {x y u v:Vl} (hx:canV x) (hy:canV y) (hu:canV u) (hv:canV v):canV (W0c x y u v):=by
 rcases H0l x y u v with h | h | h | h
 all_goals rw [h];exact k0i (by assumption) (by assumption)
theorem W1w {x y u v:Vl} (hx:canV x) (hy:canV y) (hu:canV u) (hv:canV v):canV (q0w x y u v):=w0d (y0w (w0d hy) (w0d hx) hu hv)
def exV (k:Nat) (a b:Vl):Vl:=if k=0 then K0n a b else if k=1 then H0k a b else byV a b
def exQ (k:Nat) (a b:Rat):Rat:=if k=0 then a+b else if k=1 then a-b else a*b
theorem exQ0 (a b:Rat):exQ 0 a b=a+b:=by simp [exQ]
theorem exQ1 (a b:Rat):exQ 1 a b=a-b:=by simp [exQ]
theorem exQ2 (a b:Rat):exQ 2 a b=a*b:=by simp [exQ]
theorem j2s (k:Nat) (a b:Vl):qV (exV k a b)=exQ k (qV a) (qV b):=by
 unfold exV exQ
 split
 · exact K0y a b
 · split
   · exact Y0f a b
   · exact H0g a b
theorem y0y (k:Nat) {a b:Vl} (ha:canV a) (hb:canV b):canV (exV k a b):=by
 unfold exV
 split
 · exact Y0d ha hb
 · split
   · exact U0z ha hb
   · exact k0i ha hb
def Z0h (p:Int):Bool:=decide (8≤p)&&decide (p≤256)
def Y0q (k:Nat) (a b:Nm) (p:Int) (up:Bool):Nm×Int:=if Q0i a=true∧Q0i b=true∧Z0h p=true then numV (Q0w (exV k (ofN a) (ofN b)) p.toNat up) else(default,1)
def strN (k:Nat) (a b:Nm):Nm×Int:=if Q0i a=true∧Q0i b=true then numV (exV k (ofN a) (ofN b)) else(default,1)
def X0e (x:Nm) (k:Int):Nm×Int:=if Q0i x=true then(if x.w= [] then(x,0) else if k< -131072∨131072<k then(default,2) else numV ⟨x.neg,valW x.w,x.exp+k⟩) else(default,1)
def H0q (lo hi:Vl):Ivl×Int:=if (numV lo).2=0∧(numV hi).2=0 then(⟨(numV lo).1,(numV hi).1⟩,0) else(default,2)
def loV (k:Nat) (x y u v:Vl):Vl:=if k=0 then K0n x u else if k=1 then H0k x v else W0c x y u v
def hiV (k:Nat) (x y u v:Vl):Vl:=if k=0 then K0n y v else if k=1 then H0k y u else q0w x y u v
def opI (k:Nat) (a b:Ivl) (p:Int):Ivl×Int:=
 if Q0j a=true∧Q0j b=true∧Z0h p=true then H0q (Q0w (loV k (ofN a.lo) (ofN a.hi) (ofN b.lo) (ofN b.hi)) p.toNat false) (Q0w (hiV k (ofN a.lo) (ofN a.hi) (ofN b.lo) (ofN b.hi)) p.toNat true) else(default,1)
theorem loV0 (x y u v:Vl):loV 0 x y u v=K0n x u:=by simp [loV]
theorem hiV0 (x y u v:Vl):hiV 0 x y u v=K0n y v:=by simp [hiV]
theorem Z3t (k:Nat) {x y u v:Vl} (hx:qV x≤qV y) (hu:qV u≤qV v) {X U:Rat} (h1:qV x≤X) (h2:X≤qV y) (h3:qV u≤U) (h4:U≤qV v):qV (loV k x y u v)≤exQ k X U:=by
 unfold loV exQ
 split
 · rw [K0y];grind
 · split
   · rw [Y0f];grind
   · exact H0m hx hu h1 h2 h3 h4
theorem Z3u (k:Nat) {x y u v:Vl} (hx:qV x≤qV y) (hu:qV u≤qV v) {X U:Rat} (h1:qV x≤X) (h2:X≤qV y) (h3:qV u≤U) (h4:U≤qV v):exQ k X U≤qV (hiV k x y u v):=by
 unfold hiV exQ
 split
 · rw [K0y];grind
 · split
   · rw [Y0f];grind
   · exact z0r hx hu h1 h2 h3 h4
theorem y0v (k:Nat) {x y u v:Vl} (hx:canV x) (hy:canV y) (hu:canV u) (hv:canV v):canV (loV k x y u v):=by
 unfold loV
 split
 · exact Y0d hx hu
 · split
   · exact U0z hx hv
   · exact y0w hx hy hu hv
theorem y0x (k:Nat) {x y u v:Vl} (hx:canV x) (hy:canV y) (hu:canV u) (hv:canV v):canV (hiV k x y u v):=by
 unfold hiV
 split
 · exact Y0d hy hv
 · split
   · exact U0z hy hu
   · exact W1w hx hy hu hv
theorem U0i {x:Ivl} (h:Q0j x=true):qV (ofN x.lo)≤qV (ofN x.hi):=cmpN_le.1 (Q0x h).2.2
theorem k0f {lo hi:Vl} (h1:canV lo) (h2:canV hi) (h:qV lo≤qV hi):Q0j (H0q lo hi).1=true:=by
 unfold H0q
 split
 · rename_i hh
   exact W0a (J0h (x0b h1)) (J0h (x0b h2)) (cmpN_le.2 (by rw [(J0g h1 hh.1).2,(J0g h2 hh.2).2];exact h))
 · decide
theorem V3y (k:Nat) {a b:Ivl} (ha:Q0j a=true) (hb:Q0j b=true) (p:Nat):
 qV (Q0w (loV k (ofN a.lo) (ofN a.hi) (ofN b.lo) (ofN b.hi)) p false)≤qV (Q0w (hiV k (ofN a.lo) (ofN a.hi) (ofN b.lo) (ofN b.hi)) p true):=by
 have h1:=V0x (loV k (ofN a.lo) (ofN a.hi) (ofN b.lo) (ofN b.hi)) p
 have h2:=W0w (hiV k (ofN a.lo) (ofN a.hi) (ofN b.lo) (ofN b.hi)) p
 have h3:=Z3t k (U0i ha) (U0i hb) Rat.le_refl (U0i ha) Rat.le_refl (U0i hb)
 have h4:=Z3u k (U0i ha) (U0i hb) Rat.le_refl (U0i ha) Rat.le_refl (U0i hb)
 grind
theorem canI {x:Ivl} (h:Q0j x=true):canV (ofN x.lo)∧canV (ofN x.hi):=⟨X0m (Q0x h).1,X0m (Q0x h).2.1⟩
theorem W0z (k:Nat) (a b:Ivl) (p:Int):Q0j (opI k a b p).1=true:=by
 unfold opI
 split
 · rename_i h
   have ca:=canI h.1
   have cb:=canI h.2.1
   exact k0f (Q0y (y0v k ca.1 ca.2 cb.1 cb.2) _ _) (Q0y (y0x k ca.1 ca.2 cb.1 cb.2) _ _) (V3y k h.1 h.2.1 _)
 · decide
def memI (X:Rat) (a:Ivl):Prop:=qN a.lo≤X∧X≤qN a.hi
theorem J1a (k:Nat) {a b:Ivl} {p:Int} (h:(opI k a b p).2=0) {X U:Rat} (hX:memI X a) (hU:memI U b):memI (exQ k X U) (opI k a b p).1:=by
 unfold opI at h⊢
 split
 · rename_i hr
   rw [if_pos hr] at h
   have ca:=canI hr.1
   have cb:=canI hr.2.1
   unfold H0q at h⊢
   split
   · rename_i hh
     have h1:=(J0g (Q0y (y0v k ca.1 ca.2 cb.1 cb.2) _ _) hh.1).2
     have h2:=(J0g (Q0y (y0x k ca.1 ca.2 cb.1 cb.2) _ _) hh.2).2
     have h3:=Z3t k (U0i hr.1) (U0i hr.2.1) hX.1 hX.2 hU.1 hU.2
     have h4:=Z3u k (U0i hr.1) (U0i hr.2.1) hX.1 hX.2 hU.1 hU.2
     have h5:=V0x (loV k (ofN a.lo) (ofN a.hi) (ofN b.lo) (ofN b.hi)) p.toNat
     have h6:=W0w (hiV k (ofN a.lo) (ofN a.hi) (ofN b.lo) (ofN b.hi)) p.toNat
     exact⟨by rw [h1];grind,by rw [h2];grind⟩
   · rename_i hh;rw [if_neg hh] at h;cases h
 · rename_i hr;rw [if_neg hr] at h;cases h
end Go.Pv
end
section
/-Exact sums and products of numbers in any form,and how long they get. No program in it. -/
namespace Go.Pv
def bd (n k:Nat) (x:Nm):Prop:=x.w.length≤n∧ -(k:Int)≤x.exp∧x.exp≤k
theorem bd.mono {n k n' k':Nat} {x:Nm} (h:bd n k x) (h1:n≤n') (h2:k≤k'):bd n' k' x:=⟨by have:=h.1;omega,by have:=h.2.1;omega,by have:=h.2.2;omega⟩
theorem X0j {x:Nm} (h:Q0i x=true):bd 64 65536 x:=by
 unfold Q0i at h
 by_cases hw:x.w= []
 · rw [if_pos hw] at h
   simp at h
   exact⟨by rw [hw];simp,by rw [h.2];omega,by rw [h.2];omega⟩
 · rw [if_neg hw] at h
   simp only [Bool.and_eq_true,decide_eq_true_eq] at h
   exact⟨h.1.1.1.2,h.1.2,h.2⟩
theorem j2t (neg:Bool) (e:Int) (m:Nat):qN ⟨neg,e,Q0m m⟩=qM (if neg then -(m:Int) else(m:Int)) e:=by
 unfold qN mant;rw [Z0a]
theorem K3s (b:Nm) (e:Int) (d:Nat) (h:b.exp=e+d):qN b=qM (if b.neg then -((valW b.w*2^d:Nat):Int) else((valW b.w*2^d:Nat):Int)) e:=by
 unfold qN
 rw [h,←V0q]
 congr 1
 unfold mant
 cases b.neg
 · simp
 · simp [Int.neg_mul]
theorem W3w (a b:Nm) (d:Nat) (h:b.exp=a.exp+d) (hn:a.neg=b.neg):qN ⟨a.neg,a.exp,Q0m (valW a.w+valW b.w*2^d)⟩=qN a+qN b:=by
 rw [j2t,K3s b a.exp d h,show qN a=qM (mant a) a.exp from rfl,←H1m]
 congr 1
 unfold mant
 rw [←hn]
 cases a.neg<;>simp<;>omega
theorem w2t (a b:Nm) (d:Nat) (h:b.exp=a.exp+d) (hn:a.neg≠b.neg) (hle:valW b.w*2^d≤valW a.w):qN ⟨a.neg,a.exp,Q0m (valW a.w-valW b.w*2^d)⟩=qN a+qN b:=by
 rw [j2t,K3s b a.exp d h,show qN a=qM (mant a) a.exp from rfl,←H1m]
 congr 1
 unfold mant
 generalize valW b.w*2^d=x at*
 cases ha:a.neg<;>cases hb:b.neg<;>simp [ha,hb] at hn⊢ <;>omega
theorem w2s (a b:Nm) (d:Nat) (h:b.exp=a.exp+d) (hn:a.neg≠b.neg) (hle:valW a.w≤valW b.w*2^d):qN ⟨b.neg,a.exp,Q0m (valW b.w*2^d-valW a.w)⟩=qN a+qN b:=by
 rw [j2t,K3s b a.exp d h,show qN a=qM (mant a) a.exp from rfl,←H1m]
 congr 1
 unfold mant
 generalize valW b.w*2^d=x at*
 cases ha:a.neg<;>cases hb:b.neg<;>simp [ha,hb] at hn⊢ <;>omega
theorem G1u {x:Nm} (h:sgnN x=0):qN x=0:=by
 have:mant x=0:=by
  rw [w0r] at h
  unfold sgn at h
  split at h
  · assumption
  · split at h<;>omega
 unfold qN;rw [this,J0s]
theorem j3l (a b:Nm) (n k d:Nat) (ha:bd n k a) (hb:bd n k b) (hd:d≤2*k):(Q0m (valW a.w+valW b.w*2^d)).length≤n+k+1:=by
 refine X0u ?_
 have h1:=J0o a.w
 have h2:=J0o b.w
 have hp: ∀l:Nat,l≤n→18446744073709551616^l≤2^(64*n):=fun l hl=>by rw [v0j];exact Nat.pow_le_pow_right (by decide) (by omega)
 have h3:valW a.w<2^(64*n+d):=Nat.lt_of_lt_of_le h1 (Nat.le_trans (hp _ ha.1) (Nat.pow_le_pow_right (by decide) (by omega)))
 have h4:valW b.w*2^d<2^(64*n+d):=by
  rw [Nat.pow_add]
  exact Nat.mul_lt_mul_of_pos_right (Nat.lt_of_lt_of_le h2 (hp _ hb.1)) (Nat.two_pow_pos d)
 have h5:18446744073709551616^(n+k+1)=2^(64*(n+k+1)):=v0j _
 have h6:2^(64*n+d+1)≤2^(64*(n+k+1)):=Nat.pow_le_pow_right (by decide) (by omega)
 have h7:2^(64*n+d+1)=2^(64*n+d)*2:=Nat.pow_succ ..
 rw [h5]
 omega
theorem H2x (a b:Nm) (n k d m:Nat) (ha:bd n k a) (hb:bd n k b) (hd:d≤2*k) (hm:m≤valW a.w+valW b.w*2^d):(Q0m m).length≤n+k+1:=Nat.le_trans (V0p hm) (j3l a b n k d ha hb hd)
theorem z3o (a b:Nm):qN ⟨a.neg !=b.neg,a.exp+b.exp,Q0m (valW a.w*valW b.w)⟩=qN a*qN b:=by
 rw [j2t]
 show _=qM (mant a) a.exp*qM (mant b) b.exp
 rw [←w1w]
 congr 1
 unfold mant
 cases a.neg<;>cases b.neg<;>simp [Int.neg_mul,Int.mul_neg]
theorem V3z (a b:Nm) (n k m l:Nat) (ha:bd n k a) (hb:bd m l b):bd (n+m) (k+l) ⟨a.neg !=b.neg,a.exp+b.exp,Q0m (valW a.w*valW b.w)⟩:=by
 refine⟨X0u ?_,?_,?_⟩
 · have h1:=J0o a.w
   have h2:=J0o b.w
   refine Nat.lt_of_lt_of_le (Nat.mul_lt_mul'' h1 h2) ?_
   rw [←Nat.pow_add]
   exact Nat.pow_le_pow_right (by decide) (by have:=ha.1;have:=hb.1;omega)
 · have:=ha.2.1;have:=hb.2.1;simp only;omega
 · have:=ha.2.2;have:=hb.2.2;simp only;omega
end Go.Pv
end
section
/-The right number of words by a power of two,rounded or not. No program in it. -/
namespace Go.Pv
theorem Y1d (m:Nat) (h:m≠0):((Q0m m).getD 0 0).toNat % 2=m % 2:=by
 rw [←k0q,Z0a]
theorem H1b (neg:Bool) (m:Nat) (e:Int) (h:m % 2=1):Q0i ⟨neg,e,Q0m m⟩=(decide ((Q0m m).length≤64)&&decide (-65536≤e)&&decide (e≤65536)):=by
 have hw:Q0m m≠ []:=fun e=>by rw [wordsOf_nil] at e;omega
 have h1:((Q0m m).getD 0 0).toNat % 2=1:=by rw [Y1d m (by omega)];exact h
 unfold Q0i
 rw [if_neg hw,Y0c]
 simp only [h1,decide_true,Bool.true_and,Bool.and_true]
def mkX (neg:Bool) (w:List UInt64) (e:Int):Nm×Int:=numV (oddV neg (valW w) e)
theorem v2g {neg:Bool} {w:List UInt64} {e:Int} (h:valW w=0):mkX neg w e=(default,0):=by
 unfold mkX;rw [h,U0j];rfl
theorem U2t {neg:Bool} {w:List UInt64} {e:Int} (h:valW w≠0) (h2:65536<e∨e< -65536-((tz (valW w):Nat):Int)):mkX neg w e=(default,2):=by
 unfold mkX oddV
 rw [if_neg h]
 have h1:valW w/2^tz (valW w)≠0:=by have:=U0a (valW w) h;omega
 unfold numV
 rw [if_neg h1,if_pos (by simp only;omega)]
theorem v2h {neg:Bool} {w:List UInt64} {e:Int} (h:valW w≠0):mkX neg w e=if Q0i ⟨neg,e+((tz (valW w):Nat):Int),Q0m (valW w/2^tz (valW w))⟩=true then(⟨neg,e+((tz (valW w):Nat):Int),Q0m (valW w/2^tz (valW w))⟩,0) else(default,2):=by
 have h0:=U0a (valW w) h
 rw [H1b _ _ _ h0]
 unfold mkX oddV
 rw [if_neg h]
 unfold numV
 rw [if_neg (by simp only;omega)]
 simp only
 by_cases hc:64<(Q0m (valW w/2^tz (valW w))).length∨e+((tz (valW w):Nat):Int)< -65536∨65536<e+((tz (valW w):Nat):Int)
 · rw [if_pos hc,if_neg]
   simp only [Bool.and_eq_true,decide_eq_true_eq];omega
 · rw [if_neg hc,if_pos]
   simp only [Bool.and_eq_true,decide_eq_true_eq];omega
theorem V3u (x:Nm):mkX x.neg x.w x.exp=numV (ofX x):=rfl
def rndX (x:Nm) (p:Nat) (up:Bool):Nm:=
 if X0g x.w≤p then x else⟨x.neg,x.exp+((X0g x.w-p:Nat):Int),Q0m (valW x.w/2^(X0g x.w-p)+(if tz (valW x.w)<X0g x.w-p∧up≠x.neg then 1 else 0))⟩
theorem j2i (x:Nm) (p:Nat) (up:Bool) (hp:0<p):ofX (rndX x p up)=Q0w (ofX x) p up:=by
 unfold rndX
 show _=Q0w (oddV x.neg (valW x.w) x.exp) p up
 rw [X2s _ _ _ _ _ hp]
 unfold X0g
 split
 · rfl
 · unfold ofX
   rw [Z0a]
theorem K3o (x:Nm) (p:Nat) (up:Bool) (n k:Nat) (h:bd n k x):bd (n+1) (k+64*n) (rndX x p up):=by
 have hb:=W0g x.w
 have hl:=h.1
 unfold rndX
 split
 · exact h.mono (by omega) (by omega)
 · refine⟨?_,?_,?_⟩
   · refine X0u ?_
     have h1:=J0o x.w
     have h2:valW x.w/2^(X0g x.w-p)≤valW x.w:=Nat.div_le_self _ _
     have h3:18446744073709551616^x.w.length≤18446744073709551616^n:=Nat.pow_le_pow_right (by decide) hl
     have h4:18446744073709551616^(n+1)=18446744073709551616^n*18446744073709551616:=Nat.pow_succ ..
     split<;>omega
   · have:=h.2.1;simp only;omega
   · have:=h.2.2;simp only;omega
end Go.Pv
end
section
/-Intervals:has,meet,middle,width. No program in it. -/
namespace Go.Pv
def hasI (a:Ivl) (x:Nm):Bool:=Q0j a&&Q0i x&&decide (cmpN a.lo x≤0)&&decide (cmpN x a.hi≤0)
def k1l (lo hi:Nm):Ivl×Int:=if Q0j ⟨lo,hi⟩=true then(⟨lo,hi⟩,0) else(default,1)
def V4t (v:Vl):Vl:=if v.m=0 then v else { v with e:=v.e-1 }
def midV (a:Ivl) (p:Nat):Vl:=Q0w (V4t (K0n (ofN a.lo) (ofN a.hi))) p false
def midI (a:Ivl) (p:Int):Nm×Int:=if Q0j a=true∧Z0h p=true then(if W0b (midV a p.toNat) (ofN a.lo)<0 then(a.lo,0) else numV (midV a p.toNat)) else(default,1)
def K0j (a:Ivl) (p:Int):Nm×Int:=if Q0j a=true∧Z0h p=true then numV (Q0w (H0k (ofN a.hi) (ofN a.lo)) p.toNat true) else(default,1)
theorem z3x :p2 1=2:=by
 have:=y1j 1
 rw [←show((1:Nat):Int)=1 from rfl,←this];rfl
theorem Y2j (s e:Int):qM s (e-1)*2=qM s e:=by
 unfold qM
 have h:=j0g (e-1) 1
 rw [show e-1+1=e from by omega,z3x] at h
 rw [h];grind
theorem K3t (x:Nm):qN { x with exp:=x.exp-1 } *2=qN x:=Y2j (mant x) x.exp
theorem J3u {a b:Rat} (h:a*2=b*2):a=b:=by grind
theorem Y2f (a b:Nm):qN (Z0o a b)≤qN a∧qN (Z0o a b)≤qN b∧(qN (Z0o a b)=qN a∨qN (Z0o a b)=qN b):=by
 have h1:=cmpN_le.1 (W1c a b)
 have h2:=cmpN_le.1 (J2w a b)
 refine⟨h1,h2,?_⟩
 unfold Z0o
 split
 · exact .inr rfl
 · exact .inl rfl
theorem Y2g (a b:Nm):qN a≤qN (Z0m a b)∧qN b≤qN (Z0m a b)∧(qN (Z0m a b)=qN a∨qN (Z0m a b)=qN b):=by
 have h1:=cmpN_le.1 (W1h a b)
 have h2:=cmpN_le.1 (K2c a b)
 refine⟨h1,h2,?_⟩
 unfold Z0m
 split
 · exact .inr rfl
 · exact .inl rfl
theorem K2f {a b:Ivl} (ha:Q0j a=true) (hb:Q0j b=true) {p1 p2 p3 p4:Nm} (h1:qN p1=qN a.lo*qN b.lo) (h2:qN p2=qN a.lo*qN b.hi) (h3:qN p3=qN a.hi*qN b.lo) (h4:qN p4=qN a.hi*qN b.hi):
 ofX (Z0o (Z0o (Z0o p1 p2) p3) p4)=loV 2 (ofN a.lo) (ofN a.hi) (ofN b.lo) (ofN b.hi):=by
 have ca:=canI ha
 have cb:=canI hb
 have la:=U0i ha
 have lb:=U0i hb
 show _=W0c (ofN a.lo) (ofN a.hi) (ofN b.lo) (ofN b.hi)
 refine y1u (y0w ca.1 ca.2 cb.1 cb.2) ?_
 have r1:=H0m la lb Rat.le_refl la Rat.le_refl lb
 have r2:=H0m la lb Rat.le_refl la lb Rat.le_refl
 have r3:=H0m la lb la Rat.le_refl Rat.le_refl lb
 have r4:=H0m la lb la Rat.le_refl lb Rat.le_refl
 have rr: ∀v w:Vl,W0c (ofN a.lo) (ofN a.hi) (ofN b.lo) (ofN b.hi)=byV v w→qV (W0c (ofN a.lo) (ofN a.hi) (ofN b.lo) (ofN b.hi))=qV v*qV w:=fun v w e=>by rw [e,H0g]
 have r5:qV (W0c (ofN a.lo) (ofN a.hi) (ofN b.lo) (ofN b.hi))=qV (ofN a.lo)*qV (ofN b.lo)∨qV (W0c (ofN a.lo) (ofN a.hi) (ofN b.lo) (ofN b.hi))=qV (ofN a.lo)*qV (ofN b.hi)∨qV (W0c (ofN a.lo) (ofN a.hi) (ofN b.lo) (ofN b.hi))=qV (ofN a.hi)*qV (ofN b.lo)∨qV (W0c (ofN a.lo) (ofN a.hi) (ofN b.lo) (ofN b.hi))=qV (ofN a.hi)*qV (ofN b.hi):=by
  rcases H0l (ofN a.lo) (ofN a.hi) (ofN b.lo) (ofN b.hi) with e | e | e | e
  · exact .inl (rr _ _ e)
  · exact .inr (.inl (rr _ _ e))
  · exact .inr (.inr (.inl (rr _ _ e)))
  · exact .inr (.inr (.inr (rr _ _ e)))
 generalize qV (W0c (ofN a.lo) (ofN a.hi) (ofN b.lo) (ofN b.hi))=V at*
 simp only [Z0u] at*
 rw [←h1] at r1 r5
 rw [←h2] at r2 r5
 rw [←h3] at r3 r5
 rw [←h4] at r4 r5
 obtain⟨s1,s2,s3⟩:=Y2f p1 p2
 obtain⟨t1,t2,t3⟩:=Y2f (Z0o p1 p2) p3
 obtain⟨u1,u2,u3⟩:=Y2f (Z0o (Z0o p1 p2) p3) p4
 clear h1 h2 h3 h4 la lb rr
 grind
theorem U1o {a b:Ivl} (ha:Q0j a=true) (hb:Q0j b=true) {p1 p2 p3 p4:Nm} (h1:qN p1=qN a.lo*qN b.lo) (h2:qN p2=qN a.lo*qN b.hi) (h3:qN p3=qN a.hi*qN b.lo) (h4:qN p4=qN a.hi*qN b.hi):
 ofX (Z0m (Z0m (Z0m p1 p2) p3) p4)=hiV 2 (ofN a.lo) (ofN a.hi) (ofN b.lo) (ofN b.hi):=by
 have ca:=canI ha
 have cb:=canI hb
 have la:=U0i ha
 have lb:=U0i hb
 show _=q0w (ofN a.lo) (ofN a.hi) (ofN b.lo) (ofN b.hi)
 refine y1u (W1w ca.1 ca.2 cb.1 cb.2) ?_
 have r1:=z0r la lb Rat.le_refl la Rat.le_refl lb
 have r2:=z0r la lb Rat.le_refl la lb Rat.le_refl
 have r3:=z0r la lb la Rat.le_refl Rat.le_refl lb
 have r4:=z0r la lb la Rat.le_refl lb Rat.le_refl
 have r5:=y0i (ofN a.lo) (ofN a.hi) (ofN b.lo) (ofN b.hi)
 generalize qV (q0w (ofN a.lo) (ofN a.hi) (ofN b.lo) (ofN b.hi))=V at*
 simp only [Z0u] at*
 rw [←h1] at r1 r5
 rw [←h2] at r2 r5
 rw [←h3] at r3 r5
 rw [←h4] at r4 r5
 obtain⟨s1,s2,s3⟩:=Y2g p1 p2
 obtain⟨t1,t2,t3⟩:=Y2g (Z0m p1 p2) p3
 obtain⟨u1,u2,u3⟩:=Y2g (Z0m (Z0m p1 p2) p3) p4
 clear h1 h2 h3 h4 la lb
 grind
end Go.Pv
end
section
/-What boxes are reckoned to. No program in it. -/
namespace Go.Pv
def opB (k:Nat) (a b:List Ivl) (p:Int):List Ivl×Int:=if rightB a=true∧rightB b=true∧a.length=b.length∧Z0h p=true then K1c (fun i x=>opI k x (b.getD i default) p) 0 a [] else([],1)
def G0h (x:Ivl) (b:List Ivl) (p:Int):List Ivl×Int:=if rightB b=true∧Q0j x=true∧Z0h p=true then K1c (fun _ y=>opI 2 x y p) 0 b [] else([],1)
def midB (b:List Ivl) (p:Int):List Nm×Int:=if rightB b=true∧Z0h p=true then K1c (fun _ a=>midI a p) 0 b [] else([],1)
def hasB (b:List Ivl) (q:List Nm):Bool:=rightB b&&decide (q.length=b.length)&&(List.range b.length).all fun i=>hasI (b.getD i default) (q.getD i default)
def ofB (q:List Nm):List Ivl:=q.map fun x=>⟨x,x⟩
def V0w (b:List Ivl) (p:Int):List Nm×Int:=if rightB b=true∧Z0h p=true then K1c (fun _ a=>K0j a p) 0 b [] else([],1)
def amax (l:List Nm):Nat→Nat
 | 0=>0
 | n+1=>if cmpR (l.getD n default) (l.getD (amax l n) default)>0 then n else amax l n
def H4m (b:List Ivl) (p:Int):Nm×Int:=if (V0w b p).2=0 then((V0w b p).1.getD (amax (V0w b p).1 b.length) default,0) else(default,(V0w b p).2)
def G0z (a:Ivl) (p:Int):Ivl×Int:=
 if (K0j a p).2≠0 then(default,(K0j a p).2) else if (X0e (K0j a p).1 (-2)).2≠0 then(default,(X0e (K0j a p).1 (-2)).2) else
 if (Y0q 1 a.lo (X0e (K0j a p).1 (-2)).1 p false).2≠0∨(Y0q 0 a.hi (X0e (K0j a p).1 (-2)).1 p true).2≠0 then(default,2) else
 (⟨(Y0q 1 a.lo (X0e (K0j a p).1 (-2)).1 p false).1,(Y0q 0 a.hi (X0e (K0j a p).1 (-2)).1 p true).1⟩,0)
def k0k (b:List Ivl) (p:Int):List Ivl×Int:=if rightB b=true∧Z0h p=true then K1c (fun _ a=>G0z a p) 0 b [] else([],1)
def H4l (b:List Ivl) (at':Nat) (x:Ivl):List Ivl:=b.set at' x
def G4n (b:List Ivl) (p:Int):(List Ivl×List Ivl)×Int:=
 if (V0w b p).2≠0 then(([],[]),(V0w b p).2) else
 if (midI (b.getD (amax (V0w b p).1 b.length) default) p).2≠0 then(([],[]),(midI (b.getD (amax (V0w b p).1 b.length) default) p).2) else
 ((b.set (amax (V0w b p).1 b.length) ⟨(b.getD (amax (V0w b p).1 b.length) default).lo,(midI (b.getD (amax (V0w b p).1 b.length) default) p).1⟩,
  b.set (amax (V0w b p).1 b.length) ⟨(midI (b.getD (amax (V0w b p).1 b.length) default) p).1,(b.getD (amax (V0w b p).1 b.length) default).hi⟩),0)
theorem x1u (a:Ivl) (p:Int):Q0i (K0j a p).1=true:=by
 unfold K0j
 split
 · rename_i h
   have c:=canI h.1
   exact J0h (x0b (Q0y (U0z c.2 c.1) _ _))
 · exact X0p
theorem G1w (x:Nm) (k:Int):Q0i (X0e x k).1=true:=by
 unfold X0e
 split
 · rename_i h
   split
   · exact h
   · split
     · exact X0p
     · refine J0h ?_
       have h1:=U2g h
       rcases h1 with h1 | h1
       · exact .inl h1
       · exact .inr h1
 · exact X0p
theorem X1k (k:Nat) (a b:Nm) (p:Int) (up:Bool):Q0i (Y0q k a b p up).1=true:=by
 unfold Y0q
 split
 · rename_i h
   exact J0h (x0b (Q0y (y0y k (X0m h.1) (X0m h.2.1)) _ _))
 · exact X0p
theorem U2m (v:Vl):(numV v).2=0∨(numV v).2=2:=by
 unfold numV
 split
 · exact .inl rfl
 · split
   · exact .inr rfl
   · exact .inl rfl
end Go.Pv
end
section
/-How long values get. No program in it. -/
namespace Go.Pv
def bdV (n k:Nat) (v:Vl):Prop:=Q0g v.m≤n∧ -(k:Int)≤v.e∧v.e≤k
theorem bdV.mono {n k n' k':Nat} {v:Vl} (h:bdV n k v) (h1:n≤n') (h2:k≤k'):bdV n' k' v:=⟨by have:=h.1;omega,by have:=h.2.1;omega,by have:=h.2.2;omega⟩
theorem v1w {x:Nm} (h:Q0i x=true):bdV 4096 65536 (ofN x):=by
 have hb:=X0j h
 have h1:=W0g x.w
 exact⟨by show Q0g (valW x.w)≤_;unfold X0g at h1;have:=hb.1;omega,hb.2.1,hb.2.2⟩
theorem v1x {neg:Bool} {m:Nat} {e:Int} {n k:Nat} (h1:Q0g m≤n) (h2: -(k:Int)≤e) (h3:e≤k):bdV n (k+n) (oddV neg m e):=by
 unfold oddV
 split
 · exact⟨by rw [X0i];omega,by simp only;omega,by simp only;omega⟩
 · have ht:=z0e m
   have hl:=V0o (Nat.div_le_self m (2^tz m))
   exact⟨by simp only;omega,by simp only;omega,by simp only;omega⟩
theorem Z2f {a b:Vl} {n k:Nat} (ha:bdV n k a) (hb:bdV n k b):bdV (n+2*k+1) (n+3*k+1) (K0n a b):=by
 unfold K0n
 split
 · exact hb.mono (by omega) (by omega)
 · split
   · exact ha.mono (by omega) (by omega)
   · have h1:=K0w a.m (a.e-min a.e b.e).toNat
     have h2:=K0w b.m (b.e-min a.e b.e).toNat
     have h3:=w0f (a.m*2^(a.e-min a.e b.e).toNat) (b.m*2^(b.e-min a.e b.e).toNat)
     obtain⟨a1,a2,a3⟩:=ha
     obtain⟨b1,b2,b3⟩:=hb
     have hk1:(a.e-min a.e b.e).toNat≤2*k:=by omega
     have hk2:(b.e-min a.e b.e).toNat≤2*k:=by omega
     have hm:(Z0w a*2^(a.e-min a.e b.e).toNat+Z0w b*2^(b.e-min a.e b.e).toNat).natAbs≤a.m*2^(a.e-min a.e b.e).toNat+b.m*2^(b.e-min a.e b.e).toNat:=by
      have e1: ∀(v:Vl) (j:Nat),(Z0w v*2^j).natAbs=v.m*2^j:=fun v j=>by
       rw [Int.natAbs_mul,Int.natAbs_pow]
       congr 1
       unfold Z0w;cases v.neg<;>simp
      have:=Int.natAbs_add_le (Z0w a*2^(a.e-min a.e b.e).toNat) (Z0w b*2^(b.e-min a.e b.e).toNat)
      rw [e1,e1] at this
      exact this
     have h4:=V0o hm
     have:=v1x (neg:=decide (Z0w a*2^(a.e-min a.e b.e).toNat+Z0w b*2^(b.e-min a.e b.e).toNat<0)) (m:=(Z0w a*2^(a.e-min a.e b.e).toNat+Z0w b*2^(b.e-min a.e b.e).toNat).natAbs) (e:=min a.e b.e) (n:=n+2*k+1) (k:=k) (by omega) (by omega) (by omega)
     exact this.mono (by omega) (by omega)
theorem Z2g {a b:Vl} {n k m l:Nat} (ha:bdV n k a) (hb:bdV m l b):bdV (n+m) (k+l) (byV a b):=by
 unfold byV
 split
 · exact⟨by rw [X0i];omega,by simp only;omega,by simp only;omega⟩
 · refine⟨?_,?_,?_⟩
   · have h:Q0g (a.m*b.m)≤Q0g a.m+Q0g b.m:=by
      rw [bitlen_le_iff,Nat.pow_add]
      exact Nat.mul_lt_mul'' (Z0c _) (Z0c _)
     have:=ha.1;have:=hb.1;simp only;omega
   · have:=ha.2.1;have:=hb.2.1;simp only;omega
   · have:=ha.2.2;have:=hb.2.2;simp only;omega
theorem W1y {v:Vl} {n k:Nat} (h:bdV n k v) (hn:n≤1000000000000):(Q0e v.m).length≤1000000000000:=by
 have:=X0t v.m
 have:=h.1
 omega
end Go.Pv
end
section
/-A number of an interval,by parts of 8. No program in it. -/
namespace Go.Pv
def U0x (v:Vl):Vl:=if V0u v≠0 then { v with e:=v.e-3 } else v
def inV (a:Ivl) (k:Nat):Vl:=U0x (K0n (byV (ofN a.lo) (oddV false (8-k) 0)) (byV (ofN a.hi) (oddV false k 0)))
def inN (a:Ivl) (k:Nat):Nm:=if k=0 then a.lo else if k=8 then a.hi else if (numV (inV a k)).2≠0 then a.lo else(numV (inV a k)).1
theorem k2l :p2 3=8:=by
 have:=y1j 3
 rw [←show((3:Nat):Int)=3 from rfl,←this];rfl
theorem Y2k (s e:Int):qM s (e-3)*8=qM s e:=by
 unfold qM
 have h:=j0g (e-3) 3
 rw [show e-3+3=e from by omega,k2l] at h
 rw [h];grind
theorem X2i {v:Vl} (h:V0u v=0):v.m=0:=by
 unfold V0u at h
 split at h
 · assumption
 · split at h<;>omega
theorem Y2h (v:Vl):qV (U0x v)*8=qV v:=by
 unfold U0x
 split
 · exact Y2k (Z0w v) v.e
 · rename_i h
   rw [v0g (X2i (Classical.not_not.1 h))];grind
theorem v1r {v:Vl} (h:canV v):canV (U0x v):=by
 unfold U0x
 split
 · rename_i h0
   rcases h with h | rfl
   · exact .inl h
   · exact absurd rfl h0
 · exact h
theorem W1x {v:Vl} {n k:Nat} (h:bdV n k v):bdV n (k+3) (U0x v):=by
 unfold U0x
 split
 · exact⟨h.1,by have:=h.2.1;simp only;omega,by have:=h.2.2;simp only;omega⟩
 · exact h.mono (by omega) (by omega)
theorem Q1y (k:Nat):qV (oddV false k 0)=(k:Rat):=by
 rw [z0g,if_neg (by simp)]
 unfold qM
 rw [Y1x]
 show((k:Int):Rat)*1=_
 rw [Rat.mul_one];rfl
theorem w0g {k:Nat} (h:k≤8):bdV 4 4 (oddV false k 0):=by
 have hb:Q0g k≤4:=bitlen_le_iff.2 (by omega)
 have:=v1x (neg:=false) (m:=k) (e:=0) (n:=4) (k:=0) hb (by omega) (by omega)
 exact this.mono (by omega) (by omega)
theorem v3y {a:Ivl} {n m k:Nat} (h1:bdV n m (ofN a.lo)) (h2:bdV n m (ofN a.hi)) (hk:k≤8):bdV (n+2*m+13) (n+3*m+20) (inV a k):=by
 have b1:=Z2g h1 (w0g (k:=8-k) (by omega))
 have b2:=Z2g h2 (w0g hk)
 exact(W1x (Z2f b1 b2)).mono (by omega) (by omega)
theorem y2w (k:Nat) (h:k≤8):((8-k:Nat):Rat)=8-(k:Rat):=by
 have:((8-k:Nat):Int)=8-(k:Int):=by omega
 show(((8-k:Nat):Int):Rat)=8-((k:Int):Rat)
 rw [this,Rat.intCast_sub];rfl
theorem W3g {a:Ivl} {k:Nat} (ha:Q0j a=true) (hk:k≤8):memI (qV (inV a k)) a:=by
 have h:=U0i ha
 rw [Z0u,Z0u] at h
 have e:=Y2h (K0n (byV (ofN a.lo) (oddV false (8-k) 0)) (byV (ofN a.hi) (oddV false k 0)))
 rw [K0y,H0g,H0g,Q1y,Q1y,Z0u,Z0u,y2w k hk] at e
 have k0:(0:Rat)≤(k:Rat):=Rat.natCast_nonneg
 have k8:(k:Rat)≤8:=by
  have:=Rat.natCast_le_natCast.2 hk
  exact this
 have a1:=X0z (a:=qN a.hi-qN a.lo) (b:=(k:Rat)) (by grind) k0
 have a2:=X0z (a:=qN a.hi-qN a.lo) (b:=8-(k:Rat)) (by grind) (by grind)
 unfold inV
 generalize qV (U0x (K0n (byV (ofN a.lo) (oddV false (8-k) 0)) (byV (ofN a.hi) (oddV false k 0))))=x at*
 exact⟨by grind,by grind⟩
theorem v1q {a:Ivl} {k:Nat} (ha:Q0j a=true):canV (inV a k):=by
 have c:=canI ha
 exact v1r (Y0d (k0i c.1 (Y0x _ _ _)) (k0i c.2 (Y0x _ _ _)))
theorem H2d {a:Ivl} (k:Nat) (ha:Q0j a=true):Q0i (inN a k)=true:=by
 have h:=Q0x ha
 unfold inN
 split
 · exact h.1
 · split
   · exact h.2.1
   · split
     · exact h.1
     · exact J0h (x0b (v1q ha))
theorem W3h {a:Ivl} {k:Nat} (ha:Q0j a=true) (hk:k≤8):memI (qN (inN a k)) a:=by
 have h:=U0i ha
 rw [Z0u,Z0u] at h
 unfold inN
 split
 · exact⟨Rat.le_refl,h⟩
 · split
   · exact⟨h,Rat.le_refl⟩
   · split
     · exact⟨Rat.le_refl,h⟩
     · rename_i hn
       rw [(J0g (v1q ha) (Classical.not_not.1 hn)).2]
       exact W3g ha hk
theorem x3u {a:Ivl} {n m k:Nat} (ha:Q0j a=true) (h1:bdV n m (ofN a.lo)) (h2:bdV n m (ofN a.hi)) (hk:k≤8):bdV (n+2*m+13) (n+3*m+20) (ofN (inN a k)):=by
 unfold inN
 split
 · exact h1.mono (by omega) (by omega)
 · split
   · exact h2.mono (by omega) (by omega)
   · split
     · exact h1.mono (by omega) (by omega)
     · rename_i hn
       rw [(J0g (v1q ha) (Classical.not_not.1 hn)).1]
       exact v3y h1 h2 hk
theorem Q2j {a:Ivl} {x:Nm} (ha:Q0j a=true) (hx:Q0i x=true) (h:memI (qN x) a):hasI a x=true:=by
 unfold hasI
 rw [ha,hx]
 simp only [Bool.true_and,Bool.and_eq_true,decide_eq_true_eq]
 exact⟨cmpN_le.2 h.1,cmpN_le.2 h.2⟩
theorem v2i {a:Ivl} {x:Nm} (h:hasI a x=true):Q0j a=true∧Q0i x=true∧memI (qN x) a:=by
 unfold hasI at h
 simp only [Bool.and_eq_true,decide_eq_true_eq] at h
 exact⟨h.1.1.1,h.1.1.2,cmpN_le.1 h.1.2,cmpN_le.1 h.2⟩
theorem q1e {v:Vl} {n k:Nat} (h:bdV n k v) (h1:n≤4096) (h2:k≤65536):(numV v).2=0:=by
 unfold numV
 split
 · rfl
 · rw [if_neg]
   have hl:=H0x v.m
   have:=h.1;have:=h.2.1;have:=h.2.2
   omega
end Go.Pv
end
