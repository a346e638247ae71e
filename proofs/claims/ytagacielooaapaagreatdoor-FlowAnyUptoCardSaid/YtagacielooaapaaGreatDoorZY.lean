/- Parts of the walk: M23, M24, M25, M26, M27, M28, M29, M30, M31, M32, M33. -/
import Derived.Test.YtagacielooaapaaGreatDoorZL
set_option linter.unusedVariables false
set_option linter.unusedSimpArgs false
section
/-Exact values and their rounding:what numbers that are not in one form stand for. No program in it. -/
namespace Go.Pv
def ofX (x:Nm):Vl:=oddV x.neg (valW x.w) x.exp
def Q0r (v:Vl) (p:Nat) (up:Bool):Vl:=
 if Q0f v.m≤p then v else
  oddV v.neg (v.m/2^(Q0f v.m-p)+(if v.m % 2^(Q0f v.m-p)≠0∧up≠v.neg then 1 else 0)) (v.e+((Q0f v.m-p:Nat):Int))
theorem G0h (neg:Bool) (e:Int):oddV neg 0 e=⟨false,0,0⟩:=by rw [oddV,if_pos rfl]
theorem X1u (neg:Bool) (m k:Nat) (e:Int):oddV neg (m*2^k) e=oddV neg m (e+k):=by
 by_cases h:m=0
 · subst h;rw [Nat.zero_mul,G0h,G0h]
 · have hp:m*2^k≠0:=Nat.mul_ne_zero h (Nat.ne_of_gt (Nat.two_pow_pos k))
   obtain⟨q,hq,hm⟩:=y0w m h
   have hmk:m*2^k=2^(tz m+k)*q:=by
    conv=>lhs;rw [hm]
    rw [Nat.pow_add,Nat.mul_right_comm]
   have ht:tz (m*2^k)=tz m+k:=by rw [hmk,q1y _ _ hq]
   unfold oddV
   rw [if_neg h,if_neg hp,ht]
   have e1:m*2^k/2^(tz m+k)=m/2^tz m:=by
    rw [hmk,Nat.mul_div_cancel_left _ (Nat.two_pow_pos _)]
    conv=>rhs;rw [hm]
    rw [q1y _ _ hq,Nat.mul_div_cancel_left _ (Nat.two_pow_pos _)]
   rw [e1]
   congr 1
   omega
theorem X1v (neg:Bool) (m:Nat) (e:Int) (h:m % 2=1):oddV neg m e=⟨neg,m,e⟩:=by
 rw [oddV,if_neg (by omega),Q2o h];simp
theorem v2c (z D q:Nat) (h:D≤z):2^z*q/2^D=q*2^(z-D):=by
 obtain⟨k,rfl⟩: ∃k,z=D+k:=⟨z-D,by omega⟩
 rw [Nat.add_sub_cancel_left,Nat.pow_add,Nat.mul_assoc,Nat.mul_div_cancel_left _ (Nat.two_pow_pos _),Nat.mul_comm]
theorem V3j {x:Nm} (h:Q0j x=true):ofX x=ofN x:=by
 rcases G2t h with h1 | h1
 · exact X1v _ _ _ h1
 · have h0:valW x.w=0:=h1
   have hw:x.w= []:=by
    refine Classical.byContradiction fun hw=> ?_
    have h2:=h
    unfold Q0j at h2
    rw [if_neg hw] at h2
    simp only [Bool.and_eq_true,decide_eq_true_eq] at h2
    have h3:=v0t x.w
    omega
   have h2:=h
   unfold Q0j at h2
   rw [if_pos hw] at h2
   simp at h2
   unfold ofX ofN
   rw [h0,G0h,h2.1,h2.2]
theorem K2r (neg:Bool) (m:Nat) (e:Int) (p:Nat) (up:Bool) (hp:0<p):Q0r (oddV neg m e) p up=
 if Q0f m≤p then oddV neg m e else oddV neg (m/2^(Q0f m-p)+(if tz m<Q0f m-p∧up≠neg then 1 else 0)) (e+((Q0f m-p:Nat):Int)):=by
 by_cases h0:m=0
 · subst h0
   rw [if_pos (by rw [Z0y];omega),G0h,Q0r,if_pos (by show Q0f 0≤p;rw [Z0y];omega)]
 obtain⟨q,hq,hm⟩:=y0w m h0
 have hq0:q≠0:=by omega
 have e1:oddV neg m e=⟨neg,q,e+tz m⟩:=by
  have:oddV neg (q*2^tz m) e=oddV neg q (e+tz m):=X1u neg q (tz m) e
  rw [Nat.mul_comm,←hm] at this
  rw [this,X1v _ _ _ hq]
 have hb:Q0f m=Q0f q+tz m:=by
  have:=V0r q (tz m) hq0
  rw [Nat.mul_comm,←hm] at this
  exact this
 rw [e1]
 unfold Q0r
 simp only
 by_cases h1:Q0f q≤p
 · rw [if_pos h1]
   by_cases h2:Q0f m≤p
   · rw [if_pos h2]
   · rw [if_neg h2,if_neg (by omega),Nat.add_zero]
     have hdiv:m/2^(Q0f m-p)=q*2^(tz m-(Q0f m-p)):=by
      have h:=v2c (tz m) (Q0f m-p) q (by omega)
      rw [←hm] at h;exact h
     rw [hdiv,X1u,X1v _ _ _ hq]
     congr 1
     omega
 · rw [if_neg h1,if_neg (show¬Q0f m≤p by omega)]
   have hd:Q0f m-p=tz m+(Q0f q-p):=by omega
   have hdiv:m/2^(Q0f m-p)=q/2^(Q0f q-p):=by
    have h:=Nat.mul_div_cancel_left q (Nat.two_pow_pos (tz m))
    rw [←hm] at h
    rw [hd,Nat.pow_add,←Nat.div_div_eq_div_mul,h]
   have hodd:q % 2^(Q0f q-p)≠0:=by
    intro h
    have hdv:2∣q:=Nat.dvd_trans ⟨2^(Q0f q-p-1),by rw [←Nat.pow_succ'];congr 1;omega⟩ (Nat.dvd_of_mod_eq_zero h)
    omega
   rw [hdiv]
   have hc:(q % 2^(Q0f q-p)≠0∧up≠neg)↔(tz m<Q0f m-p∧up≠neg):=⟨fun h=>⟨by omega,h.2⟩,fun h=>⟨hodd,h.2⟩⟩
   by_cases hh:tz m<Q0f m-p∧up≠neg
   · rw [if_pos hh,if_pos (hc.2 hh)]
     congr 1
     omega
   · rw [if_neg hh,if_neg (fun h=>hh (hc.1 h))]
     congr 1
     omega
end Go.Pv
end
section
/-Exact sums and products,whatever form the numbers have. No program in it. -/
namespace Go.Pv
theorem w1v (neg:Bool) (m:Nat) (e:Int):oddV neg m e=mkV (if neg then -(m:Int) else(m:Int)) e:=by
 by_cases h:m=0
 · subst h
   rw [G0h]
   unfold mkV
   cases neg<;>simp [G0h]
 · unfold mkV
   cases neg
   · show oddV false m e=oddV (decide ((m:Int)<0)) (m:Int).natAbs e
     rw [decide_eq_false (by omega),Int.natAbs_natCast]
   · show oddV true m e=oddV (decide (-(m:Int)<0)) (-(m:Int)).natAbs e
     rw [decide_eq_true (by omega),Int.natAbs_neg,Int.natAbs_natCast]
theorem z3n (x:Nm):ofX x=mkV (mant x) x.exp:=by rw [ofX,w1v];rfl
theorem H2h (s:Int) (k:Nat) (e:Int):mkV (s*2^k) e=mkV s (e+k):=by
 unfold mkV
 have h1:(s*2^k).natAbs=s.natAbs*2^k:=by
  rw [Int.natAbs_mul,Int.natAbs_pow];rfl
 have h2:decide (s*2^k<0)=decide (s<0):=by
  have hp:=two_pow_pos k
  by_cases h:s<0
  · rw [decide_eq_true h,decide_eq_true (Int.mul_neg_of_neg_of_pos h hp)]
  · rw [decide_eq_false h,decide_eq_false (Int.not_lt.2 (Int.mul_nonneg (Int.not_lt.1 h) (Int.le_of_lt hp)))]
 rw [h1,h2,X1u]
theorem H2i (s e:Int) (h:s≠0): ∃k:Nat,X0b (mkV s e)*2^k=s∧(mkV s e).e=e+k∧(mkV s e).m≠0:=by
 have h0:s.natAbs≠0:=by omega
 refine⟨tz s.natAbs,?_,?_,?_⟩
 · unfold mkV oddV X0b
   rw [if_neg h0]
   simp only
   have h1:=J2w s.natAbs
   by_cases hs:s<0
   · rw [decide_eq_true hs,if_pos rfl,Int.neg_mul]
     have:((s.natAbs/2^tz s.natAbs:Nat):Int)*2^tz s.natAbs=(s.natAbs:Int):=by
      rw [show((2:Int)^tz s.natAbs)=((2^tz s.natAbs:Nat):Int) from by simp,←Int.natCast_mul,h1]
     rw [this];omega
   · rw [decide_eq_false hs,if_neg (by simp)]
     have:((s.natAbs/2^tz s.natAbs:Nat):Int)*2^tz s.natAbs=(s.natAbs:Int):=by
      rw [show((2:Int)^tz s.natAbs)=((2^tz s.natAbs:Nat):Int) from by simp,←Int.natCast_mul,h1]
     rw [this];omega
 · unfold mkV oddV;rw [if_neg h0]
 · unfold mkV oddV
   rw [if_neg h0]
   have:=U0u s.natAbs h0
   simp only;omega
def byV (a b:Vl):Vl:=if a.m=0∨b.m=0 then⟨false,0,0⟩ else⟨a.neg !=b.neg,a.m*b.m,a.e+b.e⟩
theorem V3k {a b:Nat} (ha:a % 2=1) (hb:b % 2=1):a*b % 2=1:=by rw [Nat.mul_mod,ha,hb]
end Go.Pv
end
section
/-The lowest set bit of a word,and how many noughts lie below it. No program in it. -/
namespace Go.Pv
theorem k1u : ∀(k a b:Nat),a+b+1=2^k→a&&&b=0
 | 0,a,b,h=>by
  have:a=0:=by simp at h;omega
  subst this;exact Nat.zero_and b
 | k+1,a,b,h=>by
  have h2:a+b+1=2*2^k:=by rw [h,Nat.pow_succ,Nat.mul_comm]
  have ih:=k1u k (a/2) (b/2) (by omega)
  have hd:(a&&&b)/2=a/2&&&b/2:=Nat.and_div_two
  have hm:(a&&&b) % 2≠1:=fun e=>by have:=Nat.and_mod_two_eq_one.1 e;omega
  omega
theorem H2p : ∀(n x:Nat),0<x→x<2^n→x&&&(2^n-x)=2^tz x
 | 0,x,h,hl=>by simp at hl;omega
 | n+1,x,h,hl=>by
  have hp:2^(n+1)=2*2^n:=by rw [Nat.pow_succ,Nat.mul_comm]
  have hd:(x&&&(2^(n+1)-x))/2=x/2&&&(2^(n+1)-x)/2:=Nat.and_div_two
  rcases Nat.mod_two_eq_zero_or_one x with e | e
  · have ih:=H2p n (x/2) (by omega) (by omega)
    have h3:(2^(n+1)-x)/2=2^n-x/2:=by omega
    have hm:(x&&&(2^(n+1)-x)) % 2≠1:=fun e'=>by have:=Nat.and_mod_two_eq_one.1 e';omega
    rw [h3,ih] at hd
    have hps:2^(tz (x/2)+1)=2^tz (x/2)*2:=Nat.pow_succ ..
    rw [v1g (by omega) e]
    omega
  · have h4:=k1u n (x/2) ((2^(n+1)-x)/2) (by omega)
    have hm:(x&&&(2^(n+1)-x)) % 2=1:=Nat.and_mod_two_eq_one.2 ⟨e,by omega⟩
    rw [h4] at hd
    rw [Q2o e,Nat.pow_zero];omega
theorem w2h (x:Nat) (h:0<x) (hl:x<18446744073709551616):x&&&(18446744073709551616-x)=2^tz x:=H2p 64 x h hl
theorem G1l (x:Nat) (h:0<x) (hl:x<18446744073709551616):tz x<64:=by
 have h1:=z0w x (by omega)
 have h2:=W1k x hl
 omega
theorem q3b (w r:Nat) (h:0<w) (hl:w<18446744073709551616):tz (w+18446744073709551616*r)=tz w:=by
 obtain⟨q,hq,hw⟩:=y0w w (by omega)
 have ht:=G1l w h hl
 have e:w+18446744073709551616*r=2^tz w*(q+2^(64-tz w)*r):=by
  rw [Nat.mul_add,←hw,←Nat.mul_assoc,←Nat.pow_add,show tz w+(64-tz w)=64 from by omega]
 have h2:2^(64-tz w)*r % 2=0:=by
  obtain⟨k,hk⟩: ∃k,64-tz w=k+1:=⟨63-tz w,by omega⟩
  rw [hk,Nat.pow_succ,Nat.mul_assoc,Nat.mul_left_comm];exact Nat.mul_mod_right _ _
 rw [e,q1y _ _ (by omega)]
theorem k0a (l:List UInt64) (i:Nat) (h:i≤l.length):valW l=valW (l.take i)+18446744073709551616^i*valW (l.drop i):=by
 conv=>lhs;rw [←List.take_append_drop i l]
 rw [G0a,List.length_take,Nat.min_eq_left h]
theorem q1x (l:List UInt64) (i:Nat) (h:i<l.length):valW (l.drop i)=(l.getD i 0).toNat+18446744073709551616*valW (l.drop (i+1)):=by
 rw [List.drop_eq_getElem_cons h]
 simp only [valW,nW,List.map_cons,val]
 rw [List.getD_eq_getElem?_getD,List.getElem?_eq_getElem h];rfl
theorem z0t (l:List UInt64) (i:Nat) (h:l.length≤i):valW (l.drop i)=0:=by
 rw [List.drop_eq_nil_of_le h];rfl
theorem j0c (l:List UInt64) (i:Nat):valW (l.drop i)=(l.getD i 0).toNat+18446744073709551616*valW (l.drop (i+1)):=by
 by_cases h:i<l.length
 · exact q1x l i h
 · rw [z0t _ _ (by omega),z0t _ _ (by omega),G0m _ _ _ (by omega)];rfl
theorem y0h (l:List UInt64) (i:Nat) (h:i≤l.length):valW l/18446744073709551616^i=valW (l.drop i):=by
 have hl:=J0t (l.take i)
 rw [List.length_take,Nat.min_eq_left h] at hl
 rw [k0a l i h,Nat.add_mul_div_left _ _ (Nat.pow_pos (by decide)),Nat.div_eq_of_lt hl,Nat.zero_add]
theorem j2n (l:List UInt64) (i:Nat) (hi:i<l.length) (hz:valW (l.take i)=0) (hn:(l.getD i 0).toNat≠0):tz (valW l)=64*i+tz (l.getD i 0).toNat:=by
 rw [k0a l i (by omega),hz,Nat.zero_add,q1x l i hi,Nat.mul_comm,w0q,j2o _ _ (by omega),q3b _ _ (by omega) (UInt64.toNat_lt _)]
 omega
theorem V1x (w0 w1 r s:Nat) (h0:w0<18446744073709551616) (hs:s<64):(w0+18446744073709551616*(w1+18446744073709551616*r))/2^s % 18446744073709551616=w0/2^s+w1*2^(64-s) % 18446744073709551616:=by
 have e:(18446744073709551616:Nat)=2^s*2^(64-s):=by rw [←Nat.pow_add,show s+(64-s)=64 from by omega]
 have h1:(w0+18446744073709551616*(w1+18446744073709551616*r))/2^s=w0/2^s+2^(64-s)*(w1+18446744073709551616*r):=by
  conv=>lhs;rw [show 18446744073709551616*(w1+18446744073709551616*r)=2^s*(2^(64-s)*(w1+18446744073709551616*r)) from by rw [←Nat.mul_assoc,←e]]
  rw [Nat.add_mul_div_left _ _ (Nat.two_pow_pos s)]
 have h2:w0/2^s<2^(64-s):=Nat.div_lt_of_lt_mul (by rw [←e];exact h0)
 have h3:w1*2^(64-s) % 18446744073709551616=2^(64-s)*(w1 % 2^s):=by
  conv=>lhs;rw [Nat.mul_comm,e,Nat.mul_comm (2^s),Nat.mul_mod_mul_left]
 have h4:2^(64-s)*(w1 % 2^s)+2^(64-s)≤18446744073709551616:=by
  have h5:w1 % 2^s+1≤2^s:=Nat.mod_lt _ (Nat.two_pow_pos s)
  have:=Nat.mul_le_mul_left (2^(64-s)) h5
  rw [Nat.mul_add,Nat.mul_one] at this
  rw [Nat.mul_comm (2^(64-s)) (2^s),←e] at this
  exact this
 rw [h1,h3]
 have h6:w0/2^s+2^(64-s)*(w1+18446744073709551616*r)=(w0/2^s+2^(64-s)*(w1 % 2^s))+18446744073709551616*(w1/2^s+2^(64-s)*r):=by
  have h7:=Nat.div_add_mod w1 (2^s)
  have h8:2^(64-s)*w1=2^(64-s)*(2^s*(w1/2^s))+2^(64-s)*(w1 % 2^s):=by rw [←Nat.mul_add,h7]
  rw [←Nat.mul_assoc,Nat.mul_comm (2^(64-s)) (2^s),←e] at h8
  rw [Nat.mul_add,Nat.mul_add,h8,Nat.mul_left_comm]
  omega
 rw [h6,Nat.add_mul_mod_self_left,Nat.mod_eq_of_lt (by omega)]
theorem y2v (w0 w1 s:Nat) (h0:w0<18446744073709551616) (hs:s<64):(w0/2^s)|||(w1*2^(64-s) % 18446744073709551616)=w0/2^s+w1*2^(64-s) % 18446744073709551616:=by
 refine K1r _ _ (64-s) (Nat.div_lt_of_lt_mul ?_) (k0u _ _ (by omega))
 rw [←Nat.pow_add,show s+(64-s)=64 from by omega];exact h0
end Go.Pv
end
section
/-Values as rational numbers. No program in it. -/
namespace Go.Pv
def p2 (e:Int):Rat:=(2:Rat)^e
theorem K1o (e:Int):0<p2 e:=Rat.zpow_pos (by decide)
theorem J4u (e:Int):p2 e≠0:=Rat.ne_of_gt (K1o e)
theorem k0f (a b:Int):p2 (a+b)=p2 a*p2 b:=Rat.zpow_add (by decide) a b
theorem w1l :p2 0=1:=Rat.zpow_zero 2
theorem Z2n (k:Nat):(((2:Int)^k:Int):Rat)=p2 k:=by
 unfold p2;rw [Rat.zpow_natCast]
 induction k with
 | zero=>rfl
 | succ k ih=>rw [Int.pow_succ,Rat.intCast_mul,ih,Rat.pow_succ];rfl
def qM (s e:Int):Rat:=(s:Rat)*p2 e
def qV (v:Vl):Rat:=qM (X0b v) v.e
def qN (x:Nm):Rat:=qM (mant x) x.exp
theorem W0h (s:Int) (k:Nat) (e:Int):qM (s*2^k) e=qM s (e+k):=by
 unfold qM;rw [Rat.intCast_mul,Z2n,k0f];grind
theorem z1y (s t e:Int):qM (s+t) e=qM s e+qM t e:=by unfold qM;rw [Rat.intCast_add];grind
theorem Z2e (s t e f:Int):qM (s*t) (e+f)=qM s e*qM t f:=by unfold qM;rw [Rat.intCast_mul,k0f];grind
theorem K0b (e:Int):qM 0 e=0:=by unfold qM;rw [Rat.intCast_zero];grind
theorem w0n (s e:Int):qM (-s) e= -qM s e:=by unfold qM;rw [Rat.intCast_neg];grind
theorem qM_le {s t e:Int} :qM s e≤qM t e↔s≤t:=by
 unfold qM
 constructor
 · intro h
   exact Rat.intCast_le_intCast.1 (Rat.le_of_mul_le_mul_right h (K1o e))
 · intro h
   exact Rat.mul_le_mul_of_nonneg_right (Rat.intCast_le_intCast.2 h) (Rat.le_of_lt (K1o e))
theorem qM_lt {s t e:Int} :qM s e<qM t e↔s<t:=by
 rw [←Rat.not_le,qM_le];omega
theorem qM_eq {s t e:Int} :qM s e=qM t e↔s=t:=by
 constructor
 · intro h
   have h1:=(qM_le (s:=s) (t:=t) (e:=e)).1 (by rw [h];exact Rat.le_refl)
   have h2:=(qM_le (s:=t) (t:=s) (e:=e)).1 (by rw [h];exact Rat.le_refl)
   omega
 · rintro rfl;rfl
theorem v1z (s e g:Int) (h:g≤e):qM s e=qM (s*2^(e-g).toNat) g:=by
 rw [W0h];congr 1;omega
theorem K3t (s e:Int):qV (mkV s e)=qM s e:=by
 by_cases h:s=0
 · subst h
   rw [X2g,K0b]
   exact K0b 0
 · obtain⟨k,k1,k2,k3⟩:=H2i s e h
   unfold qV
   rw [k2,←W0h,k1]
theorem x0b (neg:Bool) (m:Nat) (e:Int):qV (oddV neg m e)=qM (if neg then -(m:Int) else(m:Int)) e:=by rw [w1v,K3t]
theorem q3y (x:Nm):qV (ofX x)=qN x:=by rw [z3n,K3t];rfl
theorem Z0w (x:Nm):qV (ofN x)=qN x:=rfl
theorem w0m {v:Vl} (h:v.m=0):qV v=0:=by unfold qV;rw [Q1o h,K0b]
theorem V0w (a b:Vl):qV (V0d a b)=qV a+qV b:=by
 unfold V0d
 split
 · rename_i h;rw [w0m h];grind
 · split
   · rename_i h;rw [w0m h];grind
   · rw [K3t,z1y,←v1z _ _ _ (by omega),←v1z _ _ _ (by omega)];rfl
theorem W0p (v:Vl):qV (J0x v)= -qV v:=by
 unfold qV;rw [Q1p,y0y,w0n]
theorem Y0w (a b:Vl):qV (q0i a b)=qV a-qV b:=by
 unfold q0i;rw [V0w,W0p];grind
theorem w2d {a b:Vl} (ha:a.m≠0) (hb:b.m≠0):X0b (byV a b)=X0b a*X0b b∧(byV a b).e=a.e+b.e:=by
 unfold byV
 rw [if_neg (by omega)]
 refine⟨?_,rfl⟩
 unfold X0b
 cases a.neg<;>cases b.neg<;>simp [Int.neg_mul,Int.mul_neg]
theorem q0x (a b:Vl):qV (byV a b)=qV a*qV b:=by
 by_cases ha:a.m=0
 · rw [w0m ha,w0m (by unfold byV;rw [if_pos (.inl ha)])];grind
 · by_cases hb:b.m=0
   · rw [w0m hb,w0m (by unfold byV;rw [if_pos (.inr hb)])];grind
   · obtain⟨h1,h2⟩:=w2d ha hb
     unfold qV
     rw [h1,h2,Z2e]
theorem U2b (m:Int):sgn m≤0↔m≤0:=by unfold sgn;split<;>(try split)<;>omega
theorem Z3m (m:Int):sgn m<0↔m<0:=by unfold sgn;split<;>(try split)<;>omega
theorem x1m (a b:Vl):V0m a b≤0↔qV a≤qV b:=by
 unfold V0m
 have h:=Y0w a b
 rw [j0h,U2b]
 have h2:X0b (q0i a b)≤0↔qV (q0i a b)≤0:=by
  rw [←K0b (q0i a b).e];exact qM_le.symm
 rw [h2,h];grind
theorem x1l (a b:Vl):V0m a b<0↔qV a<qV b:=by
 unfold V0m
 have h:=Y0w a b
 rw [j0h,Z3m]
 have h2:X0b (q0i a b)<0↔qV (q0i a b)<0:=by
  rw [←K0b (q0i a b).e];exact qM_lt.symm
 rw [h2,h];grind
theorem cmpN_le {a b:Nm} :cmpN a b≤0↔qN a≤qN b:=by rw [←Q1m,x1m];rfl
theorem cmpN_lt {a b:Nm} :cmpN a b<0↔qN a<qN b:=by rw [←Q1m,x1l];rfl
theorem cmpN_ge {a b:Nm} :0≤cmpN a b↔qN b≤qN a:=by
 have:=cmpN_lt (a:=a) (b:=b)
 rw [←Rat.not_lt,←this];omega
theorem cmpN_gt {a b:Nm} :0<cmpN a b↔qN b<qN a:=by
 have:=cmpN_le (a:=a) (b:=b)
 rw [←Rat.not_le,←this];omega
theorem Q2t (a:Vl):X0n a<0↔qV a<0:=by
 rw [j0h,Z3m,←K0b a.e];exact qM_lt.symm
theorem G1r (a:Vl):X0n a≤0↔qV a≤0:=by
 rw [j0h,U2b,←K0b a.e];exact qM_le.symm
def canV (v:Vl):Prop:=v.m % 2=1∨v=⟨false,0,0⟩
theorem H0o (neg:Bool) (m:Nat) (e:Int):canV (oddV neg m e):=by
 unfold oddV canV
 split
 · exact .inr rfl
 · exact .inl (U0u m (by assumption))
theorem U3l (s e:Int):canV (mkV s e):=H0o _ _ _
theorem J2e (x:Nm):canV (ofX x):=H0o _ _ _
theorem J0g {x:Nm} (h:Q0j x=true):canV (ofN x):=by rw [←V3j h];exact J2e x
theorem G0w {a b:Vl} (ha:canV a) (hb:canV b):canV (V0d a b):=by
 unfold V0d
 split
 · exact hb
 · split
   · exact ha
   · exact U3l _ _
theorem y0j {a:Vl} (ha:canV a):canV (J0x a):=by
 rcases ha with h | rfl
 · exact .inl (by rw [y0x];exact h)
 · exact .inr rfl
theorem G0x {a b:Vl} (ha:canV a) (hb:canV b):canV (q0i a b):=G0w ha (y0j hb)
theorem Z1h {a b:Vl} (ha:canV a) (hb:canV b):canV (byV a b):=by
 rcases ha with h | rfl
 · rcases hb with k | rfl
   · exact .inl (by unfold byV;rw [if_neg (by omega)];exact V3k h k)
   · exact .inr (by unfold byV;rw [if_pos (.inr rfl)])
 · exact .inr (by unfold byV;rw [if_pos (.inl rfl)])
theorem Z0j {v:Vl} (h:canV v) (p:Nat) (up:Bool):canV (Q0r v p up):=by
 unfold Q0r
 split
 · exact h
 · exact H0o _ _ _
theorem x0w {v:Vl} (h:canV v):okV v:=by
 rcases h with h | rfl
 · exact .inl h
 · exact .inr rfl
theorem k1k {v:Vl} (h:canV v):v=mkV (X0b v) v.e:=by
 rcases h with h | rfl
 · have:oddV v.neg v.m v.e=v:=by rw [X1v _ _ _ h]
   conv=>lhs;rw [←this]
   rw [w1v];rfl
 · rw [show X0b ⟨false,0,0⟩=0 from rfl,X2g]
theorem z3u {s e t f:Int} (h:qM s e=qM t f):mkV s e=mkV t f:=by
 have h1:mkV s e=mkV (s*2^(e-min e f).toNat) (min e f):=by rw [H2h];congr 1;omega
 have h2:mkV t f=mkV (t*2^(f-min e f).toNat) (min e f):=by rw [H2h];congr 1;omega
 rw [v1z s e (min e f) (by omega),v1z t f (min e f) (by omega),qM_eq] at h
 rw [h1,h2,h]
theorem Q3k {v w:Vl} (hv:canV v) (hw:canV w) (h:qV v=qV w):v=w:=by
 rw [k1k hv,k1k hw]
 exact z3u h
theorem Z2y {x:Nm} {v:Vl} (hv:canV v) (h:qN x=qV v):ofX x=v:=Q3k (J2e x) hv (by rw [q3y,h])
theorem j0j (neg:Bool) (m d:Nat) (c:Nat) (e:Int):qM (if neg then -((m/2^d+c:Nat):Int) else((m/2^d+c:Nat):Int)) (e+(d:Int))=qM (if neg then -(((m/2^d+c)*2^d:Nat):Int) else(((m/2^d+c)*2^d:Nat):Int)) e:=by
 rw [←W0h]
 congr 1
 cases neg
 · simp
 · simp [Int.neg_mul]
theorem Y0m (v:Vl) (p:Nat):qV (Q0r v p false)≤qV v:=by
 unfold Q0r
 split
 · exact Rat.le_refl
 · rw [x0b,j0j]
   unfold qV X0b
   rw [qM_le]
   generalize Q0f v.m-p=d
   have h1:=Nat.div_add_mod v.m (2^d)
   have h2:=Nat.mod_lt v.m (Nat.two_pow_pos d)
   rw [Nat.mul_comm] at h1
   rw [Nat.add_mul]
   cases v.neg
   · rw [if_neg (by simp),if_neg (by simp),if_neg (by simp),Nat.zero_mul];omega
   · rw [if_pos rfl,if_pos rfl]
     by_cases h3:v.m % 2^d=0
     · rw [if_neg (by simp [h3]),Nat.zero_mul];omega
     · rw [if_pos ⟨h3,by simp⟩,Nat.one_mul];omega
theorem G0d (v:Vl) (p:Nat):qV v≤qV (Q0r v p true):=by
 unfold Q0r
 split
 · exact Rat.le_refl
 · rw [x0b,j0j]
   unfold qV X0b
   rw [qM_le]
   generalize Q0f v.m-p=d
   have h1:=Nat.div_add_mod v.m (2^d)
   have h2:=Nat.mod_lt v.m (Nat.two_pow_pos d)
   rw [Nat.mul_comm] at h1
   rw [Nat.add_mul]
   cases v.neg
   · rw [if_neg (by simp),if_neg (by simp)]
     by_cases h3:v.m % 2^d=0
     · rw [if_neg (by simp [h3]),Nat.zero_mul];omega
     · rw [if_pos ⟨h3,by simp⟩,Nat.one_mul];omega
   · rw [if_pos rfl,if_pos rfl,if_neg (by simp),Nat.zero_mul];omega
theorem K0c {v:Vl} (hv:canV v) (h:(numV v).2=0):ofN (numV v).1=v∧qN (numV v).1=qV v:=by
 unfold numV at h⊢
 split
 · rename_i h0
   rcases hv with hv | rfl
   · omega
   · exact⟨rfl,rfl⟩
 · rename_i h0
   rw [if_neg h0] at h
   split
   · rename_i h1;rw [if_pos h1] at h;cases h
   · have e:ofN ⟨v.neg,v.e,Q0m v.m⟩=v:=by unfold ofN;rw [Z0e]
     exact⟨e,by rw [←Z0w,e]⟩
theorem v2o {x:Nm} (h:Q0j x=true):numV (ofN x)=(x,0):=by
 unfold numV ofN
 simp only
 have h2:=h
 unfold Q0j at h2
 by_cases hw:x.w= []
 · rw [if_pos hw] at h2
   simp at h2
   rw [if_pos (by rw [hw];rfl)]
   congr 1
   obtain⟨n,e,w⟩:=x
   simp at hw h2
   obtain⟨rfl,rfl⟩:=h2
   subst hw;rfl
 · rw [if_neg hw] at h2
   simp only [Bool.and_eq_true,decide_eq_true_eq] at h2
   rw [if_neg (by have:=(U0e h);intro e;exact hw (this.1 e)),Q0u,Y1z h,if_neg (by omega)]
end Go.Pv
end
section
/-What sums,differences and products of intervals come to. No program in it. -/
namespace Go.Pv
theorem J0d {a b:Rat} (ha:0≤a) (hb:0≤b):0≤a*b:=Rat.mul_nonneg ha hb
theorem U3a {x y u v X U:Rat} (h1:x≤X) (h2:X≤y) (h3:u≤U) (h4:U≤v) (hx:0≤x) (hu:0≤u):x*u≤X*U:=by
 have a1:=J0d (a:=X-x) (b:=u) (by grind) hu
 have a2:=J0d (a:=X) (b:=U-u) (by grind) (by grind)
 grind
theorem z2u {x y u v X U:Rat} (h1:x≤X) (h2:X≤y) (h3:u≤U) (h4:U≤v) (hx:0≤X) (hu:u≤0):y*u≤X*U:=by
 have a1:=J0d (a:=y-X) (b:= -u) (by grind) (by grind)
 have a2:=J0d (a:=X) (b:=U-u) (by grind) (by grind)
 grind
theorem z2t {x y u v X U:Rat} (h1:x≤X) (h2:X≤y) (h3:u≤U) (h4:U≤v) (hx:x≤0) (hu:0≤U):x*v≤X*U:=by
 have a1:=J0d (a:= -x) (b:=v-U) (by grind) (by grind)
 have a2:=J0d (a:=X-x) (b:=U) (by grind) (by grind)
 grind
theorem Y3z {x y u v X U:Rat} (h1:x≤X) (h2:X≤y) (h3:u≤U) (h4:U≤v) (hx:y≤0) (hu:v≤0):y*v≤X*U:=by
 have a1:=J0d (a:=y-X) (b:= -v) (by grind) (by grind)
 have a2:=J0d (a:= -X) (b:=v-U) (by grind) (by grind)
 grind
theorem V3a {a b:Rat} (ha:a≤0) (hb:b≤0):0≤a*b:=by
 have:=J0d (a:= -a) (b:= -b) (by grind) (by grind)
 grind
theorem V3b {a b:Rat} (ha:0≤a) (hb:b≤0):a*b≤0:=by
 have:=J0d (a:=a) (b:= -b) ha (by grind)
 grind
theorem v2u {a b:Rat} (ha:a≤0) (hb:0≤b):a*b≤0:=by
 have:=J0d (a:= -a) (b:=b) (by grind) hb
 grind
def K0t (x y u v:Vl):Vl:=
 if 0≤X0n x∧0≤X0n u then byV x u else if 0≤X0n x then byV y u else if 0≤X0n u then byV x v else
 if X0n y≤0∧X0n v≤0 then byV y v else if V0m (byV y u) (byV x v)<0 then byV y u else byV x v
def U0d (x y u v:Vl):Vl:=J0x (K0t (J0x y) (J0x x) u v)
theorem Q2u (a:Vl):0≤X0n a↔0≤qV a:=by
 have:=Q2t a
 rw [←Rat.not_lt,←this];omega
theorem q0j {x y u v:Vl} (hx:qV x≤qV y) (hu:qV u≤qV v) {X U:Rat} (h1:qV x≤X) (h2:X≤qV y) (h3:qV u≤U) (h4:U≤qV v):qV (K0t x y u v)≤X*U:=by
 unfold K0t
 simp only [Q2u,G1r,x1l,q0x]
 split
 · rename_i h;rw [q0x];exact U3a h1 h2 h3 h4 h.1 h.2
 · rename_i n1
   split
   · rename_i h;rw [q0x];exact z2u h1 h2 h3 h4 (by grind) (by grind)
   · rename_i n2
     split
     · rename_i h;rw [q0x];exact z2t h1 h2 h3 h4 (by grind) (by grind)
     · rename_i n3
       split
       · rename_i h;rw [q0x];exact Y3z h1 h2 h3 h4 h.1 h.2
       · rename_i n4
         have key:qV y*qV u≤X*U∨qV x*qV v≤X*U:=by
          by_cases hX:0≤X
          · exact .inl (z2u h1 h2 h3 h4 hX (by grind))
          · by_cases hU:0≤U
            · exact .inr (z2t h1 h2 h3 h4 (by grind) hU)
            · have p:=V3a (a:=X) (b:=U) (by grind) (by grind)
              by_cases hy:0≤qV y
              · have:=V3b (a:=qV y) (b:=qV u) hy (by grind);exact .inl (by grind)
              · have:=v2u (a:=qV x) (b:=qV v) (by grind) (by grind);exact .inr (by grind)
         split
         · rename_i h;rw [q0x];grind
         · rename_i h;rw [q0x];grind
theorem U0x (x y u v:Vl):K0t x y u v=byV x u∨K0t x y u v=byV x v∨K0t x y u v=byV y u∨K0t x y u v=byV y v:=by
 unfold K0t
 repeat' split
 all_goals simp
theorem x0l {x y u v:Vl} (hx:qV x≤qV y) (hu:qV u≤qV v) {X U:Rat} (h1:qV x≤X) (h2:X≤qV y) (h3:qV u≤U) (h4:U≤qV v):X*U≤qV (U0d x y u v):=by
 unfold U0d
 have:=q0j (x:=J0x y) (y:=J0x x) (u:=u) (v:=v) (X:= -X) (U:=U) (by rw [W0p,W0p];grind) hu (by rw [W0p];grind) (by rw [W0p];grind) h3 h4
 rw [W0p];grind
theorem Q1s (x y u v:Vl):qV (U0d x y u v)=qV x*qV u∨qV (U0d x y u v)=qV x*qV v∨qV (U0d x y u v)=qV y*qV u∨qV (U0d x y u v)=qV y*qV v:=by
 unfold U0d
 rw [W0p]
 rcases U0x (J0x y) (J0x x) u v with h | h | h | h
 all_goals rw [h,q0x,W0p];grind
theorem Z1f {x y u v:Vl} (hx:canV x) (hy:canV y) (hu:canV u) (hv:canV v):canV (K0t x y u v):=by
 rcases U0x x y u v with h | h | h | h
 all_goals rw [h];exact Z1h (by assumption) (by assumption)
theorem G1e {x y u v:Vl} (hx:canV x) (hy:canV y) (hu:canV u) (hv:canV v):canV (U0d x y u v):=y0j (Z1f (y0j hy) (y0j hx) hu hv)
def exV (k:Nat) (a b:Vl):Vl:=if k=0 then V0d a b else if k=1 then q0i a b else byV a b
def exQ (k:Nat) (a b:Rat):Rat:=if k=0 then a+b else if k=1 then a-b else a*b
theorem exQ0 (a b:Rat):exQ 0 a b=a+b:=by simp [exQ]
theorem exQ1 (a b:Rat):exQ 1 a b=a-b:=by simp [exQ]
theorem exQ2 (a b:Rat):exQ 2 a b=a*b:=by simp [exQ]
theorem k2q (k:Nat) (a b:Vl):qV (exV k a b)=exQ k (qV a) (qV b):=by
 unfold exV exQ
 split
 · exact V0w a b
 · split
   · exact Y0w a b
   · exact q0x a b
theorem Z1g (k:Nat) {a b:Vl} (ha:canV a) (hb:canV b):canV (exV k a b):=by
 unfold exV
 split
 · exact G0w ha hb
 · split
   · exact G0x ha hb
   · exact Z1h ha hb
def Z0b (p:Int):Bool:=decide (8≤p)&&decide (p≤256)
def U0j (k:Nat) (a b:Nm) (p:Int) (up:Bool):Nm×Int:=if Q0j a=true∧Q0j b=true∧Z0b p=true then numV (Q0r (exV k (ofN a) (ofN b)) p.toNat up) else(default,1)
def strN (k:Nat) (a b:Nm):Nm×Int:=if Q0j a=true∧Q0j b=true then numV (exV k (ofN a) (ofN b)) else(default,1)
def X0f (x:Nm) (k:Int):Nm×Int:=if Q0j x=true then(if x.w= [] then(x,0) else if k< -131072∨131072<k then(default,2) else numV ⟨x.neg,valW x.w,x.exp+k⟩) else(default,1)
def Y0f (lo hi:Vl):Ivl×Int:=if (numV lo).2=0∧(numV hi).2=0 then(⟨(numV lo).1,(numV hi).1⟩,0) else(default,2)
def loV (k:Nat) (x y u v:Vl):Vl:=if k=0 then V0d x u else if k=1 then q0i x v else K0t x y u v
def hiV (k:Nat) (x y u v:Vl):Vl:=if k=0 then V0d y v else if k=1 then q0i y u else U0d x y u v
def opI (k:Nat) (a b:Ivl) (p:Int):Ivl×Int:=
 if Q0i a=true∧Q0i b=true∧Z0b p=true then Y0f (Q0r (loV k (ofN a.lo) (ofN a.hi) (ofN b.lo) (ofN b.hi)) p.toNat false) (Q0r (hiV k (ofN a.lo) (ofN a.hi) (ofN b.lo) (ofN b.hi)) p.toNat true) else(default,1)
theorem loV0 (x y u v:Vl):loV 0 x y u v=V0d x u:=by simp [loV]
theorem hiV0 (x y u v:Vl):hiV 0 x y u v=V0d y v:=by simp [hiV]
theorem X3b (k:Nat) {x y u v:Vl} (hx:qV x≤qV y) (hu:qV u≤qV v) {X U:Rat} (h1:qV x≤X) (h2:X≤qV y) (h3:qV u≤U) (h4:U≤qV v):qV (loV k x y u v)≤exQ k X U:=by
 unfold loV exQ
 split
 · rw [V0w];grind
 · split
   · rw [Y0w];grind
   · exact q0j hx hu h1 h2 h3 h4
theorem X3c (k:Nat) {x y u v:Vl} (hx:qV x≤qV y) (hu:qV u≤qV v) {X U:Rat} (h1:qV x≤X) (h2:X≤qV y) (h3:qV u≤U) (h4:U≤qV v):exQ k X U≤qV (hiV k x y u v):=by
 unfold hiV exQ
 split
 · rw [V0w];grind
 · split
   · rw [Y0w];grind
   · exact x0l hx hu h1 h2 h3 h4
theorem W1g (k:Nat) {x y u v:Vl} (hx:canV x) (hy:canV y) (hu:canV u) (hv:canV v):canV (loV k x y u v):=by
 unfold loV
 split
 · exact G0w hx hu
 · split
   · exact G0x hx hv
   · exact Z1f hx hy hu hv
theorem W1h (k:Nat) {x y u v:Vl} (hx:canV x) (hy:canV y) (hu:canV u) (hv:canV v):canV (hiV k x y u v):=by
 unfold hiV
 split
 · exact G0w hy hv
 · split
   · exact G0x hy hu
   · exact G1e hx hy hu hv
theorem G0e {x:Ivl} (h:Q0i x=true):qV (ofN x.lo)≤qV (ofN x.hi):=cmpN_le.1 (Q0p h).2.2
theorem v0i {lo hi:Vl} (h1:canV lo) (h2:canV hi) (h:qV lo≤qV hi):Q0i (Y0f lo hi).1=true:=by
 unfold Y0f
 split
 · rename_i hh
   exact K0v (J0p (x0w h1)) (J0p (x0w h2)) (cmpN_le.2 (by rw [(K0c h1 hh.1).2,(K0c h2 hh.2).2];exact h))
 · decide
theorem W3a (k:Nat) {a b:Ivl} (ha:Q0i a=true) (hb:Q0i b=true) (p:Nat):
 qV (Q0r (loV k (ofN a.lo) (ofN a.hi) (ofN b.lo) (ofN b.hi)) p false)≤qV (Q0r (hiV k (ofN a.lo) (ofN a.hi) (ofN b.lo) (ofN b.hi)) p true):=by
 have h1:=Y0m (loV k (ofN a.lo) (ofN a.hi) (ofN b.lo) (ofN b.hi)) p
 have h2:=G0d (hiV k (ofN a.lo) (ofN a.hi) (ofN b.lo) (ofN b.hi)) p
 have h3:=X3b k (G0e ha) (G0e hb) Rat.le_refl (G0e ha) Rat.le_refl (G0e hb)
 have h4:=X3c k (G0e ha) (G0e hb) Rat.le_refl (G0e ha) Rat.le_refl (G0e hb)
 grind
theorem canI {x:Ivl} (h:Q0i x=true):canV (ofN x.lo)∧canV (ofN x.hi):=⟨J0g (Q0p h).1,J0g (Q0p h).2.1⟩
theorem Y0q (k:Nat) (a b:Ivl) (p:Int):Q0i (opI k a b p).1=true:=by
 unfold opI
 split
 · rename_i h
   have ca:=canI h.1
   have cb:=canI h.2.1
   exact v0i (Z0j (W1g k ca.1 ca.2 cb.1 cb.2) _ _) (Z0j (W1h k ca.1 ca.2 cb.1 cb.2) _ _) (W3a k h.1 h.2.1 _)
 · decide
def memI (X:Rat) (a:Ivl):Prop:=qN a.lo≤X∧X≤qN a.hi
end Go.Pv
end
section
/-Exact sums and products of numbers in any form,and how long they get. No program in it. -/
namespace Go.Pv
def bd (n k:Nat) (x:Nm):Prop:=x.w.length≤n∧ -(k:Int)≤x.exp∧x.exp≤k
theorem bd.mono {n k n' k':Nat} {x:Nm} (h:bd n k x) (h1:n≤n') (h2:k≤k'):bd n' k' x:=⟨by have:=h.1;omega,by have:=h.2.1;omega,by have:=h.2.2;omega⟩
theorem X0q {x:Nm} (h:Q0j x=true):bd 64 65536 x:=by
 unfold Q0j at h
 by_cases hw:x.w= []
 · rw [if_pos hw] at h
   simp at h
   exact⟨by rw [hw];simp,by rw [h.2];omega,by rw [h.2];omega⟩
 · rw [if_neg hw] at h
   simp only [Bool.and_eq_true,decide_eq_true_eq] at h
   exact⟨h.1.1.1.2,h.1.2,h.2⟩
theorem k2r (neg:Bool) (e:Int) (m:Nat):qN ⟨neg,e,Q0m m⟩=qM (if neg then -(m:Int) else(m:Int)) e:=by
 unfold qN mant;rw [Z0e]
theorem K3u (b:Nm) (e:Int) (d:Nat) (h:b.exp=e+d):qN b=qM (if b.neg then -((valW b.w*2^d:Nat):Int) else((valW b.w*2^d:Nat):Int)) e:=by
 unfold qN
 rw [h,←W0h]
 congr 1
 unfold mant
 cases b.neg
 · simp
 · simp [Int.neg_mul]
theorem W3x (a b:Nm) (d:Nat) (h:b.exp=a.exp+d) (hn:a.neg=b.neg):qN ⟨a.neg,a.exp,Q0m (valW a.w+valW b.w*2^d)⟩=qN a+qN b:=by
 rw [k2r,K3u b a.exp d h,show qN a=qM (mant a) a.exp from rfl,←z1y]
 congr 1
 unfold mant
 rw [←hn]
 cases a.neg<;>simp<;>omega
theorem y2j (a b:Nm) (d:Nat) (h:b.exp=a.exp+d) (hn:a.neg≠b.neg) (hle:valW b.w*2^d≤valW a.w):qN ⟨a.neg,a.exp,Q0m (valW a.w-valW b.w*2^d)⟩=qN a+qN b:=by
 rw [k2r,K3u b a.exp d h,show qN a=qM (mant a) a.exp from rfl,←z1y]
 congr 1
 unfold mant
 generalize valW b.w*2^d=x at*
 cases ha:a.neg<;>cases hb:b.neg<;>simp [ha,hb] at hn⊢ <;>omega
theorem y2i (a b:Nm) (d:Nat) (h:b.exp=a.exp+d) (hn:a.neg≠b.neg) (hle:valW a.w≤valW b.w*2^d):qN ⟨b.neg,a.exp,Q0m (valW b.w*2^d-valW a.w)⟩=qN a+qN b:=by
 rw [k2r,K3u b a.exp d h,show qN a=qM (mant a) a.exp from rfl,←z1y]
 congr 1
 unfold mant
 generalize valW b.w*2^d=x at*
 cases ha:a.neg<;>cases hb:b.neg<;>simp [ha,hb] at hn⊢ <;>omega
theorem z1e {x:Nm} (h:sgnN x=0):qN x=0:=by
 have:mant x=0:=by
  rw [Q1a] at h
  unfold sgn at h
  split at h
  · assumption
  · split at h<;>omega
 unfold qN;rw [this,K0b]
theorem x3y (a b:Nm) (n k d:Nat) (ha:bd n k a) (hb:bd n k b) (hd:d≤2*k):(Q0m (valW a.w+valW b.w*2^d)).length≤n+k+1:=by
 refine X0y ?_
 have h1:=J0t a.w
 have h2:=J0t b.w
 have hp: ∀l:Nat,l≤n→18446744073709551616^l≤2^(64*n):=fun l hl=>by rw [w0q];exact Nat.pow_le_pow_right (by decide) (by omega)
 have h3:valW a.w<2^(64*n+d):=Nat.lt_of_lt_of_le h1 (Nat.le_trans (hp _ ha.1) (Nat.pow_le_pow_right (by decide) (by omega)))
 have h4:valW b.w*2^d<2^(64*n+d):=by
  rw [Nat.pow_add]
  exact Nat.mul_lt_mul_of_pos_right (Nat.lt_of_lt_of_le h2 (hp _ hb.1)) (Nat.two_pow_pos d)
 have h5:18446744073709551616^(n+k+1)=2^(64*(n+k+1)):=w0q _
 have h6:2^(64*n+d+1)≤2^(64*(n+k+1)):=Nat.pow_le_pow_right (by decide) (by omega)
 have h7:2^(64*n+d+1)=2^(64*n+d)*2:=Nat.pow_succ ..
 rw [h5]
 omega
theorem z2g (a b:Nm) (n k d m:Nat) (ha:bd n k a) (hb:bd n k b) (hd:d≤2*k) (hm:m≤valW a.w+valW b.w*2^d):(Q0m m).length≤n+k+1:=Nat.le_trans (W0d hm) (x3y a b n k d ha hb hd)
theorem z3a (a b:Nm):qN ⟨a.neg !=b.neg,a.exp+b.exp,Q0m (valW a.w*valW b.w)⟩=qN a*qN b:=by
 rw [k2r]
 show _=qM (mant a) a.exp*qM (mant b) b.exp
 rw [←Z2e]
 congr 1
 unfold mant
 cases a.neg<;>cases b.neg<;>simp [Int.neg_mul,Int.mul_neg]
theorem W3b (a b:Nm) (n k m l:Nat) (ha:bd n k a) (hb:bd m l b):bd (n+m) (k+l) ⟨a.neg !=b.neg,a.exp+b.exp,Q0m (valW a.w*valW b.w)⟩:=by
 refine⟨X0y ?_,?_,?_⟩
 · have h1:=J0t a.w
   have h2:=J0t b.w
   refine Nat.lt_of_lt_of_le (Nat.mul_lt_mul'' h1 h2) ?_
   rw [←Nat.pow_add]
   exact Nat.pow_le_pow_right (by decide) (by have:=ha.1;have:=hb.1;omega)
 · have:=ha.2.1;have:=hb.2.1;simp only;omega
 · have:=ha.2.2;have:=hb.2.2;simp only;omega
end Go.Pv
end
section
/-The right number of words by a power of two,rounded or not. No program in it. -/
namespace Go.Pv
theorem G1j (m:Nat) (h:m≠0):((Q0m m).getD 0 0).toNat % 2=m % 2:=by
 rw [←v0t,Z0e]
theorem z1k (neg:Bool) (m:Nat) (e:Int) (h:m % 2=1):Q0j ⟨neg,e,Q0m m⟩=(decide ((Q0m m).length≤64)&&decide (-65536≤e)&&decide (e≤65536)):=by
 have hw:Q0m m≠ []:=fun e=>by rw [wordsOf_nil] at e;omega
 have h1:((Q0m m).getD 0 0).toNat % 2=1:=by rw [G1j m (by omega)];exact h
 unfold Q0j
 rw [if_neg hw,Y0u]
 simp only [h1,decide_true,Bool.true_and,Bool.and_true]
def mkX (neg:Bool) (w:List UInt64) (e:Int):Nm×Int:=numV (oddV neg (valW w) e)
theorem w2b {neg:Bool} {w:List UInt64} {e:Int} (h:valW w=0):mkX neg w e=(default,0):=by
 unfold mkX;rw [h,G0h];rfl
theorem H2g {neg:Bool} {w:List UInt64} {e:Int} (h:valW w≠0) (h2:65536<e∨e< -65536-((tz (valW w):Nat):Int)):mkX neg w e=(default,2):=by
 unfold mkX oddV
 rw [if_neg h]
 have h1:valW w/2^tz (valW w)≠0:=by have:=U0u (valW w) h;omega
 unfold numV
 rw [if_neg h1,if_pos (by simp only;omega)]
theorem w2c {neg:Bool} {w:List UInt64} {e:Int} (h:valW w≠0):mkX neg w e=if Q0j ⟨neg,e+((tz (valW w):Nat):Int),Q0m (valW w/2^tz (valW w))⟩=true then(⟨neg,e+((tz (valW w):Nat):Int),Q0m (valW w/2^tz (valW w))⟩,0) else(default,2):=by
 have h0:=U0u (valW w) h
 rw [z1k _ _ _ h0]
 unfold mkX oddV
 rw [if_neg h]
 unfold numV
 rw [if_neg (by simp only;omega)]
 simp only
 by_cases hc:64<(Q0m (valW w/2^tz (valW w))).length∨e+((tz (valW w):Nat):Int)< -65536∨65536<e+((tz (valW w):Nat):Int)
 · rw [if_pos hc,if_neg]
   simp only [Bool.and_eq_true,decide_eq_true_eq];omega
 · rw [if_neg hc,if_pos]
   simp only [Bool.and_eq_true,decide_eq_true_eq];omega
theorem V3v (x:Nm):mkX x.neg x.w x.exp=numV (ofX x):=rfl
def rndX (x:Nm) (p:Nat) (up:Bool):Nm:=
 if X0l x.w≤p then x else⟨x.neg,x.exp+((X0l x.w-p:Nat):Int),Q0m (valW x.w/2^(X0l x.w-p)+(if tz (valW x.w)<X0l x.w-p∧up≠x.neg then 1 else 0))⟩
theorem k2f (x:Nm) (p:Nat) (up:Bool) (hp:0<p):ofX (rndX x p up)=Q0r (ofX x) p up:=by
 unfold rndX
 show _=Q0r (oddV x.neg (valW x.w) x.exp) p up
 rw [K2r _ _ _ _ _ hp]
 unfold X0l
 split
 · rfl
 · unfold ofX
   rw [Z0e]
theorem K3r (x:Nm) (p:Nat) (up:Bool) (n k:Nat) (h:bd n k x):bd (n+1) (k+64*n) (rndX x p up):=by
 have hb:=W0u x.w
 have hl:=h.1
 unfold rndX
 split
 · exact h.mono (by omega) (by omega)
 · refine⟨?_,?_,?_⟩
   · refine X0y ?_
     have h1:=J0t x.w
     have h2:valW x.w/2^(X0l x.w-p)≤valW x.w:=Nat.div_le_self _ _
     have h3:18446744073709551616^x.w.length≤18446744073709551616^n:=Nat.pow_le_pow_right (by decide) hl
     have h4:18446744073709551616^(n+1)=18446744073709551616^n*18446744073709551616:=Nat.pow_succ ..
     split<;>omega
   · have:=h.2.1;simp only;omega
   · have:=h.2.2;simp only;omega
end Go.Pv
end
section
/-Intervals:has,meet,middle,width. No program in it. -/
namespace Go.Pv
def hasI (a:Ivl) (x:Nm):Bool:=Q0i a&&Q0j x&&decide (cmpN a.lo x≤0)&&decide (cmpN x a.hi≤0)
def w1w (lo hi:Nm):Ivl×Int:=if Q0i ⟨lo,hi⟩=true then(⟨lo,hi⟩,0) else(default,1)
def K4n (v:Vl):Vl:=if v.m=0 then v else { v with e:=v.e-1 }
def midV (a:Ivl) (p:Nat):Vl:=Q0r (K4n (V0d (ofN a.lo) (ofN a.hi))) p false
def midI (a:Ivl) (p:Int):Nm×Int:=if Q0i a=true∧Z0b p=true then(if V0m (midV a p.toNat) (ofN a.lo)<0 then(a.lo,0) else numV (midV a p.toNat)) else(default,1)
def K0u (a:Ivl) (p:Int):Nm×Int:=if Q0i a=true∧Z0b p=true then numV (Q0r (q0i (ofN a.hi) (ofN a.lo)) p.toNat true) else(default,1)
theorem z3l :p2 1=2:=by
 have:=Z2n 1
 rw [←show((1:Nat):Int)=1 from rfl,←this];rfl
theorem U2z (s e:Int):qM s (e-1)*2=qM s e:=by
 unfold qM
 have h:=k0f (e-1) 1
 rw [show e-1+1=e from by omega,z3l] at h
 rw [h];grind
theorem K3v (x:Nm):qN { x with exp:=x.exp-1 } *2=qN x:=U2z (mant x) x.exp
theorem K3b {a b:Rat} (h:a*2=b*2):a=b:=by grind
theorem U2v (a b:Nm):qN (Z0r a b)≤qN a∧qN (Z0r a b)≤qN b∧(qN (Z0r a b)=qN a∨qN (Z0r a b)=qN b):=by
 have h1:=cmpN_le.1 (U1k a b)
 have h2:=cmpN_le.1 (V2v a b)
 refine⟨h1,h2,?_⟩
 unfold Z0r
 split
 · exact .inr rfl
 · exact .inl rfl
theorem U2w (a b:Nm):qN a≤qN (Z0q a b)∧qN b≤qN (Z0q a b)∧(qN (Z0q a b)=qN a∨qN (Z0q a b)=qN b):=by
 have h1:=cmpN_le.1 (U1p a b)
 have h2:=cmpN_le.1 (W2a a b)
 refine⟨h1,h2,?_⟩
 unfold Z0q
 split
 · exact .inr rfl
 · exact .inl rfl
theorem W2d {a b:Ivl} (ha:Q0i a=true) (hb:Q0i b=true) {p1 p2 p3 p4:Nm} (h1:qN p1=qN a.lo*qN b.lo) (h2:qN p2=qN a.lo*qN b.hi) (h3:qN p3=qN a.hi*qN b.lo) (h4:qN p4=qN a.hi*qN b.hi):
 ofX (Z0r (Z0r (Z0r p1 p2) p3) p4)=loV 2 (ofN a.lo) (ofN a.hi) (ofN b.lo) (ofN b.hi):=by
 have ca:=canI ha
 have cb:=canI hb
 have la:=G0e ha
 have lb:=G0e hb
 show _=K0t (ofN a.lo) (ofN a.hi) (ofN b.lo) (ofN b.hi)
 refine Z2y (Z1f ca.1 ca.2 cb.1 cb.2) ?_
 have r1:=q0j la lb Rat.le_refl la Rat.le_refl lb
 have r2:=q0j la lb Rat.le_refl la lb Rat.le_refl
 have r3:=q0j la lb la Rat.le_refl Rat.le_refl lb
 have r4:=q0j la lb la Rat.le_refl lb Rat.le_refl
 have rr: ∀v w:Vl,K0t (ofN a.lo) (ofN a.hi) (ofN b.lo) (ofN b.hi)=byV v w→qV (K0t (ofN a.lo) (ofN a.hi) (ofN b.lo) (ofN b.hi))=qV v*qV w:=fun v w e=>by rw [e,q0x]
 have r5:qV (K0t (ofN a.lo) (ofN a.hi) (ofN b.lo) (ofN b.hi))=qV (ofN a.lo)*qV (ofN b.lo)∨qV (K0t (ofN a.lo) (ofN a.hi) (ofN b.lo) (ofN b.hi))=qV (ofN a.lo)*qV (ofN b.hi)∨qV (K0t (ofN a.lo) (ofN a.hi) (ofN b.lo) (ofN b.hi))=qV (ofN a.hi)*qV (ofN b.lo)∨qV (K0t (ofN a.lo) (ofN a.hi) (ofN b.lo) (ofN b.hi))=qV (ofN a.hi)*qV (ofN b.hi):=by
  rcases U0x (ofN a.lo) (ofN a.hi) (ofN b.lo) (ofN b.hi) with e | e | e | e
  · exact .inl (rr _ _ e)
  · exact .inr (.inl (rr _ _ e))
  · exact .inr (.inr (.inl (rr _ _ e)))
  · exact .inr (.inr (.inr (rr _ _ e)))
 generalize qV (K0t (ofN a.lo) (ofN a.hi) (ofN b.lo) (ofN b.hi))=V at*
 simp only [Z0w] at*
 rw [←h1] at r1 r5
 rw [←h2] at r2 r5
 rw [←h3] at r3 r5
 rw [←h4] at r4 r5
 obtain⟨s1,s2,s3⟩:=U2v p1 p2
 obtain⟨t1,t2,t3⟩:=U2v (Z0r p1 p2) p3
 obtain⟨u1,u2,u3⟩:=U2v (Z0r (Z0r p1 p2) p3) p4
 clear h1 h2 h3 h4 la lb rr
 grind
theorem H1v {a b:Ivl} (ha:Q0i a=true) (hb:Q0i b=true) {p1 p2 p3 p4:Nm} (h1:qN p1=qN a.lo*qN b.lo) (h2:qN p2=qN a.lo*qN b.hi) (h3:qN p3=qN a.hi*qN b.lo) (h4:qN p4=qN a.hi*qN b.hi):
 ofX (Z0q (Z0q (Z0q p1 p2) p3) p4)=hiV 2 (ofN a.lo) (ofN a.hi) (ofN b.lo) (ofN b.hi):=by
 have ca:=canI ha
 have cb:=canI hb
 have la:=G0e ha
 have lb:=G0e hb
 show _=U0d (ofN a.lo) (ofN a.hi) (ofN b.lo) (ofN b.hi)
 refine Z2y (G1e ca.1 ca.2 cb.1 cb.2) ?_
 have r1:=x0l la lb Rat.le_refl la Rat.le_refl lb
 have r2:=x0l la lb Rat.le_refl la lb Rat.le_refl
 have r3:=x0l la lb la Rat.le_refl Rat.le_refl lb
 have r4:=x0l la lb la Rat.le_refl lb Rat.le_refl
 have r5:=Q1s (ofN a.lo) (ofN a.hi) (ofN b.lo) (ofN b.hi)
 generalize qV (U0d (ofN a.lo) (ofN a.hi) (ofN b.lo) (ofN b.hi))=V at*
 simp only [Z0w] at*
 rw [←h1] at r1 r5
 rw [←h2] at r2 r5
 rw [←h3] at r3 r5
 rw [←h4] at r4 r5
 obtain⟨s1,s2,s3⟩:=U2w p1 p2
 obtain⟨t1,t2,t3⟩:=U2w (Z0q p1 p2) p3
 obtain⟨u1,u2,u3⟩:=U2w (Z0q (Z0q p1 p2) p3) p4
 clear h1 h2 h3 h4 la lb
 grind
end Go.Pv
end
section
/-What boxes are reckoned to. No program in it. -/
namespace Go.Pv
def opB (k:Nat) (a b:List Ivl) (p:Int):List Ivl×Int:=if rightB a=true∧rightB b=true∧a.length=b.length∧Z0b p=true then V1w (fun i x=>opI k x (b.getD i default) p) 0 a [] else([],1)
def H0d (x:Ivl) (b:List Ivl) (p:Int):List Ivl×Int:=if rightB b=true∧Q0i x=true∧Z0b p=true then V1w (fun _ y=>opI 2 x y p) 0 b [] else([],1)
def midB (b:List Ivl) (p:Int):List Nm×Int:=if rightB b=true∧Z0b p=true then V1w (fun _ a=>midI a p) 0 b [] else([],1)
def hasB (b:List Ivl) (q:List Nm):Bool:=rightB b&&decide (q.length=b.length)&&(List.range b.length).all fun i=>hasI (b.getD i default) (q.getD i default)
def ofB (q:List Nm):List Ivl:=q.map fun x=>⟨x,x⟩
def W0l (b:List Ivl) (p:Int):List Nm×Int:=if rightB b=true∧Z0b p=true then V1w (fun _ a=>K0u a p) 0 b [] else([],1)
def amax (l:List Nm):Nat→Nat
 | 0=>0
 | n+1=>if cmpR (l.getD n default) (l.getD (amax l n) default)>0 then n else amax l n
def G4d (b:List Ivl) (p:Int):Nm×Int:=if (W0l b p).2=0 then((W0l b p).1.getD (amax (W0l b p).1 b.length) default,0) else(default,(W0l b p).2)
def H0w (a:Ivl) (p:Int):Ivl×Int:=
 if (K0u a p).2≠0 then(default,(K0u a p).2) else if (X0f (K0u a p).1 (-2)).2≠0 then(default,(X0f (K0u a p).1 (-2)).2) else
 if (U0j 1 a.lo (X0f (K0u a p).1 (-2)).1 p false).2≠0∨(U0j 0 a.hi (X0f (K0u a p).1 (-2)).1 p true).2≠0 then(default,2) else
 (⟨(U0j 1 a.lo (X0f (K0u a p).1 (-2)).1 p false).1,(U0j 0 a.hi (X0f (K0u a p).1 (-2)).1 p true).1⟩,0)
def v0n (b:List Ivl) (p:Int):List Ivl×Int:=if rightB b=true∧Z0b p=true then V1w (fun _ a=>H0w a p) 0 b [] else([],1)
def G4c (b:List Ivl) (at':Nat) (x:Ivl):List Ivl:=b.set at' x
def U4e (b:List Ivl) (p:Int):(List Ivl×List Ivl)×Int:=
 if (W0l b p).2≠0 then(([],[]),(W0l b p).2) else
 if (midI (b.getD (amax (W0l b p).1 b.length) default) p).2≠0 then(([],[]),(midI (b.getD (amax (W0l b p).1 b.length) default) p).2) else
 ((b.set (amax (W0l b p).1 b.length) ⟨(b.getD (amax (W0l b p).1 b.length) default).lo,(midI (b.getD (amax (W0l b p).1 b.length) default) p).1⟩,
  b.set (amax (W0l b p).1 b.length) ⟨(midI (b.getD (amax (W0l b p).1 b.length) default) p).1,(b.getD (amax (W0l b p).1 b.length) default).hi⟩),0)
theorem v1a (a:Ivl) (p:Int):Q0j (K0u a p).1=true:=by
 unfold K0u
 split
 · rename_i h
   have c:=canI h.1
   exact J0p (x0w (Z0j (G0x c.2 c.1) _ _))
 · exact X0v
theorem z1f (x:Nm) (k:Int):Q0j (X0f x k).1=true:=by
 unfold X0f
 split
 · rename_i h
   split
   · exact h
   · split
     · exact X0v
     · refine J0p ?_
       have h1:=G2t h
       rcases h1 with h1 | h1
       · exact .inl h1
       · exact .inr h1
 · exact X0v
theorem J1z (k:Nat) (a b:Nm) (p:Int) (up:Bool):Q0j (U0j k a b p up).1=true:=by
 unfold U0j
 split
 · rename_i h
   exact J0p (x0w (Z0j (Z1g k (J0g h.1) (J0g h.2.1)) _ _))
 · exact X0v
theorem H2a (v:Vl):(numV v).2=0∨(numV v).2=2:=by
 unfold numV
 split
 · exact .inl rfl
 · split
   · exact .inr rfl
   · exact .inl rfl
end Go.Pv
end
section
/-How long values get. No program in it. -/
namespace Go.Pv
def bdV (n k:Nat) (v:Vl):Prop:=Q0f v.m≤n∧ -(k:Int)≤v.e∧v.e≤k
theorem bdV.mono {n k n' k':Nat} {v:Vl} (h:bdV n k v) (h1:n≤n') (h2:k≤k'):bdV n' k' v:=⟨by have:=h.1;omega,by have:=h.2.1;omega,by have:=h.2.2;omega⟩
theorem Y0g {x:Nm} (h:Q0j x=true):bdV 4096 65536 (ofN x):=by
 have hb:=X0q h
 have h1:=W0u x.w
 exact⟨by show Q0f (valW x.w)≤_;unfold X0l at h1;have:=hb.1;omega,hb.2.1,hb.2.2⟩
theorem W1l {neg:Bool} {m:Nat} {e:Int} {n k:Nat} (h1:Q0f m≤n) (h2: -(k:Int)≤e) (h3:e≤k):bdV n (k+n) (oddV neg m e):=by
 unfold oddV
 split
 · exact⟨by rw [Z0y];omega,by simp only;omega,by simp only;omega⟩
 · have ht:=z0x m
   have hl:=X0p (Nat.div_le_self m (2^tz m))
   exact⟨by simp only;omega,by simp only;omega,by simp only;omega⟩
theorem J1g {a b:Vl} {n k:Nat} (ha:bdV n k a) (hb:bdV n k b):bdV (n+2*k+1) (n+3*k+1) (V0d a b):=by
 unfold V0d
 split
 · exact hb.mono (by omega) (by omega)
 · split
   · exact ha.mono (by omega) (by omega)
   · have h1:=V0e a.m (a.e-min a.e b.e).toNat
     have h2:=V0e b.m (b.e-min a.e b.e).toNat
     have h3:=U0s (a.m*2^(a.e-min a.e b.e).toNat) (b.m*2^(b.e-min a.e b.e).toNat)
     obtain⟨a1,a2,a3⟩:=ha
     obtain⟨b1,b2,b3⟩:=hb
     have hk1:(a.e-min a.e b.e).toNat≤2*k:=by omega
     have hk2:(b.e-min a.e b.e).toNat≤2*k:=by omega
     have hm:(X0b a*2^(a.e-min a.e b.e).toNat+X0b b*2^(b.e-min a.e b.e).toNat).natAbs≤a.m*2^(a.e-min a.e b.e).toNat+b.m*2^(b.e-min a.e b.e).toNat:=by
      have e1: ∀(v:Vl) (j:Nat),(X0b v*2^j).natAbs=v.m*2^j:=fun v j=>by
       rw [Int.natAbs_mul,Int.natAbs_pow]
       congr 1
       unfold X0b;cases v.neg<;>simp
      have:=Int.natAbs_add_le (X0b a*2^(a.e-min a.e b.e).toNat) (X0b b*2^(b.e-min a.e b.e).toNat)
      rw [e1,e1] at this
      exact this
     have h4:=X0p hm
     have:=W1l (neg:=decide (X0b a*2^(a.e-min a.e b.e).toNat+X0b b*2^(b.e-min a.e b.e).toNat<0)) (m:=(X0b a*2^(a.e-min a.e b.e).toNat+X0b b*2^(b.e-min a.e b.e).toNat).natAbs) (e:=min a.e b.e) (n:=n+2*k+1) (k:=k) (by omega) (by omega) (by omega)
     exact this.mono (by omega) (by omega)
theorem y0m {a:Vl} {n k:Nat} (ha:bdV n k a):bdV n k (J0x a):=by
 unfold bdV;rw [y0x,y0y];exact ha
theorem W1m {a b:Vl} {n k m l:Nat} (ha:bdV n k a) (hb:bdV m l b):bdV (n+m) (k+l) (byV a b):=by
 unfold byV
 split
 · exact⟨by rw [Z0y];omega,by simp only;omega,by simp only;omega⟩
 · refine⟨?_,?_,?_⟩
   · have h:Q0f (a.m*b.m)≤Q0f a.m+Q0f b.m:=by
      rw [bitlen_le_iff,Nat.pow_add]
      exact Nat.mul_lt_mul'' (Q0z _) (Q0z _)
     have:=ha.1;have:=hb.1;simp only;omega
   · have:=ha.2.1;have:=hb.2.1;simp only;omega
   · have:=ha.2.2;have:=hb.2.2;simp only;omega
theorem q0s {a:Vl} {n k:Nat} (ha:bdV n k a) (p:Nat) (up:Bool):bdV (n+1) (k+2*n+1) (Q0r a p up):=by
 unfold Q0r
 split
 · exact ha.mono (by omega) (by omega)
 · have h1:=ha.1
   have h2:=X0p (Nat.div_le_self a.m (2^(Q0f a.m-p)))
   have h3:Q0f (a.m/2^(Q0f a.m-p)+(if a.m % 2^(Q0f a.m-p)≠0∧up≠a.neg then 1 else 0))≤n+1:=by
    have b1:Q0f 1=1:=rfl
    have h:=U0s (a.m/2^(Q0f a.m-p)) 1
    split
    · by_cases hq:Q0f (a.m/2^(Q0f a.m-p))=0
      · have hn:0<Q0f a.m:=by rename_i hh _;omega
        omega
      · omega
    · rw [Nat.add_zero];omega
   have:=W1l (neg:=a.neg) (e:=a.e+((Q0f a.m-p:Nat):Int)) (k:=k+n) h3 (by have:=ha.2.1;omega) (by have:=ha.2.2;omega)
   exact this.mono (by omega) (by omega)
theorem k1t {x y u v:Vl} {n k m l:Nat} (hx:bdV n k x) (hy:bdV n k y) (hu:bdV m l u) (hv:bdV m l v):bdV (n+m) (k+l) (K0t x y u v):=by
 rcases U0x x y u v with h | h | h | h
 all_goals rw [h];exact W1m (by assumption) (by assumption)
theorem x2p {x y u v:Vl} {n k m l:Nat} (hx:bdV n k x) (hy:bdV n k y) (hu:bdV m l u) (hv:bdV m l v):bdV (n+m) (k+l) (U0d x y u v):=y0m (k1t (y0m hy) (y0m hx) hu hv)
theorem K0o {v:Vl} {n k:Nat} (h:bdV n k v) (hn:n≤1000000000000):(Q0c v.m).length≤1000000000000:=by
 have:=Z0n v.m
 have:=h.1
 omega
end Go.Pv
end
section
/-A number of an interval,by parts of 8. No program in it. -/
namespace Go.Pv
def G0t (v:Vl):Vl:=if X0n v≠0 then { v with e:=v.e-3 } else v
def inV (a:Ivl) (k:Nat):Vl:=G0t (V0d (byV (ofN a.lo) (oddV false (8-k) 0)) (byV (ofN a.hi) (oddV false k 0)))
def inN (a:Ivl) (k:Nat):Nm:=if k=0 then a.lo else if k=8 then a.hi else if (numV (inV a k)).2≠0 then a.lo else(numV (inV a k)).1
theorem v2k :p2 3=8:=by
 have:=Z2n 3
 rw [←show((3:Nat):Int)=3 from rfl,←this];rfl
theorem G2a (s e:Int):qM s (e-3)*8=qM s e:=by
 unfold qM
 have h:=k0f (e-3) 3
 rw [show e-3+3=e from by omega,v2k] at h
 rw [h];grind
theorem K2l {v:Vl} (h:X0n v=0):v.m=0:=by
 unfold X0n at h
 split at h
 · assumption
 · split at h<;>omega
theorem U2x (v:Vl):qV (G0t v)*8=qV v:=by
 unfold G0t
 split
 · exact G2a (X0b v) v.e
 · rename_i h
   rw [w0m (K2l (Classical.not_not.1 h))];grind
theorem Q2b {v:Vl} (h:canV v):canV (G0t v):=by
 unfold G0t
 split
 · rename_i h0
   rcases h with h | rfl
   · exact .inl h
   · exact absurd rfl h0
 · exact h
theorem G1g {v:Vl} {n k:Nat} (h:bdV n k v):bdV n (k+3) (G0t v):=by
 unfold G0t
 split
 · exact⟨h.1,by have:=h.2.1;simp only;omega,by have:=h.2.2;simp only;omega⟩
 · exact h.mono (by omega) (by omega)
theorem H1a (k:Nat):qV (oddV false k 0)=(k:Rat):=by
 rw [x0b,if_neg (by simp)]
 unfold qM
 rw [w1l]
 show((k:Int):Rat)*1=_
 rw [Rat.mul_one];rfl
theorem y0l {k:Nat} (h:k≤8):bdV 4 4 (oddV false k 0):=by
 have hb:Q0f k≤4:=bitlen_le_iff.2 (by omega)
 have:=W1l (neg:=false) (m:=k) (e:=0) (n:=4) (k:=0) hb (by omega) (by omega)
 exact this.mono (by omega) (by omega)
theorem v3c {a:Ivl} {n m k:Nat} (h1:bdV n m (ofN a.lo)) (h2:bdV n m (ofN a.hi)) (hk:k≤8):bdV (n+2*m+13) (n+3*m+20) (inV a k):=by
 have b1:=W1m h1 (y0l (k:=8-k) (by omega))
 have b2:=W1m h2 (y0l hk)
 exact(G1g (J1g b1 b2)).mono (by omega) (by omega)
theorem Q3j (k:Nat) (h:k≤8):((8-k:Nat):Rat)=8-(k:Rat):=by
 have:((8-k:Nat):Int)=8-(k:Int):=by omega
 show(((8-k:Nat):Int):Rat)=8-((k:Int):Rat)
 rw [this,Rat.intCast_sub];rfl
theorem W3i {a:Ivl} {k:Nat} (ha:Q0i a=true) (hk:k≤8):memI (qV (inV a k)) a:=by
 have h:=G0e ha
 rw [Z0w,Z0w] at h
 have e:=U2x (V0d (byV (ofN a.lo) (oddV false (8-k) 0)) (byV (ofN a.hi) (oddV false k 0)))
 rw [V0w,q0x,q0x,H1a,H1a,Z0w,Z0w,Q3j k hk] at e
 have k0:(0:Rat)≤(k:Rat):=Rat.natCast_nonneg
 have k8:(k:Rat)≤8:=by
  have:=Rat.natCast_le_natCast.2 hk
  exact this
 have a1:=J0d (a:=qN a.hi-qN a.lo) (b:=(k:Rat)) (by grind) k0
 have a2:=J0d (a:=qN a.hi-qN a.lo) (b:=8-(k:Rat)) (by grind) (by grind)
 unfold inV
 generalize qV (G0t (V0d (byV (ofN a.lo) (oddV false (8-k) 0)) (byV (ofN a.hi) (oddV false k 0))))=x at*
 exact⟨by grind,by grind⟩
theorem Q2a {a:Ivl} {k:Nat} (ha:Q0i a=true):canV (inV a k):=by
 have c:=canI ha
 exact Q2b (G0w (Z1h c.1 (H0o _ _ _)) (Z1h c.2 (H0o _ _ _)))
theorem V1d {a:Ivl} (k:Nat) (ha:Q0i a=true):Q0j (inN a k)=true:=by
 have h:=Q0p ha
 unfold inN
 split
 · exact h.1
 · split
   · exact h.2.1
   · split
     · exact h.1
     · exact J0p (x0w (Q2a ha))
theorem y1c {a:Ivl} {k:Nat} (ha:Q0i a=true) (hk:k≤8):memI (qN (inN a k)) a:=by
 have h:=G0e ha
 rw [Z0w,Z0w] at h
 unfold inN
 split
 · exact⟨Rat.le_refl,h⟩
 · split
   · exact⟨h,Rat.le_refl⟩
   · split
     · exact⟨Rat.le_refl,h⟩
     · rename_i hn
       rw [(K0c (Q2a ha) (Classical.not_not.1 hn)).2]
       exact W3i ha hk
theorem x3j {a:Ivl} {n m k:Nat} (ha:Q0i a=true) (h1:bdV n m (ofN a.lo)) (h2:bdV n m (ofN a.hi)) (hk:k≤8):bdV (n+2*m+13) (n+3*m+20) (ofN (inN a k)):=by
 unfold inN
 split
 · exact h1.mono (by omega) (by omega)
 · split
   · exact h2.mono (by omega) (by omega)
   · split
     · exact h1.mono (by omega) (by omega)
     · rename_i hn
       rw [(K0c (Q2a ha) (Classical.not_not.1 hn)).1]
       exact v3c h1 h2 hk
theorem X2p {a:Ivl} {x:Nm} (ha:Q0i a=true) (hx:Q0j x=true) (h:memI (qN x) a):hasI a x=true:=by
 unfold hasI
 rw [ha,hx]
 simp only [Bool.true_and,Bool.and_eq_true,decide_eq_true_eq]
 exact⟨cmpN_le.2 h.1,cmpN_le.2 h.2⟩
theorem X2h {a:Ivl} {x:Nm} (h:hasI a x=true):Q0i a=true∧Q0j x=true∧memI (qN x) a:=by
 unfold hasI at h
 simp only [Bool.and_eq_true,decide_eq_true_eq] at h
 exact⟨h.1.1.1,h.1.1.2,cmpN_le.1 h.1.2,cmpN_le.1 h.2⟩
theorem x1q {v:Vl} {n k:Nat} (h:bdV n k v) (h1:n≤4096) (h2:k≤65536):(numV v).2=0:=by
 unfold numV
 split
 · rfl
 · rw [if_neg]
   have hl:=q0u v.m
   have:=h.1;have:=h.2.1;have:=h.2.2
   omega
end Go.Pv
end
