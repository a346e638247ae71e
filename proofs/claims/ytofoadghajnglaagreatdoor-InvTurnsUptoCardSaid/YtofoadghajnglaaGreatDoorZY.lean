/- Parts of the walk: M23, M24, M25, M26, M27, M28, M29, M30, M31, M32, M33, M34, M35, M36. -/
import Derived.Test.YtofoadghajnglaaGreatDoorZK
set_option linter.unusedVariables false
set_option linter.unusedSimpArgs false
section
/-Exact values and their rounding:what numbers that are not in one form stand for. No program in it. -/
namespace Go.Pv
def ofX (x:Nm):Vl:=oddV x.neg (valW x.w) x.exp
def Z0b (v:Vl) (p:Nat) (up:Bool):Vl:=
 if Q0f v.m≤p then v else
  oddV v.neg (v.m/2^(Q0f v.m-p)+(if v.m % 2^(Q0f v.m-p)≠0∧up≠v.neg then 1 else 0)) (v.e+((Q0f v.m-p:Nat):Int))
theorem Y0s (neg:Bool) (e:Int):oddV neg 0 e=⟨false,0,0⟩:=by rw [oddV,if_pos rfl]
theorem Y1u (neg:Bool) (m k:Nat) (e:Int):oddV neg (m*2^k) e=oddV neg m (e+k):=by
 by_cases h:m=0
 · subst h;rw [Nat.zero_mul,Y0s,Y0s]
 · have hp:m*2^k≠0:=Nat.mul_ne_zero h (Nat.ne_of_gt (Nat.two_pow_pos k))
   obtain⟨q,hq,hm⟩:=w0f m h
   have hmk:m*2^k=2^(tz m+k)*q:=by
    conv=>lhs;rw [hm]
    rw [Nat.pow_add,Nat.mul_right_comm]
   have ht:tz (m*2^k)=tz m+k:=by rw [hmk,G1m _ _ hq]
   unfold oddV
   rw [if_neg h,if_neg hp,ht]
   have e1:m*2^k/2^(tz m+k)=m/2^tz m:=by
    rw [hmk,Nat.mul_div_cancel_left _ (Nat.two_pow_pos _)]
    conv=>rhs;rw [hm]
    rw [G1m _ _ hq,Nat.mul_div_cancel_left _ (Nat.two_pow_pos _)]
   rw [e1]
   congr 1
   omega
theorem Q1x (neg:Bool) (m:Nat) (e:Int) (h:m % 2=1):oddV neg m e=⟨neg,m,e⟩:=by
 rw [oddV,if_neg (by omega),w1a h];simp
theorem x2r (z D q:Nat) (h:D≤z):2^z*q/2^D=q*2^(z-D):=by
 obtain⟨k,rfl⟩: ∃k,z=D+k:=⟨z-D,by omega⟩
 rw [Nat.add_sub_cancel_left,Nat.pow_add,Nat.mul_assoc,Nat.mul_div_cancel_left _ (Nat.two_pow_pos _),Nat.mul_comm]
theorem J3h {x:Nm} (h:Q0h x=true):ofX x=ofN x:=by
 rcases W2s h with h1 | h1
 · exact Q1x _ _ _ h1
 · have h0:valW x.w=0:=h1
   have hw:x.w= []:=by
    refine Classical.byContradiction fun hw=> ?_
    have h2:=h
    unfold Q0h at h2
    rw [if_neg hw] at h2
    simp only [Bool.and_eq_true,decide_eq_true_eq] at h2
    have h3:=j0q x.w
    omega
   have h2:=h
   unfold Q0h at h2
   rw [if_pos hw] at h2
   simp at h2
   unfold ofX ofN
   rw [h0,Y0s,h2.1,h2.2]
theorem X2h (neg:Bool) (m:Nat) (e:Int) (p:Nat) (up:Bool) (hp:0<p):Z0b (oddV neg m e) p up=
 if Q0f m≤p then oddV neg m e else oddV neg (m/2^(Q0f m-p)+(if tz m<Q0f m-p∧up≠neg then 1 else 0)) (e+((Q0f m-p:Nat):Int)):=by
 by_cases h0:m=0
 · subst h0
   rw [if_pos (by rw [X0e];omega),Y0s,Z0b,if_pos (by show Q0f 0≤p;rw [X0e];omega)]
 obtain⟨q,hq,hm⟩:=w0f m h0
 have hq0:q≠0:=by omega
 have e1:oddV neg m e=⟨neg,q,e+tz m⟩:=by
  have:oddV neg (q*2^tz m) e=oddV neg q (e+tz m):=Y1u neg q (tz m) e
  rw [Nat.mul_comm,←hm] at this
  rw [this,Q1x _ _ _ hq]
 have hb:Q0f m=Q0f q+tz m:=by
  have:=V0f q (tz m) hq0
  rw [Nat.mul_comm,←hm] at this
  exact this
 rw [e1]
 unfold Z0b
 simp only
 by_cases h1:Q0f q≤p
 · rw [if_pos h1]
   by_cases h2:Q0f m≤p
   · rw [if_pos h2]
   · rw [if_neg h2,if_neg (by omega),Nat.add_zero]
     have hdiv:m/2^(Q0f m-p)=q*2^(tz m-(Q0f m-p)):=by
      have h:=x2r (tz m) (Q0f m-p) q (by omega)
      rw [←hm] at h;exact h
     rw [hdiv,Y1u,Q1x _ _ _ hq]
     congr 1
     omega
 · rw [if_neg h1,if_neg (show¬Q0f m≤p by omega)]
   have hd:Q0f m-p=tz m+(Q0f q-p):=by omega
   have hdiv:m/2^(Q0f m-p)=q/2^(Q0f q-p):=by
    have h:=Nat.mul_div_cancel_left q (Nat.two_pow_pos (tz m))
    rw [←hm] at h
    rw [hd,Nat.pow_add,←Nat.div_div_eq_div_mul,h]
   have hodd:q % 2^(Q0f q-p)≠0:=by
    intro h
    have hdv:2∣q:=Nat.dvd_trans ⟨2^(Q0f q-p-1),by rw [←Nat.pow_succ'];congr 1;omega⟩ (Nat.dvd_of_mod_eq_zero h)
    omega
   rw [hdiv]
   have hc:(q % 2^(Q0f q-p)≠0∧up≠neg)↔(tz m<Q0f m-p∧up≠neg):=⟨fun h=>⟨by omega,h.2⟩,fun h=>⟨hodd,h.2⟩⟩
   by_cases hh:tz m<Q0f m-p∧up≠neg
   · rw [if_pos hh,if_pos (hc.2 hh)]
     congr 1
     omega
   · rw [if_neg hh,if_neg (fun h=>hh (hc.1 h))]
     congr 1
     omega
end Go.Pv
end
section
/-Exact sums and products,whatever form the numbers have. No program in it. -/
namespace Go.Pv
theorem k1f (neg:Bool) (m:Nat) (e:Int):oddV neg m e=mkV (if neg then -(m:Int) else(m:Int)) e:=by
 by_cases h:m=0
 · subst h
   rw [Y0s]
   unfold mkV
   cases neg<;>simp [Y0s]
 · unfold mkV
   cases neg
   · show oddV false m e=oddV (decide ((m:Int)<0)) (m:Int).natAbs e
     rw [decide_eq_false (by omega),Int.natAbs_natCast]
   · show oddV true m e=oddV (decide (-(m:Int)<0)) (-(m:Int)).natAbs e
     rw [decide_eq_true (by omega),Int.natAbs_neg,Int.natAbs_natCast]
theorem H3y (x:Nm):ofX x=mkV (mant x) x.exp:=by rw [ofX,k1f];rfl
theorem Y2h (s:Int) (k:Nat) (e:Int):mkV (s*2^k) e=mkV s (e+k):=by
 unfold mkV
 have h1:(s*2^k).natAbs=s.natAbs*2^k:=by
  rw [Int.natAbs_mul,Int.natAbs_pow];rfl
 have h2:decide (s*2^k<0)=decide (s<0):=by
  have hp:=two_pow_pos k
  by_cases h:s<0
  · rw [decide_eq_true h,decide_eq_true (Int.mul_neg_of_neg_of_pos h hp)]
  · rw [decide_eq_false h,decide_eq_false (Int.not_lt.2 (Int.mul_nonneg (Int.not_lt.1 h) (Int.le_of_lt hp)))]
 rw [h1,h2,Y1u]
theorem Y2i (s e:Int) (h:s≠0): ∃k:Nat,X0i (mkV s e)*2^k=s∧(mkV s e).e=e+k∧(mkV s e).m≠0:=by
 have h0:s.natAbs≠0:=by omega
 refine⟨tz s.natAbs,?_,?_,?_⟩
 · unfold mkV oddV X0i
   rw [if_neg h0]
   simp only
   have h1:=V1g s.natAbs
   by_cases hs:s<0
   · rw [decide_eq_true hs,if_pos rfl,Int.neg_mul]
     have:((s.natAbs/2^tz s.natAbs:Nat):Int)*2^tz s.natAbs=(s.natAbs:Int):=by
      rw [show((2:Int)^tz s.natAbs)=((2^tz s.natAbs:Nat):Int) from by simp,←Int.natCast_mul,h1]
     rw [this];omega
   · rw [decide_eq_false hs,if_neg (by simp)]
     have:((s.natAbs/2^tz s.natAbs:Nat):Int)*2^tz s.natAbs=(s.natAbs:Int):=by
      rw [show((2:Int)^tz s.natAbs)=((2^tz s.natAbs:Nat):Int) from by simp,←Int.natCast_mul,h1]
     rw [this];omega
 · unfold mkV oddV;rw [if_neg h0]
 · unfold mkV oddV
   rw [if_neg h0]
   have:=W0c s.natAbs h0
   simp only;omega
def byV (a b:Vl):Vl:=if a.m=0∨b.m=0 then⟨false,0,0⟩ else⟨a.neg !=b.neg,a.m*b.m,a.e+b.e⟩
theorem J3j {a b:Nat} (ha:a % 2=1) (hb:b % 2=1):a*b % 2=1:=by rw [Nat.mul_mod,ha,hb]
end Go.Pv
end
section
/-The lowest set bit of a word,and how many noughts lie below it. No program in it. -/
namespace Go.Pv
theorem x1k : ∀(k a b:Nat),a+b+1=2^k→a&&&b=0
 | 0,a,b,h=>by
  have:a=0:=by simp at h;omega
  subst this;exact Nat.zero_and b
 | k+1,a,b,h=>by
  have h2:a+b+1=2*2^k:=by rw [h,Nat.pow_succ,Nat.mul_comm]
  have ih:=x1k k (a/2) (b/2) (by omega)
  have hd:(a&&&b)/2=a/2&&&b/2:=Nat.and_div_two
  have hm:(a&&&b) % 2≠1:=fun e=>by have:=Nat.and_mod_two_eq_one.1 e;omega
  omega
theorem Y2v : ∀(n x:Nat),0<x→x<2^n→x&&&(2^n-x)=2^tz x
 | 0,x,h,hl=>by simp at hl;omega
 | n+1,x,h,hl=>by
  have hp:2^(n+1)=2*2^n:=by rw [Nat.pow_succ,Nat.mul_comm]
  have hd:(x&&&(2^(n+1)-x))/2=x/2&&&(2^(n+1)-x)/2:=Nat.and_div_two
  rcases Nat.mod_two_eq_zero_or_one x with e | e
  · have ih:=Y2v n (x/2) (by omega) (by omega)
    have h3:(2^(n+1)-x)/2=2^n-x/2:=by omega
    have hm:(x&&&(2^(n+1)-x)) % 2≠1:=fun e'=>by have:=Nat.and_mod_two_eq_one.1 e';omega
    rw [h3,ih] at hd
    have hps:2^(tz (x/2)+1)=2^tz (x/2)*2:=Nat.pow_succ ..
    rw [x1u (by omega) e]
    omega
  · have h4:=x1k n (x/2) ((2^(n+1)-x)/2) (by omega)
    have hm:(x&&&(2^(n+1)-x)) % 2=1:=Nat.and_mod_two_eq_one.2 ⟨e,by omega⟩
    rw [h4] at hd
    rw [w1a e,Nat.pow_zero];omega
theorem k2b (x:Nat) (h:0<x) (hl:x<18446744073709551616):x&&&(18446744073709551616-x)=2^tz x:=Y2v 64 x h hl
theorem Y1h (x:Nat) (h:0<x) (hl:x<18446744073709551616):tz x<64:=by
 have h1:=U0l x (by omega)
 have h2:=K1g x hl
 omega
theorem G3q (w r:Nat) (h:0<w) (hl:w<18446744073709551616):tz (w+18446744073709551616*r)=tz w:=by
 obtain⟨q,hq,hw⟩:=w0f w (by omega)
 have ht:=Y1h w h hl
 have e:w+18446744073709551616*r=2^tz w*(q+2^(64-tz w)*r):=by
  rw [Nat.mul_add,←hw,←Nat.mul_assoc,←Nat.pow_add,show tz w+(64-tz w)=64 from by omega]
 have h2:2^(64-tz w)*r % 2=0:=by
  obtain⟨k,hk⟩: ∃k,64-tz w=k+1:=⟨63-tz w,by omega⟩
  rw [hk,Nat.pow_succ,Nat.mul_assoc,Nat.mul_left_comm];exact Nat.mul_mod_right _ _
 rw [e,G1m _ _ (by omega)]
theorem V0a (l:List UInt64) (i:Nat) (h:i≤l.length):valW l=valW (l.take i)+18446744073709551616^i*valW (l.drop i):=by
 conv=>lhs;rw [←List.take_append_drop i l]
 rw [K0o,List.length_take,Nat.min_eq_left h]
theorem G1l (l:List UInt64) (i:Nat) (h:i<l.length):valW (l.drop i)=(l.getD i 0).toNat+18446744073709551616*valW (l.drop (i+1)):=by
 rw [List.drop_eq_getElem_cons h]
 simp only [valW,nW,List.map_cons,val]
 rw [List.getD_eq_getElem?_getD,List.getElem?_eq_getElem h];rfl
theorem q0n (l:List UInt64) (i:Nat) (h:l.length≤i):valW (l.drop i)=0:=by
 rw [List.drop_eq_nil_of_le h];rfl
theorem G0i (l:List UInt64) (i:Nat):valW (l.drop i)=(l.getD i 0).toNat+18446744073709551616*valW (l.drop (i+1)):=by
 by_cases h:i<l.length
 · exact G1l l i h
 · rw [q0n _ _ (by omega),q0n _ _ (by omega),G0d _ _ _ (by omega)];rfl
theorem v0r (l:List UInt64) (i:Nat) (h:i≤l.length):valW l/18446744073709551616^i=valW (l.drop i):=by
 have hl:=X0c (l.take i)
 rw [List.length_take,Nat.min_eq_left h] at hl
 rw [V0a l i h,Nat.add_mul_div_left _ _ (Nat.pow_pos (by decide)),Nat.div_eq_of_lt hl,Nat.zero_add]
theorem z2a (l:List UInt64) (i:Nat) (hi:i<l.length) (hz:valW (l.take i)=0) (hn:(l.getD i 0).toNat≠0):tz (valW l)=64*i+tz (l.getD i 0).toNat:=by
 rw [V0a l i (by omega),hz,Nat.zero_add,G1l l i hi,Nat.mul_comm,k0p,z2b _ _ (by omega),G3q _ _ (by omega) (UInt64.toNat_lt _)]
 omega
theorem J1x (w0 w1 r s:Nat) (h0:w0<18446744073709551616) (hs:s<64):(w0+18446744073709551616*(w1+18446744073709551616*r))/2^s % 18446744073709551616=w0/2^s+w1*2^(64-s) % 18446744073709551616:=by
 have e:(18446744073709551616:Nat)=2^s*2^(64-s):=by rw [←Nat.pow_add,show s+(64-s)=64 from by omega]
 have h1:(w0+18446744073709551616*(w1+18446744073709551616*r))/2^s=w0/2^s+2^(64-s)*(w1+18446744073709551616*r):=by
  conv=>lhs;rw [show 18446744073709551616*(w1+18446744073709551616*r)=2^s*(2^(64-s)*(w1+18446744073709551616*r)) from by rw [←Nat.mul_assoc,←e]]
  rw [Nat.add_mul_div_left _ _ (Nat.two_pow_pos s)]
 have h2:w0/2^s<2^(64-s):=Nat.div_lt_of_lt_mul (by rw [←e];exact h0)
 have h3:w1*2^(64-s) % 18446744073709551616=2^(64-s)*(w1 % 2^s):=by
  conv=>lhs;rw [Nat.mul_comm,e,Nat.mul_comm (2^s),Nat.mul_mod_mul_left]
 have h4:2^(64-s)*(w1 % 2^s)+2^(64-s)≤18446744073709551616:=by
  have h5:w1 % 2^s+1≤2^s:=Nat.mod_lt _ (Nat.two_pow_pos s)
  have:=Nat.mul_le_mul_left (2^(64-s)) h5
  rw [Nat.mul_add,Nat.mul_one] at this
  rw [Nat.mul_comm (2^(64-s)) (2^s),←e] at this
  exact this
 rw [h1,h3]
 have h6:w0/2^s+2^(64-s)*(w1+18446744073709551616*r)=(w0/2^s+2^(64-s)*(w1 % 2^s))+18446744073709551616*(w1/2^s+2^(64-s)*r):=by
  have h7:=Nat.div_add_mod w1 (2^s)
  have h8:2^(64-s)*w1=2^(64-s)*(2^s*(w1/2^s))+2^(64-s)*(w1 % 2^s):=by rw [←Nat.mul_add,h7]
  rw [←Nat.mul_assoc,Nat.mul_comm (2^(64-s)) (2^s),←e] at h8
  rw [Nat.mul_add,Nat.mul_add,h8,Nat.mul_left_comm]
  omega
 rw [h6,Nat.add_mul_mod_self_left,Nat.mod_eq_of_lt (by omega)]
theorem v2m (w0 w1 s:Nat) (h0:w0<18446744073709551616) (hs:s<64):(w0/2^s)|||(w1*2^(64-s) % 18446744073709551616)=w0/2^s+w1*2^(64-s) % 18446744073709551616:=by
 refine V1t _ _ (64-s) (Nat.div_lt_of_lt_mul ?_) (j0f _ _ (by omega))
 rw [←Nat.pow_add,show s+(64-s)=64 from by omega];exact h0
end Go.Pv
end
section
/-Values as rational numbers. No program in it. -/
namespace Go.Pv
def p2 (e:Int):Rat:=(2:Rat)^e
theorem X1q (e:Int):0<p2 e:=Rat.zpow_pos (by decide)
theorem X4u (e:Int):p2 e≠0:=Rat.ne_of_gt (X1q e)
theorem y0y (a b:Int):p2 (a+b)=p2 a*p2 b:=Rat.zpow_add (by decide) a b
theorem w0p :p2 0=1:=Rat.zpow_zero 2
theorem y2r (k:Nat):(((2:Int)^k:Int):Rat)=p2 k:=by
 unfold p2;rw [Rat.zpow_natCast]
 induction k with
 | zero=>rfl
 | succ k ih=>rw [Int.pow_succ,Rat.intCast_mul,ih,Rat.pow_succ];rfl
def qM (s e:Int):Rat:=(s:Rat)*p2 e
def qV (v:Vl):Rat:=qM (X0i v) v.e
def qN (x:Nm):Rat:=qM (mant x) x.exp
theorem V0q (s:Int) (k:Nat) (e:Int):qM (s*2^k) e=qM s (e+k):=by
 unfold qM;rw [Rat.intCast_mul,y2r,y0y];grind
theorem H1t (s t e:Int):qM (s+t) e=qM s e+qM t e:=by unfold qM;rw [Rat.intCast_add];grind
theorem w1z (s t e f:Int):qM (s*t) (e+f)=qM s e*qM t f:=by unfold qM;rw [Rat.intCast_mul,y0y];grind
theorem J0b (e:Int):qM 0 e=0:=by unfold qM;rw [Rat.intCast_zero];grind
theorem q0h (s e:Int):qM (-s) e= -qM s e:=by unfold qM;rw [Rat.intCast_neg];grind
theorem qM_le {s t e:Int} :qM s e≤qM t e↔s≤t:=by
 unfold qM
 constructor
 · intro h
   exact Rat.intCast_le_intCast.1 (Rat.le_of_mul_le_mul_right h (X1q e))
 · intro h
   exact Rat.mul_le_mul_of_nonneg_right (Rat.intCast_le_intCast.2 h) (Rat.le_of_lt (X1q e))
theorem qM_lt {s t e:Int} :qM s e<qM t e↔s<t:=by
 rw [←Rat.not_le,qM_le];omega
theorem qM_eq {s t e:Int} :qM s e=qM t e↔s=t:=by
 constructor
 · intro h
   have h1:=(qM_le (s:=s) (t:=t) (e:=e)).1 (by rw [h];exact Rat.le_refl)
   have h2:=(qM_le (s:=t) (t:=s) (e:=e)).1 (by rw [h];exact Rat.le_refl)
   omega
 · rintro rfl;rfl
theorem K1p (s e g:Int) (h:g≤e):qM s e=qM (s*2^(e-g).toNat) g:=by
 rw [V0q];congr 1;omega
theorem x2j (s e:Int):qV (mkV s e)=qM s e:=by
 by_cases h:s=0
 · subst h
   rw [y1z,J0b]
   exact J0b 0
 · obtain⟨k,k1,k2,k3⟩:=Y2i s e h
   unfold qV
   rw [k2,←V0q,k1]
theorem q0g (neg:Bool) (m:Nat) (e:Int):qV (oddV neg m e)=qM (if neg then -(m:Int) else(m:Int)) e:=by rw [k1f,x2j]
theorem H3k (x:Nm):qV (ofX x)=qN x:=by rw [H3y,x2j];rfl
theorem Z0g (x:Nm):qV (ofN x)=qN x:=rfl
theorem k0m {v:Vl} (h:v.m=0):qV v=0:=by unfold qV;rw [w0u h,J0b]
theorem V0k (a b:Vl):qV (q0m a b)=qV a+qV b:=by
 unfold q0m
 split
 · rename_i h;rw [k0m h];grind
 · split
   · rename_i h;rw [k0m h];grind
   · rw [x2j,H1t,←K1p _ _ _ (by omega),←K1p _ _ _ (by omega)];rfl
theorem V0x (v:Vl):qV (J0r v)= -qV v:=by
 unfold qV;rw [w0v,Z1l,q0h]
theorem K0y (a b:Vl):qV (U0h a b)=qV a-qV b:=by
 unfold U0h;rw [V0k,V0x];grind
theorem k2a {a b:Vl} (ha:a.m≠0) (hb:b.m≠0):X0i (byV a b)=X0i a*X0i b∧(byV a b).e=a.e+b.e:=by
 unfold byV
 rw [if_neg (by omega)]
 refine⟨?_,rfl⟩
 unfold X0i
 cases a.neg<;>cases b.neg<;>simp [Int.neg_mul,Int.mul_neg]
theorem H0m (a b:Vl):qV (byV a b)=qV a*qV b:=by
 by_cases ha:a.m=0
 · rw [k0m ha,k0m (by unfold byV;rw [if_pos (.inl ha)])];grind
 · by_cases hb:b.m=0
   · rw [k0m hb,k0m (by unfold byV;rw [if_pos (.inr hb)])];grind
   · obtain⟨h1,h2⟩:=k2a ha hb
     unfold qV
     rw [h1,h2,w1z]
theorem V2g (m:Int):sgn m≤0↔m≤0:=by unfold sgn;split<;>(try split)<;>omega
theorem y2j (m:Int):sgn m<0↔m<0:=by unfold sgn;split<;>(try split)<;>omega
theorem k0q (a b:Vl):Y0d a b≤0↔qV a≤qV b:=by
 unfold Y0d
 have h:=K0y a b
 rw [z0v,V2g]
 have h2:X0i (U0h a b)≤0↔qV (U0h a b)≤0:=by
  rw [←J0b (U0h a b).e];exact qM_le.symm
 rw [h2,h];grind
theorem q1e (a b:Vl):Y0d a b<0↔qV a<qV b:=by
 unfold Y0d
 have h:=K0y a b
 rw [z0v,y2j]
 have h2:X0i (U0h a b)<0↔qV (U0h a b)<0:=by
  rw [←J0b (U0h a b).e];exact qM_lt.symm
 rw [h2,h];grind
theorem cmpN_le {a b:Nm} :cmpN a b≤0↔qN a≤qN b:=by rw [←w0q,k0q];rfl
theorem cmpN_lt {a b:Nm} :cmpN a b<0↔qN a<qN b:=by rw [←w0q,q1e];rfl
theorem cmpN_ge {a b:Nm} :0≤cmpN a b↔qN b≤qN a:=by
 have:=cmpN_lt (a:=a) (b:=b)
 rw [←Rat.not_lt,←this];omega
theorem cmpN_gt {a b:Nm} :0<cmpN a b↔qN b<qN a:=by
 have:=cmpN_le (a:=a) (b:=b)
 rw [←Rat.not_le,←this];omega
theorem Q1s (a:Vl):Y0f a<0↔qV a<0:=by
 rw [z0v,y2j,←J0b a.e];exact qM_lt.symm
theorem z2r (a:Vl):Y0f a≤0↔qV a≤0:=by
 rw [z0v,V2g,←J0b a.e];exact qM_le.symm
def canV (v:Vl):Prop:=v.m % 2=1∨v=⟨false,0,0⟩
theorem q0c (neg:Bool) (m:Nat) (e:Int):canV (oddV neg m e):=by
 unfold oddV canV
 split
 · exact .inr rfl
 · exact .inl (W0c m (by assumption))
theorem W3k (s e:Int):canV (mkV s e):=q0c _ _ _
theorem Z2a (x:Nm):canV (ofX x):=q0c _ _ _
theorem X0g {x:Nm} (h:Q0h x=true):canV (ofN x):=by rw [←J3h h];exact Z2a x
theorem z0l {a b:Vl} (ha:canV a) (hb:canV b):canV (q0m a b):=by
 unfold q0m
 split
 · exact hb
 · split
   · exact ha
   · exact W3k _ _
theorem z0k {a:Vl} (ha:canV a):canV (J0r a):=by
 rcases ha with h | rfl
 · exact .inl (by rw [Z1k];exact h)
 · exact .inr rfl
theorem U0c {a b:Vl} (ha:canV a) (hb:canV b):canV (U0h a b):=z0l ha (z0k hb)
theorem G1b {a b:Vl} (ha:canV a) (hb:canV b):canV (byV a b):=by
 rcases ha with h | rfl
 · rcases hb with k | rfl
   · exact .inl (by unfold byV;rw [if_neg (by omega)];exact J3j h k)
   · exact .inr (by unfold byV;rw [if_pos (.inr rfl)])
 · exact .inr (by unfold byV;rw [if_pos (.inl rfl)])
theorem Q0x {v:Vl} (h:canV v) (p:Nat) (up:Bool):canV (Z0b v p up):=by
 unfold Z0b
 split
 · exact h
 · exact q0c _ _ _
theorem y0n {v:Vl} (h:canV v):okV v:=by
 rcases h with h | rfl
 · exact .inl h
 · exact .inr rfl
theorem x1e {v:Vl} (h:canV v):v=mkV (X0i v) v.e:=by
 rcases h with h | rfl
 · have:oddV v.neg v.m v.e=v:=by rw [Q1x _ _ _ h]
   conv=>lhs;rw [←this]
   rw [k1f];rfl
 · rw [show X0i ⟨false,0,0⟩=0 from rfl,y1z]
theorem q3f {s e t f:Int} (h:qM s e=qM t f):mkV s e=mkV t f:=by
 have h1:mkV s e=mkV (s*2^(e-min e f).toNat) (min e f):=by rw [Y2h];congr 1;omega
 have h2:mkV t f=mkV (t*2^(f-min e f).toNat) (min e f):=by rw [Y2h];congr 1;omega
 rw [K1p s e (min e f) (by omega),K1p t f (min e f) (by omega),qM_eq] at h
 rw [h1,h2,h]
theorem G1a {v w:Vl} (hv:canV v) (hw:canV w) (h:qV v=qV w):v=w:=by
 rw [x1e hv,x1e hw]
 exact q3f h
theorem X1s {x:Nm} {v:Vl} (hv:canV v) (h:qN x=qV v):ofX x=v:=G1a (Z2a x) hv (by rw [H3k,h])
theorem z0w (neg:Bool) (m d:Nat) (c:Nat) (e:Int):qM (if neg then -((m/2^d+c:Nat):Int) else((m/2^d+c:Nat):Int)) (e+(d:Int))=qM (if neg then -(((m/2^d+c)*2^d:Nat):Int) else(((m/2^d+c)*2^d:Nat):Int)) e:=by
 rw [←V0q]
 congr 1
 cases neg
 · simp
 · simp [Int.neg_mul]
theorem V0w (v:Vl) (p:Nat):qV (Z0b v p false)≤qV v:=by
 unfold Z0b
 split
 · exact Rat.le_refl
 · rw [q0g,z0w]
   unfold qV X0i
   rw [qM_le]
   generalize Q0f v.m-p=d
   have h1:=Nat.div_add_mod v.m (2^d)
   have h2:=Nat.mod_lt v.m (Nat.two_pow_pos d)
   rw [Nat.mul_comm] at h1
   rw [Nat.add_mul]
   cases v.neg
   · rw [if_neg (by simp),if_neg (by simp),if_neg (by simp),Nat.zero_mul];omega
   · rw [if_pos rfl,if_pos rfl]
     by_cases h3:v.m % 2^d=0
     · rw [if_neg (by simp [h3]),Nat.zero_mul];omega
     · rw [if_pos ⟨h3,by simp⟩,Nat.one_mul];omega
theorem K0c (v:Vl) (p:Nat):qV v≤qV (Z0b v p true):=by
 unfold Z0b
 split
 · exact Rat.le_refl
 · rw [q0g,z0w]
   unfold qV X0i
   rw [qM_le]
   generalize Q0f v.m-p=d
   have h1:=Nat.div_add_mod v.m (2^d)
   have h2:=Nat.mod_lt v.m (Nat.two_pow_pos d)
   rw [Nat.mul_comm] at h1
   rw [Nat.add_mul]
   cases v.neg
   · rw [if_neg (by simp),if_neg (by simp)]
     by_cases h3:v.m % 2^d=0
     · rw [if_neg (by simp [h3]),Nat.zero_mul];omega
     · rw [if_pos ⟨h3,by simp⟩,Nat.one_mul];omega
   · rw [if_pos rfl,if_pos rfl,if_neg (by simp),Nat.zero_mul];omega
theorem J0u {v:Vl} (hv:canV v) (h:(numV v).2=0):ofN (numV v).1=v∧qN (numV v).1=qV v:=by
 unfold numV at h⊢
 split
 · rename_i h0
   rcases hv with hv | rfl
   · omega
   · exact⟨rfl,rfl⟩
 · rename_i h0
   rw [if_neg h0] at h
   split
   · rename_i h1;rw [if_pos h1] at h;cases h
   · have e:ofN ⟨v.neg,v.e,Q0l v.m⟩=v:=by unfold ofN;rw [Q0w]
     exact⟨e,by rw [←Z0g,e]⟩
theorem y1p {x:Nm} (h:Q0h x=true):numV (ofN x)=(x,0):=by
 unfold numV ofN
 simp only
 have h2:=h
 unfold Q0h at h2
 by_cases hw:x.w= []
 · rw [if_pos hw] at h2
   simp at h2
   rw [if_pos (by rw [hw];rfl)]
   congr 1
   obtain⟨n,e,w⟩:=x
   simp at hw h2
   obtain⟨rfl,rfl⟩:=h2
   subst hw;rfl
 · rw [if_neg hw] at h2
   simp only [Bool.and_eq_true,decide_eq_true_eq] at h2
   rw [if_neg (by have:=(X0b h);intro e;exact hw (this.1 e)),Q0t,w0l h,if_neg (by omega)]
end Go.Pv
end
section
/-What sums,differences and products of intervals come to. No program in it. -/
namespace Go.Pv
theorem X0r {a b:Rat} (ha:0≤a) (hb:0≤b):0≤a*b:=Rat.mul_nonneg ha hb
theorem V3z {x y u v X U:Rat} (h1:x≤X) (h2:X≤y) (h3:u≤U) (h4:U≤v) (hx:0≤x) (hu:0≤u):x*u≤X*U:=by
 have a1:=X0r (a:=X-x) (b:=u) (by grind) hu
 have a2:=X0r (a:=X) (b:=U-u) (by grind) (by grind)
 grind
theorem G2y {x y u v X U:Rat} (h1:x≤X) (h2:X≤y) (h3:u≤U) (h4:U≤v) (hx:0≤X) (hu:u≤0):y*u≤X*U:=by
 have a1:=X0r (a:=y-X) (b:= -u) (by grind) (by grind)
 have a2:=X0r (a:=X) (b:=U-u) (by grind) (by grind)
 grind
theorem G2x {x y u v X U:Rat} (h1:x≤X) (h2:X≤y) (h3:u≤U) (h4:U≤v) (hx:x≤0) (hu:0≤U):x*v≤X*U:=by
 have a1:=X0r (a:= -x) (b:=v-U) (by grind) (by grind)
 have a2:=X0r (a:=X-x) (b:=U) (by grind) (by grind)
 grind
theorem V3y {x y u v X U:Rat} (h1:x≤X) (h2:X≤y) (h3:u≤U) (h4:U≤v) (hx:y≤0) (hu:v≤0):y*v≤X*U:=by
 have a1:=X0r (a:=y-X) (b:= -v) (by grind) (by grind)
 have a2:=X0r (a:= -X) (b:=v-U) (by grind) (by grind)
 grind
theorem X3y {a b:Rat} (ha:a≤0) (hb:b≤0):0≤a*b:=by
 have:=X0r (a:= -a) (b:= -b) (by grind) (by grind)
 grind
theorem X3z {a b:Rat} (ha:0≤a) (hb:b≤0):a*b≤0:=by
 have:=X0r (a:=a) (b:= -b) ha (by grind)
 grind
theorem j2n {a b:Rat} (ha:a≤0) (hb:0≤b):a*b≤0:=by
 have:=X0r (a:= -a) (b:=b) (by grind) hb
 grind
def V0y (x y u v:Vl):Vl:=
 if 0≤Y0f x∧0≤Y0f u then byV x u else if 0≤Y0f x then byV y u else if 0≤Y0f u then byV x v else
 if Y0f y≤0∧Y0f v≤0 then byV y v else if Y0d (byV y u) (byV x v)<0 then byV y u else byV x v
def q0j (x y u v:Vl):Vl:=J0r (V0y (J0r y) (J0r x) u v)
theorem z2s (a:Vl):0≤Y0f a↔0≤qV a:=by
 have:=Q1s a
 rw [←Rat.not_lt,←this];omega
theorem G0t {x y u v:Vl} (hx:qV x≤qV y) (hu:qV u≤qV v) {X U:Rat} (h1:qV x≤X) (h2:X≤qV y) (h3:qV u≤U) (h4:U≤qV v):qV (V0y x y u v)≤X*U:=by
 unfold V0y
 simp only [z2s,z2r,q1e,H0m]
 split
 · rename_i h;rw [H0m];exact V3z h1 h2 h3 h4 h.1 h.2
 · rename_i n1
   split
   · rename_i h;rw [H0m];exact G2y h1 h2 h3 h4 (by grind) (by grind)
   · rename_i n2
     split
     · rename_i h;rw [H0m];exact G2x h1 h2 h3 h4 (by grind) (by grind)
     · rename_i n3
       split
       · rename_i h;rw [H0m];exact V3y h1 h2 h3 h4 h.1 h.2
       · rename_i n4
         have key:qV y*qV u≤X*U∨qV x*qV v≤X*U:=by
          by_cases hX:0≤X
          · exact .inl (G2y h1 h2 h3 h4 hX (by grind))
          · by_cases hU:0≤U
            · exact .inr (G2x h1 h2 h3 h4 (by grind) hU)
            · have p:=X3y (a:=X) (b:=U) (by grind) (by grind)
              by_cases hy:0≤qV y
              · have:=X3z (a:=qV y) (b:=qV u) hy (by grind);exact .inl (by grind)
              · have:=j2n (a:=qV x) (b:=qV v) (by grind) (by grind);exact .inr (by grind)
         split
         · rename_i h;rw [H0m];grind
         · rename_i h;rw [H0m];grind
theorem G0s (x y u v:Vl):V0y x y u v=byV x u∨V0y x y u v=byV x v∨V0y x y u v=byV y u∨V0y x y u v=byV y v:=by
 unfold V0y
 repeat' split
 all_goals simp
theorem q0y {x y u v:Vl} (hx:qV x≤qV y) (hu:qV u≤qV v) {X U:Rat} (h1:qV x≤X) (h2:X≤qV y) (h3:qV u≤U) (h4:U≤qV v):X*U≤qV (q0j x y u v):=by
 unfold q0j
 have:=G0t (x:=J0r y) (y:=J0r x) (u:=u) (v:=v) (X:= -X) (U:=U) (by rw [V0x,V0x];grind) hu (by rw [V0x];grind) (by rw [V0x];grind) h3 h4
 rw [V0x];grind
theorem y0c (x y u v:Vl):qV (q0j x y u v)=qV x*qV u∨qV (q0j x y u v)=qV x*qV v∨qV (q0j x y u v)=qV y*qV u∨qV (q0j x y u v)=qV y*qV v:=by
 unfold q0j
 rw [V0x]
 rcases G0s (J0r y) (J0r x) u v with h | h | h | h
 all_goals rw [h,H0m,V0x];grind
theorem y0o {x y u v:Vl} (hx:canV x) (hy:canV y) (hu:canV u) (hv:canV v):canV (V0y x y u v):=by
 rcases G0s x y u v with h | h | h | h
 all_goals rw [h];exact G1b (by assumption) (by assumption)
theorem W1y {x y u v:Vl} (hx:canV x) (hy:canV y) (hu:canV u) (hv:canV v):canV (q0j x y u v):=z0k (y0o (z0k hy) (z0k hx) hu hv)
def exV (k:Nat) (a b:Vl):Vl:=if k=0 then q0m a b else if k=1 then U0h a b else byV a b
def exQ (k:Nat) (a b:Rat):Rat:=if k=0 then a+b else if k=1 then a-b else a*b
theorem exQ0 (a b:Rat):exQ 0 a b=a+b:=by simp [exQ]
theorem exQ1 (a b:Rat):exQ 1 a b=a-b:=by simp [exQ]
theorem exQ2 (a b:Rat):exQ 2 a b=a*b:=by simp [exQ]
theorem w0n (k:Nat) (a b:Vl):qV (exV k a b)=exQ k (qV a) (qV b):=by
 unfold exV exQ
 split
 · exact V0k a b
 · split
   · exact K0y a b
   · exact H0m a b
theorem j0l (k:Nat) {a b:Vl} (ha:canV a) (hb:canV b):canV (exV k a b):=by
 unfold exV
 split
 · exact z0l ha hb
 · split
   · exact U0c ha hb
   · exact G1b ha hb
def Z0a (p:Int):Bool:=decide (8≤p)&&decide (p≤256)
def Q0s (k:Nat) (a b:Nm) (p:Int) (up:Bool):Nm×Int:=if Q0h a=true∧Q0h b=true∧Z0a p=true then numV (Z0b (exV k (ofN a) (ofN b)) p.toNat up) else(default,1)
def J0q (x:Nm) (k:Int):Nm×Int:=if Q0h x=true then(if x.w= [] then(x,0) else if k< -131072∨131072<k then(default,2) else numV ⟨x.neg,valW x.w,x.exp+k⟩) else(default,1)
def Y0j (lo hi:Vl):Ivl×Int:=if (numV lo).2=0∧(numV hi).2=0 then(⟨(numV lo).1,(numV hi).1⟩,0) else(default,2)
def loV (k:Nat) (x y u v:Vl):Vl:=if k=0 then q0m x u else if k=1 then U0h x v else V0y x y u v
def hiV (k:Nat) (x y u v:Vl):Vl:=if k=0 then q0m y v else if k=1 then U0h y u else q0j x y u v
def opI (k:Nat) (a b:Ivl) (p:Int):Ivl×Int:=
 if Q0m a=true∧Q0m b=true∧Z0a p=true then Y0j (Z0b (loV k (ofN a.lo) (ofN a.hi) (ofN b.lo) (ofN b.hi)) p.toNat false) (Z0b (hiV k (ofN a.lo) (ofN a.hi) (ofN b.lo) (ofN b.hi)) p.toNat true) else(default,1)
theorem loV0 (x y u v:Vl):loV 0 x y u v=q0m x u:=by simp [loV]
theorem hiV0 (x y u v:Vl):hiV 0 x y u v=q0m y v:=by simp [hiV]
theorem loV1 (x y u v:Vl):loV 1 x y u v=U0h x v:=by simp [loV]
theorem hiV1 (x y u v:Vl):hiV 1 x y u v=U0h y u:=by simp [hiV]
theorem Q3a (k:Nat) {x y u v:Vl} (hx:qV x≤qV y) (hu:qV u≤qV v) {X U:Rat} (h1:qV x≤X) (h2:X≤qV y) (h3:qV u≤U) (h4:U≤qV v):qV (loV k x y u v)≤exQ k X U:=by
 unfold loV exQ
 split
 · rw [V0k];grind
 · split
   · rw [K0y];grind
   · exact G0t hx hu h1 h2 h3 h4
theorem Q3b (k:Nat) {x y u v:Vl} (hx:qV x≤qV y) (hu:qV u≤qV v) {X U:Rat} (h1:qV x≤X) (h2:X≤qV y) (h3:qV u≤U) (h4:U≤qV v):exQ k X U≤qV (hiV k x y u v):=by
 unfold hiV exQ
 split
 · rw [V0k];grind
 · split
   · rw [K0y];grind
   · exact q0y hx hu h1 h2 h3 h4
theorem U0b (k:Nat) {x y u v:Vl} (hx:canV x) (hy:canV y) (hu:canV u) (hv:canV v):canV (loV k x y u v):=by
 unfold loV
 split
 · exact z0l hx hu
 · split
   · exact U0c hx hv
   · exact y0o hx hy hu hv
theorem U0d (k:Nat) {x y u v:Vl} (hx:canV x) (hy:canV y) (hu:canV u) (hv:canV v):canV (hiV k x y u v):=by
 unfold hiV
 split
 · exact z0l hy hv
 · split
   · exact U0c hy hu
   · exact W1y hx hy hu hv
theorem G0c {x:Ivl} (h:Q0m x=true):qV (ofN x.lo)≤qV (ofN x.hi):=cmpN_le.1 (Q0y h).2.2
theorem H0y {lo hi:Vl} (h1:canV lo) (h2:canV hi) (h:qV lo≤qV hi):Q0m (Y0j lo hi).1=true:=by
 unfold Y0j
 split
 · rename_i hh
   exact G0m (J0z (y0n h1)) (J0z (y0n h2)) (cmpN_le.2 (by rw [(J0u h1 hh.1).2,(J0u h2 hh.2).2];exact h))
 · decide
theorem Y2x (k:Nat) {a b:Ivl} (ha:Q0m a=true) (hb:Q0m b=true) (p:Nat):
 qV (Z0b (loV k (ofN a.lo) (ofN a.hi) (ofN b.lo) (ofN b.hi)) p false)≤qV (Z0b (hiV k (ofN a.lo) (ofN a.hi) (ofN b.lo) (ofN b.hi)) p true):=by
 have h1:=V0w (loV k (ofN a.lo) (ofN a.hi) (ofN b.lo) (ofN b.hi)) p
 have h2:=K0c (hiV k (ofN a.lo) (ofN a.hi) (ofN b.lo) (ofN b.hi)) p
 have h3:=Q3a k (G0c ha) (G0c hb) Rat.le_refl (G0c ha) Rat.le_refl (G0c hb)
 have h4:=Q3b k (G0c ha) (G0c hb) Rat.le_refl (G0c ha) Rat.le_refl (G0c hb)
 grind
theorem canI {x:Ivl} (h:Q0m x=true):canV (ofN x.lo)∧canV (ofN x.hi):=⟨X0g (Q0y h).1,X0g (Q0y h).2.1⟩
theorem W0t (k:Nat) (a b:Ivl) (p:Int):Q0m (opI k a b p).1=true:=by
 unfold opI
 split
 · rename_i h
   have ca:=canI h.1
   have cb:=canI h.2.1
   exact H0y (Q0x (U0b k ca.1 ca.2 cb.1 cb.2) _ _) (Q0x (U0d k ca.1 ca.2 cb.1 cb.2) _ _) (Y2x k h.1 h.2.1 _)
 · decide
def memI (X:Rat) (a:Ivl):Prop:=qN a.lo≤X∧X≤qN a.hi
theorem j1x (k:Nat) {a b:Ivl} {p:Int} (h:(opI k a b p).2=0) {X U:Rat} (hX:memI X a) (hU:memI U b):memI (exQ k X U) (opI k a b p).1:=by
 unfold opI at h⊢
 split
 · rename_i hr
   rw [if_pos hr] at h
   have ca:=canI hr.1
   have cb:=canI hr.2.1
   unfold Y0j at h⊢
   split
   · rename_i hh
     have h1:=(J0u (Q0x (U0b k ca.1 ca.2 cb.1 cb.2) _ _) hh.1).2
     have h2:=(J0u (Q0x (U0d k ca.1 ca.2 cb.1 cb.2) _ _) hh.2).2
     have h3:=Q3a k (G0c hr.1) (G0c hr.2.1) hX.1 hX.2 hU.1 hU.2
     have h4:=Q3b k (G0c hr.1) (G0c hr.2.1) hX.1 hX.2 hU.1 hU.2
     have h5:=V0w (loV k (ofN a.lo) (ofN a.hi) (ofN b.lo) (ofN b.hi)) p.toNat
     have h6:=K0c (hiV k (ofN a.lo) (ofN a.hi) (ofN b.lo) (ofN b.hi)) p.toNat
     exact⟨by rw [h1];grind,by rw [h2];grind⟩
   · rename_i hh;rw [if_neg hh] at h;cases h
 · rename_i hr;rw [if_neg hr] at h;cases h
end Go.Pv
end
section
/-Exact sums and products of numbers in any form,and how long they get. No program in it. -/
namespace Go.Pv
def bd (n k:Nat) (x:Nm):Prop:=x.w.length≤n∧ -(k:Int)≤x.exp∧x.exp≤k
theorem bd.mono {n k n' k':Nat} {x:Nm} (h:bd n k x) (h1:n≤n') (h2:k≤k'):bd n' k' x:=⟨by have:=h.1;omega,by have:=h.2.1;omega,by have:=h.2.2;omega⟩
theorem X0d {x:Nm} (h:Q0h x=true):bd 64 65536 x:=by
 unfold Q0h at h
 by_cases hw:x.w= []
 · rw [if_pos hw] at h
   simp at h
   exact⟨by rw [hw];simp,by rw [h.2];omega,by rw [h.2];omega⟩
 · rw [if_neg hw] at h
   simp only [Bool.and_eq_true,decide_eq_true_eq] at h
   exact⟨h.1.1.1.2,h.1.2,h.2⟩
theorem H3m (x:Nm):qN { x with neg:= !x.neg } = -qN x:=by
 unfold qN mant
 rw [←q0h]
 congr 1
 cases x.neg<;>simp
theorem x2k (neg:Bool) (e:Int) (m:Nat):qN ⟨neg,e,Q0l m⟩=qM (if neg then -(m:Int) else(m:Int)) e:=by
 unfold qN mant;rw [Q0w]
theorem X3t (b:Nm) (e:Int) (d:Nat) (h:b.exp=e+d):qN b=qM (if b.neg then -((valW b.w*2^d:Nat):Int) else((valW b.w*2^d:Nat):Int)) e:=by
 unfold qN
 rw [h,←V0q]
 congr 1
 unfold mant
 cases b.neg
 · simp
 · simp [Int.neg_mul]
theorem K3w (a b:Nm) (d:Nat) (h:b.exp=a.exp+d) (hn:a.neg=b.neg):qN ⟨a.neg,a.exp,Q0l (valW a.w+valW b.w*2^d)⟩=qN a+qN b:=by
 rw [x2k,X3t b a.exp d h,show qN a=qM (mant a) a.exp from rfl,←H1t]
 congr 1
 unfold mant
 rw [←hn]
 cases a.neg<;>simp<;>omega
theorem v2d (a b:Nm) (d:Nat) (h:b.exp=a.exp+d) (hn:a.neg≠b.neg) (hle:valW b.w*2^d≤valW a.w):qN ⟨a.neg,a.exp,Q0l (valW a.w-valW b.w*2^d)⟩=qN a+qN b:=by
 rw [x2k,X3t b a.exp d h,show qN a=qM (mant a) a.exp from rfl,←H1t]
 congr 1
 unfold mant
 generalize valW b.w*2^d=x at*
 cases ha:a.neg<;>cases hb:b.neg<;>simp [ha,hb] at hn⊢ <;>omega
theorem v2c (a b:Nm) (d:Nat) (h:b.exp=a.exp+d) (hn:a.neg≠b.neg) (hle:valW a.w≤valW b.w*2^d):qN ⟨b.neg,a.exp,Q0l (valW b.w*2^d-valW a.w)⟩=qN a+qN b:=by
 rw [x2k,X3t b a.exp d h,show qN a=qM (mant a) a.exp from rfl,←H1t]
 congr 1
 unfold mant
 generalize valW b.w*2^d=x at*
 cases ha:a.neg<;>cases hb:b.neg<;>simp [ha,hb] at hn⊢ <;>omega
theorem G1v {x:Nm} (h:sgnN x=0):qN x=0:=by
 have:mant x=0:=by
  rw [w0j] at h
  unfold sgn at h
  split at h
  · assumption
  · split at h<;>omega
 unfold qN;rw [this,J0b]
theorem z3m (a b:Nm) (n k d:Nat) (ha:bd n k a) (hb:bd n k b) (hd:d≤2*k):(Q0l (valW a.w+valW b.w*2^d)).length≤n+k+1:=by
 refine Z0u ?_
 have h1:=X0c a.w
 have h2:=X0c b.w
 have hp: ∀l:Nat,l≤n→18446744073709551616^l≤2^(64*n):=fun l hl=>by rw [k0p];exact Nat.pow_le_pow_right (by decide) (by omega)
 have h3:valW a.w<2^(64*n+d):=Nat.lt_of_lt_of_le h1 (Nat.le_trans (hp _ ha.1) (Nat.pow_le_pow_right (by decide) (by omega)))
 have h4:valW b.w*2^d<2^(64*n+d):=by
  rw [Nat.pow_add]
  exact Nat.mul_lt_mul_of_pos_right (Nat.lt_of_lt_of_le h2 (hp _ hb.1)) (Nat.two_pow_pos d)
 have h5:18446744073709551616^(n+k+1)=2^(64*(n+k+1)):=k0p _
 have h6:2^(64*n+d+1)≤2^(64*(n+k+1)):=Nat.pow_le_pow_right (by decide) (by omega)
 have h7:2^(64*n+d+1)=2^(64*n+d)*2:=Nat.pow_succ ..
 rw [h5]
 omega
theorem G2b (a b:Nm) (n k d m:Nat) (ha:bd n k a) (hb:bd n k b) (hd:d≤2*k) (hm:m≤valW a.w+valW b.w*2^d):(Q0l m).length≤n+k+1:=Nat.le_trans (V0n hm) (z3m a b n k d ha hb hd)
theorem H3n (a b:Nm):qN ⟨a.neg !=b.neg,a.exp+b.exp,Q0l (valW a.w*valW b.w)⟩=qN a*qN b:=by
 rw [x2k]
 show _=qM (mant a) a.exp*qM (mant b) b.exp
 rw [←w1z]
 congr 1
 unfold mant
 cases a.neg<;>cases b.neg<;>simp [Int.neg_mul,Int.mul_neg]
theorem K3c (a b:Nm) (n k m l:Nat) (ha:bd n k a) (hb:bd m l b):bd (n+m) (k+l) ⟨a.neg !=b.neg,a.exp+b.exp,Q0l (valW a.w*valW b.w)⟩:=by
 refine⟨Z0u ?_,?_,?_⟩
 · have h1:=X0c a.w
   have h2:=X0c b.w
   refine Nat.lt_of_lt_of_le (Nat.mul_lt_mul'' h1 h2) ?_
   rw [←Nat.pow_add]
   exact Nat.pow_le_pow_right (by decide) (by have:=ha.1;have:=hb.1;omega)
 · have:=ha.2.1;have:=hb.2.1;simp only;omega
 · have:=ha.2.2;have:=hb.2.2;simp only;omega
end Go.Pv
end
section
/-The right number of words by a power of two,rounded or not. No program in it. -/
namespace Go.Pv
theorem Y1e (m:Nat) (h:m≠0):((Q0l m).getD 0 0).toNat % 2=m % 2:=by
 rw [←j0q,Q0w]
theorem H1d (neg:Bool) (m:Nat) (e:Int) (h:m % 2=1):Q0h ⟨neg,e,Q0l m⟩=(decide ((Q0l m).length≤64)&&decide (-65536≤e)&&decide (e≤65536)):=by
 have hw:Q0l m≠ []:=fun e=>by rw [wordsOf_nil] at e;omega
 have h1:((Q0l m).getD 0 0).toNat % 2=1:=by rw [Y1e m (by omega)];exact h
 unfold Q0h
 rw [if_neg hw,W0x]
 simp only [h1,decide_true,Bool.true_and,Bool.and_true]
def mkX (neg:Bool) (w:List UInt64) (e:Int):Nm×Int:=numV (oddV neg (valW w) e)
theorem j2u {neg:Bool} {w:List UInt64} {e:Int} (h:valW w=0):mkX neg w e=(default,0):=by
 unfold mkX;rw [h,Y0s];rfl
theorem Y2g {neg:Bool} {w:List UInt64} {e:Int} (h:valW w≠0) (h2:65536<e∨e< -65536-((tz (valW w):Nat):Int)):mkX neg w e=(default,2):=by
 unfold mkX oddV
 rw [if_neg h]
 have h1:valW w/2^tz (valW w)≠0:=by have:=W0c (valW w) h;omega
 unfold numV
 rw [if_neg h1,if_pos (by simp only;omega)]
theorem j2v {neg:Bool} {w:List UInt64} {e:Int} (h:valW w≠0):mkX neg w e=if Q0h ⟨neg,e+((tz (valW w):Nat):Int),Q0l (valW w/2^tz (valW w))⟩=true then(⟨neg,e+((tz (valW w):Nat):Int),Q0l (valW w/2^tz (valW w))⟩,0) else(default,2):=by
 have h0:=W0c (valW w) h
 rw [H1d _ _ _ h0]
 unfold mkX oddV
 rw [if_neg h]
 unfold numV
 rw [if_neg (by simp only;omega)]
 simp only
 by_cases hc:64<(Q0l (valW w/2^tz (valW w))).length∨e+((tz (valW w):Nat):Int)< -65536∨65536<e+((tz (valW w):Nat):Int)
 · rw [if_pos hc,if_neg]
   simp only [Bool.and_eq_true,decide_eq_true_eq];omega
 · rw [if_neg hc,if_pos]
   simp only [Bool.and_eq_true,decide_eq_true_eq];omega
theorem J3s (x:Nm):mkX x.neg x.w x.exp=numV (ofX x):=rfl
def rndX (x:Nm) (p:Nat) (up:Bool):Nm:=
 if X0n x.w≤p then x else⟨x.neg,x.exp+((X0n x.w-p:Nat):Int),Q0l (valW x.w/2^(X0n x.w-p)+(if tz (valW x.w)<X0n x.w-p∧up≠x.neg then 1 else 0))⟩
theorem z2y (x:Nm) (p:Nat) (up:Bool) (hp:0<p):ofX (rndX x p up)=Z0b (ofX x) p up:=by
 unfold rndX
 show _=Z0b (oddV x.neg (valW x.w) x.exp) p up
 rw [X2h _ _ _ _ _ hp]
 unfold X0n
 split
 · rfl
 · unfold ofX
   rw [Q0w]
theorem X3n (x:Nm) (p:Nat) (up:Bool) (n k:Nat) (h:bd n k x):bd (n+1) (k+64*n) (rndX x p up):=by
 have hb:=V0h x.w
 have hl:=h.1
 unfold rndX
 split
 · exact h.mono (by omega) (by omega)
 · refine⟨?_,?_,?_⟩
   · refine Z0u ?_
     have h1:=X0c x.w
     have h2:valW x.w/2^(X0n x.w-p)≤valW x.w:=Nat.div_le_self _ _
     have h3:18446744073709551616^x.w.length≤18446744073709551616^n:=Nat.pow_le_pow_right (by decide) hl
     have h4:18446744073709551616^(n+1)=18446744073709551616^n*18446744073709551616:=Nat.pow_succ ..
     split<;>omega
   · have:=h.2.1;simp only;omega
   · have:=h.2.2;simp only;omega
end Go.Pv
end
section
/-Intervals:has,meet,middle,width. No program in it. -/
namespace Go.Pv
def hasI (a:Ivl) (x:Nm):Bool:=Q0m a&&Q0h x&&decide (cmpN a.lo x≤0)&&decide (cmpN x a.hi≤0)
def Y2r (lo hi:Nm):Ivl×Int:=if Q0m ⟨lo,hi⟩=true then(⟨lo,hi⟩,0) else(default,1)
def K0v (a:Ivl) (p:Int):Nm×Int:=if Q0m a=true∧Z0a p=true then numV (Z0b (U0h (ofN a.hi) (ofN a.lo)) p.toNat true) else(default,1)
theorem H1f {x y:Nm} (hx:Q0h x=true) (hy:Q0h y=true) (h:qN x=qN y):x=y:=by
 have h1:=G1a (X0g hx) (X0g hy) (by rw [Z0g,Z0g,h])
 have h2:=y1p hx
 rw [h1,y1p hy] at h2
 exact(congrArg Prod.fst h2).symm
theorem W2a (a b:Nm):qN (Z0t a b)≤qN a∧qN (Z0t a b)≤qN b∧(qN (Z0t a b)=qN a∨qN (Z0t a b)=qN b):=by
 have h1:=cmpN_le.1 (W1c a b)
 have h2:=cmpN_le.1 (J2f a b)
 refine⟨h1,h2,?_⟩
 unfold Z0t
 split
 · exact .inr rfl
 · exact .inl rfl
theorem w1x (a b:Nm):qN a≤qN (Z0r a b)∧qN b≤qN (Z0r a b)∧(qN (Z0r a b)=qN a∨qN (Z0r a b)=qN b):=by
 have h1:=cmpN_le.1 (W1k a b)
 have h2:=cmpN_le.1 (J2m a b)
 refine⟨h1,h2,?_⟩
 unfold Z0r
 split
 · exact .inr rfl
 · exact .inl rfl
theorem J2o {a b:Ivl} (ha:Q0m a=true) (hb:Q0m b=true) {p1 p2 p3 p4:Nm} (h1:qN p1=qN a.lo*qN b.lo) (h2:qN p2=qN a.lo*qN b.hi) (h3:qN p3=qN a.hi*qN b.lo) (h4:qN p4=qN a.hi*qN b.hi):
 ofX (Z0t (Z0t (Z0t p1 p2) p3) p4)=loV 2 (ofN a.lo) (ofN a.hi) (ofN b.lo) (ofN b.hi):=by
 have ca:=canI ha
 have cb:=canI hb
 have la:=G0c ha
 have lb:=G0c hb
 show _=V0y (ofN a.lo) (ofN a.hi) (ofN b.lo) (ofN b.hi)
 refine X1s (y0o ca.1 ca.2 cb.1 cb.2) ?_
 have r1:=G0t la lb Rat.le_refl la Rat.le_refl lb
 have r2:=G0t la lb Rat.le_refl la lb Rat.le_refl
 have r3:=G0t la lb la Rat.le_refl Rat.le_refl lb
 have r4:=G0t la lb la Rat.le_refl lb Rat.le_refl
 have rr: ∀v w:Vl,V0y (ofN a.lo) (ofN a.hi) (ofN b.lo) (ofN b.hi)=byV v w→qV (V0y (ofN a.lo) (ofN a.hi) (ofN b.lo) (ofN b.hi))=qV v*qV w:=fun v w e=>by rw [e,H0m]
 have r5:qV (V0y (ofN a.lo) (ofN a.hi) (ofN b.lo) (ofN b.hi))=qV (ofN a.lo)*qV (ofN b.lo)∨qV (V0y (ofN a.lo) (ofN a.hi) (ofN b.lo) (ofN b.hi))=qV (ofN a.lo)*qV (ofN b.hi)∨qV (V0y (ofN a.lo) (ofN a.hi) (ofN b.lo) (ofN b.hi))=qV (ofN a.hi)*qV (ofN b.lo)∨qV (V0y (ofN a.lo) (ofN a.hi) (ofN b.lo) (ofN b.hi))=qV (ofN a.hi)*qV (ofN b.hi):=by
  rcases G0s (ofN a.lo) (ofN a.hi) (ofN b.lo) (ofN b.hi) with e | e | e | e
  · exact .inl (rr _ _ e)
  · exact .inr (.inl (rr _ _ e))
  · exact .inr (.inr (.inl (rr _ _ e)))
  · exact .inr (.inr (.inr (rr _ _ e)))
 generalize qV (V0y (ofN a.lo) (ofN a.hi) (ofN b.lo) (ofN b.hi))=V at*
 simp only [Z0g] at*
 rw [←h1] at r1 r5
 rw [←h2] at r2 r5
 rw [←h3] at r3 r5
 rw [←h4] at r4 r5
 obtain⟨s1,s2,s3⟩:=W2a p1 p2
 obtain⟨t1,t2,t3⟩:=W2a (Z0t p1 p2) p3
 obtain⟨u1,u2,u3⟩:=W2a (Z0t (Z0t p1 p2) p3) p4
 clear h1 h2 h3 h4 la lb rr
 grind
theorem U1p {a b:Ivl} (ha:Q0m a=true) (hb:Q0m b=true) {p1 p2 p3 p4:Nm} (h1:qN p1=qN a.lo*qN b.lo) (h2:qN p2=qN a.lo*qN b.hi) (h3:qN p3=qN a.hi*qN b.lo) (h4:qN p4=qN a.hi*qN b.hi):
 ofX (Z0r (Z0r (Z0r p1 p2) p3) p4)=hiV 2 (ofN a.lo) (ofN a.hi) (ofN b.lo) (ofN b.hi):=by
 have ca:=canI ha
 have cb:=canI hb
 have la:=G0c ha
 have lb:=G0c hb
 show _=q0j (ofN a.lo) (ofN a.hi) (ofN b.lo) (ofN b.hi)
 refine X1s (W1y ca.1 ca.2 cb.1 cb.2) ?_
 have r1:=q0y la lb Rat.le_refl la Rat.le_refl lb
 have r2:=q0y la lb Rat.le_refl la lb Rat.le_refl
 have r3:=q0y la lb la Rat.le_refl Rat.le_refl lb
 have r4:=q0y la lb la Rat.le_refl lb Rat.le_refl
 have r5:=y0c (ofN a.lo) (ofN a.hi) (ofN b.lo) (ofN b.hi)
 generalize qV (q0j (ofN a.lo) (ofN a.hi) (ofN b.lo) (ofN b.hi))=V at*
 simp only [Z0g] at*
 rw [←h1] at r1 r5
 rw [←h2] at r2 r5
 rw [←h3] at r3 r5
 rw [←h4] at r4 r5
 obtain⟨s1,s2,s3⟩:=w1x p1 p2
 obtain⟨t1,t2,t3⟩:=w1x (Z0r p1 p2) p3
 obtain⟨u1,u2,u3⟩:=w1x (Z0r (Z0r p1 p2) p3) p4
 clear h1 h2 h3 h4 la lb
 grind
end Go.Pv
end
section
/-What boxes are reckoned to. No program in it. -/
namespace Go.Pv
def opB (k:Nat) (a b:List Ivl) (p:Int):List Ivl×Int:=if rightB a=true∧rightB b=true∧a.length=b.length∧Z0a p=true then z1s (fun i x=>opI k x (b.getD i default) p) 0 a [] else([],1)
def U0m (x:Ivl) (b:List Ivl) (p:Int):List Ivl×Int:=if rightB b=true∧Q0m x=true∧Z0a p=true then z1s (fun _ y=>opI 2 x y p) 0 b [] else([],1)
def ofB (q:List Nm):List Ivl:=q.map fun x=>⟨x,x⟩
def G0f (a:Ivl) (p:Int):Ivl×Int:=
 if (K0v a p).2≠0 then(default,(K0v a p).2) else if (J0q (K0v a p).1 (-2)).2≠0 then(default,(J0q (K0v a p).1 (-2)).2) else
 if (Q0s 1 a.lo (J0q (K0v a p).1 (-2)).1 p false).2≠0∨(Q0s 0 a.hi (J0q (K0v a p).1 (-2)).1 p true).2≠0 then(default,2) else
 (⟨(Q0s 1 a.lo (J0q (K0v a p).1 (-2)).1 p false).1,(Q0s 0 a.hi (J0q (K0v a p).1 (-2)).1 p true).1⟩,0)
def j0n (b:List Ivl) (p:Int):List Ivl×Int:=if rightB b=true∧Z0a p=true then z1s (fun _ a=>G0f a p) 0 b [] else([],1)
theorem x1p (a:Ivl) (p:Int):Q0h (K0v a p).1=true:=by
 unfold K0v
 split
 · rename_i h
   have c:=canI h.1
   exact J0z (y0n (Q0x (U0c c.2 c.1) _ _))
 · exact X0h
theorem G1w (x:Nm) (k:Int):Q0h (J0q x k).1=true:=by
 unfold J0q
 split
 · rename_i h
   split
   · exact h
   · split
     · exact X0h
     · refine J0z ?_
       have h1:=W2s h
       rcases h1 with h1 | h1
       · exact .inl h1
       · exact .inr h1
 · exact X0h
theorem Z0j (k:Nat) (a b:Nm) (p:Int) (up:Bool):Q0h (Q0s k a b p up).1=true:=by
 unfold Q0s
 split
 · rename_i h
   exact J0z (y0n (Q0x (j0l k (X0g h.1) (X0g h.2.1)) _ _))
 · exact X0h
theorem j1z (v:Vl):(numV v).2=0∨(numV v).2=2:=by
 unfold numV
 split
 · exact .inl rfl
 · split
   · exact .inr rfl
   · exact .inl rfl
theorem H0l {k:Nat} {a b:Nm} {p:Int} {up:Bool} (ha:Q0h a=true) (hb:Q0h b=true) (hp:Z0a p=true):(Q0s k a b p up).2=0∨(Q0s k a b p up).2=2:=by
 rw [Q0s,if_pos ⟨ha,hb,hp⟩];exact j1z _
end Go.Pv
end
section
/-How long values get. No program in it. -/
namespace Go.Pv
def bdV (n k:Nat) (v:Vl):Prop:=Q0f v.m≤n∧ -(k:Int)≤v.e∧v.e≤k
theorem bdV.mono {n k n' k':Nat} {v:Vl} (h:bdV n k v) (h1:n≤n') (h2:k≤k'):bdV n' k' v:=⟨by have:=h.1;omega,by have:=h.2.1;omega,by have:=h.2.2;omega⟩
theorem H2s {x:Nm} (h:Q0h x=true):bdV 4096 65536 (ofN x):=by
 have hb:=X0d h
 have h1:=V0h x.w
 exact⟨by show Q0f (valW x.w)≤_;unfold X0n at h1;have:=hb.1;omega,hb.2.1,hb.2.2⟩
theorem W3q {neg:Bool} {m:Nat} {e:Int} {n k:Nat} (h1:Q0f m≤n) (h2: -(k:Int)≤e) (h3:e≤k):bdV n (k+n) (oddV neg m e):=by
 unfold oddV
 split
 · exact⟨by rw [X0e];omega,by simp only;omega,by simp only;omega⟩
 · have ht:=q0o m
   have hl:=W0n (Nat.div_le_self m (2^tz m))
   exact⟨by simp only;omega,by simp only;omega,by simp only;omega⟩
theorem Z3g {a b:Vl} {n k m l:Nat} (ha:bdV n k a) (hb:bdV m l b):bdV (n+m) (k+l) (byV a b):=by
 unfold byV
 split
 · exact⟨by rw [X0e];omega,by simp only;omega,by simp only;omega⟩
 · refine⟨?_,?_,?_⟩
   · have h:Q0f (a.m*b.m)≤Q0f a.m+Q0f b.m:=by
      rw [bitlen_le_iff,Nat.pow_add]
      exact Nat.mul_lt_mul'' (Z0d _) (Z0d _)
     have:=ha.1;have:=hb.1;simp only;omega
   · have:=ha.2.1;have:=hb.2.1;simp only;omega
   · have:=ha.2.2;have:=hb.2.2;simp only;omega
end Go.Pv
end
section
/-A number of an interval,by parts of 8. No program in it. -/
namespace Go.Pv
theorem X2e {v:Vl} (h:Y0f v=0):v.m=0:=by
 unfold Y0f at h
 split at h
 · assumption
 · split at h<;>omega
theorem w1y (k:Nat):qV (oddV false k 0)=(k:Rat):=by
 rw [q0g,if_neg (by simp)]
 unfold qM
 rw [w0p]
 show((k:Int):Rat)*1=_
 rw [Rat.mul_one];rfl
theorem X1u {v:Vl} {n k:Nat} (h:bdV n k v) (h1:n≤4096) (h2:k≤65536):(numV v).2=0:=by
 unfold numV
 split
 · rfl
 · rw [if_neg]
   have hl:=Y0o v.m
   have:=h.1;have:=h.2.1;have:=h.2.2
   omega
end Go.Pv
end
section
/-Small intervals:nothing that is reckoned of them fails. No program in it. -/
namespace Go.Pv
def smN (x:Nm):Prop:=Q0h x=true∧bdV 6 12 (ofN x)
def smI (a:Ivl):Prop:=Q0m a=true∧bdV 6 12 (ofN a.lo)∧bdV 6 12 (ofN a.hi)
theorem Z1d {n k:Nat} :bdV n k (ofN default):=by
 refine⟨?_,?_,?_⟩
 · show Q0f 0≤n;rw [X0e];omega
 · show -(k:Int)≤0;omega
 · show(0:Int)≤k;omega
theorem z2l {neg:Bool} {w:List UInt64} {e:Int} (hw:Q0f (valW w)≤6) (h1: -6≤e) (h2:e≤6):smN (J1b neg w e).1:=by
 refine⟨H1e _ _ _,?_⟩
 unfold J1b
 split
 · exact Z1d
 · split
   · exact Z1d
   · have hb:=W3q (neg:=neg) (m:=valW w) (e:=e) (n:=6) (k:=6) hw (by omega) (by omega)
     have hf:=X1u hb (by omega) (by omega)
     have hc:canV (oddV neg (valW w) e):=by
      rename_i h0 _
      exact q0c _ _ _
     rw [(J0u hc hf).1]
     exact hb
theorem y2p :p2 2=4:=by
 have:=y2r 2
 rw [←show((2:Nat):Int)=2 from rfl,←this];rfl
end Go.Pv
end
section
/-The halves of a small box. No program in it. -/
namespace Go.Pv
theorem k2w {α:Type} (l:List α) (i j:Nat) (x d:α) (hj:j<l.length):(l.set i x).getD j d=if i=j then x else l.getD j d:=by
 simp only [List.getD_eq_getElem?_getD,List.getElem?_set]
 split
 · rename_i h;subst h;simp [hj]
 · rfl
theorem q3v {x a:Ivl} (hx:Q0m x=true) (ha:Q0m a=true) (h1:qN a.lo≤qN x.lo) (h2:qN x.hi≤qN a.hi):inI x a=true:=by
 unfold inI
 rw [hx,ha]
 simp only [Bool.true_and,Bool.and_eq_true,decide_eq_true_eq]
 exact⟨cmpN_ge.2 h1,cmpN_ge.2 h2⟩
end Go.Pv
end
