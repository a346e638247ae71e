/- Parts of the walk: M23, M24, M25, M26, M27, M28, M29, M30, M31, M32, M33. -/
import Derived.Test.YtofoadghajnglaaGreatDoorZL
set_option linter.unusedVariables false
set_option linter.unusedSimpArgs false
section
/-Exact values and their rounding:what numbers that are not in one form stand for. No program in it. -/
namespace Go.Pv
def ofX (x:Nm):Vl:=oddV x.neg (valW x.w) x.exp
def Z0f (v:Vl) (p:Nat) (up:Bool):Vl:=
 if Q0g v.m≤p then v else
  oddV v.neg (v.m/2^(Q0g v.m-p)+(if v.m % 2^(Q0g v.m-p)≠0∧up≠v.neg then 1 else 0)) (v.e+((Q0g v.m-p:Nat):Int))
theorem Y0z (neg:Bool) (e:Int):oddV neg 0 e=⟨false,0,0⟩:=by rw [oddV,if_pos rfl]
theorem Q1c (neg:Bool) (m k:Nat) (e:Int):oddV neg (m*2^k) e=oddV neg m (e+k):=by
 by_cases h:m=0
 · subst h;rw [Nat.zero_mul,Y0z,Y0z]
 · have hp:m*2^k≠0:=Nat.mul_ne_zero h (Nat.ne_of_gt (Nat.two_pow_pos k))
   obtain⟨q,hq,hm⟩:=v0z m h
   have hmk:m*2^k=2^(tz m+k)*q:=by
    conv=>lhs;rw [hm]
    rw [Nat.pow_add,Nat.mul_right_comm]
   have ht:tz (m*2^k)=tz m+k:=by rw [hmk,Y1y _ _ hq]
   unfold oddV
   rw [if_neg h,if_neg hp,ht]
   have e1:m*2^k/2^(tz m+k)=m/2^tz m:=by
    rw [hmk,Nat.mul_div_cancel_left _ (Nat.two_pow_pos _)]
    conv=>rhs;rw [hm]
    rw [Y1y _ _ hq,Nat.mul_div_cancel_left _ (Nat.two_pow_pos _)]
   rw [e1]
   congr 1
   omega
theorem Q1d (neg:Bool) (m:Nat) (e:Int) (h:m % 2=1):oddV neg m e=⟨neg,m,e⟩:=by
 rw [oddV,if_neg (by omega),j1q h];simp
theorem G2c (z D q:Nat) (h:D≤z):2^z*q/2^D=q*2^(z-D):=by
 obtain⟨k,rfl⟩: ∃k,z=D+k:=⟨z-D,by omega⟩
 rw [Nat.add_sub_cancel_left,Nat.pow_add,Nat.mul_assoc,Nat.mul_div_cancel_left _ (Nat.two_pow_pos _),Nat.mul_comm]
theorem w2s {x:Nm} (h:Q0h x=true):ofX x=ofN x:=by
 rcases w2r h with h1 | h1
 · exact Q1d _ _ _ h1
 · have h0:valW x.w=0:=h1
   have hw:x.w= []:=by
    refine Classical.byContradiction fun hw=> ?_
    have h2:=h
    unfold Q0h at h2
    rw [if_neg hw] at h2
    simp only [Bool.and_eq_true,decide_eq_true_eq] at h2
    have h3:=j0s x.w
    omega
   have h2:=h
   unfold Q0h at h2
   rw [if_pos hw] at h2
   simp at h2
   unfold ofX ofN
   rw [h0,Y0z,h2.1,h2.2]
theorem w1y (neg:Bool) (m:Nat) (e:Int) (p:Nat) (up:Bool) (hp:0<p):Z0f (oddV neg m e) p up=
 if Q0g m≤p then oddV neg m e else oddV neg (m/2^(Q0g m-p)+(if tz m<Q0g m-p∧up≠neg then 1 else 0)) (e+((Q0g m-p:Nat):Int)):=by
 by_cases h0:m=0
 · subst h0
   rw [if_pos (by rw [X0l];omega),Y0z,Z0f,if_pos (by show Q0g 0≤p;rw [X0l];omega)]
 obtain⟨q,hq,hm⟩:=v0z m h0
 have hq0:q≠0:=by omega
 have e1:oddV neg m e=⟨neg,q,e+tz m⟩:=by
  have:oddV neg (q*2^tz m) e=oddV neg q (e+tz m):=Q1c neg q (tz m) e
  rw [Nat.mul_comm,←hm] at this
  rw [this,Q1d _ _ _ hq]
 have hb:Q0g m=Q0g q+tz m:=by
  have:=W0n q (tz m) hq0
  rw [Nat.mul_comm,←hm] at this
  exact this
 rw [e1]
 unfold Z0f
 simp only
 by_cases h1:Q0g q≤p
 · rw [if_pos h1]
   by_cases h2:Q0g m≤p
   · rw [if_pos h2]
   · rw [if_neg h2,if_neg (by omega),Nat.add_zero]
     have hdiv:m/2^(Q0g m-p)=q*2^(tz m-(Q0g m-p)):=by
      have h:=G2c (tz m) (Q0g m-p) q (by omega)
      rw [←hm] at h;exact h
     rw [hdiv,Q1c,Q1d _ _ _ hq]
     congr 1
     omega
 · rw [if_neg h1,if_neg (show¬Q0g m≤p by omega)]
   have hd:Q0g m-p=tz m+(Q0g q-p):=by omega
   have hdiv:m/2^(Q0g m-p)=q/2^(Q0g q-p):=by
    have h:=Nat.mul_div_cancel_left q (Nat.two_pow_pos (tz m))
    rw [←hm] at h
    rw [hd,Nat.pow_add,←Nat.div_div_eq_div_mul,h]
   have hodd:q % 2^(Q0g q-p)≠0:=by
    intro h
    have hdv:2∣q:=Nat.dvd_trans ⟨2^(Q0g q-p-1),by rw [←Nat.pow_succ'];congr 1;omega⟩ (Nat.dvd_of_mod_eq_zero h)
    omega
   rw [hdiv]
   have hc:(q % 2^(Q0g q-p)≠0∧up≠neg)↔(tz m<Q0g m-p∧up≠neg):=⟨fun h=>⟨by omega,h.2⟩,fun h=>⟨hodd,h.2⟩⟩
   by_cases hh:tz m<Q0g m-p∧up≠neg
   · rw [if_pos hh,if_pos (hc.2 hh)]
     congr 1
     omega
   · rw [if_neg hh,if_neg (fun h=>hh (hc.1 h))]
     congr 1
     omega
end Go.Pv
end
section
/-Exact sums and products,whatever form the numbers have. No program in it. -/
namespace Go.Pv
theorem z1y (neg:Bool) (m:Nat) (e:Int):oddV neg m e=mkV (if neg then -(m:Int) else(m:Int)) e:=by
 by_cases h:m=0
 · subst h
   rw [Y0z]
   unfold mkV
   cases neg<;>simp [Y0z]
 · unfold mkV
   cases neg
   · show oddV false m e=oddV (decide ((m:Int)<0)) (m:Int).natAbs e
     rw [decide_eq_false (by omega),Int.natAbs_natCast]
   · show oddV true m e=oddV (decide (-(m:Int)<0)) (-(m:Int)).natAbs e
     rw [decide_eq_true (by omega),Int.natAbs_neg,Int.natAbs_natCast]
theorem V3u (x:Nm):ofX x=mkV (mant x) x.exp:=by rw [ofX,z1y];rfl
theorem J2r (s:Int) (k:Nat) (e:Int):mkV (s*2^k) e=mkV s (e+k):=by
 unfold mkV
 have h1:(s*2^k).natAbs=s.natAbs*2^k:=by
  rw [Int.natAbs_mul,Int.natAbs_pow];rfl
 have h2:decide (s*2^k<0)=decide (s<0):=by
  have hp:=two_pow_pos k
  by_cases h:s<0
  · rw [decide_eq_true h,decide_eq_true (Int.mul_neg_of_neg_of_pos h hp)]
  · rw [decide_eq_false h,decide_eq_false (Int.not_lt.2 (Int.mul_nonneg (Int.not_lt.1 h) (Int.le_of_lt hp)))]
 rw [h1,h2,Q1c]
theorem J2s (s e:Int) (h:s≠0): ∃k:Nat,X0w (mkV s e)*2^k=s∧(mkV s e).e=e+k∧(mkV s e).m≠0:=by
 have h0:s.natAbs≠0:=by omega
 refine⟨tz s.natAbs,?_,?_,?_⟩
 · unfold mkV oddV X0w
   rw [if_neg h0]
   simp only
   have h1:=w1j s.natAbs
   by_cases hs:s<0
   · rw [decide_eq_true hs,if_pos rfl,Int.neg_mul]
     have:((s.natAbs/2^tz s.natAbs:Nat):Int)*2^tz s.natAbs=(s.natAbs:Int):=by
      rw [show((2:Int)^tz s.natAbs)=((2^tz s.natAbs:Nat):Int) from by simp,←Int.natCast_mul,h1]
     rw [this];omega
   · rw [decide_eq_false hs,if_neg (by simp)]
     have:((s.natAbs/2^tz s.natAbs:Nat):Int)*2^tz s.natAbs=(s.natAbs:Int):=by
      rw [show((2:Int)^tz s.natAbs)=((2^tz s.natAbs:Nat):Int) from by simp,←Int.natCast_mul,h1]
     rw [this];omega
 · unfold mkV oddV;rw [if_neg h0]
 · unfold mkV oddV
   rw [if_neg h0]
   have:=G0k s.natAbs h0
   simp only;omega
def byV (a b:Vl):Vl:=if a.m=0∨b.m=0 then⟨false,0,0⟩ else⟨a.neg !=b.neg,a.m*b.m,a.e+b.e⟩
theorem w2u {a b:Nat} (ha:a % 2=1) (hb:b % 2=1):a*b % 2=1:=by rw [Nat.mul_mod,ha,hb]
end Go.Pv
end
section
/-The lowest set bit of a word,and how many noughts lie below it. No program in it. -/
namespace Go.Pv
theorem q1k : ∀(k a b:Nat),a+b+1=2^k→a&&&b=0
 | 0,a,b,h=>by
  have:a=0:=by simp at h;omega
  subst this;exact Nat.zero_and b
 | k+1,a,b,h=>by
  have h2:a+b+1=2*2^k:=by rw [h,Nat.pow_succ,Nat.mul_comm]
  have ih:=q1k k (a/2) (b/2) (by omega)
  have hd:(a&&&b)/2=a/2&&&b/2:=Nat.and_div_two
  have hm:(a&&&b) % 2≠1:=fun e=>by have:=Nat.and_mod_two_eq_one.1 e;omega
  omega
theorem J2z : ∀(n x:Nat),0<x→x<2^n→x&&&(2^n-x)=2^tz x
 | 0,x,h,hl=>by simp at hl;omega
 | n+1,x,h,hl=>by
  have hp:2^(n+1)=2*2^n:=by rw [Nat.pow_succ,Nat.mul_comm]
  have hd:(x&&&(2^(n+1)-x))/2=x/2&&&(2^(n+1)-x)/2:=Nat.and_div_two
  rcases Nat.mod_two_eq_zero_or_one x with e | e
  · have ih:=J2z n (x/2) (by omega) (by omega)
    have h3:(2^(n+1)-x)/2=2^n-x/2:=by omega
    have hm:(x&&&(2^(n+1)-x)) % 2≠1:=fun e'=>by have:=Nat.and_mod_two_eq_one.1 e';omega
    rw [h3,ih] at hd
    have hps:2^(tz (x/2)+1)=2^tz (x/2)*2:=Nat.pow_succ ..
    rw [q1s (by omega) e]
    omega
  · have h4:=q1k n (x/2) ((2^(n+1)-x)/2) (by omega)
    have hm:(x&&&(2^(n+1)-x)) % 2=1:=Nat.and_mod_two_eq_one.2 ⟨e,by omega⟩
    rw [h4] at hd
    rw [j1q e,Nat.pow_zero];omega
theorem H2j (x:Nat) (h:0<x) (hl:x<18446744073709551616):x&&&(18446744073709551616-x)=2^tz x:=J2z 64 x h hl
theorem V1s (x:Nat) (h:0<x) (hl:x<18446744073709551616):tz x<64:=by
 have h1:=q0g x (by omega)
 have h2:=q1e x hl
 omega
theorem K3m (w r:Nat) (h:0<w) (hl:w<18446744073709551616):tz (w+18446744073709551616*r)=tz w:=by
 obtain⟨q,hq,hw⟩:=v0z w (by omega)
 have ht:=V1s w h hl
 have e:w+18446744073709551616*r=2^tz w*(q+2^(64-tz w)*r):=by
  rw [Nat.mul_add,←hw,←Nat.mul_assoc,←Nat.pow_add,show tz w+(64-tz w)=64 from by omega]
 have h2:2^(64-tz w)*r % 2=0:=by
  obtain⟨k,hk⟩: ∃k,64-tz w=k+1:=⟨63-tz w,by omega⟩
  rw [hk,Nat.pow_succ,Nat.mul_assoc,Nat.mul_left_comm];exact Nat.mul_mod_right _ _
 rw [e,Y1y _ _ (by omega)]
theorem V0f (l:List UInt64) (i:Nat) (h:i≤l.length):valW l=valW (l.take i)+18446744073709551616^i*valW (l.drop i):=by
 conv=>lhs;rw [←List.take_append_drop i l]
 rw [K0m,List.length_take,Nat.min_eq_left h]
theorem Y1x (l:List UInt64) (i:Nat) (h:i<l.length):valW (l.drop i)=(l.getD i 0).toNat+18446744073709551616*valW (l.drop (i+1)):=by
 rw [List.drop_eq_getElem_cons h]
 simp only [valW,nW,List.map_cons,val]
 rw [List.getD_eq_getElem?_getD,List.getElem?_eq_getElem h];rfl
theorem q0d (l:List UInt64) (i:Nat) (h:l.length≤i):valW (l.drop i)=0:=by
 rw [List.drop_eq_nil_of_le h];rfl
theorem G0j (l:List UInt64) (i:Nat):valW (l.drop i)=(l.getD i 0).toNat+18446744073709551616*valW (l.drop (i+1)):=by
 by_cases h:i<l.length
 · exact Y1x l i h
 · rw [q0d _ _ (by omega),q0d _ _ (by omega),H0n _ _ _ (by omega)];rfl
theorem v0o (l:List UInt64) (i:Nat) (h:i≤l.length):valW l/18446744073709551616^i=valW (l.drop i):=by
 have hl:=X0b (l.take i)
 rw [List.length_take,Nat.min_eq_left h] at hl
 rw [V0f l i h,Nat.add_mul_div_left _ _ (Nat.pow_pos (by decide)),Nat.div_eq_of_lt hl,Nat.zero_add]
theorem Y2q (l:List UInt64) (i:Nat) (hi:i<l.length) (hz:valW (l.take i)=0) (hn:(l.getD i 0).toNat≠0):tz (valW l)=64*i+tz (l.getD i 0).toNat:=by
 rw [V0f l i (by omega),hz,Nat.zero_add,Y1x l i hi,Nat.mul_comm,k0t,Y2r _ _ (by omega),K3m _ _ (by omega) (UInt64.toNat_lt _)]
 omega
theorem X1w (w0 w1 r s:Nat) (h0:w0<18446744073709551616) (hs:s<64):(w0+18446744073709551616*(w1+18446744073709551616*r))/2^s % 18446744073709551616=w0/2^s+w1*2^(64-s) % 18446744073709551616:=by
 have e:(18446744073709551616:Nat)=2^s*2^(64-s):=by rw [←Nat.pow_add,show s+(64-s)=64 from by omega]
 have h1:(w0+18446744073709551616*(w1+18446744073709551616*r))/2^s=w0/2^s+2^(64-s)*(w1+18446744073709551616*r):=by
  conv=>lhs;rw [show 18446744073709551616*(w1+18446744073709551616*r)=2^s*(2^(64-s)*(w1+18446744073709551616*r)) from by rw [←Nat.mul_assoc,←e]]
  rw [Nat.add_mul_div_left _ _ (Nat.two_pow_pos s)]
 have h2:w0/2^s<2^(64-s):=Nat.div_lt_of_lt_mul (by rw [←e];exact h0)
 have h3:w1*2^(64-s) % 18446744073709551616=2^(64-s)*(w1 % 2^s):=by
  conv=>lhs;rw [Nat.mul_comm,e,Nat.mul_comm (2^s),Nat.mul_mod_mul_left]
 have h4:2^(64-s)*(w1 % 2^s)+2^(64-s)≤18446744073709551616:=by
  have h5:w1 % 2^s+1≤2^s:=Nat.mod_lt _ (Nat.two_pow_pos s)
  have:=Nat.mul_le_mul_left (2^(64-s)) h5
  rw [Nat.mul_add,Nat.mul_one] at this
  rw [Nat.mul_comm (2^(64-s)) (2^s),←e] at this
  exact this
 rw [h1,h3]
 have h6:w0/2^s+2^(64-s)*(w1+18446744073709551616*r)=(w0/2^s+2^(64-s)*(w1 % 2^s))+18446744073709551616*(w1/2^s+2^(64-s)*r):=by
  have h7:=Nat.div_add_mod w1 (2^s)
  have h8:2^(64-s)*w1=2^(64-s)*(2^s*(w1/2^s))+2^(64-s)*(w1 % 2^s):=by rw [←Nat.mul_add,h7]
  rw [←Nat.mul_assoc,Nat.mul_comm (2^(64-s)) (2^s),←e] at h8
  rw [Nat.mul_add,Nat.mul_add,h8,Nat.mul_left_comm]
  omega
 rw [h6,Nat.add_mul_mod_self_left,Nat.mod_eq_of_lt (by omega)]
theorem z2f (w0 w1 s:Nat) (h0:w0<18446744073709551616) (hs:s<64):(w0/2^s)|||(w1*2^(64-s) % 18446744073709551616)=w0/2^s+w1*2^(64-s) % 18446744073709551616:=by
 refine Z1u _ _ (64-s) (Nat.div_lt_of_lt_mul ?_) (j0a _ _ (by omega))
 rw [←Nat.pow_add,show s+(64-s)=64 from by omega];exact h0
end Go.Pv
end
section
/-Values as rational numbers. No program in it. -/
namespace Go.Pv
def p2 (e:Int):Rat:=(2:Rat)^e
theorem j2h (e:Int):0<p2 e:=Rat.zpow_pos (by decide)
theorem j2i (a b:Int):p2 (a+b)=p2 a*p2 b:=Rat.zpow_add (by decide) a b
theorem X2y :p2 0=1:=Rat.zpow_zero 2
theorem V3s (k:Nat):(((2:Int)^k:Int):Rat)=p2 k:=by
 unfold p2;rw [Rat.zpow_natCast]
 induction k with
 | zero=>rfl
 | succ k ih=>rw [Int.pow_succ,Rat.intCast_mul,ih,Rat.pow_succ];rfl
def qM (s e:Int):Rat:=(s:Rat)*p2 e
def qV (v:Vl):Rat:=qM (X0w v) v.e
def qN (x:Nm):Rat:=qM (mant x) x.exp
theorem H0w (s:Int) (k:Nat) (e:Int):qM (s*2^k) e=qM s (e+k):=by
 unfold qM;rw [Rat.intCast_mul,V3s,j2i];grind
theorem k1m (s t e:Int):qM (s+t) e=qM s e+qM t e:=by unfold qM;rw [Rat.intCast_add];grind
theorem X2t (s t e f:Int):qM (s*t) (e+f)=qM s e*qM t f:=by unfold qM;rw [Rat.intCast_mul,j2i];grind
theorem K0q (e:Int):qM 0 e=0:=by unfold qM;rw [Rat.intCast_zero];grind
theorem y0l (s e:Int):qM (-s) e= -qM s e:=by unfold qM;rw [Rat.intCast_neg];grind
theorem qM_le {s t e:Int} :qM s e≤qM t e↔s≤t:=by
 unfold qM
 constructor
 · intro h
   exact Rat.intCast_le_intCast.1 (Rat.le_of_mul_le_mul_right h (j2h e))
 · intro h
   exact Rat.mul_le_mul_of_nonneg_right (Rat.intCast_le_intCast.2 h) (Rat.le_of_lt (j2h e))
theorem qM_lt {s t e:Int} :qM s e<qM t e↔s<t:=by
 rw [←Rat.not_le,qM_le];omega
theorem k3n {s t e:Int} :qM s e=qM t e↔s=t:=by
 constructor
 · intro h
   have h1:=(qM_le (s:=s) (t:=t) (e:=e)).1 (by rw [h];exact Rat.le_refl)
   have h2:=(qM_le (s:=t) (t:=s) (e:=e)).1 (by rw [h];exact Rat.le_refl)
   omega
 · rintro rfl;rfl
theorem z1i (s e g:Int) (h:g≤e):qM s e=qM (s*2^(e-g).toNat) g:=by
 rw [H0w];congr 1;omega
theorem w2f (s e:Int):qV (mkV s e)=qM s e:=by
 by_cases h:s=0
 · subst h
   rw [v1e,K0q]
   exact K0q 0
 · obtain⟨k,k1,k2,k3⟩:=J2s s e h
   unfold qV
   rw [k2,←H0w,k1]
theorem k0o (neg:Bool) (m:Nat) (e:Int):qV (oddV neg m e)=qM (if neg then -(m:Int) else(m:Int)) e:=by rw [z1y,w2f]
theorem V3j (x:Nm):qV (ofX x)=qN x:=by rw [V3u,w2f];rfl
theorem J0j (x:Nm):qV (ofN x)=qN x:=rfl
theorem U1z {v:Vl} (h:v.m=0):qV v=0:=by unfold qV;rw [w0r h,K0q]
theorem w0j (a b:Vl):qV (G0o a b)=qV a+qV b:=by
 unfold G0o
 split
 · rename_i h;rw [U1z h];grind
 · split
   · rename_i h;rw [U1z h];grind
   · rw [w2f,k1m,←z1i _ _ _ (by omega),←z1i _ _ _ (by omega)];rfl
theorem G0e (v:Vl):qV (K0j v)= -qV v:=by
 unfold qV;rw [w0s,w0b,y0l]
theorem x0v (a b:Vl):qV (G0s a b)=qV a-qV b:=by
 unfold G0s;rw [w0j,G0e];grind
theorem H2i {a b:Vl} (ha:a.m≠0) (hb:b.m≠0):X0w (byV a b)=X0w a*X0w b∧(byV a b).e=a.e+b.e:=by
 unfold byV
 rw [if_neg (by omega)]
 refine⟨?_,rfl⟩
 unfold X0w
 cases a.neg<;>cases b.neg<;>simp [Int.neg_mul,Int.mul_neg]
theorem J1r (a b:Vl):qV (byV a b)=qV a*qV b:=by
 by_cases ha:a.m=0
 · rw [U1z ha,U1z (by unfold byV;rw [if_pos (.inl ha)])];grind
 · by_cases hb:b.m=0
   · rw [U1z hb,U1z (by unfold byV;rw [if_pos (.inr hb)])];grind
   · obtain⟨h1,h2⟩:=H2i ha hb
     unfold qV
     rw [h1,h2,X2t]
theorem Z2w (m:Int):sgn m≤0↔m≤0:=by unfold sgn;split<;>(try split)<;>omega
theorem x2y (m:Int):sgn m<0↔m<0:=by unfold sgn;split<;>(try split)<;>omega
theorem J2a (a b:Vl):Y0y a b≤0↔qV a≤qV b:=by
 unfold Y0y
 have h:=x0v a b
 rw [z0q,Z2w]
 have h2:X0w (G0s a b)≤0↔qV (G0s a b)≤0:=by
  rw [←K0q (G0s a b).e];exact qM_le.symm
 rw [h2,h];grind
theorem G1d (a b:Vl):Y0y a b<0↔qV a<qV b:=by
 unfold Y0y
 have h:=x0v a b
 rw [z0q,x2y]
 have h2:X0w (G0s a b)<0↔qV (G0s a b)<0:=by
  rw [←K0q (G0s a b).e];exact qM_lt.symm
 rw [h2,h];grind
theorem cmpN_le {a b:Nm} :cmpN a b≤0↔qN a≤qN b:=by rw [←w0n,J2a];rfl
theorem cmpN_lt {a b:Nm} :cmpN a b<0↔qN a<qN b:=by rw [←w0n,G1d];rfl
theorem cmpN_gt {a b:Nm} :0<cmpN a b↔qN b<qN a:=by
 have:=cmpN_le (a:=a) (b:=b)
 rw [←Rat.not_le,←this];omega
theorem j1y (a:Vl):K0n a<0↔qV a<0:=by
 rw [z0q,x2y,←K0q a.e];exact qM_lt.symm
theorem U2d (a:Vl):K0n a≤0↔qV a≤0:=by
 rw [z0q,Z2w,←K0q a.e];exact qM_le.symm
def canV (v:Vl):Prop:=v.m % 2=1∨v=⟨false,0,0⟩
theorem Q1h (neg:Bool) (m:Nat) (e:Int):canV (oddV neg m e):=by
 unfold oddV canV
 split
 · exact .inr rfl
 · exact .inl (G0k m (by assumption))
theorem Z3q (s e:Int):canV (mkV s e):=Q1h _ _ _
theorem v1t (x:Nm):canV (ofX x):=Q1h _ _ _
theorem V0t {x:Nm} (h:Q0h x=true):canV (ofN x):=by rw [←w2s h];exact v1t x
theorem v0r {a b:Vl} (ha:canV a) (hb:canV b):canV (G0o a b):=by
 unfold G0o
 split
 · exact hb
 · split
   · exact ha
   · exact Z3q _ _
theorem v0q {a:Vl} (ha:canV a):canV (K0j a):=by
 rcases ha with h | rfl
 · exact .inl (by rw [w0a];exact h)
 · exact .inr rfl
theorem J1g {a b:Vl} (ha:canV a) (hb:canV b):canV (G0s a b):=v0r ha (v0q hb)
theorem W2e {a b:Vl} (ha:canV a) (hb:canV b):canV (byV a b):=by
 rcases ha with h | rfl
 · rcases hb with k | rfl
   · exact .inl (by unfold byV;rw [if_neg (by omega)];exact w2u h k)
   · exact .inr (by unfold byV;rw [if_pos (.inr rfl)])
 · exact .inr (by unfold byV;rw [if_pos (.inl rfl)])
theorem V0a {v:Vl} (h:canV v) (p:Nat) (up:Bool):canV (Z0f v p up):=by
 unfold Z0f
 split
 · exact h
 · exact Q1h _ _ _
theorem J1f {v:Vl} (h:canV v):okV v:=by
 rcases h with h | rfl
 · exact .inl h
 · exact .inr rfl
theorem H1x {v:Vl} (h:canV v):v=mkV (X0w v) v.e:=by
 rcases h with h | rfl
 · have:oddV v.neg v.m v.e=v:=by rw [Q1d _ _ _ h]
   conv=>lhs;rw [←this]
   rw [z1y];rfl
 · rw [show X0w ⟨false,0,0⟩=0 from rfl,v1e]
theorem W3b {s e t f:Int} (h:qM s e=qM t f):mkV s e=mkV t f:=by
 have h1:mkV s e=mkV (s*2^(e-min e f).toNat) (min e f):=by rw [J2r];congr 1;omega
 have h2:mkV t f=mkV (t*2^(f-min e f).toNat) (min e f):=by rw [J2r];congr 1;omega
 rw [z1i s e (min e f) (by omega),z1i t f (min e f) (by omega),k3n] at h
 rw [h1,h2,h]
theorem Y1j {v w:Vl} (hv:canV v) (hw:canV w) (h:qV v=qV w):v=w:=by
 rw [H1x hv,H1x hw]
 exact W3b h
theorem Z1v {x:Nm} {v:Vl} (hv:canV v) (h:qN x=qV v):ofX x=v:=Y1j (v1t x) hv (by rw [V3j,h])
theorem w0f (neg:Bool) (m d:Nat) (c:Nat) (e:Int):qM (if neg then -((m/2^d+c:Nat):Int) else((m/2^d+c:Nat):Int)) (e+(d:Int))=qM (if neg then -(((m/2^d+c)*2^d:Nat):Int) else(((m/2^d+c)*2^d:Nat):Int)) e:=by
 rw [←H0w]
 congr 1
 cases neg
 · simp
 · simp [Int.neg_mul]
theorem k0i (v:Vl) (p:Nat):qV (Z0f v p false)≤qV v:=by
 unfold Z0f
 split
 · exact Rat.le_refl
 · rw [k0o,w0f]
   unfold qV X0w
   rw [qM_le]
   generalize Q0g v.m-p=d
   have h1:=Nat.div_add_mod v.m (2^d)
   have h2:=Nat.mod_lt v.m (Nat.two_pow_pos d)
   rw [Nat.mul_comm] at h1
   rw [Nat.add_mul]
   cases v.neg
   · rw [if_neg (by simp),if_neg (by simp),if_neg (by simp),Nat.zero_mul];omega
   · rw [if_pos rfl,if_pos rfl]
     by_cases h3:v.m % 2^d=0
     · rw [if_neg (by simp [h3]),Nat.zero_mul];omega
     · rw [if_pos ⟨h3,by simp⟩,Nat.one_mul];omega
theorem W0r (v:Vl) (p:Nat):qV v≤qV (Z0f v p true):=by
 unfold Z0f
 split
 · exact Rat.le_refl
 · rw [k0o,w0f]
   unfold qV X0w
   rw [qM_le]
   generalize Q0g v.m-p=d
   have h1:=Nat.div_add_mod v.m (2^d)
   have h2:=Nat.mod_lt v.m (Nat.two_pow_pos d)
   rw [Nat.mul_comm] at h1
   rw [Nat.add_mul]
   cases v.neg
   · rw [if_neg (by simp),if_neg (by simp)]
     by_cases h3:v.m % 2^d=0
     · rw [if_neg (by simp [h3]),Nat.zero_mul];omega
     · rw [if_pos ⟨h3,by simp⟩,Nat.one_mul];omega
   · rw [if_pos rfl,if_pos rfl,if_neg (by simp),Nat.zero_mul];omega
theorem z0u {v:Vl} (hv:canV v) (h:(numV v).2=0):ofN (numV v).1=v∧qN (numV v).1=qV v:=by
 unfold numV at h⊢
 split
 · rename_i h0
   rcases hv with hv | rfl
   · omega
   · exact⟨rfl,rfl⟩
 · rename_i h0
   rw [if_neg h0] at h
   split
   · rename_i h1;rw [if_pos h1] at h;cases h
   · have e:ofN ⟨v.neg,v.e,Q0l v.m⟩=v:=by unfold ofN;rw [Q0y]
     exact⟨e,by rw [←J0j,e]⟩
theorem k1x {x:Nm} (h:Q0h x=true):numV (ofN x)=(x,0):=by
 unfold numV ofN
 simp only
 have h2:=h
 unfold Q0h at h2
 by_cases hw:x.w= []
 · rw [if_pos hw] at h2
   simp at h2
   rw [if_pos (by rw [hw];rfl)]
   congr 1
   obtain⟨n,e,w⟩:=x
   simp at hw h2
   obtain⟨rfl,rfl⟩:=h2
   subst hw;rfl
 · rw [if_neg hw] at h2
   simp only [Bool.and_eq_true,decide_eq_true_eq] at h2
   rw [if_neg (by have:=(X0n h);intro e;exact hw (this.1 e)),Q0u,w0g h,if_neg (by omega)]
end Go.Pv
end
section
/-What sums,differences and products of intervals come to. No program in it. -/
namespace Go.Pv
theorem V0l {a b:Rat} (ha:0≤a) (hb:0≤b):0≤a*b:=Rat.mul_nonneg ha hb
theorem Z3h {x y u v X U:Rat} (h1:x≤X) (h2:X≤y) (h3:u≤U) (h4:U≤v) (hx:0≤x) (hu:0≤u):x*u≤X*U:=by
 have a1:=V0l (a:=X-x) (b:=u) (by grind) hu
 have a2:=V0l (a:=X) (b:=U-u) (by grind) (by grind)
 grind
theorem V2w {x y u v X U:Rat} (h1:x≤X) (h2:X≤y) (h3:u≤U) (h4:U≤v) (hx:0≤X) (hu:u≤0):y*u≤X*U:=by
 have a1:=V0l (a:=y-X) (b:= -u) (by grind) (by grind)
 have a2:=V0l (a:=X) (b:=U-u) (by grind) (by grind)
 grind
theorem V2v {x y u v X U:Rat} (h1:x≤X) (h2:X≤y) (h3:u≤U) (h4:U≤v) (hx:x≤0) (hu:0≤U):x*v≤X*U:=by
 have a1:=V0l (a:= -x) (b:=v-U) (by grind) (by grind)
 have a2:=V0l (a:=X-x) (b:=U) (by grind) (by grind)
 grind
theorem Z3g {x y u v X U:Rat} (h1:x≤X) (h2:X≤y) (h3:u≤U) (h4:U≤v) (hx:y≤0) (hu:v≤0):y*v≤X*U:=by
 have a1:=V0l (a:=y-X) (b:= -v) (by grind) (by grind)
 have a2:=V0l (a:= -X) (b:=v-U) (by grind) (by grind)
 grind
theorem w2k {a b:Rat} (ha:a≤0) (hb:b≤0):0≤a*b:=by
 have:=V0l (a:= -a) (b:= -b) (by grind) (by grind)
 grind
theorem w2l {a b:Rat} (ha:0≤a) (hb:b≤0):a*b≤0:=by
 have:=V0l (a:=a) (b:= -b) ha (by grind)
 grind
theorem G2s {a b:Rat} (ha:a≤0) (hb:0≤b):a*b≤0:=by
 have:=V0l (a:= -a) (b:=b) (by grind) hb
 grind
def K0t (x y u v:Vl):Vl:=
 if 0≤K0n x∧0≤K0n u then byV x u else if 0≤K0n x then byV y u else if 0≤K0n u then byV x v else
 if K0n y≤0∧K0n v≤0 then byV y v else if Y0y (byV y u) (byV x v)<0 then byV y u else byV x v
def U0e (x y u v:Vl):Vl:=K0j (K0t (K0j y) (K0j x) u v)
theorem U2e (a:Vl):0≤K0n a↔0≤qV a:=by
 have:=j1y a
 rw [←Rat.not_lt,←this];omega
theorem G0t {x y u v:Vl} (hx:qV x≤qV y) (hu:qV u≤qV v) {X U:Rat} (h1:qV x≤X) (h2:X≤qV y) (h3:qV u≤U) (h4:U≤qV v):qV (K0t x y u v)≤X*U:=by
 unfold K0t
 simp only [U2e,U2d,G1d,J1r]
 split
 · rename_i h;rw [J1r];exact Z3h h1 h2 h3 h4 h.1 h.2
 · rename_i n1
   split
   · rename_i h;rw [J1r];exact V2w h1 h2 h3 h4 (by grind) (by grind)
   · rename_i n2
     split
     · rename_i h;rw [J1r];exact V2v h1 h2 h3 h4 (by grind) (by grind)
     · rename_i n3
       split
       · rename_i h;rw [J1r];exact Z3g h1 h2 h3 h4 h.1 h.2
       · rename_i n4
         have key:qV y*qV u≤X*U∨qV x*qV v≤X*U:=by
          by_cases hX:0≤X
          · exact .inl (V2w h1 h2 h3 h4 hX (by grind))
          · by_cases hU:0≤U
            · exact .inr (V2v h1 h2 h3 h4 (by grind) hU)
            · have p:=w2k (a:=X) (b:=U) (by grind) (by grind)
              by_cases hy:0≤qV y
              · have:=w2l (a:=qV y) (b:=qV u) hy (by grind);exact .inl (by grind)
              · have:=G2s (a:=qV x) (b:=qV v) (by grind) (by grind);exact .inr (by grind)
         split
         · rename_i h;rw [J1r];grind
         · rename_i h;rw [J1r];grind
theorem z0x (x y u v:Vl):K0t x y u v=byV x u∨K0t x y u v=byV x v∨K0t x y u v=byV y u∨K0t x y u v=byV y v:=by
 unfold K0t
 repeat' split
 all_goals simp
theorem q0w {x y u v:Vl} (hx:qV x≤qV y) (hu:qV u≤qV v) {X U:Rat} (h1:qV x≤X) (h2:X≤qV y) (h3:qV u≤U) (h4:U≤qV v):X*U≤qV (U0e x y u v):=by
 unfold U0e
 have:=G0t (x:=K0j y) (y:=K0j x) (u:=u) (v:=v) (X:= -X) (U:=U) (by rw [G0e,G0e];grind) hu (by rw [G0e];grind) (by rw [G0e];grind) h3 h4
 rw [G0e];grind
theorem Q2d (x y u v:Vl):qV (U0e x y u v)=qV x*qV u∨qV (U0e x y u v)=qV x*qV v∨qV (U0e x y u v)=qV y*qV u∨qV (U0e x y u v)=qV y*qV v:=by
 unfold U0e
 rw [G0e]
 rcases z0x (K0j y) (K0j x) u v with h | h | h | h
 all_goals rw [h,J1r,G0e];grind
theorem y0e {x y u v:Vl} (hx:canV x) (hy:canV y) (hu:canV u) (hv:canV v):canV (K0t x y u v):=by
 rcases z0x x y u v with h | h | h | h
 all_goals rw [h];exact W2e (by assumption) (by assumption)
theorem V1m {x y u v:Vl} (hx:canV x) (hy:canV y) (hu:canV u) (hv:canV v):canV (U0e x y u v):=v0q (y0e (v0q hy) (v0q hx) hu hv)
def exV (k:Nat) (a b:Vl):Vl:=if k=0 then G0o a b else if k=1 then G0s a b else byV a b
def exQ (k:Nat) (a b:Rat):Rat:=if k=0 then a+b else if k=1 then a-b else a*b
theorem exQ0 (a b:Rat):exQ 0 a b=a+b:=by simp [exQ]
theorem exQ1 (a b:Rat):exQ 1 a b=a-b:=by simp [exQ]
theorem exQ2 (a b:Rat):exQ 2 a b=a*b:=by simp [exQ]
theorem W1i (k:Nat) (a b:Vl):qV (exV k a b)=exQ k (qV a) (qV b):=by
 unfold exV exQ
 split
 · exact w0j a b
 · split
   · exact x0v a b
   · exact J1r a b
theorem j1c (k:Nat) {a b:Vl} (ha:canV a) (hb:canV b):canV (exV k a b):=by
 unfold exV
 split
 · exact v0r ha hb
 · split
   · exact J1g ha hb
   · exact W2e ha hb
def Z0n (p:Int):Bool:=decide (8≤p)&&decide (p≤256)
def Q0r (k:Nat) (a b:Nm) (p:Int) (up:Bool):Nm×Int:=if Q0h a=true∧Q0h b=true∧Z0n p=true then numV (Z0f (exV k (ofN a) (ofN b)) p.toNat up) else(default,1)
def j0m (lo hi:Vl):Ivl×Int:=if (numV lo).2=0∧(numV hi).2=0 then(⟨(numV lo).1,(numV hi).1⟩,0) else(default,2)
def loV (k:Nat) (x y u v:Vl):Vl:=if k=0 then G0o x u else if k=1 then G0s x v else K0t x y u v
def hiV (k:Nat) (x y u v:Vl):Vl:=if k=0 then G0o y v else if k=1 then G0s y u else U0e x y u v
def opI (k:Nat) (a b:Ivl) (p:Int):Ivl×Int:=
 if Q0v a=true∧Q0v b=true∧Z0n p=true then j0m (Z0f (loV k (ofN a.lo) (ofN a.hi) (ofN b.lo) (ofN b.hi)) p.toNat false) (Z0f (hiV k (ofN a.lo) (ofN a.hi) (ofN b.lo) (ofN b.hi)) p.toNat true) else(default,1)
theorem loV0 (x y u v:Vl):loV 0 x y u v=G0o x u:=by simp [loV]
theorem hiV0 (x y u v:Vl):hiV 0 x y u v=G0o y v:=by simp [hiV]
theorem loV1 (x y u v:Vl):loV 1 x y u v=G0s x v:=by simp [loV]
theorem hiV1 (x y u v:Vl):hiV 1 x y u v=G0s y u:=by simp [hiV]
theorem j2m (k:Nat) {x y u v:Vl} (hx:qV x≤qV y) (hu:qV u≤qV v) {X U:Rat} (h1:qV x≤X) (h2:X≤qV y) (h3:qV u≤U) (h4:U≤qV v):qV (loV k x y u v)≤exQ k X U:=by
 unfold loV exQ
 split
 · rw [w0j];grind
 · split
   · rw [x0v];grind
   · exact G0t hx hu h1 h2 h3 h4
theorem j2p (k:Nat) {x y u v:Vl} (hx:qV x≤qV y) (hu:qV u≤qV v) {X U:Rat} (h1:qV x≤X) (h2:X≤qV y) (h3:qV u≤U) (h4:U≤qV v):exQ k X U≤qV (hiV k x y u v):=by
 unfold hiV exQ
 split
 · rw [w0j];grind
 · split
   · rw [x0v];grind
   · exact q0w hx hu h1 h2 h3 h4
theorem Y1i (k:Nat) {x y u v:Vl} (hx:canV x) (hy:canV y) (hu:canV u) (hv:canV v):canV (loV k x y u v):=by
 unfold loV
 split
 · exact v0r hx hu
 · split
   · exact J1g hx hv
   · exact y0e hx hy hu hv
theorem Y1k (k:Nat) {x y u v:Vl} (hx:canV x) (hy:canV y) (hu:canV u) (hv:canV v):canV (hiV k x y u v):=by
 unfold hiV
 split
 · exact v0r hy hv
 · split
   · exact J1g hy hu
   · exact V1m hx hy hu hv
theorem q0o {x:Ivl} (h:Q0v x=true):qV (ofN x.lo)≤qV (ofN x.hi):=cmpN_le.1 (Q0w h).2.2
theorem x1p {lo hi:Vl} (h1:canV lo) (h2:canV hi) (h:qV lo≤qV hi):Q0v (j0m lo hi).1=true:=by
 unfold j0m
 split
 · rename_i hh
   exact Z1e (Y0w (J1f h1)) (Y0w (J1f h2)) (cmpN_le.2 (by rw [(z0u h1 hh.1).2,(z0u h2 hh.2).2];exact h))
 · decide
theorem v3b (k:Nat) {a b:Ivl} (ha:Q0v a=true) (hb:Q0v b=true) (p:Nat):
 qV (Z0f (loV k (ofN a.lo) (ofN a.hi) (ofN b.lo) (ofN b.hi)) p false)≤qV (Z0f (hiV k (ofN a.lo) (ofN a.hi) (ofN b.lo) (ofN b.hi)) p true):=by
 have h1:=k0i (loV k (ofN a.lo) (ofN a.hi) (ofN b.lo) (ofN b.hi)) p
 have h2:=W0r (hiV k (ofN a.lo) (ofN a.hi) (ofN b.lo) (ofN b.hi)) p
 have h3:=j2m k (q0o ha) (q0o hb) Rat.le_refl (q0o ha) Rat.le_refl (q0o hb)
 have h4:=j2p k (q0o ha) (q0o hb) Rat.le_refl (q0o ha) Rat.le_refl (q0o hb)
 grind
theorem canI {x:Ivl} (h:Q0v x=true):canV (ofN x.lo)∧canV (ofN x.hi):=⟨V0t (Q0w h).1,V0t (Q0w h).2.1⟩
theorem G0q (k:Nat) (a b:Ivl) (p:Int):Q0v (opI k a b p).1=true:=by
 unfold opI
 split
 · rename_i h
   have ca:=canI h.1
   have cb:=canI h.2.1
   exact x1p (V0a (Y1i k ca.1 ca.2 cb.1 cb.2) _ _) (V0a (Y1k k ca.1 ca.2 cb.1 cb.2) _ _) (v3b k h.1 h.2.1 _)
 · decide
def memI (X:Rat) (a:Ivl):Prop:=qN a.lo≤X∧X≤qN a.hi
theorem z1r (k:Nat) {a b:Ivl} {p:Int} (h:(opI k a b p).2=0) {X U:Rat} (hX:memI X a) (hU:memI U b):memI (exQ k X U) (opI k a b p).1:=by
 unfold opI at h⊢
 split
 · rename_i hr
   rw [if_pos hr] at h
   have ca:=canI hr.1
   have cb:=canI hr.2.1
   unfold j0m at h⊢
   split
   · rename_i hh
     have h1:=(z0u (V0a (Y1i k ca.1 ca.2 cb.1 cb.2) _ _) hh.1).2
     have h2:=(z0u (V0a (Y1k k ca.1 ca.2 cb.1 cb.2) _ _) hh.2).2
     have h3:=j2m k (q0o hr.1) (q0o hr.2.1) hX.1 hX.2 hU.1 hU.2
     have h4:=j2p k (q0o hr.1) (q0o hr.2.1) hX.1 hX.2 hU.1 hU.2
     have h5:=k0i (loV k (ofN a.lo) (ofN a.hi) (ofN b.lo) (ofN b.hi)) p.toNat
     have h6:=W0r (hiV k (ofN a.lo) (ofN a.hi) (ofN b.lo) (ofN b.hi)) p.toNat
     exact⟨by rw [h1];grind,by rw [h2];grind⟩
   · rename_i hh;rw [if_neg hh] at h;cases h
 · rename_i hr;rw [if_neg hr] at h;cases h
end Go.Pv
end
section
/-Exact sums and products of numbers in any form,and how long they get. No program in it. -/
namespace Go.Pv
def bd (n k:Nat) (x:Nm):Prop:=x.w.length≤n∧ -(k:Int)≤x.exp∧x.exp≤k
theorem bd.mono {n k n' k':Nat} {x:Nm} (h:bd n k x) (h1:n≤n') (h2:k≤k'):bd n' k' x:=⟨by have:=h.1;omega,by have:=h.2.1;omega,by have:=h.2.2;omega⟩
theorem Z0z {x:Nm} (h:Q0h x=true):bd 64 65536 x:=by
 unfold Q0h at h
 by_cases hw:x.w= []
 · rw [if_pos hw] at h
   simp at h
   exact⟨by rw [hw];simp,by rw [h.2];omega,by rw [h.2];omega⟩
 · rw [if_neg hw] at h
   simp only [Bool.and_eq_true,decide_eq_true_eq] at h
   exact⟨h.1.1.1.2,h.1.2,h.2⟩
theorem V3k (x:Nm):qN { x with neg:= !x.neg } = -qN x:=by
 unfold qN mant
 rw [←y0l]
 congr 1
 cases x.neg<;>simp
theorem U2x (neg:Bool) (e:Int) (m:Nat):qN ⟨neg,e,Q0l m⟩=qM (if neg then -(m:Int) else(m:Int)) e:=by
 unfold qN mant;rw [Q0y]
theorem w2g (b:Nm) (e:Int) (d:Nat) (h:b.exp=e+d):qN b=qM (if b.neg then -((valW b.w*2^d:Nat):Int) else((valW b.w*2^d:Nat):Int)) e:=by
 unfold qN
 rw [h,←H0w]
 congr 1
 unfold mant
 cases b.neg
 · simp
 · simp [Int.neg_mul]
theorem Q3e (a b:Nm) (d:Nat) (h:b.exp=a.exp+d) (hn:a.neg=b.neg):qN ⟨a.neg,a.exp,Q0l (valW a.w+valW b.w*2^d)⟩=qN a+qN b:=by
 rw [U2x,w2g b a.exp d h,show qN a=qM (mant a) a.exp from rfl,←k1m]
 congr 1
 unfold mant
 rw [←hn]
 cases a.neg<;>simp<;>omega
theorem q2x (a b:Nm) (d:Nat) (h:b.exp=a.exp+d) (hn:a.neg≠b.neg) (hle:valW b.w*2^d≤valW a.w):qN ⟨a.neg,a.exp,Q0l (valW a.w-valW b.w*2^d)⟩=qN a+qN b:=by
 rw [U2x,w2g b a.exp d h,show qN a=qM (mant a) a.exp from rfl,←k1m]
 congr 1
 unfold mant
 generalize valW b.w*2^d=x at*
 cases ha:a.neg<;>cases hb:b.neg<;>simp [ha,hb] at hn⊢ <;>omega
theorem q2w (a b:Nm) (d:Nat) (h:b.exp=a.exp+d) (hn:a.neg≠b.neg) (hle:valW a.w≤valW b.w*2^d):qN ⟨b.neg,a.exp,Q0l (valW b.w*2^d-valW a.w)⟩=qN a+qN b:=by
 rw [U2x,w2g b a.exp d h,show qN a=qM (mant a) a.exp from rfl,←k1m]
 congr 1
 unfold mant
 generalize valW b.w*2^d=x at*
 cases ha:a.neg<;>cases hb:b.neg<;>simp [ha,hb] at hn⊢ <;>omega
theorem U1h {x:Nm} (h:sgnN x=0):qN x=0:=by
 have:mant x=0:=by
  rw [w0e] at h
  unfold sgn at h
  split at h
  · assumption
  · split at h<;>omega
 unfold qN;rw [this,K0q]
theorem W3z (a b:Nm) (n k d:Nat) (ha:bd n k a) (hb:bd n k b) (hd:d≤2*k):(Q0l (valW a.w+valW b.w*2^d)).length≤n+k+1:=by
 refine Z0q ?_
 have h1:=X0b a.w
 have h2:=X0b b.w
 have hp: ∀l:Nat,l≤n→18446744073709551616^l≤2^(64*n):=fun l hl=>by rw [k0t];exact Nat.pow_le_pow_right (by decide) (by omega)
 have h3:valW a.w<2^(64*n+d):=Nat.lt_of_lt_of_le h1 (Nat.le_trans (hp _ ha.1) (Nat.pow_le_pow_right (by decide) (by omega)))
 have h4:valW b.w*2^d<2^(64*n+d):=by
  rw [Nat.pow_add]
  exact Nat.mul_lt_mul_of_pos_right (Nat.lt_of_lt_of_le h2 (hp _ hb.1)) (Nat.two_pow_pos d)
 have h5:18446744073709551616^(n+k+1)=2^(64*(n+k+1)):=k0t _
 have h6:2^(64*n+d+1)≤2^(64*(n+k+1)):=Nat.pow_le_pow_right (by decide) (by omega)
 have h7:2^(64*n+d+1)=2^(64*n+d)*2:=Nat.pow_succ ..
 rw [h5]
 omega
theorem V2d (a b:Nm) (n k d m:Nat) (ha:bd n k a) (hb:bd n k b) (hd:d≤2*k) (hm:m≤valW a.w+valW b.w*2^d):(Q0l m).length≤n+k+1:=Nat.le_trans (V0n hm) (W3z a b n k d ha hb hd)
theorem V3l (a b:Nm):qN ⟨a.neg !=b.neg,a.exp+b.exp,Q0l (valW a.w*valW b.w)⟩=qN a*qN b:=by
 rw [U2x]
 show _=qM (mant a) a.exp*qM (mant b) b.exp
 rw [←X2t]
 congr 1
 unfold mant
 cases a.neg<;>cases b.neg<;>simp [Int.neg_mul,Int.mul_neg]
theorem y2m (a b:Nm) (n k m l:Nat) (ha:bd n k a) (hb:bd m l b):bd (n+m) (k+l) ⟨a.neg !=b.neg,a.exp+b.exp,Q0l (valW a.w*valW b.w)⟩:=by
 refine⟨Z0q ?_,?_,?_⟩
 · have h1:=X0b a.w
   have h2:=X0b b.w
   refine Nat.lt_of_lt_of_le (Nat.mul_lt_mul'' h1 h2) ?_
   rw [←Nat.pow_add]
   exact Nat.pow_le_pow_right (by decide) (by have:=ha.1;have:=hb.1;omega)
 · have:=ha.2.1;have:=hb.2.1;simp only;omega
 · have:=ha.2.2;have:=hb.2.2;simp only;omega
end Go.Pv
end
section
/-The right number of words by a power of two,rounded or not. No program in it. -/
namespace Go.Pv
theorem V1p (m:Nat) (h:m≠0):((Q0l m).getD 0 0).toNat % 2=m % 2:=by
 rw [←j0s,Q0y]
theorem U1m (neg:Bool) (m:Nat) (e:Int) (h:m % 2=1):Q0h ⟨neg,e,Q0l m⟩=(decide ((Q0l m).length≤64)&&decide (-65536≤e)&&decide (e≤65536)):=by
 have hw:Q0l m≠ []:=fun e=>by rw [wordsOf_nil] at e;omega
 have h1:((Q0l m).getD 0 0).toNat % 2=1:=by rw [V1p m (by omega)];exact h
 unfold Q0h
 rw [if_neg hw,W0y]
 simp only [h1,decide_true,Bool.true_and,Bool.and_true]
def mkX (neg:Bool) (w:List UInt64) (e:Int):Nm×Int:=numV (oddV neg (valW w) e)
theorem H2b {neg:Bool} {w:List UInt64} {e:Int} (h:valW w=0):mkX neg w e=(default,0):=by
 unfold mkX;rw [h,Y0z];rfl
theorem J2q {neg:Bool} {w:List UInt64} {e:Int} (h:valW w≠0) (h2:65536<e∨e< -65536-((tz (valW w):Nat):Int)):mkX neg w e=(default,2):=by
 unfold mkX oddV
 rw [if_neg h]
 have h1:valW w/2^tz (valW w)≠0:=by have:=G0k (valW w) h;omega
 unfold numV
 rw [if_neg h1,if_pos (by simp only;omega)]
theorem H2c {neg:Bool} {w:List UInt64} {e:Int} (h:valW w≠0):mkX neg w e=if Q0h ⟨neg,e+((tz (valW w):Nat):Int),Q0l (valW w/2^tz (valW w))⟩=true then(⟨neg,e+((tz (valW w):Nat):Int),Q0l (valW w/2^tz (valW w))⟩,0) else(default,2):=by
 have h0:=G0k (valW w) h
 rw [U1m _ _ _ h0]
 unfold mkX oddV
 rw [if_neg h]
 unfold numV
 rw [if_neg (by simp only;omega)]
 simp only
 by_cases hc:64<(Q0l (valW w/2^tz (valW w))).length∨e+((tz (valW w):Nat):Int)< -65536∨65536<e+((tz (valW w):Nat):Int)
 · rw [if_pos hc,if_neg]
   simp only [Bool.and_eq_true,decide_eq_true_eq];omega
 · rw [if_neg hc,if_pos]
   simp only [Bool.and_eq_true,decide_eq_true_eq];omega
theorem y2a (x:Nm):mkX x.neg x.w x.exp=numV (ofX x):=rfl
def rndX (x:Nm) (p:Nat) (up:Bool):Nm:=
 if X0i x.w≤p then x else⟨x.neg,x.exp+((X0i x.w-p:Nat):Int),Q0l (valW x.w/2^(X0i x.w-p)+(if tz (valW x.w)<X0i x.w-p∧up≠x.neg then 1 else 0))⟩
theorem U2m (x:Nm) (p:Nat) (up:Bool) (hp:0<p):ofX (rndX x p up)=Z0f (ofX x) p up:=by
 unfold rndX
 show _=Z0f (oddV x.neg (valW x.w) x.exp) p up
 rw [w1y _ _ _ _ _ hp]
 unfold X0i
 split
 · rfl
 · unfold ofX
   rw [Q0y]
theorem v2y (x:Nm) (p:Nat) (up:Bool) (n k:Nat) (h:bd n k x):bd (n+1) (k+64*n) (rndX x p up):=by
 have hb:=V0v x.w
 have hl:=h.1
 unfold rndX
 split
 · exact h.mono (by omega) (by omega)
 · refine⟨?_,?_,?_⟩
   · refine Z0q ?_
     have h1:=X0b x.w
     have h2:valW x.w/2^(X0i x.w-p)≤valW x.w:=Nat.div_le_self _ _
     have h3:18446744073709551616^x.w.length≤18446744073709551616^n:=Nat.pow_le_pow_right (by decide) hl
     have h4:18446744073709551616^(n+1)=18446744073709551616^n*18446744073709551616:=Nat.pow_succ ..
     split<;>omega
   · have:=h.2.1;simp only;omega
   · have:=h.2.2;simp only;omega
end Go.Pv
end
section
/-Intervals:has,meet,middle,width. No program in it. -/
namespace Go.Pv
def hasI (a:Ivl) (x:Nm):Bool:=Q0v a&&Q0h x&&decide (cmpN a.lo x≤0)&&decide (cmpN x a.hi≤0)
def J2y (lo hi:Nm):Ivl×Int:=if Q0v ⟨lo,hi⟩=true then(⟨lo,hi⟩,0) else(default,1)
theorem U1n {x y:Nm} (hx:Q0h x=true) (hy:Q0h y=true) (h:qN x=qN y):x=y:=by
 have h1:=Y1j (V0t hx) (V0t hy) (by rw [J0j,J0j,h])
 have h2:=k1x hx
 rw [h1,k1x hy] at h2
 exact(congrArg Prod.fst h2).symm
theorem X2s (a b:Nm):qN (J0k a b)≤qN a∧qN (J0k a b)≤qN b∧(qN (J0k a b)=qN a∨qN (J0k a b)=qN b):=by
 have h1:=cmpN_le.1 (y1v a b)
 have h2:=cmpN_le.1 (y1u a b)
 refine⟨h1,h2,?_⟩
 unfold J0k
 split
 · exact .inr rfl
 · exact .inl rfl
theorem k1l (a b:Nm):qN a≤qN (X0s a b)∧qN b≤qN (X0s a b)∧(qN (X0s a b)=qN a∨qN (X0s a b)=qN b):=by
 have h1:=cmpN_le.1 (Q2f a b)
 have h2:=cmpN_le.1 (Q2e a b)
 refine⟨h1,h2,?_⟩
 unfold X0s
 split
 · exact .inr rfl
 · exact .inl rfl
theorem Q2h {a b:Ivl} (ha:Q0v a=true) (hb:Q0v b=true) {p1 p2 p3 p4:Nm} (h1:qN p1=qN a.lo*qN b.lo) (h2:qN p2=qN a.lo*qN b.hi) (h3:qN p3=qN a.hi*qN b.lo) (h4:qN p4=qN a.hi*qN b.hi):
 ofX (J0k (J0k (J0k p1 p2) p3) p4)=loV 2 (ofN a.lo) (ofN a.hi) (ofN b.lo) (ofN b.hi):=by
 have ca:=canI ha
 have cb:=canI hb
 have la:=q0o ha
 have lb:=q0o hb
 show _=K0t (ofN a.lo) (ofN a.hi) (ofN b.lo) (ofN b.hi)
 refine Z1v (y0e ca.1 ca.2 cb.1 cb.2) ?_
 have r1:=G0t la lb Rat.le_refl la Rat.le_refl lb
 have r2:=G0t la lb Rat.le_refl la lb Rat.le_refl
 have r3:=G0t la lb la Rat.le_refl Rat.le_refl lb
 have r4:=G0t la lb la Rat.le_refl lb Rat.le_refl
 have rr: ∀v w:Vl,K0t (ofN a.lo) (ofN a.hi) (ofN b.lo) (ofN b.hi)=byV v w→qV (K0t (ofN a.lo) (ofN a.hi) (ofN b.lo) (ofN b.hi))=qV v*qV w:=fun v w e=>by rw [e,J1r]
 have r5:qV (K0t (ofN a.lo) (ofN a.hi) (ofN b.lo) (ofN b.hi))=qV (ofN a.lo)*qV (ofN b.lo)∨qV (K0t (ofN a.lo) (ofN a.hi) (ofN b.lo) (ofN b.hi))=qV (ofN a.lo)*qV (ofN b.hi)∨qV (K0t (ofN a.lo) (ofN a.hi) (ofN b.lo) (ofN b.hi))=qV (ofN a.hi)*qV (ofN b.lo)∨qV (K0t (ofN a.lo) (ofN a.hi) (ofN b.lo) (ofN b.hi))=qV (ofN a.hi)*qV (ofN b.hi):=by
  rcases z0x (ofN a.lo) (ofN a.hi) (ofN b.lo) (ofN b.hi) with e | e | e | e
  · exact .inl (rr _ _ e)
  · exact .inr (.inl (rr _ _ e))
  · exact .inr (.inr (.inl (rr _ _ e)))
  · exact .inr (.inr (.inr (rr _ _ e)))
 generalize qV (K0t (ofN a.lo) (ofN a.hi) (ofN b.lo) (ofN b.hi))=V at*
 simp only [J0j] at*
 rw [←h1] at r1 r5
 rw [←h2] at r2 r5
 rw [←h3] at r3 r5
 rw [←h4] at r4 r5
 obtain⟨s1,s2,s3⟩:=X2s p1 p2
 obtain⟨t1,t2,t3⟩:=X2s (J0k p1 p2) p3
 obtain⟨u1,u2,u3⟩:=X2s (J0k (J0k p1 p2) p3) p4
 clear h1 h2 h3 h4 la lb rr
 grind
theorem W1z {a b:Ivl} (ha:Q0v a=true) (hb:Q0v b=true) {p1 p2 p3 p4:Nm} (h1:qN p1=qN a.lo*qN b.lo) (h2:qN p2=qN a.lo*qN b.hi) (h3:qN p3=qN a.hi*qN b.lo) (h4:qN p4=qN a.hi*qN b.hi):
 ofX (X0s (X0s (X0s p1 p2) p3) p4)=hiV 2 (ofN a.lo) (ofN a.hi) (ofN b.lo) (ofN b.hi):=by
 have ca:=canI ha
 have cb:=canI hb
 have la:=q0o ha
 have lb:=q0o hb
 show _=U0e (ofN a.lo) (ofN a.hi) (ofN b.lo) (ofN b.hi)
 refine Z1v (V1m ca.1 ca.2 cb.1 cb.2) ?_
 have r1:=q0w la lb Rat.le_refl la Rat.le_refl lb
 have r2:=q0w la lb Rat.le_refl la lb Rat.le_refl
 have r3:=q0w la lb la Rat.le_refl Rat.le_refl lb
 have r4:=q0w la lb la Rat.le_refl lb Rat.le_refl
 have r5:=Q2d (ofN a.lo) (ofN a.hi) (ofN b.lo) (ofN b.hi)
 generalize qV (U0e (ofN a.lo) (ofN a.hi) (ofN b.lo) (ofN b.hi))=V at*
 simp only [J0j] at*
 rw [←h1] at r1 r5
 rw [←h2] at r2 r5
 rw [←h3] at r3 r5
 rw [←h4] at r4 r5
 obtain⟨s1,s2,s3⟩:=k1l p1 p2
 obtain⟨t1,t2,t3⟩:=k1l (X0s p1 p2) p3
 obtain⟨u1,u2,u3⟩:=k1l (X0s (X0s p1 p2) p3) p4
 clear h1 h2 h3 h4 la lb
 grind
end Go.Pv
end
section
/-What boxes are reckoned to. No program in it. -/
namespace Go.Pv
def opB (k:Nat) (a b:List Ivl) (p:Int):List Ivl×Int:=if rightB a=true∧rightB b=true∧a.length=b.length∧Z0n p=true then y0t (fun i x=>opI k x (b.getD i default) p) 0 a [] else([],1)
def x0g (x:Ivl) (b:List Ivl) (p:Int):List Ivl×Int:=if rightB b=true∧Q0v x=true∧Z0n p=true then y0t (fun _ y=>opI 2 x y p) 0 b [] else([],1)
def ofB (q:List Nm):List Ivl:=q.map fun x=>⟨x,x⟩
theorem Z0l (k:Nat) (a b:Nm) (p:Int) (up:Bool):Q0h (Q0r k a b p up).1=true:=by
 unfold Q0r
 split
 · rename_i h
   exact Y0w (J1f (V0a (j1c k (V0t h.1) (V0t h.2.1)) _ _))
 · exact W0i
theorem J2i (v:Vl):(numV v).2=0∨(numV v).2=2:=by
 unfold numV
 split
 · exact .inl rfl
 · split
   · exact .inr rfl
   · exact .inl rfl
theorem Q1a {k:Nat} {a b:Nm} {p:Int} {up:Bool} (ha:Q0h a=true) (hb:Q0h b=true) (hp:Z0n p=true):(Q0r k a b p up).2=0∨(Q0r k a b p up).2=2:=by
 rw [Q0r,if_pos ⟨ha,hb,hp⟩];exact J2i _
end Go.Pv
end
section
/-How long values get. No program in it. -/
namespace Go.Pv
def bdV (n k:Nat) (v:Vl):Prop:=Q0g v.m≤n∧ -(k:Int)≤v.e∧v.e≤k
theorem bdV.mono {n k n' k':Nat} {v:Vl} (h:bdV n k v) (h1:n≤n') (h2:k≤k'):bdV n' k' v:=⟨by have:=h.1;omega,by have:=h.2.1;omega,by have:=h.2.2;omega⟩
theorem J0r {x:Nm} (h:Q0h x=true):bdV 4096 65536 (ofN x):=by
 have hb:=Z0z h
 have h1:=V0v x.w
 exact⟨by show Q0g (valW x.w)≤_;unfold X0i at h1;have:=hb.1;omega,hb.2.1,hb.2.2⟩
theorem j1g {neg:Bool} {m:Nat} {e:Int} {n k:Nat} (h1:Q0g m≤n) (h2: -(k:Int)≤e) (h3:e≤k):bdV n (k+n) (oddV neg m e):=by
 unfold oddV
 split
 · exact⟨by rw [X0l];omega,by simp only;omega,by simp only;omega⟩
 · have ht:=y0f m
   have hl:=X0x (Nat.div_le_self m (2^tz m))
   exact⟨by simp only;omega,by simp only;omega,by simp only;omega⟩
theorem Q1i {a b:Vl} {n k:Nat} (ha:bdV n k a) (hb:bdV n k b):bdV (n+2*k+1) (n+3*k+1) (G0o a b):=by
 unfold G0o
 split
 · exact hb.mono (by omega) (by omega)
 · split
   · exact ha.mono (by omega) (by omega)
   · have h1:=V0b a.m (a.e-min a.e b.e).toNat
     have h2:=V0b b.m (b.e-min a.e b.e).toNat
     have h3:=Y0h (a.m*2^(a.e-min a.e b.e).toNat) (b.m*2^(b.e-min a.e b.e).toNat)
     obtain⟨a1,a2,a3⟩:=ha
     obtain⟨b1,b2,b3⟩:=hb
     have hk1:(a.e-min a.e b.e).toNat≤2*k:=by omega
     have hk2:(b.e-min a.e b.e).toNat≤2*k:=by omega
     have hm:(X0w a*2^(a.e-min a.e b.e).toNat+X0w b*2^(b.e-min a.e b.e).toNat).natAbs≤a.m*2^(a.e-min a.e b.e).toNat+b.m*2^(b.e-min a.e b.e).toNat:=by
      have e1: ∀(v:Vl) (j:Nat),(X0w v*2^j).natAbs=v.m*2^j:=fun v j=>by
       rw [Int.natAbs_mul,Int.natAbs_pow]
       congr 1
       unfold X0w;cases v.neg<;>simp
      have:=Int.natAbs_add_le (X0w a*2^(a.e-min a.e b.e).toNat) (X0w b*2^(b.e-min a.e b.e).toNat)
      rw [e1,e1] at this
      exact this
     have h4:=X0x hm
     have:=j1g (neg:=decide (X0w a*2^(a.e-min a.e b.e).toNat+X0w b*2^(b.e-min a.e b.e).toNat<0)) (m:=(X0w a*2^(a.e-min a.e b.e).toNat+X0w b*2^(b.e-min a.e b.e).toNat).natAbs) (e:=min a.e b.e) (n:=n+2*k+1) (k:=k) (by omega) (by omega) (by omega)
     exact this.mono (by omega) (by omega)
theorem z0z {a:Vl} {n k:Nat} (ha:bdV n k a):bdV n k (K0j a):=by
 unfold bdV;rw [w0a,w0b];exact ha
theorem Y1l {a b:Vl} {n k:Nat} (ha:bdV n k a) (hb:bdV n k b):bdV (n+2*k+1) (n+3*k+1) (G0s a b):=Q1i ha (z0z hb)
theorem v1w {a b:Vl} {n k m l:Nat} (ha:bdV n k a) (hb:bdV m l b):bdV (n+m) (k+l) (byV a b):=by
 unfold byV
 split
 · exact⟨by rw [X0l];omega,by simp only;omega,by simp only;omega⟩
 · refine⟨?_,?_,?_⟩
   · have h:Q0g (a.m*b.m)≤Q0g a.m+Q0g b.m:=by
      rw [bitlen_le_iff,Nat.pow_add]
      exact Nat.mul_lt_mul'' (Q0z _) (Q0z _)
     have:=ha.1;have:=hb.1;simp only;omega
   · have:=ha.2.1;have:=hb.2.1;simp only;omega
   · have:=ha.2.2;have:=hb.2.2;simp only;omega
theorem V0i {a:Vl} {n k:Nat} (ha:bdV n k a) (p:Nat) (up:Bool):bdV (n+1) (k+2*n+1) (Z0f a p up):=by
 unfold Z0f
 split
 · exact ha.mono (by omega) (by omega)
 · have h1:=ha.1
   have h2:=X0x (Nat.div_le_self a.m (2^(Q0g a.m-p)))
   have h3:Q0g (a.m/2^(Q0g a.m-p)+(if a.m % 2^(Q0g a.m-p)≠0∧up≠a.neg then 1 else 0))≤n+1:=by
    have b1:Q0g 1=1:=rfl
    have h:=Y0h (a.m/2^(Q0g a.m-p)) 1
    split
    · by_cases hq:Q0g (a.m/2^(Q0g a.m-p))=0
      · have hn:0<Q0g a.m:=by rename_i hh _;omega
        omega
      · omega
    · rw [Nat.add_zero];omega
   have:=j1g (neg:=a.neg) (e:=a.e+((Q0g a.m-p:Nat):Int)) (k:=k+n) h3 (by have:=ha.2.1;omega) (by have:=ha.2.2;omega)
   exact this.mono (by omega) (by omega)
theorem q1g {x y u v:Vl} {n k m l:Nat} (hx:bdV n k x) (hy:bdV n k y) (hu:bdV m l u) (hv:bdV m l v):bdV (n+m) (k+l) (K0t x y u v):=by
 rcases z0x x y u v with h | h | h | h
 all_goals rw [h];exact v1w (by assumption) (by assumption)
theorem W2p {x y u v:Vl} {n k m l:Nat} (hx:bdV n k x) (hy:bdV n k y) (hu:bdV m l u) (hv:bdV m l v):bdV (n+m) (k+l) (U0e x y u v):=z0z (q1g (z0z hy) (z0z hx) hu hv)
theorem J0b {v:Vl} {n k:Nat} (h:bdV n k v) (hn:n≤1000000000000):(Q0c v.m).length≤1000000000000:=by
 have:=Z0o v.m
 have:=h.1
 omega
end Go.Pv
end
