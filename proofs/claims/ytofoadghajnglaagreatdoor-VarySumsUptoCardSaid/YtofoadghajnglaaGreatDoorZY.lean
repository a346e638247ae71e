/- Parts of the walk: M23, M24, M25, M26, M27, M28, M29, M30, M31, M32, M33. -/
import Derived.Test.YtofoadghajnglaaGreatDoorZL
set_option linter.unusedVariables false
set_option linter.unusedSimpArgs false
section
/-Exact values and their rounding:what numbers that are not in one form stand for. No program in it. -/
namespace Go.Pv
def ofX (x:Nm):Vl:=oddV x.neg (valW x.w) x.exp
def Z0f (v:Vl) (p:Nat) (up:Bool):Vl:=
 if Q0g v.m≤p then v else
  oddV v.neg (v.m/2^(Q0g v.m-p)+(if v.m % 2^(Q0g v.m-p)≠0∧up≠v.neg then 1 else 0)) (v.e+((Q0g v.m-p:Nat):Int))
theorem Y0q (neg:Bool) (e:Int):oddV neg 0 e=⟨false,0,0⟩:=by rw [oddV,if_pos rfl]
theorem V1m (neg:Bool) (m k:Nat) (e:Int):oddV neg (m*2^k) e=oddV neg m (e+k):=by
 by_cases h:m=0
 · subst h;rw [Nat.zero_mul,Y0q,Y0q]
 · have hp:m*2^k≠0:=Nat.mul_ne_zero h (Nat.ne_of_gt (Nat.two_pow_pos k))
   obtain⟨q,hq,hm⟩:=v0f m h
   have hmk:m*2^k=2^(tz m+k)*q:=by
    conv=>lhs;rw [hm]
    rw [Nat.pow_add,Nat.mul_right_comm]
   have ht:tz (m*2^k)=tz m+k:=by rw [hmk,W1n _ _ hq]
   unfold oddV
   rw [if_neg h,if_neg hp,ht]
   have e1:m*2^k/2^(tz m+k)=m/2^tz m:=by
    rw [hmk,Nat.mul_div_cancel_left _ (Nat.two_pow_pos _)]
    conv=>rhs;rw [hm]
    rw [W1n _ _ hq,Nat.mul_div_cancel_left _ (Nat.two_pow_pos _)]
   rw [e1]
   congr 1
   omega
theorem y0k (neg:Bool) (m:Nat) (e:Int) (h:m % 2=1):oddV neg m e=⟨neg,m,e⟩:=by
 rw [oddV,if_neg (by omega),x1i h];simp
theorem H2h (z D q:Nat) (h:D≤z):2^z*q/2^D=q*2^(z-D):=by
 obtain⟨k,rfl⟩: ∃k,z=D+k:=⟨z-D,by omega⟩
 rw [Nat.add_sub_cancel_left,Nat.pow_add,Nat.mul_assoc,Nat.mul_div_cancel_left _ (Nat.two_pow_pos _),Nat.mul_comm]
theorem y2j {x:Nm} (h:Q0r x=true):ofX x=ofN x:=by
 rcases y2g h with h1 | h1
 · exact y0k _ _ _ h1
 · have h0:valW x.w=0:=h1
   have hw:x.w= []:=by
    refine Classical.byContradiction fun hw=> ?_
    have h2:=h
    unfold Q0r at h2
    rw [if_neg hw] at h2
    simp only [Bool.and_eq_true,decide_eq_true_eq] at h2
    have h3:=j0f x.w
    omega
   have h2:=h
   unfold Q0r at h2
   rw [if_pos hw] at h2
   simp at h2
   unfold ofX ofN
   rw [h0,Y0q,h2.1,h2.2]
theorem v1r (neg:Bool) (m:Nat) (e:Int) (p:Nat) (up:Bool) (hp:0<p):Z0f (oddV neg m e) p up=
 if Q0g m≤p then oddV neg m e else oddV neg (m/2^(Q0g m-p)+(if tz m<Q0g m-p∧up≠neg then 1 else 0)) (e+((Q0g m-p:Nat):Int)):=by
 by_cases h0:m=0
 · subst h0
   rw [if_pos (by rw [J0c];omega),Y0q,Z0f,if_pos (by show Q0g 0≤p;rw [J0c];omega)]
 obtain⟨q,hq,hm⟩:=v0f m h0
 have hq0:q≠0:=by omega
 have e1:oddV neg m e=⟨neg,q,e+tz m⟩:=by
  have:oddV neg (q*2^tz m) e=oddV neg q (e+tz m):=V1m neg q (tz m) e
  rw [Nat.mul_comm,←hm] at this
  rw [this,y0k _ _ _ hq]
 have hb:Q0g m=Q0g q+tz m:=by
  have:=W0j q (tz m) hq0
  rw [Nat.mul_comm,←hm] at this
  exact this
 rw [e1]
 unfold Z0f
 simp only
 by_cases h1:Q0g q≤p
 · rw [if_pos h1]
   by_cases h2:Q0g m≤p
   · rw [if_pos h2]
   · rw [if_neg h2,if_neg (by omega),Nat.add_zero]
     have hdiv:m/2^(Q0g m-p)=q*2^(tz m-(Q0g m-p)):=by
      have h:=H2h (tz m) (Q0g m-p) q (by omega)
      rw [←hm] at h;exact h
     rw [hdiv,V1m,y0k _ _ _ hq]
     congr 1
     omega
 · rw [if_neg h1,if_neg (show¬Q0g m≤p by omega)]
   have hd:Q0g m-p=tz m+(Q0g q-p):=by omega
   have hdiv:m/2^(Q0g m-p)=q/2^(Q0g q-p):=by
    have h:=Nat.mul_div_cancel_left q (Nat.two_pow_pos (tz m))
    rw [←hm] at h
    rw [hd,Nat.pow_add,←Nat.div_div_eq_div_mul,h]
   have hodd:q % 2^(Q0g q-p)≠0:=by
    intro h
    have hdv:2∣q:=Nat.dvd_trans ⟨2^(Q0g q-p-1),by rw [←Nat.pow_succ'];congr 1;omega⟩ (Nat.dvd_of_mod_eq_zero h)
    omega
   rw [hdiv]
   have hc:(q % 2^(Q0g q-p)≠0∧up≠neg)↔(tz m<Q0g m-p∧up≠neg):=⟨fun h=>⟨by omega,h.2⟩,fun h=>⟨hodd,h.2⟩⟩
   by_cases hh:tz m<Q0g m-p∧up≠neg
   · rw [if_pos hh,if_pos (hc.2 hh)]
     congr 1
     omega
   · rw [if_neg hh,if_neg (fun h=>hh (hc.1 h))]
     congr 1
     omega
end Go.Pv
end
section
/-Exact sums and products,whatever form the numbers have. No program in it. -/
namespace Go.Pv
theorem q1p (neg:Bool) (m:Nat) (e:Int):oddV neg m e=mkV (if neg then -(m:Int) else(m:Int)) e:=by
 by_cases h:m=0
 · subst h
   rw [Y0q]
   unfold mkV
   cases neg<;>simp [Y0q]
 · unfold mkV
   cases neg
   · show oddV false m e=oddV (decide ((m:Int)<0)) (m:Int).natAbs e
     rw [decide_eq_false (by omega),Int.natAbs_natCast]
   · show oddV true m e=oddV (decide (-(m:Int)<0)) (-(m:Int)).natAbs e
     rw [decide_eq_true (by omega),Int.natAbs_neg,Int.natAbs_natCast]
theorem W3d (x:Nm):ofX x=mkV (mant x) x.exp:=by rw [ofX,q1p];rfl
theorem J2m (s:Int) (k:Nat) (e:Int):mkV (s*2^k) e=mkV s (e+k):=by
 unfold mkV
 have h1:(s*2^k).natAbs=s.natAbs*2^k:=by
  rw [Int.natAbs_mul,Int.natAbs_pow];rfl
 have h2:decide (s*2^k<0)=decide (s<0):=by
  have hp:=two_pow_pos k
  by_cases h:s<0
  · rw [decide_eq_true h,decide_eq_true (Int.mul_neg_of_neg_of_pos h hp)]
  · rw [decide_eq_false h,decide_eq_false (Int.not_lt.2 (Int.mul_nonneg (Int.not_lt.1 h) (Int.le_of_lt hp)))]
 rw [h1,h2,V1m]
theorem J2n (s e:Int) (h:s≠0): ∃k:Nat,X0v (mkV s e)*2^k=s∧(mkV s e).e=e+k∧(mkV s e).m≠0:=by
 have h0:s.natAbs≠0:=by omega
 refine⟨tz s.natAbs,?_,?_,?_⟩
 · unfold mkV oddV X0v
   rw [if_neg h0]
   simp only
   have h1:=k1w s.natAbs
   by_cases hs:s<0
   · rw [decide_eq_true hs,if_pos rfl,Int.neg_mul]
     have:((s.natAbs/2^tz s.natAbs:Nat):Int)*2^tz s.natAbs=(s.natAbs:Int):=by
      rw [show((2:Int)^tz s.natAbs)=((2^tz s.natAbs:Nat):Int) from by simp,←Int.natCast_mul,h1]
     rw [this];omega
   · rw [decide_eq_false hs,if_neg (by simp)]
     have:((s.natAbs/2^tz s.natAbs:Nat):Int)*2^tz s.natAbs=(s.natAbs:Int):=by
      rw [show((2:Int)^tz s.natAbs)=((2^tz s.natAbs:Nat):Int) from by simp,←Int.natCast_mul,h1]
     rw [this];omega
 · unfold mkV oddV;rw [if_neg h0]
 · unfold mkV oddV
   rw [if_neg h0]
   have:=Y0a s.natAbs h0
   simp only;omega
def byV (a b:Vl):Vl:=if a.m=0∨b.m=0 then⟨false,0,0⟩ else⟨a.neg !=b.neg,a.m*b.m,a.e+b.e⟩
theorem y2k {a b:Nat} (ha:a % 2=1) (hb:b % 2=1):a*b % 2=1:=by rw [Nat.mul_mod,ha,hb]
end Go.Pv
end
section
/-The lowest set bit of a word,and how many noughts lie below it. No program in it. -/
namespace Go.Pv
theorem G1y : ∀(k a b:Nat),a+b+1=2^k→a&&&b=0
 | 0,a,b,h=>by
  have:a=0:=by simp at h;omega
  subst this;exact Nat.zero_and b
 | k+1,a,b,h=>by
  have h2:a+b+1=2*2^k:=by rw [h,Nat.pow_succ,Nat.mul_comm]
  have ih:=G1y k (a/2) (b/2) (by omega)
  have hd:(a&&&b)/2=a/2&&&b/2:=Nat.and_div_two
  have hm:(a&&&b) % 2≠1:=fun e=>by have:=Nat.and_mod_two_eq_one.1 e;omega
  omega
theorem J2s : ∀(n x:Nat),0<x→x<2^n→x&&&(2^n-x)=2^tz x
 | 0,x,h,hl=>by simp at hl;omega
 | n+1,x,h,hl=>by
  have hp:2^(n+1)=2*2^n:=by rw [Nat.pow_succ,Nat.mul_comm]
  have hd:(x&&&(2^(n+1)-x))/2=x/2&&&(2^(n+1)-x)/2:=Nat.and_div_two
  rcases Nat.mod_two_eq_zero_or_one x with e | e
  · have ih:=J2s n (x/2) (by omega) (by omega)
    have h3:(2^(n+1)-x)/2=2^n-x/2:=by omega
    have hm:(x&&&(2^(n+1)-x)) % 2≠1:=fun e'=>by have:=Nat.and_mod_two_eq_one.1 e';omega
    rw [h3,ih] at hd
    have hps:2^(tz (x/2)+1)=2^tz (x/2)*2:=Nat.pow_succ ..
    rw [H1i (by omega) e]
    omega
  · have h4:=G1y n (x/2) ((2^(n+1)-x)/2) (by omega)
    have hm:(x&&&(2^(n+1)-x)) % 2=1:=Nat.and_mod_two_eq_one.2 ⟨e,by omega⟩
    rw [h4] at hd
    rw [x1i e,Nat.pow_zero];omega
theorem q2n (x:Nat) (h:0<x) (hl:x<18446744073709551616):x&&&(18446744073709551616-x)=2^tz x:=J2s 64 x h hl
theorem K1s (x:Nat) (h:0<x) (hl:x<18446744073709551616):tz x<64:=by
 have h1:=H0n x (by omega)
 have h2:=G1v x hl
 omega
theorem K3y (w r:Nat) (h:0<w) (hl:w<18446744073709551616):tz (w+18446744073709551616*r)=tz w:=by
 obtain⟨q,hq,hw⟩:=v0f w (by omega)
 have ht:=K1s w h hl
 have e:w+18446744073709551616*r=2^tz w*(q+2^(64-tz w)*r):=by
  rw [Nat.mul_add,←hw,←Nat.mul_assoc,←Nat.pow_add,show tz w+(64-tz w)=64 from by omega]
 have h2:2^(64-tz w)*r % 2=0:=by
  obtain⟨k,hk⟩: ∃k,64-tz w=k+1:=⟨63-tz w,by omega⟩
  rw [hk,Nat.pow_succ,Nat.mul_assoc,Nat.mul_left_comm];exact Nat.mul_mod_right _ _
 rw [e,W1n _ _ (by omega)]
theorem z0u (l:List UInt64) (i:Nat) (h:i≤l.length):valW l=valW (l.take i)+18446744073709551616^i*valW (l.drop i):=by
 conv=>lhs;rw [←List.take_append_drop i l]
 rw [Y0l,List.length_take,Nat.min_eq_left h]
theorem W1m (l:List UInt64) (i:Nat) (h:i<l.length):valW (l.drop i)=(l.getD i 0).toNat+18446744073709551616*valW (l.drop (i+1)):=by
 rw [List.drop_eq_getElem_cons h]
 simp only [valW,nW,List.map_cons,val]
 rw [List.getD_eq_getElem?_getD,List.getElem?_eq_getElem h];rfl
theorem H0l (l:List UInt64) (i:Nat) (h:l.length≤i):valW (l.drop i)=0:=by
 rw [List.drop_eq_nil_of_le h];rfl
theorem q0t (l:List UInt64) (i:Nat):valW (l.drop i)=(l.getD i 0).toNat+18446744073709551616*valW (l.drop (i+1)):=by
 by_cases h:i<l.length
 · exact W1m l i h
 · rw [H0l _ _ (by omega),H0l _ _ (by omega),Y0x _ _ _ (by omega)];rfl
theorem k0o (l:List UInt64) (i:Nat) (h:i≤l.length):valW l/18446744073709551616^i=valW (l.drop i):=by
 have hl:=J0i (l.take i)
 rw [List.length_take,Nat.min_eq_left h] at hl
 rw [z0u l i h,Nat.add_mul_div_left _ _ (Nat.pow_pos (by decide)),Nat.div_eq_of_lt hl,Nat.zero_add]
theorem U2j (l:List UInt64) (i:Nat) (hi:i<l.length) (hz:valW (l.take i)=0) (hn:(l.getD i 0).toNat≠0):tz (valW l)=64*i+tz (l.getD i 0).toNat:=by
 rw [z0u l i (by omega),hz,Nat.zero_add,W1m l i hi,Nat.mul_comm,j0x,U2k _ _ (by omega),K3y _ _ (by omega) (UInt64.toNat_lt _)]
 omega
theorem Z1l (w0 w1 r s:Nat) (h0:w0<18446744073709551616) (hs:s<64):(w0+18446744073709551616*(w1+18446744073709551616*r))/2^s % 18446744073709551616=w0/2^s+w1*2^(64-s) % 18446744073709551616:=by
 have e:(18446744073709551616:Nat)=2^s*2^(64-s):=by rw [←Nat.pow_add,show s+(64-s)=64 from by omega]
 have h1:(w0+18446744073709551616*(w1+18446744073709551616*r))/2^s=w0/2^s+2^(64-s)*(w1+18446744073709551616*r):=by
  conv=>lhs;rw [show 18446744073709551616*(w1+18446744073709551616*r)=2^s*(2^(64-s)*(w1+18446744073709551616*r)) from by rw [←Nat.mul_assoc,←e]]
  rw [Nat.add_mul_div_left _ _ (Nat.two_pow_pos s)]
 have h2:w0/2^s<2^(64-s):=Nat.div_lt_of_lt_mul (by rw [←e];exact h0)
 have h3:w1*2^(64-s) % 18446744073709551616=2^(64-s)*(w1 % 2^s):=by
  conv=>lhs;rw [Nat.mul_comm,e,Nat.mul_comm (2^s),Nat.mul_mod_mul_left]
 have h4:2^(64-s)*(w1 % 2^s)+2^(64-s)≤18446744073709551616:=by
  have h5:w1 % 2^s+1≤2^s:=Nat.mod_lt _ (Nat.two_pow_pos s)
  have:=Nat.mul_le_mul_left (2^(64-s)) h5
  rw [Nat.mul_add,Nat.mul_one] at this
  rw [Nat.mul_comm (2^(64-s)) (2^s),←e] at this
  exact this
 rw [h1,h3]
 have h6:w0/2^s+2^(64-s)*(w1+18446744073709551616*r)=(w0/2^s+2^(64-s)*(w1 % 2^s))+18446744073709551616*(w1/2^s+2^(64-s)*r):=by
  have h7:=Nat.div_add_mod w1 (2^s)
  have h8:2^(64-s)*w1=2^(64-s)*(2^s*(w1/2^s))+2^(64-s)*(w1 % 2^s):=by rw [←Nat.mul_add,h7]
  rw [←Nat.mul_assoc,Nat.mul_comm (2^(64-s)) (2^s),←e] at h8
  rw [Nat.mul_add,Nat.mul_add,h8,Nat.mul_left_comm]
  omega
 rw [h6,Nat.add_mul_mod_self_left,Nat.mod_eq_of_lt (by omega)]
theorem x2b (w0 w1 s:Nat) (h0:w0<18446744073709551616) (hs:s<64):(w0/2^s)|||(w1*2^(64-s) % 18446744073709551616)=w0/2^s+w1*2^(64-s) % 18446744073709551616:=by
 refine J1k _ _ (64-s) (Nat.div_lt_of_lt_mul ?_) (x0o _ _ (by omega))
 rw [←Nat.pow_add,show s+(64-s)=64 from by omega];exact h0
end Go.Pv
end
section
/-Values as rational numbers. No program in it. -/
namespace Go.Pv
def p2 (e:Int):Rat:=(2:Rat)^e
theorem k2e (e:Int):0<p2 e:=Rat.zpow_pos (by decide)
theorem k2f (a b:Int):p2 (a+b)=p2 a*p2 b:=Rat.zpow_add (by decide) a b
theorem y2d :p2 0=1:=Rat.zpow_zero 2
theorem W3b (k:Nat):(((2:Int)^k:Int):Rat)=p2 k:=by
 unfold p2;rw [Rat.zpow_natCast]
 induction k with
 | zero=>rfl
 | succ k ih=>rw [Int.pow_succ,Rat.intCast_mul,ih,Rat.pow_succ];rfl
def qM (s e:Int):Rat:=(s:Rat)*p2 e
def qV (v:Vl):Rat:=qM (X0v v) v.e
def qN (x:Nm):Rat:=qM (mant x) x.exp
theorem Q1k (s:Int) (k:Nat) (e:Int):qM (s*2^k) e=qM s (e+k):=by
 unfold qM;rw [Rat.intCast_mul,W3b,k2f];grind
theorem x1u (s t e:Int):qM (s+t) e=qM s e+qM t e:=by unfold qM;rw [Rat.intCast_add];grind
theorem X2b (s t e f:Int):qM (s*t) (e+f)=qM s e*qM t f:=by unfold qM;rw [Rat.intCast_mul,k2f];grind
theorem V0o (e:Int):qM 0 e=0:=by unfold qM;rw [Rat.intCast_zero];grind
theorem x1t (s e:Int):qM (-s) e= -qM s e:=by unfold qM;rw [Rat.intCast_neg];grind
theorem qM_le {s t e:Int} :qM s e≤qM t e↔s≤t:=by
 unfold qM
 constructor
 · intro h
   exact Rat.intCast_le_intCast.1 (Rat.le_of_mul_le_mul_right h (k2e e))
 · intro h
   exact Rat.mul_le_mul_of_nonneg_right (Rat.intCast_le_intCast.2 h) (Rat.le_of_lt (k2e e))
theorem qM_lt {s t e:Int} :qM s e<qM t e↔s<t:=by
 rw [←Rat.not_le,qM_le];omega
theorem k3v {s t e:Int} :qM s e=qM t e↔s=t:=by
 constructor
 · intro h
   have h1:=(qM_le (s:=s) (t:=t) (e:=e)).1 (by rw [h];exact Rat.le_refl)
   have h2:=(qM_le (s:=t) (t:=s) (e:=e)).1 (by rw [h];exact Rat.le_refl)
   omega
 · rintro rfl;rfl
theorem H1y (s e g:Int) (h:g≤e):qM s e=qM (s*2^(e-g).toNat) g:=by
 rw [Q1k];congr 1;omega
theorem w2t (s e:Int):qV (mkV s e)=qM s e:=by
 by_cases h:s=0
 · subst h
   rw [j1k,V0o]
   exact V0o 0
 · obtain⟨k,k1,k2,k3⟩:=J2n s e h
   unfold qV
   rw [k2,←Q1k,k1]
theorem j0u (neg:Bool) (m:Nat) (e:Int):qV (oddV neg m e)=qM (if neg then -(m:Int) else(m:Int)) e:=by rw [q1p,w2t]
theorem V3q (x:Nm):qV (ofX x)=qN x:=by rw [W3d,w2t];rfl
theorem U0j (x:Nm):qV (ofN x)=qN x:=rfl
theorem V1d {v:Vl} (h:v.m=0):qV v=0:=by unfold qV;rw [v0y h,V0o]
theorem v0p (a b:Vl):qV (H0h a b)=qV a+qV b:=by
 unfold H0h
 split
 · rename_i h;rw [V1d h];grind
 · split
   · rename_i h;rw [V1d h];grind
   · rw [w2t,x1u,←H1y _ _ _ (by omega),←H1y _ _ _ (by omega)];rfl
theorem U0v (v:Vl):qV (K0h v)= -qV v:=by
 unfold qV;rw [v0z,v0h,x1t]
theorem Q1j (a b:Vl):qV (x0q a b)=qV a-qV b:=by
 unfold x0q;rw [v0p,U0v];grind
theorem q2m {a b:Vl} (ha:a.m≠0) (hb:b.m≠0):X0v (byV a b)=X0v a*X0v b∧(byV a b).e=a.e+b.e:=by
 unfold byV
 rw [if_neg (by omega)]
 refine⟨?_,rfl⟩
 unfold X0v
 cases a.neg<;>cases b.neg<;>simp [Int.neg_mul,Int.mul_neg]
theorem X1l (a b:Vl):qV (byV a b)=qV a*qV b:=by
 by_cases ha:a.m=0
 · rw [V1d ha,V1d (by unfold byV;rw [if_pos (.inl ha)])];grind
 · by_cases hb:b.m=0
   · rw [V1d hb,V1d (by unfold byV;rw [if_pos (.inr hb)])];grind
   · obtain⟨h1,h2⟩:=q2m ha hb
     unfold qV
     rw [h1,h2,X2b]
theorem Z2i (m:Int):sgn m≤0↔m≤0:=by unfold sgn;split<;>(try split)<;>omega
theorem Z2h (m:Int):sgn m<0↔m<0:=by unfold sgn;split<;>(try split)<;>omega
theorem X2u (a b:Vl):Y0p a b≤0↔qV a≤qV b:=by
 unfold Y0p
 have h:=Q1j a b
 rw [z0a,Z2i]
 have h2:X0v (x0q a b)≤0↔qV (x0q a b)≤0:=by
  rw [←V0o (x0q a b).e];exact qM_le.symm
 rw [h2,h];grind
theorem X2t (a b:Vl):Y0p a b<0↔qV a<qV b:=by
 unfold Y0p
 have h:=Q1j a b
 rw [z0a,Z2h]
 have h2:X0v (x0q a b)<0↔qV (x0q a b)<0:=by
  rw [←V0o (x0q a b).e];exact qM_lt.symm
 rw [h2,h];grind
theorem cmpN_le {a b:Nm} :cmpN a b≤0↔qN a≤qN b:=by rw [←J1i,X2u];rfl
theorem U2x (a:Vl):K0t a<0↔qV a<0:=by
 rw [z0a,Z2h,←V0o a.e];exact qM_lt.symm
theorem U2y (a:Vl):K0t a≤0↔qV a≤0:=by
 rw [z0a,Z2i,←V0o a.e];exact qM_le.symm
def canV (v:Vl):Prop:=v.m % 2=1∨v=⟨false,0,0⟩
theorem k0t (neg:Bool) (m:Nat) (e:Int):canV (oddV neg m e):=by
 unfold oddV canV
 split
 · exact .inr rfl
 · exact .inl (Y0a m (by assumption))
theorem X3a (s e:Int):canV (mkV s e):=k0t _ _ _
theorem y0r (x:Nm):canV (ofX x):=k0t _ _ _
theorem U0q {x:Nm} (h:Q0r x=true):canV (ofN x):=by rw [←y2j h];exact y0r x
theorem k0s {a b:Vl} (ha:canV a) (hb:canV b):canV (H0h a b):=by
 unfold H0h
 split
 · exact hb
 · split
   · exact ha
   · exact X3a _ _
theorem k0r {a:Vl} (ha:canV a):canV (K0h a):=by
 rcases ha with h | rfl
 · exact .inl (by rw [v0g];exact h)
 · exact .inr rfl
theorem Z1x {a b:Vl} (ha:canV a) (hb:canV b):canV (x0q a b):=k0s ha (k0r hb)
theorem W2r {a b:Vl} (ha:canV a) (hb:canV b):canV (byV a b):=by
 rcases ha with h | rfl
 · rcases hb with k | rfl
   · exact .inl (by unfold byV;rw [if_neg (by omega)];exact y2k h k)
   · exact .inr (by unfold byV;rw [if_pos (.inr rfl)])
 · exact .inr (by unfold byV;rw [if_pos (.inl rfl)])
theorem Y0i {v:Vl} (h:canV v) (p:Nat) (up:Bool):canV (Z0f v p up):=by
 unfold Z0f
 split
 · exact h
 · exact k0t _ _ _
theorem q0m {v:Vl} (h:canV v):okV v:=by
 rcases h with h | rfl
 · exact .inl h
 · exact .inr rfl
theorem G1o {v:Vl} (h:canV v):v=mkV (X0v v) v.e:=by
 rcases h with h | rfl
 · have:oddV v.neg v.m v.e=v:=by rw [y0k _ _ _ h]
   conv=>lhs;rw [←this]
   rw [q1p];rfl
 · rw [show X0v ⟨false,0,0⟩=0 from rfl,j1k]
theorem W3j {s e t f:Int} (h:qM s e=qM t f):mkV s e=mkV t f:=by
 have h1:mkV s e=mkV (s*2^(e-min e f).toNat) (min e f):=by rw [J2m];congr 1;omega
 have h2:mkV t f=mkV (t*2^(f-min e f).toNat) (min e f):=by rw [J2m];congr 1;omega
 rw [H1y s e (min e f) (by omega),H1y t f (min e f) (by omega),k3v] at h
 rw [h1,h2,h]
theorem x2s {v w:Vl} (hv:canV v) (hw:canV w) (h:qV v=qV w):v=w:=by
 rw [G1o hv,G1o hw]
 exact W3j h
theorem U1e {x:Nm} {v:Vl} (hv:canV v) (h:qN x=qV v):ofX x=v:=x2s (y0r x) hv (by rw [V3q,h])
theorem v0m (neg:Bool) (m d:Nat) (c:Nat) (e:Int):qM (if neg then -((m/2^d+c:Nat):Int) else((m/2^d+c:Nat):Int)) (e+(d:Int))=qM (if neg then -(((m/2^d+c)*2^d:Nat):Int) else(((m/2^d+c)*2^d:Nat):Int)) e:=by
 rw [←Q1k]
 congr 1
 cases neg
 · simp
 · simp [Int.neg_mul]
theorem Y1e (v:Vl) (p:Nat):qV (Z0f v p false)≤qV v:=by
 unfold Z0f
 split
 · exact Rat.le_refl
 · rw [j0u,v0m]
   unfold qV X0v
   rw [qM_le]
   generalize Q0g v.m-p=d
   have h1:=Nat.div_add_mod v.m (2^d)
   have h2:=Nat.mod_lt v.m (Nat.two_pow_pos d)
   rw [Nat.mul_comm] at h1
   rw [Nat.add_mul]
   cases v.neg
   · rw [if_neg (by simp),if_neg (by simp),if_neg (by simp),Nat.zero_mul];omega
   · rw [if_pos rfl,if_pos rfl]
     by_cases h3:v.m % 2^d=0
     · rw [if_neg (by simp [h3]),Nat.zero_mul];omega
     · rw [if_pos ⟨h3,by simp⟩,Nat.one_mul];omega
theorem Y1f (v:Vl) (p:Nat):qV v≤qV (Z0f v p true):=by
 unfold Z0f
 split
 · exact Rat.le_refl
 · rw [j0u,v0m]
   unfold qV X0v
   rw [qM_le]
   generalize Q0g v.m-p=d
   have h1:=Nat.div_add_mod v.m (2^d)
   have h2:=Nat.mod_lt v.m (Nat.two_pow_pos d)
   rw [Nat.mul_comm] at h1
   rw [Nat.add_mul]
   cases v.neg
   · rw [if_neg (by simp),if_neg (by simp)]
     by_cases h3:v.m % 2^d=0
     · rw [if_neg (by simp [h3]),Nat.zero_mul];omega
     · rw [if_pos ⟨h3,by simp⟩,Nat.one_mul];omega
   · rw [if_pos rfl,if_pos rfl,if_neg (by simp),Nat.zero_mul];omega
theorem z0h {v:Vl} (hv:canV v) (h:(numV v).2=0):ofN (numV v).1=v∧qN (numV v).1=qV v:=by
 unfold numV at h⊢
 split
 · rename_i h0
   rcases hv with hv | rfl
   · omega
   · exact⟨rfl,rfl⟩
 · rename_i h0
   rw [if_neg h0] at h
   split
   · rename_i h1;rw [if_pos h1] at h;cases h
   · have e:ofN ⟨v.neg,v.e,Q0q v.m⟩=v:=by unfold ofN;rw [Z0a]
     exact⟨e,by rw [←U0j,e]⟩
end Go.Pv
end
section
/-What sums,differences and products of intervals come to. No program in it. -/
namespace Go.Pv
theorem Y0s {a b:Rat} (ha:0≤a) (hb:0≤b):0≤a*b:=Rat.mul_nonneg ha hb
theorem Z3t {x y u v X U:Rat} (h1:x≤X) (h2:X≤y) (h3:u≤U) (h4:U≤v) (hx:0≤x) (hu:0≤u):x*u≤X*U:=by
 have a1:=Y0s (a:=X-x) (b:=u) (by grind) hu
 have a2:=Y0s (a:=X) (b:=U-u) (by grind) (by grind)
 grind
theorem W2f {x y u v X U:Rat} (h1:x≤X) (h2:X≤y) (h3:u≤U) (h4:U≤v) (hx:0≤X) (hu:u≤0):y*u≤X*U:=by
 have a1:=Y0s (a:=y-X) (b:= -u) (by grind) (by grind)
 have a2:=Y0s (a:=X) (b:=U-u) (by grind) (by grind)
 grind
theorem W2e {x y u v X U:Rat} (h1:x≤X) (h2:X≤y) (h3:u≤U) (h4:U≤v) (hx:x≤0) (hu:0≤U):x*v≤X*U:=by
 have a1:=Y0s (a:= -x) (b:=v-U) (by grind) (by grind)
 have a2:=Y0s (a:=X-x) (b:=U) (by grind) (by grind)
 grind
theorem Z3s {x y u v X U:Rat} (h1:x≤X) (h2:X≤y) (h3:u≤U) (h4:U≤v) (hx:y≤0) (hu:v≤0):y*v≤X*U:=by
 have a1:=Y0s (a:=y-X) (b:= -v) (by grind) (by grind)
 have a2:=Y0s (a:= -X) (b:=v-U) (by grind) (by grind)
 grind
theorem w2y {a b:Rat} (ha:a≤0) (hb:b≤0):0≤a*b:=by
 have:=Y0s (a:= -a) (b:= -b) (by grind) (by grind)
 grind
theorem w2z {a b:Rat} (ha:0≤a) (hb:b≤0):a*b≤0:=by
 have:=Y0s (a:=a) (b:= -b) ha (by grind)
 grind
theorem H2y {a b:Rat} (ha:a≤0) (hb:0≤b):a*b≤0:=by
 have:=Y0s (a:= -a) (b:=b) (by grind) hb
 grind
def K0k (x y u v:Vl):Vl:=
 if 0≤K0t x∧0≤K0t u then byV x u else if 0≤K0t x then byV y u else if 0≤K0t u then byV x v else
 if K0t y≤0∧K0t v≤0 then byV y v else if Y0p (byV y u) (byV x v)<0 then byV y u else byV x v
def Y0v (x y u v:Vl):Vl:=K0h (K0k (K0h y) (K0h x) u v)
theorem U2z (a:Vl):0≤K0t a↔0≤qV a:=by
 have:=U2x a
 rw [←Rat.not_lt,←this];omega
theorem G0i {x y u v:Vl} (hx:qV x≤qV y) (hu:qV u≤qV v) {X U:Rat} (h1:qV x≤X) (h2:X≤qV y) (h3:qV u≤U) (h4:U≤qV v):qV (K0k x y u v)≤X*U:=by
 unfold K0k
 simp only [U2z,U2y,X2t,X1l]
 split
 · rename_i h;rw [X1l];exact Z3t h1 h2 h3 h4 h.1 h.2
 · rename_i n1
   split
   · rename_i h;rw [X1l];exact W2f h1 h2 h3 h4 (by grind) (by grind)
   · rename_i n2
     split
     · rename_i h;rw [X1l];exact W2e h1 h2 h3 h4 (by grind) (by grind)
     · rename_i n3
       split
       · rename_i h;rw [X1l];exact Z3s h1 h2 h3 h4 h.1 h.2
       · rename_i n4
         have key:qV y*qV u≤X*U∨qV x*qV v≤X*U:=by
          by_cases hX:0≤X
          · exact .inl (W2f h1 h2 h3 h4 hX (by grind))
          · by_cases hU:0≤U
            · exact .inr (W2e h1 h2 h3 h4 (by grind) hU)
            · have p:=w2y (a:=X) (b:=U) (by grind) (by grind)
              by_cases hy:0≤qV y
              · have:=w2z (a:=qV y) (b:=qV u) hy (by grind);exact .inl (by grind)
              · have:=H2y (a:=qV x) (b:=qV v) (by grind) (by grind);exact .inr (by grind)
         split
         · rename_i h;rw [X1l];grind
         · rename_i h;rw [X1l];grind
theorem z0i (x y u v:Vl):K0k x y u v=byV x u∨K0k x y u v=byV x v∨K0k x y u v=byV y u∨K0k x y u v=byV y v:=by
 unfold K0k
 repeat' split
 all_goals simp
theorem q0e {x y u v:Vl} (hx:qV x≤qV y) (hu:qV u≤qV v) {X U:Rat} (h1:qV x≤X) (h2:X≤qV y) (h3:qV u≤U) (h4:U≤qV v):X*U≤qV (Y0v x y u v):=by
 unfold Y0v
 have:=G0i (x:=K0h y) (y:=K0h x) (u:=u) (v:=v) (X:= -X) (U:=U) (by rw [U0v,U0v];grind) hu (by rw [U0v];grind) (by rw [U0v];grind) h3 h4
 rw [U0v];grind
theorem w1z (x y u v:Vl):qV (Y0v x y u v)=qV x*qV u∨qV (Y0v x y u v)=qV x*qV v∨qV (Y0v x y u v)=qV y*qV u∨qV (Y0v x y u v)=qV y*qV v:=by
 unfold Y0v
 rw [U0v]
 rcases z0i (K0h y) (K0h x) u v with h | h | h | h
 all_goals rw [h,X1l,U0v];grind
theorem w0j {x y u v:Vl} (hx:canV x) (hy:canV y) (hu:canV u) (hv:canV v):canV (K0k x y u v):=by
 rcases z0i x y u v with h | h | h | h
 all_goals rw [h];exact W2r (by assumption) (by assumption)
theorem K1j {x y u v:Vl} (hx:canV x) (hy:canV y) (hu:canV u) (hv:canV v):canV (Y0v x y u v):=k0r (w0j (k0r hy) (k0r hx) hu hv)
def exV (k:Nat) (a b:Vl):Vl:=if k=0 then H0h a b else if k=1 then x0q a b else byV a b
def exQ (k:Nat) (a b:Rat):Rat:=if k=0 then a+b else if k=1 then a-b else a*b
theorem exQ0 (a b:Rat):exQ 0 a b=a+b:=by simp [exQ]
theorem exQ2 (a b:Rat):exQ 2 a b=a*b:=by simp [exQ]
theorem V3r (k:Nat) (a b:Vl):qV (exV k a b)=exQ k (qV a) (qV b):=by
 unfold exV exQ
 split
 · exact v0p a b
 · split
   · exact Q1j a b
   · exact X1l a b
theorem z1s (k:Nat) {a b:Vl} (ha:canV a) (hb:canV b):canV (exV k a b):=by
 unfold exV
 split
 · exact k0s ha hb
 · split
   · exact Z1x ha hb
   · exact W2r ha hb
def Z0i (p:Int):Bool:=decide (8≤p)&&decide (p≤256)
def strN (k:Nat) (a b:Nm):Nm×Int:=if Q0r a=true∧Q0r b=true then numV (exV k (ofN a) (ofN b)) else(default,1)
def W0s (lo hi:Vl):Ivl×Int:=if (numV lo).2=0∧(numV hi).2=0 then(⟨(numV lo).1,(numV hi).1⟩,0) else(default,2)
def loV (k:Nat) (x y u v:Vl):Vl:=if k=0 then H0h x u else if k=1 then x0q x v else K0k x y u v
def hiV (k:Nat) (x y u v:Vl):Vl:=if k=0 then H0h y v else if k=1 then x0q y u else Y0v x y u v
def opI (k:Nat) (a b:Ivl) (p:Int):Ivl×Int:=
 if Q0m a=true∧Q0m b=true∧Z0i p=true then W0s (Z0f (loV k (ofN a.lo) (ofN a.hi) (ofN b.lo) (ofN b.hi)) p.toNat false) (Z0f (hiV k (ofN a.lo) (ofN a.hi) (ofN b.lo) (ofN b.hi)) p.toNat true) else(default,1)
theorem loV0 (x y u v:Vl):loV 0 x y u v=H0h x u:=by simp [loV]
theorem hiV0 (x y u v:Vl):hiV 0 x y u v=H0h y v:=by simp [hiV]
theorem W3o (k:Nat) {x y u v:Vl} (hx:qV x≤qV y) (hu:qV u≤qV v) {X U:Rat} (h1:qV x≤X) (h2:X≤qV y) (h3:qV u≤U) (h4:U≤qV v):qV (loV k x y u v)≤exQ k X U:=by
 unfold loV exQ
 split
 · rw [v0p];grind
 · split
   · rw [Q1j];grind
   · exact G0i hx hu h1 h2 h3 h4
theorem W3y (k:Nat) {x y u v:Vl} (hx:qV x≤qV y) (hu:qV u≤qV v) {X U:Rat} (h1:qV x≤X) (h2:X≤qV y) (h3:qV u≤U) (h4:U≤qV v):exQ k X U≤qV (hiV k x y u v):=by
 unfold hiV exQ
 split
 · rw [v0p];grind
 · split
   · rw [Q1j];grind
   · exact q0e hx hu h1 h2 h3 h4
theorem W2p (k:Nat) {x y u v:Vl} (hx:canV x) (hy:canV y) (hu:canV u) (hv:canV v):canV (loV k x y u v):=by
 unfold loV
 split
 · exact k0s hx hu
 · split
   · exact Z1x hx hv
   · exact w0j hx hy hu hv
theorem W2q (k:Nat) {x y u v:Vl} (hx:canV x) (hy:canV y) (hu:canV u) (hv:canV v):canV (hiV k x y u v):=by
 unfold hiV
 split
 · exact k0s hy hv
 · split
   · exact Z1x hy hu
   · exact K1j hx hy hu hv
theorem v0q {x:Ivl} (h:Q0m x=true):qV (ofN x.lo)≤qV (ofN x.hi):=cmpN_le.1 (Z0n h).2.2
theorem z1d {lo hi:Vl} (h1:canV lo) (h2:canV hi) (h:qV lo≤qV hi):Q0m (W0s lo hi).1=true:=by
 unfold W0s
 split
 · rename_i hh
   exact H0s (J0s (q0m h1)) (J0s (q0m h2)) (cmpN_le.2 (by rw [(z0h h1 hh.1).2,(z0h h2 hh.2).2];exact h))
 · decide
theorem v3i (k:Nat) {a b:Ivl} (ha:Q0m a=true) (hb:Q0m b=true) (p:Nat):
 qV (Z0f (loV k (ofN a.lo) (ofN a.hi) (ofN b.lo) (ofN b.hi)) p false)≤qV (Z0f (hiV k (ofN a.lo) (ofN a.hi) (ofN b.lo) (ofN b.hi)) p true):=by
 have h1:=Y1e (loV k (ofN a.lo) (ofN a.hi) (ofN b.lo) (ofN b.hi)) p
 have h2:=Y1f (hiV k (ofN a.lo) (ofN a.hi) (ofN b.lo) (ofN b.hi)) p
 have h3:=W3o k (v0q ha) (v0q hb) Rat.le_refl (v0q ha) Rat.le_refl (v0q hb)
 have h4:=W3y k (v0q ha) (v0q hb) Rat.le_refl (v0q ha) Rat.le_refl (v0q hb)
 grind
theorem canI {x:Ivl} (h:Q0m x=true):canV (ofN x.lo)∧canV (ofN x.hi):=⟨U0q (Z0n h).1,U0q (Z0n h).2.1⟩
theorem X0g (k:Nat) (a b:Ivl) (p:Int):Q0m (opI k a b p).1=true:=by
 unfold opI
 split
 · rename_i h
   have ca:=canI h.1
   have cb:=canI h.2.1
   exact z1d (Y0i (W2p k ca.1 ca.2 cb.1 cb.2) _ _) (Y0i (W2q k ca.1 ca.2 cb.1 cb.2) _ _) (v3i k h.1 h.2.1 _)
 · decide
def memI (X:Rat) (a:Ivl):Prop:=qN a.lo≤X∧X≤qN a.hi
end Go.Pv
end
section
/-Exact sums and products of numbers in any form,and how long they get. No program in it. -/
namespace Go.Pv
def bd (n k:Nat) (x:Nm):Prop:=x.w.length≤n∧ -(k:Int)≤x.exp∧x.exp≤k
theorem bd.mono {n k n' k':Nat} {x:Nm} (h:bd n k x) (h1:n≤n') (h2:k≤k'):bd n' k' x:=⟨by have:=h.1;omega,by have:=h.2.1;omega,by have:=h.2.2;omega⟩
theorem Z0z {x:Nm} (h:Q0r x=true):bd 64 65536 x:=by
 unfold Q0r at h
 by_cases hw:x.w= []
 · rw [if_pos hw] at h
   simp at h
   exact⟨by rw [hw];simp,by rw [h.2];omega,by rw [h.2];omega⟩
 · rw [if_neg hw] at h
   simp only [Bool.and_eq_true,decide_eq_true_eq] at h
   exact⟨h.1.1.1.2,h.1.2,h.2⟩
theorem G2u (neg:Bool) (e:Int) (m:Nat):qN ⟨neg,e,Q0q m⟩=qM (if neg then -(m:Int) else(m:Int)) e:=by
 unfold qN mant;rw [Z0a]
theorem w2u (b:Nm) (e:Int) (d:Nat) (h:b.exp=e+d):qN b=qM (if b.neg then -((valW b.w*2^d:Nat):Int) else((valW b.w*2^d:Nat):Int)) e:=by
 unfold qN
 rw [h,←Q1k]
 congr 1
 unfold mant
 cases b.neg
 · simp
 · simp [Int.neg_mul]
theorem Q3r (a b:Nm) (d:Nat) (h:b.exp=a.exp+d) (hn:a.neg=b.neg):qN ⟨a.neg,a.exp,Q0q (valW a.w+valW b.w*2^d)⟩=qN a+qN b:=by
 rw [G2u,w2u b a.exp d h,show qN a=qM (mant a) a.exp from rfl,←x1u]
 congr 1
 unfold mant
 rw [←hn]
 cases a.neg<;>simp<;>omega
theorem z2q (a b:Nm) (d:Nat) (h:b.exp=a.exp+d) (hn:a.neg≠b.neg) (hle:valW b.w*2^d≤valW a.w):qN ⟨a.neg,a.exp,Q0q (valW a.w-valW b.w*2^d)⟩=qN a+qN b:=by
 rw [G2u,w2u b a.exp d h,show qN a=qM (mant a) a.exp from rfl,←x1u]
 congr 1
 unfold mant
 generalize valW b.w*2^d=x at*
 cases ha:a.neg<;>cases hb:b.neg<;>simp [ha,hb] at hn⊢ <;>omega
theorem z2p (a b:Nm) (d:Nat) (h:b.exp=a.exp+d) (hn:a.neg≠b.neg) (hle:valW a.w≤valW b.w*2^d):qN ⟨b.neg,a.exp,Q0q (valW b.w*2^d-valW a.w)⟩=qN a+qN b:=by
 rw [G2u,w2u b a.exp d h,show qN a=qM (mant a) a.exp from rfl,←x1u]
 congr 1
 unfold mant
 generalize valW b.w*2^d=x at*
 cases ha:a.neg<;>cases hb:b.neg<;>simp [ha,hb] at hn⊢ <;>omega
theorem W1x {x:Nm} (h:sgnN x=0):qN x=0:=by
 have:mant x=0:=by
  rw [x0h] at h
  unfold sgn at h
  split at h
  · assumption
  · split at h<;>omega
 unfold qN;rw [this,V0o]
theorem Y3k (a b:Nm) (n k d:Nat) (ha:bd n k a) (hb:bd n k b) (hd:d≤2*k):(Q0q (valW a.w+valW b.w*2^d)).length≤n+k+1:=by
 refine X0p ?_
 have h1:=J0i a.w
 have h2:=J0i b.w
 have hp: ∀l:Nat,l≤n→18446744073709551616^l≤2^(64*n):=fun l hl=>by rw [j0x];exact Nat.pow_le_pow_right (by decide) (by omega)
 have h3:valW a.w<2^(64*n+d):=Nat.lt_of_lt_of_le h1 (Nat.le_trans (hp _ ha.1) (Nat.pow_le_pow_right (by decide) (by omega)))
 have h4:valW b.w*2^d<2^(64*n+d):=by
  rw [Nat.pow_add]
  exact Nat.mul_lt_mul_of_pos_right (Nat.lt_of_lt_of_le h2 (hp _ hb.1)) (Nat.two_pow_pos d)
 have h5:18446744073709551616^(n+k+1)=2^(64*(n+k+1)):=j0x _
 have h6:2^(64*n+d+1)≤2^(64*(n+k+1)):=Nat.pow_le_pow_right (by decide) (by omega)
 have h7:2^(64*n+d+1)=2^(64*n+d)*2:=Nat.pow_succ ..
 rw [h5]
 omega
theorem V2h (a b:Nm) (n k d m:Nat) (ha:bd n k a) (hb:bd n k b) (hd:d≤2*k) (hm:m≤valW a.w+valW b.w*2^d):(Q0q m).length≤n+k+1:=Nat.le_trans (V0e hm) (Y3k a b n k d ha hb hd)
theorem V3t (a b:Nm):qN ⟨a.neg !=b.neg,a.exp+b.exp,Q0q (valW a.w*valW b.w)⟩=qN a*qN b:=by
 rw [G2u]
 show _=qM (mant a) a.exp*qM (mant b) b.exp
 rw [←X2b]
 congr 1
 unfold mant
 cases a.neg<;>cases b.neg<;>simp [Int.neg_mul,Int.mul_neg]
theorem Q3b (a b:Nm) (n k m l:Nat) (ha:bd n k a) (hb:bd m l b):bd (n+m) (k+l) ⟨a.neg !=b.neg,a.exp+b.exp,Q0q (valW a.w*valW b.w)⟩:=by
 refine⟨X0p ?_,?_,?_⟩
 · have h1:=J0i a.w
   have h2:=J0i b.w
   refine Nat.lt_of_lt_of_le (Nat.mul_lt_mul'' h1 h2) ?_
   rw [←Nat.pow_add]
   exact Nat.pow_le_pow_right (by decide) (by have:=ha.1;have:=hb.1;omega)
 · have:=ha.2.1;have:=hb.2.1;simp only;omega
 · have:=ha.2.2;have:=hb.2.2;simp only;omega
end Go.Pv
end
section
/-The right number of words by a power of two,rounded or not. No program in it. -/
namespace Go.Pv
theorem K1n (m:Nat) (h:m≠0):((Q0q m).getD 0 0).toNat % 2=m % 2:=by
 rw [←j0f,Z0a]
theorem Y1h (neg:Bool) (m:Nat) (e:Int) (h:m % 2=1):Q0r ⟨neg,e,Q0q m⟩=(decide ((Q0q m).length≤64)&&decide (-65536≤e)&&decide (e≤65536)):=by
 have hw:Q0q m≠ []:=fun e=>by rw [wordsOf_nil] at e;omega
 have h1:((Q0q m).getD 0 0).toNat % 2=1:=by rw [K1n m (by omega)];exact h
 unfold Q0r
 rw [if_neg hw,W0p]
 simp only [h1,decide_true,Bool.true_and,Bool.and_true]
def mkX (neg:Bool) (w:List UInt64) (e:Int):Nm×Int:=numV (oddV neg (valW w) e)
theorem q2h {neg:Bool} {w:List UInt64} {e:Int} (h:valW w=0):mkX neg w e=(default,0):=by
 unfold mkX;rw [h,Y0q];rfl
theorem J2l {neg:Bool} {w:List UInt64} {e:Int} (h:valW w≠0) (h2:65536<e∨e< -65536-((tz (valW w):Nat):Int)):mkX neg w e=(default,2):=by
 unfold mkX oddV
 rw [if_neg h]
 have h1:valW w/2^tz (valW w)≠0:=by have:=Y0a (valW w) h;omega
 unfold numV
 rw [if_neg h1,if_pos (by simp only;omega)]
theorem q2i {neg:Bool} {w:List UInt64} {e:Int} (h:valW w≠0):mkX neg w e=if Q0r ⟨neg,e+((tz (valW w):Nat):Int),Q0q (valW w/2^tz (valW w))⟩=true then(⟨neg,e+((tz (valW w):Nat):Int),Q0q (valW w/2^tz (valW w))⟩,0) else(default,2):=by
 have h0:=Y0a (valW w) h
 rw [Y1h _ _ _ h0]
 unfold mkX oddV
 rw [if_neg h]
 unfold numV
 rw [if_neg (by simp only;omega)]
 simp only
 by_cases hc:64<(Q0q (valW w/2^tz (valW w))).length∨e+((tz (valW w):Nat):Int)< -65536∨65536<e+((tz (valW w):Nat):Int)
 · rw [if_pos hc,if_neg]
   simp only [Bool.and_eq_true,decide_eq_true_eq];omega
 · rw [if_neg hc,if_pos]
   simp only [Bool.and_eq_true,decide_eq_true_eq];omega
theorem J2k (x:Nm):mkX x.neg x.w x.exp=numV (ofX x):=rfl
def rndX (x:Nm) (p:Nat) (up:Bool):Nm:=
 if X0h x.w≤p then x else⟨x.neg,x.exp+((X0h x.w-p:Nat):Int),Q0q (valW x.w/2^(X0h x.w-p)+(if tz (valW x.w)<X0h x.w-p∧up≠x.neg then 1 else 0))⟩
theorem G2i (x:Nm) (p:Nat) (up:Bool) (hp:0<p):ofX (rndX x p up)=Z0f (ofX x) p up:=by
 unfold rndX
 show _=Z0f (oddV x.neg (valW x.w) x.exp) p up
 rw [v1r _ _ _ _ _ hp]
 unfold X0h
 split
 · rfl
 · unfold ofX
   rw [Z0a]
theorem w2r (x:Nm) (p:Nat) (up:Bool) (n k:Nat) (h:bd n k x):bd (n+1) (k+64*n) (rndX x p up):=by
 have hb:=V0t x.w
 have hl:=h.1
 unfold rndX
 split
 · exact h.mono (by omega) (by omega)
 · refine⟨?_,?_,?_⟩
   · refine X0p ?_
     have h1:=J0i x.w
     have h2:valW x.w/2^(X0h x.w-p)≤valW x.w:=Nat.div_le_self _ _
     have h3:18446744073709551616^x.w.length≤18446744073709551616^n:=Nat.pow_le_pow_right (by decide) hl
     have h4:18446744073709551616^(n+1)=18446744073709551616^n*18446744073709551616:=Nat.pow_succ ..
     split<;>omega
   · have:=h.2.1;simp only;omega
   · have:=h.2.2;simp only;omega
end Go.Pv
end
section
/-Intervals:has,meet,middle,width. No program in it. -/
namespace Go.Pv
def hasI (a:Ivl) (x:Nm):Bool:=Q0m a&&Q0r x&&decide (cmpN a.lo x≤0)&&decide (cmpN x a.hi≤0)
def q1r (lo hi:Nm):Ivl×Int:=if Q0m ⟨lo,hi⟩=true then(⟨lo,hi⟩,0) else(default,1)
theorem Z2z (a b:Nm):qN (J0e a b)≤qN a∧qN (J0e a b)≤qN b∧(qN (J0e a b)=qN a∨qN (J0e a b)=qN b):=by
 have h1:=cmpN_le.1 (w1u a b)
 have h2:=cmpN_le.1 (w1t a b)
 refine⟨h1,h2,?_⟩
 unfold J0e
 split
 · exact .inr rfl
 · exact .inl rfl
theorem X2a (a b:Nm):qN a≤qN (J0f a b)∧qN b≤qN (J0f a b)∧(qN (J0f a b)=qN a∨qN (J0f a b)=qN b):=by
 have h1:=cmpN_le.1 (y1c a b)
 have h2:=cmpN_le.1 (y1a a b)
 refine⟨h1,h2,?_⟩
 unfold J0f
 split
 · exact .inr rfl
 · exact .inl rfl
theorem y1e {a b:Ivl} (ha:Q0m a=true) (hb:Q0m b=true) {p1 p2 p3 p4:Nm} (h1:qN p1=qN a.lo*qN b.lo) (h2:qN p2=qN a.lo*qN b.hi) (h3:qN p3=qN a.hi*qN b.lo) (h4:qN p4=qN a.hi*qN b.hi):
 ofX (J0e (J0e (J0e p1 p2) p3) p4)=loV 2 (ofN a.lo) (ofN a.hi) (ofN b.lo) (ofN b.hi):=by
 have ca:=canI ha
 have cb:=canI hb
 have la:=v0q ha
 have lb:=v0q hb
 show _=K0k (ofN a.lo) (ofN a.hi) (ofN b.lo) (ofN b.hi)
 refine U1e (w0j ca.1 ca.2 cb.1 cb.2) ?_
 have r1:=G0i la lb Rat.le_refl la Rat.le_refl lb
 have r2:=G0i la lb Rat.le_refl la lb Rat.le_refl
 have r3:=G0i la lb la Rat.le_refl Rat.le_refl lb
 have r4:=G0i la lb la Rat.le_refl lb Rat.le_refl
 have rr: ∀v w:Vl,K0k (ofN a.lo) (ofN a.hi) (ofN b.lo) (ofN b.hi)=byV v w→qV (K0k (ofN a.lo) (ofN a.hi) (ofN b.lo) (ofN b.hi))=qV v*qV w:=fun v w e=>by rw [e,X1l]
 have r5:qV (K0k (ofN a.lo) (ofN a.hi) (ofN b.lo) (ofN b.hi))=qV (ofN a.lo)*qV (ofN b.lo)∨qV (K0k (ofN a.lo) (ofN a.hi) (ofN b.lo) (ofN b.hi))=qV (ofN a.lo)*qV (ofN b.hi)∨qV (K0k (ofN a.lo) (ofN a.hi) (ofN b.lo) (ofN b.hi))=qV (ofN a.hi)*qV (ofN b.lo)∨qV (K0k (ofN a.lo) (ofN a.hi) (ofN b.lo) (ofN b.hi))=qV (ofN a.hi)*qV (ofN b.hi):=by
  rcases z0i (ofN a.lo) (ofN a.hi) (ofN b.lo) (ofN b.hi) with e | e | e | e
  · exact .inl (rr _ _ e)
  · exact .inr (.inl (rr _ _ e))
  · exact .inr (.inr (.inl (rr _ _ e)))
  · exact .inr (.inr (.inr (rr _ _ e)))
 generalize qV (K0k (ofN a.lo) (ofN a.hi) (ofN b.lo) (ofN b.hi))=V at*
 simp only [U0j] at*
 rw [←h1] at r1 r5
 rw [←h2] at r2 r5
 rw [←h3] at r3 r5
 rw [←h4] at r4 r5
 obtain⟨s1,s2,s3⟩:=Z2z p1 p2
 obtain⟨t1,t2,t3⟩:=Z2z (J0e p1 p2) p3
 obtain⟨u1,u2,u3⟩:=Z2z (J0e (J0e p1 p2) p3) p4
 clear h1 h2 h3 h4 la lb rr
 grind
theorem V1r {a b:Ivl} (ha:Q0m a=true) (hb:Q0m b=true) {p1 p2 p3 p4:Nm} (h1:qN p1=qN a.lo*qN b.lo) (h2:qN p2=qN a.lo*qN b.hi) (h3:qN p3=qN a.hi*qN b.lo) (h4:qN p4=qN a.hi*qN b.hi):
 ofX (J0f (J0f (J0f p1 p2) p3) p4)=hiV 2 (ofN a.lo) (ofN a.hi) (ofN b.lo) (ofN b.hi):=by
 have ca:=canI ha
 have cb:=canI hb
 have la:=v0q ha
 have lb:=v0q hb
 show _=Y0v (ofN a.lo) (ofN a.hi) (ofN b.lo) (ofN b.hi)
 refine U1e (K1j ca.1 ca.2 cb.1 cb.2) ?_
 have r1:=q0e la lb Rat.le_refl la Rat.le_refl lb
 have r2:=q0e la lb Rat.le_refl la lb Rat.le_refl
 have r3:=q0e la lb la Rat.le_refl Rat.le_refl lb
 have r4:=q0e la lb la Rat.le_refl lb Rat.le_refl
 have r5:=w1z (ofN a.lo) (ofN a.hi) (ofN b.lo) (ofN b.hi)
 generalize qV (Y0v (ofN a.lo) (ofN a.hi) (ofN b.lo) (ofN b.hi))=V at*
 simp only [U0j] at*
 rw [←h1] at r1 r5
 rw [←h2] at r2 r5
 rw [←h3] at r3 r5
 rw [←h4] at r4 r5
 obtain⟨s1,s2,s3⟩:=X2a p1 p2
 obtain⟨t1,t2,t3⟩:=X2a (J0f p1 p2) p3
 obtain⟨u1,u2,u3⟩:=X2a (J0f (J0f p1 p2) p3) p4
 clear h1 h2 h3 h4 la lb
 grind
end Go.Pv
end
section
/-What boxes are reckoned to. No program in it. -/
namespace Go.Pv
def opB (k:Nat) (a b:List Ivl) (p:Int):List Ivl×Int:=if rightB a=true∧rightB b=true∧a.length=b.length∧Z0i p=true then x0v (fun i x=>opI k x (b.getD i default) p) 0 a [] else([],1)
def K0i (x:Ivl) (b:List Ivl) (p:Int):List Ivl×Int:=if rightB b=true∧Q0m x=true∧Z0i p=true then x0v (fun _ y=>opI 2 x y p) 0 b [] else([],1)
theorem J2e (v:Vl):(numV v).2=0∨(numV v).2=2:=by
 unfold numV
 split
 · exact .inl rfl
 · split
   · exact .inr rfl
   · exact .inl rfl
end Go.Pv
end
section
/-How long values get. No program in it. -/
namespace Go.Pv
def bdV (n k:Nat) (v:Vl):Prop:=Q0g v.m≤n∧ -(k:Int)≤v.e∧v.e≤k
theorem bdV.mono {n k n' k':Nat} {v:Vl} (h:bdV n k v) (h1:n≤n') (h2:k≤k'):bdV n' k' v:=⟨by have:=h.1;omega,by have:=h.2.1;omega,by have:=h.2.2;omega⟩
theorem q0p {x:Nm} (h:Q0r x=true):bdV 4096 65536 (ofN x):=by
 have hb:=Z0z h
 have h1:=V0t x.w
 exact⟨by show Q0g (valW x.w)≤_;unfold X0h at h1;have:=hb.1;omega,hb.2.1,hb.2.2⟩
theorem z1w {neg:Bool} {m:Nat} {e:Int} {n k:Nat} (h1:Q0g m≤n) (h2: -(k:Int)≤e) (h3:e≤k):bdV n (k+n) (oddV neg m e):=by
 unfold oddV
 split
 · exact⟨by rw [J0c];omega,by simp only;omega,by simp only;omega⟩
 · have ht:=H0o m
   have hl:=J0y (Nat.div_le_self m (2^tz m))
   exact⟨by simp only;omega,by simp only;omega,by simp only;omega⟩
theorem k1d {a b:Vl} {n k:Nat} (ha:bdV n k a) (hb:bdV n k b):bdV (n+2*k+1) (n+3*k+1) (H0h a b):=by
 unfold H0h
 split
 · exact hb.mono (by omega) (by omega)
 · split
   · exact ha.mono (by omega) (by omega)
   · have h1:=K0s a.m (a.e-min a.e b.e).toNat
     have h2:=K0s b.m (b.e-min a.e b.e).toNat
     have h3:=W0z (a.m*2^(a.e-min a.e b.e).toNat) (b.m*2^(b.e-min a.e b.e).toNat)
     obtain⟨a1,a2,a3⟩:=ha
     obtain⟨b1,b2,b3⟩:=hb
     have hk1:(a.e-min a.e b.e).toNat≤2*k:=by omega
     have hk2:(b.e-min a.e b.e).toNat≤2*k:=by omega
     have hm:(X0v a*2^(a.e-min a.e b.e).toNat+X0v b*2^(b.e-min a.e b.e).toNat).natAbs≤a.m*2^(a.e-min a.e b.e).toNat+b.m*2^(b.e-min a.e b.e).toNat:=by
      have e1: ∀(v:Vl) (j:Nat),(X0v v*2^j).natAbs=v.m*2^j:=fun v j=>by
       rw [Int.natAbs_mul,Int.natAbs_pow]
       congr 1
       unfold X0v;cases v.neg<;>simp
      have:=Int.natAbs_add_le (X0v a*2^(a.e-min a.e b.e).toNat) (X0v b*2^(b.e-min a.e b.e).toNat)
      rw [e1,e1] at this
      exact this
     have h4:=J0y hm
     have:=z1w (neg:=decide (X0v a*2^(a.e-min a.e b.e).toNat+X0v b*2^(b.e-min a.e b.e).toNat<0)) (m:=(X0v a*2^(a.e-min a.e b.e).toNat+X0v b*2^(b.e-min a.e b.e).toNat).natAbs) (e:=min a.e b.e) (n:=n+2*k+1) (k:=k) (by omega) (by omega) (by omega)
     exact this.mono (by omega) (by omega)
theorem k0u {a:Vl} {n k:Nat} (ha:bdV n k a):bdV n k (K0h a):=by
 unfold bdV;rw [v0g,v0h];exact ha
theorem Y2c {a b:Vl} {n k m l:Nat} (ha:bdV n k a) (hb:bdV m l b):bdV (n+m) (k+l) (byV a b):=by
 unfold byV
 split
 · exact⟨by rw [J0c];omega,by simp only;omega,by simp only;omega⟩
 · refine⟨?_,?_,?_⟩
   · have h:Q0g (a.m*b.m)≤Q0g a.m+Q0g b.m:=by
      rw [bitlen_le_iff,Nat.pow_add]
      exact Nat.mul_lt_mul'' (Z0d _) (Z0d _)
     have:=ha.1;have:=hb.1;simp only;omega
   · have:=ha.2.1;have:=hb.2.1;simp only;omega
   · have:=ha.2.2;have:=hb.2.2;simp only;omega
theorem k0v {a:Vl} {n k:Nat} (ha:bdV n k a) (p:Nat) (up:Bool):bdV (n+1) (k+2*n+1) (Z0f a p up):=by
 unfold Z0f
 split
 · exact ha.mono (by omega) (by omega)
 · have h1:=ha.1
   have h2:=J0y (Nat.div_le_self a.m (2^(Q0g a.m-p)))
   have h3:Q0g (a.m/2^(Q0g a.m-p)+(if a.m % 2^(Q0g a.m-p)≠0∧up≠a.neg then 1 else 0))≤n+1:=by
    have b1:Q0g 1=1:=rfl
    have h:=W0z (a.m/2^(Q0g a.m-p)) 1
    split
    · by_cases hq:Q0g (a.m/2^(Q0g a.m-p))=0
      · have hn:0<Q0g a.m:=by rename_i hh _;omega
        omega
      · omega
    · rw [Nat.add_zero];omega
   have:=z1w (neg:=a.neg) (e:=a.e+((Q0g a.m-p:Nat):Int)) (k:=k+n) h3 (by have:=ha.2.1;omega) (by have:=ha.2.2;omega)
   exact this.mono (by omega) (by omega)
theorem G1x {x y u v:Vl} {n k m l:Nat} (hx:bdV n k x) (hy:bdV n k y) (hu:bdV m l u) (hv:bdV m l v):bdV (n+m) (k+l) (K0k x y u v):=by
 rcases z0i x y u v with h | h | h | h
 all_goals rw [h];exact Y2c (by assumption) (by assumption)
theorem Y2b {x y u v:Vl} {n k m l:Nat} (hx:bdV n k x) (hy:bdV n k y) (hu:bdV m l u) (hv:bdV m l v):bdV (n+m) (k+l) (Y0v x y u v):=k0u (G1x (k0u hy) (k0u hx) hu hv)
theorem z0n {v:Vl} {n k:Nat} (h:bdV n k v) (hn:n≤1000000000000):(Q0d v.m).length≤1000000000000:=by
 have:=Z0y v.m
 have:=h.1
 omega
end Go.Pv
end
section
/-A number of an interval,by parts of 8. No program in it. -/
namespace Go.Pv
theorem J2d {v:Vl} {n k:Nat} (h:bdV n k v) (h1:n≤4096) (h2:k≤65536):(numV v).2=0:=by
 unfold numV
 split
 · rfl
 · rw [if_neg]
   have hl:=G0q v.m
   have:=h.1;have:=h.2.1;have:=h.2.2
   omega
end Go.Pv
end
