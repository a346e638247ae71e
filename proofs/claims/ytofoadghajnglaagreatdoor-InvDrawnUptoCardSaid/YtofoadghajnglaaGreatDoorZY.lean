/- Parts of the walk: M23, M24, M25, M26, M27, M28, M29, M30, M31, M32, M33. -/
import Derived.Test.YtofoadghajnglaaGreatDoorZK
set_option linter.unusedVariables false
set_option linter.unusedSimpArgs false
section
/-Exact values and their rounding:what numbers that are not in one form stand for. No program in it. -/
namespace Go.Pv
def ofX (x:Nm):Vl:=oddV x.neg (valW x.w) x.exp
def Z0h (v:Vl) (p:Nat) (up:Bool):Vl:=
 if Q0h v.m≤p then v else
  oddV v.neg (v.m/2^(Q0h v.m-p)+(if v.m % 2^(Q0h v.m-p)≠0∧up≠v.neg then 1 else 0)) (v.e+((Q0h v.m-p:Nat):Int))
theorem U0c (neg:Bool) (e:Int):oddV neg 0 e=⟨false,0,0⟩:=by rw [oddV,if_pos rfl]
theorem Q1k (neg:Bool) (m k:Nat) (e:Int):oddV neg (m*2^k) e=oddV neg m (e+k):=by
 by_cases h:m=0
 · subst h;rw [Nat.zero_mul,U0c,U0c]
 · have hp:m*2^k≠0:=Nat.mul_ne_zero h (Nat.ne_of_gt (Nat.two_pow_pos k))
   obtain⟨q,hq,hm⟩:=w0g m h
   have hmk:m*2^k=2^(tz m+k)*q:=by
    conv=>lhs;rw [hm]
    rw [Nat.pow_add,Nat.mul_right_comm]
   have ht:tz (m*2^k)=tz m+k:=by rw [hmk,U1n _ _ hq]
   unfold oddV
   rw [if_neg h,if_neg hp,ht]
   have e1:m*2^k/2^(tz m+k)=m/2^tz m:=by
    rw [hmk,Nat.mul_div_cancel_left _ (Nat.two_pow_pos _)]
    conv=>rhs;rw [hm]
    rw [U1n _ _ hq,Nat.mul_div_cancel_left _ (Nat.two_pow_pos _)]
   rw [e1]
   congr 1
   omega
theorem Q1l (neg:Bool) (m:Nat) (e:Int) (h:m % 2=1):oddV neg m e=⟨neg,m,e⟩:=by
 rw [oddV,if_neg (by omega),k1a h];simp
theorem G2x (z D q:Nat) (h:D≤z):2^z*q/2^D=q*2^(z-D):=by
 obtain⟨k,rfl⟩: ∃k,z=D+k:=⟨z-D,by omega⟩
 rw [Nat.add_sub_cancel_left,Nat.pow_add,Nat.mul_assoc,Nat.mul_div_cancel_left _ (Nat.two_pow_pos _),Nat.mul_comm]
theorem y2i {x:Nm} (h:Q0j x=true):ofX x=ofN x:=by
 rcases y2f h with h1 | h1
 · exact Q1l _ _ _ h1
 · have h0:valW x.w=0:=h1
   have hw:x.w= []:=by
    refine Classical.byContradiction fun hw=> ?_
    have h2:=h
    unfold Q0j at h2
    rw [if_neg hw] at h2
    simp only [Bool.and_eq_true,decide_eq_true_eq] at h2
    have h3:=j0x x.w
    omega
   have h2:=h
   unfold Q0j at h2
   rw [if_pos hw] at h2
   simp at h2
   unfold ofX ofN
   rw [h0,U0c,h2.1,h2.2]
theorem y1k (neg:Bool) (m:Nat) (e:Int) (p:Nat) (up:Bool) (hp:0<p):Z0h (oddV neg m e) p up=
 if Q0h m≤p then oddV neg m e else oddV neg (m/2^(Q0h m-p)+(if tz m<Q0h m-p∧up≠neg then 1 else 0)) (e+((Q0h m-p:Nat):Int)):=by
 by_cases h0:m=0
 · subst h0
   rw [if_pos (by rw [X0g];omega),U0c,Z0h,if_pos (by show Q0h 0≤p;rw [X0g];omega)]
 obtain⟨q,hq,hm⟩:=w0g m h0
 have hq0:q≠0:=by omega
 have e1:oddV neg m e=⟨neg,q,e+tz m⟩:=by
  have:oddV neg (q*2^tz m) e=oddV neg q (e+tz m):=Q1k neg q (tz m) e
  rw [Nat.mul_comm,←hm] at this
  rw [this,Q1l _ _ _ hq]
 have hb:Q0h m=Q0h q+tz m:=by
  have:=W0u q (tz m) hq0
  rw [Nat.mul_comm,←hm] at this
  exact this
 rw [e1]
 unfold Z0h
 simp only
 by_cases h1:Q0h q≤p
 · rw [if_pos h1]
   by_cases h2:Q0h m≤p
   · rw [if_pos h2]
   · rw [if_neg h2,if_neg (by omega),Nat.add_zero]
     have hdiv:m/2^(Q0h m-p)=q*2^(tz m-(Q0h m-p)):=by
      have h:=G2x (tz m) (Q0h m-p) q (by omega)
      rw [←hm] at h;exact h
     rw [hdiv,Q1k,Q1l _ _ _ hq]
     congr 1
     omega
 · rw [if_neg h1,if_neg (show¬Q0h m≤p by omega)]
   have hd:Q0h m-p=tz m+(Q0h q-p):=by omega
   have hdiv:m/2^(Q0h m-p)=q/2^(Q0h q-p):=by
    have h:=Nat.mul_div_cancel_left q (Nat.two_pow_pos (tz m))
    rw [←hm] at h
    rw [hd,Nat.pow_add,←Nat.div_div_eq_div_mul,h]
   have hodd:q % 2^(Q0h q-p)≠0:=by
    intro h
    have hdv:2∣q:=Nat.dvd_trans ⟨2^(Q0h q-p-1),by rw [←Nat.pow_succ'];congr 1;omega⟩ (Nat.dvd_of_mod_eq_zero h)
    omega
   rw [hdiv]
   have hc:(q % 2^(Q0h q-p)≠0∧up≠neg)↔(tz m<Q0h m-p∧up≠neg):=⟨fun h=>⟨by omega,h.2⟩,fun h=>⟨hodd,h.2⟩⟩
   by_cases hh:tz m<Q0h m-p∧up≠neg
   · rw [if_pos hh,if_pos (hc.2 hh)]
     congr 1
     omega
   · rw [if_neg hh,if_neg (fun h=>hh (hc.1 h))]
     congr 1
     omega
end Go.Pv
end
section
/-Exact sums and products,whatever form the numbers have. No program in it. -/
namespace Go.Pv
theorem x1n (neg:Bool) (m:Nat) (e:Int):oddV neg m e=mkV (if neg then -(m:Int) else(m:Int)) e:=by
 by_cases h:m=0
 · subst h
   rw [U0c]
   unfold mkV
   cases neg<;>simp [U0c]
 · unfold mkV
   cases neg
   · show oddV false m e=oddV (decide ((m:Int)<0)) (m:Int).natAbs e
     rw [decide_eq_false (by omega),Int.natAbs_natCast]
   · show oddV true m e=oddV (decide (-(m:Int)<0)) (-(m:Int)).natAbs e
     rw [decide_eq_true (by omega),Int.natAbs_neg,Int.natAbs_natCast]
theorem V3m (x:Nm):ofX x=mkV (mant x) x.exp:=by rw [ofX,x1n];rfl
theorem K2g (s:Int) (k:Nat) (e:Int):mkV (s*2^k) e=mkV s (e+k):=by
 unfold mkV
 have h1:(s*2^k).natAbs=s.natAbs*2^k:=by
  rw [Int.natAbs_mul,Int.natAbs_pow];rfl
 have h2:decide (s*2^k<0)=decide (s<0):=by
  have hp:=two_pow_pos k
  by_cases h:s<0
  · rw [decide_eq_true h,decide_eq_true (Int.mul_neg_of_neg_of_pos h hp)]
  · rw [decide_eq_false h,decide_eq_false (Int.not_lt.2 (Int.mul_nonneg (Int.not_lt.1 h) (Int.le_of_lt hp)))]
 rw [h1,h2,Q1k]
theorem K2h (s e:Int) (h:s≠0): ∃k:Nat,J0a (mkV s e)*2^k=s∧(mkV s e).e=e+k∧(mkV s e).m≠0:=by
 have h0:s.natAbs≠0:=by omega
 refine⟨tz s.natAbs,?_,?_,?_⟩
 · unfold mkV oddV J0a
   rw [if_neg h0]
   simp only
   have h1:=w1u s.natAbs
   by_cases hs:s<0
   · rw [decide_eq_true hs,if_pos rfl,Int.neg_mul]
     have:((s.natAbs/2^tz s.natAbs:Nat):Int)*2^tz s.natAbs=(s.natAbs:Int):=by
      rw [show((2:Int)^tz s.natAbs)=((2^tz s.natAbs:Nat):Int) from by simp,←Int.natCast_mul,h1]
     rw [this];omega
   · rw [decide_eq_false hs,if_neg (by simp)]
     have:((s.natAbs/2^tz s.natAbs:Nat):Int)*2^tz s.natAbs=(s.natAbs:Int):=by
      rw [show((2:Int)^tz s.natAbs)=((2^tz s.natAbs:Nat):Int) from by simp,←Int.natCast_mul,h1]
     rw [this];omega
 · unfold mkV oddV;rw [if_neg h0]
 · unfold mkV oddV
   rw [if_neg h0]
   have:=Y0m s.natAbs h0
   simp only;omega
def byV (a b:Vl):Vl:=if a.m=0∨b.m=0 then⟨false,0,0⟩ else⟨a.neg !=b.neg,a.m*b.m,a.e+b.e⟩
theorem y2k {a b:Nat} (ha:a % 2=1) (hb:b % 2=1):a*b % 2=1:=by rw [Nat.mul_mod,ha,hb]
end Go.Pv
end
section
/-The lowest set bit of a word,and how many noughts lie below it. No program in it. -/
namespace Go.Pv
theorem z1b : ∀(k a b:Nat),a+b+1=2^k→a&&&b=0
 | 0,a,b,h=>by
  have:a=0:=by simp at h;omega
  subst this;exact Nat.zero_and b
 | k+1,a,b,h=>by
  have h2:a+b+1=2*2^k:=by rw [h,Nat.pow_succ,Nat.mul_comm]
  have ih:=z1b k (a/2) (b/2) (by omega)
  have hd:(a&&&b)/2=a/2&&&b/2:=Nat.and_div_two
  have hm:(a&&&b) % 2≠1:=fun e=>by have:=Nat.and_mod_two_eq_one.1 e;omega
  omega
theorem K2o : ∀(n x:Nat),0<x→x<2^n→x&&&(2^n-x)=2^tz x
 | 0,x,h,hl=>by simp at hl;omega
 | n+1,x,h,hl=>by
  have hp:2^(n+1)=2*2^n:=by rw [Nat.pow_succ,Nat.mul_comm]
  have hd:(x&&&(2^(n+1)-x))/2=x/2&&&(2^(n+1)-x)/2:=Nat.and_div_two
  rcases Nat.mod_two_eq_zero_or_one x with e | e
  · have ih:=K2o n (x/2) (by omega) (by omega)
    have h3:(2^(n+1)-x)/2=2^n-x/2:=by omega
    have hm:(x&&&(2^(n+1)-x)) % 2≠1:=fun e'=>by have:=Nat.and_mod_two_eq_one.1 e';omega
    rw [h3,ih] at hd
    have hps:2^(tz (x/2)+1)=2^tz (x/2)*2:=Nat.pow_succ ..
    rw [z1j (by omega) e]
    omega
  · have h4:=z1b n (x/2) ((2^(n+1)-x)/2) (by omega)
    have hm:(x&&&(2^(n+1)-x)) % 2=1:=Nat.and_mod_two_eq_one.2 ⟨e,by omega⟩
    rw [h4] at hd
    rw [k1a e,Nat.pow_zero];omega
theorem q2g (x:Nat) (h:0<x) (hl:x<18446744073709551616):x&&&(18446744073709551616-x)=2^tz x:=K2o 64 x h hl
theorem W1c (x:Nat) (h:0<x) (hl:x<18446744073709551616):tz x<64:=by
 have h1:=q0o x (by omega)
 have h2:=q1v x hl
 omega
theorem K3e (w r:Nat) (h:0<w) (hl:w<18446744073709551616):tz (w+18446744073709551616*r)=tz w:=by
 obtain⟨q,hq,hw⟩:=w0g w (by omega)
 have ht:=W1c w h hl
 have e:w+18446744073709551616*r=2^tz w*(q+2^(64-tz w)*r):=by
  rw [Nat.mul_add,←hw,←Nat.mul_assoc,←Nat.pow_add,show tz w+(64-tz w)=64 from by omega]
 have h2:2^(64-tz w)*r % 2=0:=by
  obtain⟨k,hk⟩: ∃k,64-tz w=k+1:=⟨63-tz w,by omega⟩
  rw [hk,Nat.pow_succ,Nat.mul_assoc,Nat.mul_left_comm];exact Nat.mul_mod_right _ _
 rw [e,U1n _ _ (by omega)]
theorem V0k (l:List UInt64) (i:Nat) (h:i≤l.length):valW l=valW (l.take i)+18446744073709551616^i*valW (l.drop i):=by
 conv=>lhs;rw [←List.take_append_drop i l]
 rw [K0t,List.length_take,Nat.min_eq_left h]
theorem U1m (l:List UInt64) (i:Nat) (h:i<l.length):valW (l.drop i)=(l.getD i 0).toNat+18446744073709551616*valW (l.drop (i+1)):=by
 rw [List.drop_eq_getElem_cons h]
 simp only [valW,nW,List.map_cons,val]
 rw [List.getD_eq_getElem?_getD,List.getElem?_eq_getElem h];rfl
theorem q0l (l:List UInt64) (i:Nat) (h:l.length≤i):valW (l.drop i)=0:=by
 rw [List.drop_eq_nil_of_le h];rfl
theorem G0r (l:List UInt64) (i:Nat):valW (l.drop i)=(l.getD i 0).toNat+18446744073709551616*valW (l.drop (i+1)):=by
 by_cases h:i<l.length
 · exact U1m l i h
 · rw [q0l _ _ (by omega),q0l _ _ (by omega),G0m _ _ _ (by omega)];rfl
theorem v0u (l:List UInt64) (i:Nat) (h:i≤l.length):valW l/18446744073709551616^i=valW (l.drop i):=by
 have hl:=X0b (l.take i)
 rw [List.length_take,Nat.min_eq_left h] at hl
 rw [V0k l i h,Nat.add_mul_div_left _ _ (Nat.pow_pos (by decide)),Nat.div_eq_of_lt hl,Nat.zero_add]
theorem U2i (l:List UInt64) (i:Nat) (hi:i<l.length) (hz:valW (l.take i)=0) (hn:(l.getD i 0).toNat≠0):tz (valW l)=64*i+tz (l.getD i 0).toNat:=by
 rw [V0k l i (by omega),hz,Nat.zero_add,U1m l i hi,Nat.mul_comm,k0y,U2j _ _ (by omega),K3e _ _ (by omega) (UInt64.toNat_lt _)]
 omega
theorem J1g (w0 w1 r s:Nat) (h0:w0<18446744073709551616) (hs:s<64):(w0+18446744073709551616*(w1+18446744073709551616*r))/2^s % 18446744073709551616=w0/2^s+w1*2^(64-s) % 18446744073709551616:=by
 have e:(18446744073709551616:Nat)=2^s*2^(64-s):=by rw [←Nat.pow_add,show s+(64-s)=64 from by omega]
 have h1:(w0+18446744073709551616*(w1+18446744073709551616*r))/2^s=w0/2^s+2^(64-s)*(w1+18446744073709551616*r):=by
  conv=>lhs;rw [show 18446744073709551616*(w1+18446744073709551616*r)=2^s*(2^(64-s)*(w1+18446744073709551616*r)) from by rw [←Nat.mul_assoc,←e]]
  rw [Nat.add_mul_div_left _ _ (Nat.two_pow_pos s)]
 have h2:w0/2^s<2^(64-s):=Nat.div_lt_of_lt_mul (by rw [←e];exact h0)
 have h3:w1*2^(64-s) % 18446744073709551616=2^(64-s)*(w1 % 2^s):=by
  conv=>lhs;rw [Nat.mul_comm,e,Nat.mul_comm (2^s),Nat.mul_mod_mul_left]
 have h4:2^(64-s)*(w1 % 2^s)+2^(64-s)≤18446744073709551616:=by
  have h5:w1 % 2^s+1≤2^s:=Nat.mod_lt _ (Nat.two_pow_pos s)
  have:=Nat.mul_le_mul_left (2^(64-s)) h5
  rw [Nat.mul_add,Nat.mul_one] at this
  rw [Nat.mul_comm (2^(64-s)) (2^s),←e] at this
  exact this
 rw [h1,h3]
 have h6:w0/2^s+2^(64-s)*(w1+18446744073709551616*r)=(w0/2^s+2^(64-s)*(w1 % 2^s))+18446744073709551616*(w1/2^s+2^(64-s)*r):=by
  have h7:=Nat.div_add_mod w1 (2^s)
  have h8:2^(64-s)*w1=2^(64-s)*(2^s*(w1/2^s))+2^(64-s)*(w1 % 2^s):=by rw [←Nat.mul_add,h7]
  rw [←Nat.mul_assoc,Nat.mul_comm (2^(64-s)) (2^s),←e] at h8
  rw [Nat.mul_add,Nat.mul_add,h8,Nat.mul_left_comm]
  omega
 rw [h6,Nat.add_mul_mod_self_left,Nat.mod_eq_of_lt (by omega)]
theorem z2z (w0 w1 s:Nat) (h0:w0<18446744073709551616) (hs:s<64):(w0/2^s)|||(w1*2^(64-s) % 18446744073709551616)=w0/2^s+w1*2^(64-s) % 18446744073709551616:=by
 refine X1c _ _ (64-s) (Nat.div_lt_of_lt_mul ?_) (j0f _ _ (by omega))
 rw [←Nat.pow_add,show s+(64-s)=64 from by omega];exact h0
end Go.Pv
end
section
/-Values as rational numbers. No program in it. -/
namespace Go.Pv
def p2 (e:Int):Rat:=(2:Rat)^e
theorem k2c (e:Int):0<p2 e:=Rat.zpow_pos (by decide)
theorem k2d (a b:Int):p2 (a+b)=p2 a*p2 b:=Rat.zpow_add (by decide) a b
theorem J2n :p2 0=1:=Rat.zpow_zero 2
theorem V3k (k:Nat):(((2:Int)^k:Int):Rat)=p2 k:=by
 unfold p2;rw [Rat.zpow_natCast]
 induction k with
 | zero=>rfl
 | succ k ih=>rw [Int.pow_succ,Rat.intCast_mul,ih,Rat.pow_succ];rfl
def qM (s e:Int):Rat:=(s:Rat)*p2 e
def qV (v:Vl):Rat:=qM (J0a v) v.e
def qN (x:Nm):Rat:=qM (mant x) x.exp
theorem U0v (s:Int) (k:Nat) (e:Int):qM (s*2^k) e=qM s (e+k):=by
 unfold qM;rw [Rat.intCast_mul,V3k,k2d];grind
theorem k1x (s t e:Int):qM (s+t) e=qM s e+qM t e:=by unfold qM;rw [Rat.intCast_add];grind
theorem J2i (s t e f:Int):qM (s*t) (e+f)=qM s e*qM t f:=by unfold qM;rw [Rat.intCast_mul,k2d];grind
theorem K0w (e:Int):qM 0 e=0:=by unfold qM;rw [Rat.intCast_zero];grind
theorem y0t (s e:Int):qM (-s) e= -qM s e:=by unfold qM;rw [Rat.intCast_neg];grind
theorem qM_le {s t e:Int} :qM s e≤qM t e↔s≤t:=by
 unfold qM
 constructor
 · intro h
   exact Rat.intCast_le_intCast.1 (Rat.le_of_mul_le_mul_right h (k2c e))
 · intro h
   exact Rat.mul_le_mul_of_nonneg_right (Rat.intCast_le_intCast.2 h) (Rat.le_of_lt (k2c e))
theorem qM_lt {s t e:Int} :qM s e<qM t e↔s<t:=by
 rw [←Rat.not_le,qM_le];omega
theorem z3j {s t e:Int} :qM s e=qM t e↔s=t:=by
 constructor
 · intro h
   have h1:=(qM_le (s:=s) (t:=t) (e:=e)).1 (by rw [h];exact Rat.le_refl)
   have h2:=(qM_le (s:=t) (t:=s) (e:=e)).1 (by rw [h];exact Rat.le_refl)
   omega
 · rintro rfl;rfl
theorem z1x (s e g:Int) (h:g≤e):qM s e=qM (s*2^(e-g).toNat) g:=by
 rw [U0v];congr 1;omega
theorem w2r (s e:Int):qV (mkV s e)=qM s e:=by
 by_cases h:s=0
 · subst h
   rw [v1n,K0w]
   exact K0w 0
 · obtain⟨k,k1,k2,k3⟩:=K2h s e h
   unfold qV
   rw [k2,←U0v,k1]
theorem k0t (neg:Bool) (m:Nat) (e:Int):qV (oddV neg m e)=qM (if neg then -(m:Int) else(m:Int)) e:=by rw [x1n,w2r]
theorem V3a (x:Nm):qV (ofX x)=qN x:=by rw [V3m,w2r];rfl
theorem J0o (x:Nm):qV (ofN x)=qN x:=rfl
theorem G1o {v:Vl} (h:v.m=0):qV v=0:=by unfold qV;rw [w0y h,K0w]
theorem w0q (a b:Vl):qV (G0w a b)=qV a+qV b:=by
 unfold G0w
 split
 · rename_i h;rw [G1o h];grind
 · split
   · rename_i h;rw [G1o h];grind
   · rw [w2r,k1x,←z1x _ _ _ (by omega),←z1x _ _ _ (by omega)];rfl
theorem G0j (v:Vl):qV (K0q v)= -qV v:=by
 unfold qV;rw [w0z,w0i,y0t]
theorem j0a (a b:Vl):qV (H0a a b)=qV a-qV b:=by
 unfold H0a;rw [w0q,G0j];grind
theorem q2f {a b:Vl} (ha:a.m≠0) (hb:b.m≠0):J0a (byV a b)=J0a a*J0a b∧(byV a b).e=a.e+b.e:=by
 unfold byV
 rw [if_neg (by omega)]
 refine⟨?_,rfl⟩
 unfold J0a
 cases a.neg<;>cases b.neg<;>simp [Int.neg_mul,Int.mul_neg]
theorem K1b (a b:Vl):qV (byV a b)=qV a*qV b:=by
 by_cases ha:a.m=0
 · rw [G1o ha,G1o (by unfold byV;rw [if_pos (.inl ha)])];grind
 · by_cases hb:b.m=0
   · rw [G1o hb,G1o (by unfold byV;rw [if_pos (.inr hb)])];grind
   · obtain⟨h1,h2⟩:=q2f ha hb
     unfold qV
     rw [h1,h2,J2i]
theorem X2j (m:Int):sgn m≤0↔m≤0:=by unfold sgn;split<;>(try split)<;>omega
theorem j2u (m:Int):sgn m<0↔m<0:=by unfold sgn;split<;>(try split)<;>omega
theorem J2p (a b:Vl):U0b a b≤0↔qV a≤qV b:=by
 unfold U0b
 have h:=j0a a b
 rw [z0z,X2j]
 have h2:J0a (H0a a b)≤0↔qV (H0a a b)≤0:=by
  rw [←K0w (H0a a b).e];exact qM_le.symm
 rw [h2,h];grind
theorem G1s (a b:Vl):U0b a b<0↔qV a<qV b:=by
 unfold U0b
 have h:=j0a a b
 rw [z0z,j2u]
 have h2:J0a (H0a a b)<0↔qV (H0a a b)<0:=by
  rw [←K0w (H0a a b).e];exact qM_lt.symm
 rw [h2,h];grind
theorem cmpN_le {a b:Nm} :cmpN a b≤0↔qN a≤qN b:=by rw [←w0u,J2p];rfl
theorem cmpN_lt {a b:Nm} :cmpN a b<0↔qN a<qN b:=by rw [←w0u,G1s];rfl
theorem cmpN_gt {a b:Nm} :0<cmpN a b↔qN b<qN a:=by
 have:=cmpN_le (a:=a) (b:=b)
 rw [←Rat.not_le,←this];omega
theorem k1i (a:Vl):K0u a<0↔qV a<0:=by
 rw [z0z,j2u,←K0w a.e];exact qM_lt.symm
theorem U2x (a:Vl):K0u a≤0↔qV a≤0:=by
 rw [z0z,X2j,←K0w a.e];exact qM_le.symm
def canV (v:Vl):Prop:=v.m % 2=1∨v=⟨false,0,0⟩
theorem v0y (neg:Bool) (m:Nat) (e:Int):canV (oddV neg m e):=by
 unfold oddV canV
 split
 · exact .inr rfl
 · exact .inl (Y0m m (by assumption))
theorem X3b (s e:Int):canV (mkV s e):=v0y _ _ _
theorem w1c (x:Nm):canV (ofX x):=v0y _ _ _
theorem W0b {x:Nm} (h:Q0j x=true):canV (ofN x):=by rw [←y2i h];exact w1c x
theorem v0x {a b:Vl} (ha:canV a) (hb:canV b):canV (G0w a b):=by
 unfold G0w
 split
 · exact hb
 · split
   · exact ha
   · exact X3b _ _
theorem v0w {a:Vl} (ha:canV a):canV (K0q a):=by
 rcases ha with h | rfl
 · exact .inl (by rw [w0h];exact h)
 · exact .inr rfl
theorem J1r {a b:Vl} (ha:canV a) (hb:canV b):canV (H0a a b):=v0x ha (v0w hb)
theorem W2t {a b:Vl} (ha:canV a) (hb:canV b):canV (byV a b):=by
 rcases ha with h | rfl
 · rcases hb with k | rfl
   · exact .inl (by unfold byV;rw [if_neg (by omega)];exact y2k h k)
   · exact .inr (by unfold byV;rw [if_pos (.inr rfl)])
 · exact .inr (by unfold byV;rw [if_pos (.inl rfl)])
theorem V0g {v:Vl} (h:canV v) (p:Nat) (up:Bool):canV (Z0h v p up):=by
 unfold Z0h
 split
 · exact h
 · exact v0y _ _ _
theorem J1q {v:Vl} (h:canV v):okV v:=by
 rcases h with h | rfl
 · exact .inl h
 · exact .inr rfl
theorem q1o {v:Vl} (h:canV v):v=mkV (J0a v) v.e:=by
 rcases h with h | rfl
 · have:oddV v.neg v.m v.e=v:=by rw [Q1l _ _ _ h]
   conv=>lhs;rw [←this]
   rw [x1n];rfl
 · rw [show J0a ⟨false,0,0⟩=0 from rfl,v1n]
theorem V3u {s e t f:Int} (h:qM s e=qM t f):mkV s e=mkV t f:=by
 have h1:mkV s e=mkV (s*2^(e-min e f).toNat) (min e f):=by rw [K2g];congr 1;omega
 have h2:mkV t f=mkV (t*2^(f-min e f).toNat) (min e f):=by rw [K2g];congr 1;omega
 rw [z1x s e (min e f) (by omega),z1x t f (min e f) (by omega),z3j] at h
 rw [h1,h2,h]
theorem Y1w {v w:Vl} (hv:canV v) (hw:canV w) (h:qV v=qV w):v=w:=by
 rw [q1o hv,q1o hw]
 exact V3u h
theorem X1d {x:Nm} {v:Vl} (hv:canV v) (h:qN x=qV v):ofX x=v:=Y1w (w1c x) hv (by rw [V3a,h])
theorem w0m (neg:Bool) (m d:Nat) (c:Nat) (e:Int):qM (if neg then -((m/2^d+c:Nat):Int) else((m/2^d+c:Nat):Int)) (e+(d:Int))=qM (if neg then -(((m/2^d+c)*2^d:Nat):Int) else(((m/2^d+c)*2^d:Nat):Int)) e:=by
 rw [←U0v]
 congr 1
 cases neg
 · simp
 · simp [Int.neg_mul]
theorem k0n (v:Vl) (p:Nat):qV (Z0h v p false)≤qV v:=by
 unfold Z0h
 split
 · exact Rat.le_refl
 · rw [k0t,w0m]
   unfold qV J0a
   rw [qM_le]
   generalize Q0h v.m-p=d
   have h1:=Nat.div_add_mod v.m (2^d)
   have h2:=Nat.mod_lt v.m (Nat.two_pow_pos d)
   rw [Nat.mul_comm] at h1
   rw [Nat.add_mul]
   cases v.neg
   · rw [if_neg (by simp),if_neg (by simp),if_neg (by simp),Nat.zero_mul];omega
   · rw [if_pos rfl,if_pos rfl]
     by_cases h3:v.m % 2^d=0
     · rw [if_neg (by simp [h3]),Nat.zero_mul];omega
     · rw [if_pos ⟨h3,by simp⟩,Nat.one_mul];omega
theorem W0x (v:Vl) (p:Nat):qV v≤qV (Z0h v p true):=by
 unfold Z0h
 split
 · exact Rat.le_refl
 · rw [k0t,w0m]
   unfold qV J0a
   rw [qM_le]
   generalize Q0h v.m-p=d
   have h1:=Nat.div_add_mod v.m (2^d)
   have h2:=Nat.mod_lt v.m (Nat.two_pow_pos d)
   rw [Nat.mul_comm] at h1
   rw [Nat.add_mul]
   cases v.neg
   · rw [if_neg (by simp),if_neg (by simp)]
     by_cases h3:v.m % 2^d=0
     · rw [if_neg (by simp [h3]),Nat.zero_mul];omega
     · rw [if_pos ⟨h3,by simp⟩,Nat.one_mul];omega
   · rw [if_pos rfl,if_pos rfl,if_neg (by simp),Nat.zero_mul];omega
theorem H0q {v:Vl} (hv:canV v) (h:(numV v).2=0):ofN (numV v).1=v∧qN (numV v).1=qV v:=by
 unfold numV at h⊢
 split
 · rename_i h0
   rcases hv with hv | rfl
   · omega
   · exact⟨rfl,rfl⟩
 · rename_i h0
   rw [if_neg h0] at h
   split
   · rename_i h1;rw [if_pos h1] at h;cases h
   · have e:ofN ⟨v.neg,v.e,Q0n v.m⟩=v:=by unfold ofN;rw [Q0z]
     exact⟨e,by rw [←J0o,e]⟩
theorem v1g {x:Nm} (h:Q0j x=true):numV (ofN x)=(x,0):=by
 unfold numV ofN
 simp only
 have h2:=h
 unfold Q0j at h2
 by_cases hw:x.w= []
 · rw [if_pos hw] at h2
   simp at h2
   rw [if_pos (by rw [hw];rfl)]
   congr 1
   obtain⟨n,e,w⟩:=x
   simp at hw h2
   obtain⟨rfl,rfl⟩:=h2
   subst hw;rfl
 · rw [if_neg hw] at h2
   simp only [Bool.and_eq_true,decide_eq_true_eq] at h2
   rw [if_neg (by have:=(X0q h);intro e;exact hw (this.1 e)),Q0v,w0n h,if_neg (by omega)]
end Go.Pv
end
section
/-What sums,differences and products of intervals come to. No program in it. -/
namespace Go.Pv
theorem V0r {a b:Rat} (ha:0≤a) (hb:0≤b):0≤a*b:=Rat.mul_nonneg ha hb
theorem Z3t {x y u v X U:Rat} (h1:x≤X) (h2:X≤y) (h3:u≤U) (h4:U≤v) (hx:0≤x) (hu:0≤u):x*u≤X*U:=by
 have a1:=V0r (a:=X-x) (b:=u) (by grind) hu
 have a2:=V0r (a:=X) (b:=U-u) (by grind) (by grind)
 grind
theorem W2l {x y u v X U:Rat} (h1:x≤X) (h2:X≤y) (h3:u≤U) (h4:U≤v) (hx:0≤X) (hu:u≤0):y*u≤X*U:=by
 have a1:=V0r (a:=y-X) (b:= -u) (by grind) (by grind)
 have a2:=V0r (a:=X) (b:=U-u) (by grind) (by grind)
 grind
theorem W2k {x y u v X U:Rat} (h1:x≤X) (h2:X≤y) (h3:u≤U) (h4:U≤v) (hx:x≤0) (hu:0≤U):x*v≤X*U:=by
 have a1:=V0r (a:= -x) (b:=v-U) (by grind) (by grind)
 have a2:=V0r (a:=X-x) (b:=U) (by grind) (by grind)
 grind
theorem Z3s {x y u v X U:Rat} (h1:x≤X) (h2:X≤y) (h3:u≤U) (h4:U≤v) (hx:y≤0) (hu:v≤0):y*v≤X*U:=by
 have a1:=V0r (a:=y-X) (b:= -v) (by grind) (by grind)
 have a2:=V0r (a:= -X) (b:=v-U) (by grind) (by grind)
 grind
theorem w2w {a b:Rat} (ha:a≤0) (hb:b≤0):0≤a*b:=by
 have:=V0r (a:= -a) (b:= -b) (by grind) (by grind)
 grind
theorem w2x {a b:Rat} (ha:0≤a) (hb:b≤0):a*b≤0:=by
 have:=V0r (a:=a) (b:= -b) ha (by grind)
 grind
theorem H2n {a b:Rat} (ha:a≤0) (hb:0≤b):a*b≤0:=by
 have:=V0r (a:= -a) (b:=b) (by grind) hb
 grind
def K0y (x y u v:Vl):Vl:=
 if 0≤K0u x∧0≤K0u u then byV x u else if 0≤K0u x then byV y u else if 0≤K0u u then byV x v else
 if K0u y≤0∧K0u v≤0 then byV y v else if U0b (byV y u) (byV x v)<0 then byV y u else byV x v
def U0h (x y u v:Vl):Vl:=K0q (K0y (K0q y) (K0q x) u v)
theorem U2y (a:Vl):0≤K0u a↔0≤qV a:=by
 have:=k1i a
 rw [←Rat.not_lt,←this];omega
theorem H0b {x y u v:Vl} (hx:qV x≤qV y) (hu:qV u≤qV v) {X U:Rat} (h1:qV x≤X) (h2:X≤qV y) (h3:qV u≤U) (h4:U≤qV v):qV (K0y x y u v)≤X*U:=by
 unfold K0y
 simp only [U2y,U2x,G1s,K1b]
 split
 · rename_i h;rw [K1b];exact Z3t h1 h2 h3 h4 h.1 h.2
 · rename_i n1
   split
   · rename_i h;rw [K1b];exact W2l h1 h2 h3 h4 (by grind) (by grind)
   · rename_i n2
     split
     · rename_i h;rw [K1b];exact W2k h1 h2 h3 h4 (by grind) (by grind)
     · rename_i n3
       split
       · rename_i h;rw [K1b];exact Z3s h1 h2 h3 h4 h.1 h.2
       · rename_i n4
         have key:qV y*qV u≤X*U∨qV x*qV v≤X*U:=by
          by_cases hX:0≤X
          · exact .inl (W2l h1 h2 h3 h4 hX (by grind))
          · by_cases hU:0≤U
            · exact .inr (W2k h1 h2 h3 h4 (by grind) hU)
            · have p:=w2w (a:=X) (b:=U) (by grind) (by grind)
              by_cases hy:0≤qV y
              · have:=w2x (a:=qV y) (b:=qV u) hy (by grind);exact .inl (by grind)
              · have:=H2n (a:=qV x) (b:=qV v) (by grind) (by grind);exact .inr (by grind)
         split
         · rename_i h;rw [K1b];grind
         · rename_i h;rw [K1b];grind
theorem x0e (x y u v:Vl):K0y x y u v=byV x u∨K0y x y u v=byV x v∨K0y x y u v=byV y u∨K0y x y u v=byV y v:=by
 unfold K0y
 repeat' split
 all_goals simp
theorem z0e {x y u v:Vl} (hx:qV x≤qV y) (hu:qV u≤qV v) {X U:Rat} (h1:qV x≤X) (h2:X≤qV y) (h3:qV u≤U) (h4:U≤qV v):X*U≤qV (U0h x y u v):=by
 unfold U0h
 have:=H0b (x:=K0q y) (y:=K0q x) (u:=u) (v:=v) (X:= -X) (U:=U) (by rw [G0j,G0j];grind) hu (by rw [G0j];grind) (by rw [G0j];grind) h3 h4
 rw [G0j];grind
theorem Q2p (x y u v:Vl):qV (U0h x y u v)=qV x*qV u∨qV (U0h x y u v)=qV x*qV v∨qV (U0h x y u v)=qV y*qV u∨qV (U0h x y u v)=qV y*qV v:=by
 unfold U0h
 rw [G0j]
 rcases x0e (K0q y) (K0q x) u v with h | h | h | h
 all_goals rw [h,K1b,G0j];grind
theorem y0n {x y u v:Vl} (hx:canV x) (hy:canV y) (hu:canV u) (hv:canV v):canV (K0y x y u v):=by
 rcases x0e x y u v with h | h | h | h
 all_goals rw [h];exact W2t (by assumption) (by assumption)
theorem V1w {x y u v:Vl} (hx:canV x) (hy:canV y) (hu:canV u) (hv:canV v):canV (U0h x y u v):=v0w (y0n (v0w hy) (v0w hx) hu hv)
def exV (k:Nat) (a b:Vl):Vl:=if k=0 then G0w a b else if k=1 then H0a a b else byV a b
def exQ (k:Nat) (a b:Rat):Rat:=if k=0 then a+b else if k=1 then a-b else a*b
theorem exQ0 (a b:Rat):exQ 0 a b=a+b:=by simp [exQ]
theorem exQ1 (a b:Rat):exQ 1 a b=a-b:=by simp [exQ]
theorem exQ2 (a b:Rat):exQ 2 a b=a*b:=by simp [exQ]
theorem W1r (k:Nat) (a b:Vl):qV (exV k a b)=exQ k (qV a) (qV b):=by
 unfold exV exQ
 split
 · exact w0q a b
 · split
   · exact j0a a b
   · exact K1b a b
theorem j1n (k:Nat) {a b:Vl} (ha:canV a) (hb:canV b):canV (exV k a b):=by
 unfold exV
 split
 · exact v0x ha hb
 · split
   · exact J1r ha hb
   · exact W2t ha hb
def Z0p (p:Int):Bool:=decide (8≤p)&&decide (p≤256)
def Q0t (k:Nat) (a b:Nm) (p:Int) (up:Bool):Nm×Int:=if Q0j a=true∧Q0j b=true∧Z0p p=true then numV (Z0h (exV k (ofN a) (ofN b)) p.toNat up) else(default,1)
def j0q (lo hi:Vl):Ivl×Int:=if (numV lo).2=0∧(numV hi).2=0 then(⟨(numV lo).1,(numV hi).1⟩,0) else(default,2)
def loV (k:Nat) (x y u v:Vl):Vl:=if k=0 then G0w x u else if k=1 then H0a x v else K0y x y u v
def hiV (k:Nat) (x y u v:Vl):Vl:=if k=0 then G0w y v else if k=1 then H0a y u else U0h x y u v
def opI (k:Nat) (a b:Ivl) (p:Int):Ivl×Int:=
 if Q0w a=true∧Q0w b=true∧Z0p p=true then j0q (Z0h (loV k (ofN a.lo) (ofN a.hi) (ofN b.lo) (ofN b.hi)) p.toNat false) (Z0h (hiV k (ofN a.lo) (ofN a.hi) (ofN b.lo) (ofN b.hi)) p.toNat true) else(default,1)
theorem loV0 (x y u v:Vl):loV 0 x y u v=G0w x u:=by simp [loV]
theorem hiV0 (x y u v:Vl):hiV 0 x y u v=G0w y v:=by simp [hiV]
theorem loV1 (x y u v:Vl):loV 1 x y u v=H0a x v:=by simp [loV]
theorem hiV1 (x y u v:Vl):hiV 1 x y u v=H0a y u:=by simp [hiV]
theorem k2h (k:Nat) {x y u v:Vl} (hx:qV x≤qV y) (hu:qV u≤qV v) {X U:Rat} (h1:qV x≤X) (h2:X≤qV y) (h3:qV u≤U) (h4:U≤qV v):qV (loV k x y u v)≤exQ k X U:=by
 unfold loV exQ
 split
 · rw [w0q];grind
 · split
   · rw [j0a];grind
   · exact H0b hx hu h1 h2 h3 h4
theorem k2j (k:Nat) {x y u v:Vl} (hx:qV x≤qV y) (hu:qV u≤qV v) {X U:Rat} (h1:qV x≤X) (h2:X≤qV y) (h3:qV u≤U) (h4:U≤qV v):exQ k X U≤qV (hiV k x y u v):=by
 unfold hiV exQ
 split
 · rw [w0q];grind
 · split
   · rw [j0a];grind
   · exact z0e hx hu h1 h2 h3 h4
theorem Y1v (k:Nat) {x y u v:Vl} (hx:canV x) (hy:canV y) (hu:canV u) (hv:canV v):canV (loV k x y u v):=by
 unfold loV
 split
 · exact v0x hx hu
 · split
   · exact J1r hx hv
   · exact y0n hx hy hu hv
theorem Y1x (k:Nat) {x y u v:Vl} (hx:canV x) (hy:canV y) (hu:canV u) (hv:canV v):canV (hiV k x y u v):=by
 unfold hiV
 split
 · exact v0x hy hv
 · split
   · exact J1r hy hu
   · exact V1w hx hy hu hv
theorem q0w {x:Ivl} (h:Q0w x=true):qV (ofN x.lo)≤qV (ofN x.hi):=cmpN_le.1 (Q0x h).2.2
theorem j1b {lo hi:Vl} (h1:canV lo) (h2:canV hi) (h:qV lo≤qV hi):Q0w (j0q lo hi).1=true:=by
 unfold j0q
 split
 · rename_i hh
   exact Z1m (W0h (J1q h1)) (W0h (J1q h2)) (cmpN_le.2 (by rw [(H0q h1 hh.1).2,(H0q h2 hh.2).2];exact h))
 · decide
theorem z3u (k:Nat) {a b:Ivl} (ha:Q0w a=true) (hb:Q0w b=true) (p:Nat):
 qV (Z0h (loV k (ofN a.lo) (ofN a.hi) (ofN b.lo) (ofN b.hi)) p false)≤qV (Z0h (hiV k (ofN a.lo) (ofN a.hi) (ofN b.lo) (ofN b.hi)) p true):=by
 have h1:=k0n (loV k (ofN a.lo) (ofN a.hi) (ofN b.lo) (ofN b.hi)) p
 have h2:=W0x (hiV k (ofN a.lo) (ofN a.hi) (ofN b.lo) (ofN b.hi)) p
 have h3:=k2h k (q0w ha) (q0w hb) Rat.le_refl (q0w ha) Rat.le_refl (q0w hb)
 have h4:=k2j k (q0w ha) (q0w hb) Rat.le_refl (q0w ha) Rat.le_refl (q0w hb)
 grind
theorem canI {x:Ivl} (h:Q0w x=true):canV (ofN x.lo)∧canV (ofN x.hi):=⟨W0b (Q0x h).1,W0b (Q0x h).2.1⟩
theorem G0y (k:Nat) (a b:Ivl) (p:Int):Q0w (opI k a b p).1=true:=by
 unfold opI
 split
 · rename_i h
   have ca:=canI h.1
   have cb:=canI h.2.1
   exact j1b (V0g (Y1v k ca.1 ca.2 cb.1 cb.2) _ _) (V0g (Y1x k ca.1 ca.2 cb.1 cb.2) _ _) (z3u k h.1 h.2.1 _)
 · decide
def memI (X:Rat) (a:Ivl):Prop:=qN a.lo≤X∧X≤qN a.hi
theorem x1g (k:Nat) {a b:Ivl} {p:Int} (h:(opI k a b p).2=0) {X U:Rat} (hX:memI X a) (hU:memI U b):memI (exQ k X U) (opI k a b p).1:=by
 unfold opI at h⊢
 split
 · rename_i hr
   rw [if_pos hr] at h
   have ca:=canI hr.1
   have cb:=canI hr.2.1
   unfold j0q at h⊢
   split
   · rename_i hh
     have h1:=(H0q (V0g (Y1v k ca.1 ca.2 cb.1 cb.2) _ _) hh.1).2
     have h2:=(H0q (V0g (Y1x k ca.1 ca.2 cb.1 cb.2) _ _) hh.2).2
     have h3:=k2h k (q0w hr.1) (q0w hr.2.1) hX.1 hX.2 hU.1 hU.2
     have h4:=k2j k (q0w hr.1) (q0w hr.2.1) hX.1 hX.2 hU.1 hU.2
     have h5:=k0n (loV k (ofN a.lo) (ofN a.hi) (ofN b.lo) (ofN b.hi)) p.toNat
     have h6:=W0x (hiV k (ofN a.lo) (ofN a.hi) (ofN b.lo) (ofN b.hi)) p.toNat
     exact⟨by rw [h1];grind,by rw [h2];grind⟩
   · rename_i hh;rw [if_neg hh] at h;cases h
 · rename_i hr;rw [if_neg hr] at h;cases h
end Go.Pv
end
section
/-Exact sums and products of numbers in any form,and how long they get. No program in it. -/
namespace Go.Pv
def bd (n k:Nat) (x:Nm):Prop:=x.w.length≤n∧ -(k:Int)≤x.exp∧x.exp≤k
theorem bd.mono {n k n' k':Nat} {x:Nm} (h:bd n k x) (h1:n≤n') (h2:k≤k'):bd n' k' x:=⟨by have:=h.1;omega,by have:=h.2.1;omega,by have:=h.2.2;omega⟩
theorem Z0z {x:Nm} (h:Q0j x=true):bd 64 65536 x:=by
 unfold Q0j at h
 by_cases hw:x.w= []
 · rw [if_pos hw] at h
   simp at h
   exact⟨by rw [hw];simp,by rw [h.2];omega,by rw [h.2];omega⟩
 · rw [if_neg hw] at h
   simp only [Bool.and_eq_true,decide_eq_true_eq] at h
   exact⟨h.1.1.1.2,h.1.2,h.2⟩
theorem V3b (x:Nm):qN { x with neg:= !x.neg } = -qN x:=by
 unfold qN mant
 rw [←y0t]
 congr 1
 cases x.neg<;>simp
theorem G2r (neg:Bool) (e:Int) (m:Nat):qN ⟨neg,e,Q0n m⟩=qM (if neg then -(m:Int) else(m:Int)) e:=by
 unfold qN mant;rw [Q0z]
theorem w2s (b:Nm) (e:Int) (d:Nat) (h:b.exp=e+d):qN b=qM (if b.neg then -((valW b.w*2^d:Nat):Int) else((valW b.w*2^d:Nat):Int)) e:=by
 unfold qN
 rw [h,←U0v]
 congr 1
 unfold mant
 cases b.neg
 · simp
 · simp [Int.neg_mul]
theorem Q3r (a b:Nm) (d:Nat) (h:b.exp=a.exp+d) (hn:a.neg=b.neg):qN ⟨a.neg,a.exp,Q0n (valW a.w+valW b.w*2^d)⟩=qN a+qN b:=by
 rw [G2r,w2s b a.exp d h,show qN a=qM (mant a) a.exp from rfl,←k1x]
 congr 1
 unfold mant
 rw [←hn]
 cases a.neg<;>simp<;>omega
theorem z2r (a b:Nm) (d:Nat) (h:b.exp=a.exp+d) (hn:a.neg≠b.neg) (hle:valW b.w*2^d≤valW a.w):qN ⟨a.neg,a.exp,Q0n (valW a.w-valW b.w*2^d)⟩=qN a+qN b:=by
 rw [G2r,w2s b a.exp d h,show qN a=qM (mant a) a.exp from rfl,←k1x]
 congr 1
 unfold mant
 generalize valW b.w*2^d=x at*
 cases ha:a.neg<;>cases hb:b.neg<;>simp [ha,hb] at hn⊢ <;>omega
theorem z2q (a b:Nm) (d:Nat) (h:b.exp=a.exp+d) (hn:a.neg≠b.neg) (hle:valW a.w≤valW b.w*2^d):qN ⟨b.neg,a.exp,Q0n (valW b.w*2^d-valW a.w)⟩=qN a+qN b:=by
 rw [G2r,w2s b a.exp d h,show qN a=qM (mant a) a.exp from rfl,←k1x]
 congr 1
 unfold mant
 generalize valW b.w*2^d=x at*
 cases ha:a.neg<;>cases hb:b.neg<;>simp [ha,hb] at hn⊢ <;>omega
theorem U1w {x:Nm} (h:sgnN x=0):qN x=0:=by
 have:mant x=0:=by
  rw [w0l] at h
  unfold sgn at h
  split at h
  · assumption
  · split at h<;>omega
 unfold qN;rw [this,K0w]
theorem W3j (a b:Nm) (n k d:Nat) (ha:bd n k a) (hb:bd n k b) (hd:d≤2*k):(Q0n (valW a.w+valW b.w*2^d)).length≤n+k+1:=by
 refine Z0r ?_
 have h1:=X0b a.w
 have h2:=X0b b.w
 have hp: ∀l:Nat,l≤n→18446744073709551616^l≤2^(64*n):=fun l hl=>by rw [k0y];exact Nat.pow_le_pow_right (by decide) (by omega)
 have h3:valW a.w<2^(64*n+d):=Nat.lt_of_lt_of_le h1 (Nat.le_trans (hp _ ha.1) (Nat.pow_le_pow_right (by decide) (by omega)))
 have h4:valW b.w*2^d<2^(64*n+d):=by
  rw [Nat.pow_add]
  exact Nat.mul_lt_mul_of_pos_right (Nat.lt_of_lt_of_le h2 (hp _ hb.1)) (Nat.two_pow_pos d)
 have h5:18446744073709551616^(n+k+1)=2^(64*(n+k+1)):=k0y _
 have h6:2^(64*n+d+1)≤2^(64*(n+k+1)):=Nat.pow_le_pow_right (by decide) (by omega)
 have h7:2^(64*n+d+1)=2^(64*n+d)*2:=Nat.pow_succ ..
 rw [h5]
 omega
theorem V2s (a b:Nm) (n k d m:Nat) (ha:bd n k a) (hb:bd n k b) (hd:d≤2*k) (hm:m≤valW a.w+valW b.w*2^d):(Q0n m).length≤n+k+1:=Nat.le_trans (V0t hm) (W3j a b n k d ha hb hd)
theorem V3c (a b:Nm):qN ⟨a.neg !=b.neg,a.exp+b.exp,Q0n (valW a.w*valW b.w)⟩=qN a*qN b:=by
 rw [G2r]
 show _=qM (mant a) a.exp*qM (mant b) b.exp
 rw [←J2i]
 congr 1
 unfold mant
 cases a.neg<;>cases b.neg<;>simp [Int.neg_mul,Int.mul_neg]
theorem y2z (a b:Nm) (n k m l:Nat) (ha:bd n k a) (hb:bd m l b):bd (n+m) (k+l) ⟨a.neg !=b.neg,a.exp+b.exp,Q0n (valW a.w*valW b.w)⟩:=by
 refine⟨Z0r ?_,?_,?_⟩
 · have h1:=X0b a.w
   have h2:=X0b b.w
   refine Nat.lt_of_lt_of_le (Nat.mul_lt_mul'' h1 h2) ?_
   rw [←Nat.pow_add]
   exact Nat.pow_le_pow_right (by decide) (by have:=ha.1;have:=hb.1;omega)
 · have:=ha.2.1;have:=hb.2.1;simp only;omega
 · have:=ha.2.2;have:=hb.2.2;simp only;omega
end Go.Pv
end
section
/-The right number of words by a power of two,rounded or not. No program in it. -/
namespace Go.Pv
theorem V1z (m:Nat) (h:m≠0):((Q0n m).getD 0 0).toNat % 2=m % 2:=by
 rw [←j0x,Q0z]
theorem G1b (neg:Bool) (m:Nat) (e:Int) (h:m % 2=1):Q0j ⟨neg,e,Q0n m⟩=(decide ((Q0n m).length≤64)&&decide (-65536≤e)&&decide (e≤65536)):=by
 have hw:Q0n m≠ []:=fun e=>by rw [wordsOf_nil] at e;omega
 have h1:((Q0n m).getD 0 0).toNat % 2=1:=by rw [V1z m (by omega)];exact h
 unfold Q0j
 rw [if_neg hw,Y0d]
 simp only [h1,decide_true,Bool.true_and,Bool.and_true]
def mkX (neg:Bool) (w:List UInt64) (e:Int):Nm×Int:=numV (oddV neg (valW w) e)
theorem H2x {neg:Bool} {w:List UInt64} {e:Int} (h:valW w=0):mkX neg w e=(default,0):=by
 unfold mkX;rw [h,U0c];rfl
theorem K2f {neg:Bool} {w:List UInt64} {e:Int} (h:valW w≠0) (h2:65536<e∨e< -65536-((tz (valW w):Nat):Int)):mkX neg w e=(default,2):=by
 unfold mkX oddV
 rw [if_neg h]
 have h1:valW w/2^tz (valW w)≠0:=by have:=Y0m (valW w) h;omega
 unfold numV
 rw [if_neg h1,if_pos (by simp only;omega)]
theorem H2y {neg:Bool} {w:List UInt64} {e:Int} (h:valW w≠0):mkX neg w e=if Q0j ⟨neg,e+((tz (valW w):Nat):Int),Q0n (valW w/2^tz (valW w))⟩=true then(⟨neg,e+((tz (valW w):Nat):Int),Q0n (valW w/2^tz (valW w))⟩,0) else(default,2):=by
 have h0:=Y0m (valW w) h
 rw [G1b _ _ _ h0]
 unfold mkX oddV
 rw [if_neg h]
 unfold numV
 rw [if_neg (by simp only;omega)]
 simp only
 by_cases hc:64<(Q0n (valW w/2^tz (valW w))).length∨e+((tz (valW w):Nat):Int)< -65536∨65536<e+((tz (valW w):Nat):Int)
 · rw [if_pos hc,if_neg]
   simp only [Bool.and_eq_true,decide_eq_true_eq];omega
 · rw [if_neg hc,if_pos]
   simp only [Bool.and_eq_true,decide_eq_true_eq];omega
theorem y2r (x:Nm):mkX x.neg x.w x.exp=numV (ofX x):=rfl
def rndX (x:Nm) (p:Nat) (up:Bool):Nm:=
 if X0l x.w≤p then x else⟨x.neg,x.exp+((X0l x.w-p:Nat):Int),Q0n (valW x.w/2^(X0l x.w-p)+(if tz (valW x.w)<X0l x.w-p∧up≠x.neg then 1 else 0))⟩
theorem G2g (x:Nm) (p:Nat) (up:Bool) (hp:0<p):ofX (rndX x p up)=Z0h (ofX x) p up:=by
 unfold rndX
 show _=Z0h (oddV x.neg (valW x.w) x.exp) p up
 rw [y1k _ _ _ _ _ hp]
 unfold X0l
 split
 · rfl
 · unfold ofX
   rw [Q0z]
theorem w2k (x:Nm) (p:Nat) (up:Bool) (n k:Nat) (h:bd n k x):bd (n+1) (k+64*n) (rndX x p up):=by
 have hb:=V0o x.w
 have hl:=h.1
 unfold rndX
 split
 · exact h.mono (by omega) (by omega)
 · refine⟨?_,?_,?_⟩
   · refine Z0r ?_
     have h1:=X0b x.w
     have h2:valW x.w/2^(X0l x.w-p)≤valW x.w:=Nat.div_le_self _ _
     have h3:18446744073709551616^x.w.length≤18446744073709551616^n:=Nat.pow_le_pow_right (by decide) hl
     have h4:18446744073709551616^(n+1)=18446744073709551616^n*18446744073709551616:=Nat.pow_succ ..
     split<;>omega
   · have:=h.2.1;simp only;omega
   · have:=h.2.2;simp only;omega
end Go.Pv
end
section
/-Intervals:has,meet,middle,width. No program in it. -/
namespace Go.Pv
def hasI (a:Ivl) (x:Nm):Bool:=Q0w a&&Q0j x&&decide (cmpN a.lo x≤0)&&decide (cmpN x a.hi≤0)
def K2n (lo hi:Nm):Ivl×Int:=if Q0w ⟨lo,hi⟩=true then(⟨lo,hi⟩,0) else(default,1)
theorem G1c {x y:Nm} (hx:Q0j x=true) (hy:Q0j y=true) (h:qN x=qN y):x=y:=by
 have h1:=Y1w (W0b hx) (W0b hy) (by rw [J0o,J0o,h])
 have h2:=v1g hx
 rw [h1,v1g hy] at h2
 exact(congrArg Prod.fst h2).symm
theorem J2h (a b:Nm):qN (J0p a b)≤qN a∧qN (J0p a b)≤qN b∧(qN (J0p a b)=qN a∨qN (J0p a b)=qN b):=by
 have h1:=cmpN_le.1 (Q2h a b)
 have h2:=cmpN_le.1 (Q2g a b)
 refine⟨h1,h2,?_⟩
 unfold J0p
 split
 · exact .inr rfl
 · exact .inl rfl
theorem k1w (a b:Nm):qN a≤qN (X0u a b)∧qN b≤qN (X0u a b)∧(qN (X0u a b)=qN a∨qN (X0u a b)=qN b):=by
 have h1:=cmpN_le.1 (Q2r a b)
 have h2:=cmpN_le.1 (Q2q a b)
 refine⟨h1,h2,?_⟩
 unfold X0u
 split
 · exact .inr rfl
 · exact .inl rfl
theorem Q2t {a b:Ivl} (ha:Q0w a=true) (hb:Q0w b=true) {p1 p2 p3 p4:Nm} (h1:qN p1=qN a.lo*qN b.lo) (h2:qN p2=qN a.lo*qN b.hi) (h3:qN p3=qN a.hi*qN b.lo) (h4:qN p4=qN a.hi*qN b.hi):
 ofX (J0p (J0p (J0p p1 p2) p3) p4)=loV 2 (ofN a.lo) (ofN a.hi) (ofN b.lo) (ofN b.hi):=by
 have ca:=canI ha
 have cb:=canI hb
 have la:=q0w ha
 have lb:=q0w hb
 show _=K0y (ofN a.lo) (ofN a.hi) (ofN b.lo) (ofN b.hi)
 refine X1d (y0n ca.1 ca.2 cb.1 cb.2) ?_
 have r1:=H0b la lb Rat.le_refl la Rat.le_refl lb
 have r2:=H0b la lb Rat.le_refl la lb Rat.le_refl
 have r3:=H0b la lb la Rat.le_refl Rat.le_refl lb
 have r4:=H0b la lb la Rat.le_refl lb Rat.le_refl
 have rr: ∀v w:Vl,K0y (ofN a.lo) (ofN a.hi) (ofN b.lo) (ofN b.hi)=byV v w→qV (K0y (ofN a.lo) (ofN a.hi) (ofN b.lo) (ofN b.hi))=qV v*qV w:=fun v w e=>by rw [e,K1b]
 have r5:qV (K0y (ofN a.lo) (ofN a.hi) (ofN b.lo) (ofN b.hi))=qV (ofN a.lo)*qV (ofN b.lo)∨qV (K0y (ofN a.lo) (ofN a.hi) (ofN b.lo) (ofN b.hi))=qV (ofN a.lo)*qV (ofN b.hi)∨qV (K0y (ofN a.lo) (ofN a.hi) (ofN b.lo) (ofN b.hi))=qV (ofN a.hi)*qV (ofN b.lo)∨qV (K0y (ofN a.lo) (ofN a.hi) (ofN b.lo) (ofN b.hi))=qV (ofN a.hi)*qV (ofN b.hi):=by
  rcases x0e (ofN a.lo) (ofN a.hi) (ofN b.lo) (ofN b.hi) with e | e | e | e
  · exact .inl (rr _ _ e)
  · exact .inr (.inl (rr _ _ e))
  · exact .inr (.inr (.inl (rr _ _ e)))
  · exact .inr (.inr (.inr (rr _ _ e)))
 generalize qV (K0y (ofN a.lo) (ofN a.hi) (ofN b.lo) (ofN b.hi))=V at*
 simp only [J0o] at*
 rw [←h1] at r1 r5
 rw [←h2] at r2 r5
 rw [←h3] at r3 r5
 rw [←h4] at r4 r5
 obtain⟨s1,s2,s3⟩:=J2h p1 p2
 obtain⟨t1,t2,t3⟩:=J2h (J0p p1 p2) p3
 obtain⟨u1,u2,u3⟩:=J2h (J0p (J0p p1 p2) p3) p4
 clear h1 h2 h3 h4 la lb rr
 grind
theorem Y1k {a b:Ivl} (ha:Q0w a=true) (hb:Q0w b=true) {p1 p2 p3 p4:Nm} (h1:qN p1=qN a.lo*qN b.lo) (h2:qN p2=qN a.lo*qN b.hi) (h3:qN p3=qN a.hi*qN b.lo) (h4:qN p4=qN a.hi*qN b.hi):
 ofX (X0u (X0u (X0u p1 p2) p3) p4)=hiV 2 (ofN a.lo) (ofN a.hi) (ofN b.lo) (ofN b.hi):=by
 have ca:=canI ha
 have cb:=canI hb
 have la:=q0w ha
 have lb:=q0w hb
 show _=U0h (ofN a.lo) (ofN a.hi) (ofN b.lo) (ofN b.hi)
 refine X1d (V1w ca.1 ca.2 cb.1 cb.2) ?_
 have r1:=z0e la lb Rat.le_refl la Rat.le_refl lb
 have r2:=z0e la lb Rat.le_refl la lb Rat.le_refl
 have r3:=z0e la lb la Rat.le_refl Rat.le_refl lb
 have r4:=z0e la lb la Rat.le_refl lb Rat.le_refl
 have r5:=Q2p (ofN a.lo) (ofN a.hi) (ofN b.lo) (ofN b.hi)
 generalize qV (U0h (ofN a.lo) (ofN a.hi) (ofN b.lo) (ofN b.hi))=V at*
 simp only [J0o] at*
 rw [←h1] at r1 r5
 rw [←h2] at r2 r5
 rw [←h3] at r3 r5
 rw [←h4] at r4 r5
 obtain⟨s1,s2,s3⟩:=k1w p1 p2
 obtain⟨t1,t2,t3⟩:=k1w (X0u p1 p2) p3
 obtain⟨u1,u2,u3⟩:=k1w (X0u (X0u p1 p2) p3) p4
 clear h1 h2 h3 h4 la lb
 grind
end Go.Pv
end
section
/-What boxes are reckoned to. No program in it. -/
namespace Go.Pv
def opB (k:Nat) (a b:List Ivl) (p:Int):List Ivl×Int:=if rightB a=true∧rightB b=true∧a.length=b.length∧Z0p p=true then Q1b (fun i x=>opI k x (b.getD i default) p) 0 a [] else([],1)
def x0n (x:Ivl) (b:List Ivl) (p:Int):List Ivl×Int:=if rightB b=true∧Q0w x=true∧Z0p p=true then Q1b (fun _ y=>opI 2 x y p) 0 b [] else([],1)
def ofB (q:List Nm):List Ivl:=q.map fun x=>⟨x,x⟩
theorem Z0k (k:Nat) (a b:Nm) (p:Int) (up:Bool):Q0j (Q0t k a b p up).1=true:=by
 unfold Q0t
 split
 · rename_i h
   exact W0h (J1q (V0g (j1n k (W0b h.1) (W0b h.2.1)) _ _))
 · exact K0i
theorem J2x (v:Vl):(numV v).2=0∨(numV v).2=2:=by
 unfold numV
 split
 · exact .inl rfl
 · split
   · exact .inr rfl
   · exact .inl rfl
theorem Q1i {k:Nat} {a b:Nm} {p:Int} {up:Bool} (ha:Q0j a=true) (hb:Q0j b=true) (hp:Z0p p=true):(Q0t k a b p up).2=0∨(Q0t k a b p up).2=2:=by
 rw [Q0t,if_pos ⟨ha,hb,hp⟩];exact J2x _
end Go.Pv
end
section
/-How long values get. No program in it. -/
namespace Go.Pv
def bdV (n k:Nat) (v:Vl):Prop:=Q0h v.m≤n∧ -(k:Int)≤v.e∧v.e≤k
theorem bdV.mono {n k n' k':Nat} {v:Vl} (h:bdV n k v) (h1:n≤n') (h2:k≤k'):bdV n' k' v:=⟨by have:=h.1;omega,by have:=h.2.1;omega,by have:=h.2.2;omega⟩
theorem J0x {x:Nm} (h:Q0j x=true):bdV 4096 65536 (ofN x):=by
 have hb:=Z0z h
 have h1:=V0o x.w
 exact⟨by show Q0h (valW x.w)≤_;unfold X0l at h1;have:=hb.1;omega,hb.2.1,hb.2.2⟩
theorem Y1y {neg:Bool} {m:Nat} {e:Int} {n k:Nat} (h1:Q0h m≤n) (h2: -(k:Int)≤e) (h3:e≤k):bdV n (k+n) (oddV neg m e):=by
 unfold oddV
 split
 · exact⟨by rw [X0g];omega,by simp only;omega,by simp only;omega⟩
 · have ht:=q0p m
   have hl:=X0o (Nat.div_le_self m (2^tz m))
   exact⟨by simp only;omega,by simp only;omega,by simp only;omega⟩
theorem Q1p {a b:Vl} {n k:Nat} (ha:bdV n k a) (hb:bdV n k b):bdV (n+2*k+1) (n+3*k+1) (G0w a b):=by
 unfold G0w
 split
 · exact hb.mono (by omega) (by omega)
 · split
   · exact ha.mono (by omega) (by omega)
   · have h1:=V0h a.m (a.e-min a.e b.e).toNat
     have h2:=V0h b.m (b.e-min a.e b.e).toNat
     have h3:=Y0k (a.m*2^(a.e-min a.e b.e).toNat) (b.m*2^(b.e-min a.e b.e).toNat)
     obtain⟨a1,a2,a3⟩:=ha
     obtain⟨b1,b2,b3⟩:=hb
     have hk1:(a.e-min a.e b.e).toNat≤2*k:=by omega
     have hk2:(b.e-min a.e b.e).toNat≤2*k:=by omega
     have hm:(J0a a*2^(a.e-min a.e b.e).toNat+J0a b*2^(b.e-min a.e b.e).toNat).natAbs≤a.m*2^(a.e-min a.e b.e).toNat+b.m*2^(b.e-min a.e b.e).toNat:=by
      have e1: ∀(v:Vl) (j:Nat),(J0a v*2^j).natAbs=v.m*2^j:=fun v j=>by
       rw [Int.natAbs_mul,Int.natAbs_pow]
       congr 1
       unfold J0a;cases v.neg<;>simp
      have:=Int.natAbs_add_le (J0a a*2^(a.e-min a.e b.e).toNat) (J0a b*2^(b.e-min a.e b.e).toNat)
      rw [e1,e1] at this
      exact this
     have h4:=X0o hm
     have:=Y1y (neg:=decide (J0a a*2^(a.e-min a.e b.e).toNat+J0a b*2^(b.e-min a.e b.e).toNat<0)) (m:=(J0a a*2^(a.e-min a.e b.e).toNat+J0a b*2^(b.e-min a.e b.e).toNat).natAbs) (e:=min a.e b.e) (n:=n+2*k+1) (k:=k) (by omega) (by omega) (by omega)
     exact this.mono (by omega) (by omega)
theorem x0g {a:Vl} {n k:Nat} (ha:bdV n k a):bdV n k (K0q a):=by
 unfold bdV;rw [w0h,w0i];exact ha
theorem Y1z {a b:Vl} {n k:Nat} (ha:bdV n k a) (hb:bdV n k b):bdV (n+2*k+1) (n+3*k+1) (H0a a b):=Q1p ha (x0g hb)
theorem w1g {a b:Vl} {n k m l:Nat} (ha:bdV n k a) (hb:bdV m l b):bdV (n+m) (k+l) (byV a b):=by
 unfold byV
 split
 · exact⟨by rw [X0g];omega,by simp only;omega,by simp only;omega⟩
 · refine⟨?_,?_,?_⟩
   · have h:Q0h (a.m*b.m)≤Q0h a.m+Q0h b.m:=by
      rw [bitlen_le_iff,Nat.pow_add]
      exact Nat.mul_lt_mul'' (Z0c _) (Z0c _)
     have:=ha.1;have:=hb.1;simp only;omega
   · have:=ha.2.1;have:=hb.2.1;simp only;omega
   · have:=ha.2.2;have:=hb.2.2;simp only;omega
theorem V0n {a:Vl} {n k:Nat} (ha:bdV n k a) (p:Nat) (up:Bool):bdV (n+1) (k+2*n+1) (Z0h a p up):=by
 unfold Z0h
 split
 · exact ha.mono (by omega) (by omega)
 · have h1:=ha.1
   have h2:=X0o (Nat.div_le_self a.m (2^(Q0h a.m-p)))
   have h3:Q0h (a.m/2^(Q0h a.m-p)+(if a.m % 2^(Q0h a.m-p)≠0∧up≠a.neg then 1 else 0))≤n+1:=by
    have b1:Q0h 1=1:=rfl
    have h:=Y0k (a.m/2^(Q0h a.m-p)) 1
    split
    · by_cases hq:Q0h (a.m/2^(Q0h a.m-p))=0
      · have hn:0<Q0h a.m:=by rename_i hh _;omega
        omega
      · omega
    · rw [Nat.add_zero];omega
   have:=Y1y (neg:=a.neg) (e:=a.e+((Q0h a.m-p:Nat):Int)) (k:=k+n) h3 (by have:=ha.2.1;omega) (by have:=ha.2.2;omega)
   exact this.mono (by omega) (by omega)
theorem q1x {x y u v:Vl} {n k m l:Nat} (hx:bdV n k x) (hy:bdV n k y) (hu:bdV m l u) (hv:bdV m l v):bdV (n+m) (k+l) (K0y x y u v):=by
 rcases x0e x y u v with h | h | h | h
 all_goals rw [h];exact w1g (by assumption) (by assumption)
theorem Y2e {x y u v:Vl} {n k m l:Nat} (hx:bdV n k x) (hy:bdV n k y) (hu:bdV m l u) (hv:bdV m l v):bdV (n+m) (k+l) (U0h x y u v):=x0g (q1x (x0g hy) (x0g hx) hu hv)
theorem J0f {v:Vl} {n k:Nat} (h:bdV n k v) (hn:n≤1000000000000):(Q0c v.m).length≤1000000000000:=by
 have:=Z0l v.m
 have:=h.1
 omega
end Go.Pv
end
section
/-A number of an interval,by parts of 8. No program in it. -/
namespace Go.Pv
theorem J2w {v:Vl} {n k:Nat} (h:bdV n k v) (h1:n≤4096) (h2:k≤65536):(numV v).2=0:=by
 unfold numV
 split
 · rfl
 · rw [if_neg]
   have hl:=H0i v.m
   have:=h.1;have:=h.2.1;have:=h.2.2
   omega
end Go.Pv
end
