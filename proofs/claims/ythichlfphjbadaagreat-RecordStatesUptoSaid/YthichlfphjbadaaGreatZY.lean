/- Parts of the walk: M23, M24, M25, M26, M27, M28, M29, M30, M31, M32, M33, M34, M35, M36. -/
import Derived.Test.YthichlfphjbadaaGreatZK
set_option linter.unusedVariables false
set_option linter.unusedSimpArgs false
section
/-Exact values and their rounding:what numbers that are not in one form stand for. No program in it. -/
namespace Go.Pv
def ofX (x:Nm):Vl:=oddV x.neg (valW x.w) x.exp
def Z0h (v:Vl) (p:Nat) (up:Bool):Vl:=
 if Q0j v.m≤p then v else
  oddV v.neg (v.m/2^(Q0j v.m-p)+(if v.m % 2^(Q0j v.m-p)≠0∧up≠v.neg then 1 else 0)) (v.e+((Q0j v.m-p:Nat):Int))
theorem q0x (neg:Bool) (e:Int):oddV neg 0 e=⟨false,0,0⟩:=by rw [oddV,if_pos rfl]
theorem x2a (neg:Bool) (m k:Nat) (e:Int):oddV neg (m*2^k) e=oddV neg m (e+k):=by
 by_cases h:m=0
 · subst h;rw [Nat.zero_mul,q0x,q0x]
 · have hp:m*2^k≠0:=Nat.mul_ne_zero h (Nat.ne_of_gt (Nat.two_pow_pos k))
   obtain⟨q,hq,hm⟩:=Y1n m h
   have hmk:m*2^k=2^(tz m+k)*q:=by
    conv=>lhs;rw [hm]
    rw [Nat.pow_add,Nat.mul_right_comm]
   have ht:tz (m*2^k)=tz m+k:=by rw [hmk,v1n _ _ hq]
   unfold oddV
   rw [if_neg h,if_neg hp,ht]
   have e1:m*2^k/2^(tz m+k)=m/2^tz m:=by
    rw [hmk,Nat.mul_div_cancel_left _ (Nat.two_pow_pos _)]
    conv=>rhs;rw [hm]
    rw [v1n _ _ hq,Nat.mul_div_cancel_left _ (Nat.two_pow_pos _)]
   rw [e1]
   congr 1
   omega
theorem w1u (neg:Bool) (m:Nat) (e:Int) (h:m % 2=1):oddV neg m e=⟨neg,m,e⟩:=by
 rw [oddV,if_neg (by omega),J2w h];simp
theorem Z3w {x:Nm} (h:Q0f x=true):ofX x=ofN x:=by
 rcases U1m h with h1 | h1
 · exact w1u _ _ _ h1
 · have h0:valW x.w=0:=h1
   have hw:x.w= []:=by
    refine Classical.byContradiction fun hw=> ?_
    have h2:=h
    unfold Q0f at h2
    rw [if_neg hw] at h2
    simp only [Bool.and_eq_true,decide_eq_true_eq] at h2
    have h3:=Z1d x.w
    omega
   have h2:=h
   unfold Q0f at h2
   rw [if_pos hw] at h2
   simp at h2
   unfold ofX ofN
   rw [h0,q0x,h2.1,h2.2]
end Go.Pv
end
section
/-Exact sums and products,whatever form the numbers have. No program in it. -/
namespace Go.Pv
theorem W2v (neg:Bool) (m:Nat) (e:Int):oddV neg m e=mkV (if neg then -(m:Int) else(m:Int)) e:=by
 by_cases h:m=0
 · subst h
   rw [q0x]
   unfold mkV
   cases neg<;>simp [q0x]
 · unfold mkV
   cases neg
   · show oddV false m e=oddV (decide ((m:Int)<0)) (m:Int).natAbs e
     rw [decide_eq_false (by omega),Int.natAbs_natCast]
   · show oddV true m e=oddV (decide (-(m:Int)<0)) (-(m:Int)).natAbs e
     rw [decide_eq_true (by omega),Int.natAbs_neg,Int.natAbs_natCast]
theorem W2t (s:Int) (k:Nat) (e:Int):mkV (s*2^k) e=mkV s (e+k):=by
 unfold mkV
 have h1:(s*2^k).natAbs=s.natAbs*2^k:=by
  rw [Int.natAbs_mul,Int.natAbs_pow];rfl
 have h2:decide (s*2^k<0)=decide (s<0):=by
  have hp:=two_pow_pos k
  by_cases h:s<0
  · rw [decide_eq_true h,decide_eq_true (Int.mul_neg_of_neg_of_pos h hp)]
  · rw [decide_eq_false h,decide_eq_false (Int.not_lt.2 (Int.mul_nonneg (Int.not_lt.1 h) (Int.le_of_lt hp)))]
 rw [h1,h2,x2a]
theorem W2u (s e:Int) (h:s≠0): ∃k:Nat,Z0x (mkV s e)*2^k=s∧(mkV s e).e=e+k∧(mkV s e).m≠0:=by
 have h0:s.natAbs≠0:=by omega
 refine⟨tz s.natAbs,?_,?_,?_⟩
 · unfold mkV oddV Z0x
   rw [if_neg h0]
   simp only
   have h1:=V1c s.natAbs
   by_cases hs:s<0
   · rw [decide_eq_true hs,if_pos rfl,Int.neg_mul]
     have:((s.natAbs/2^tz s.natAbs:Nat):Int)*2^tz s.natAbs=(s.natAbs:Int):=by
      rw [show((2:Int)^tz s.natAbs)=((2^tz s.natAbs:Nat):Int) from by simp,←Int.natCast_mul,h1]
     rw [this];omega
   · rw [decide_eq_false hs,if_neg (by simp)]
     have:((s.natAbs/2^tz s.natAbs:Nat):Int)*2^tz s.natAbs=(s.natAbs:Int):=by
      rw [show((2:Int)^tz s.natAbs)=((2^tz s.natAbs:Nat):Int) from by simp,←Int.natCast_mul,h1]
     rw [this];omega
 · unfold mkV oddV;rw [if_neg h0]
 · unfold mkV oddV
   rw [if_neg h0]
   have:=G0v s.natAbs h0
   simp only;omega
def byV (a b:Vl):Vl:=if a.m=0∨b.m=0 then⟨false,0,0⟩ else⟨a.neg !=b.neg,a.m*b.m,a.e+b.e⟩
theorem Z3x {a b:Nat} (ha:a % 2=1) (hb:b % 2=1):a*b % 2=1:=by rw [Nat.mul_mod,ha,hb]
end Go.Pv
end
section
/-Values as rational numbers. No program in it. -/
namespace Go.Pv
def p2 (e:Int):Rat:=(2:Rat)^e
theorem y0v (e:Int):0<p2 e:=Rat.zpow_pos (by decide)
theorem y3q (e:Int):p2 e≠0:=Rat.ne_of_gt (y0v e)
theorem v0g (a b:Int):p2 (a+b)=p2 a*p2 b:=Rat.zpow_add (by decide) a b
theorem j1t :p2 0=1:=Rat.zpow_zero 2
theorem W2f (k:Nat):(((2:Int)^k:Int):Rat)=p2 k:=by
 unfold p2;rw [Rat.zpow_natCast]
 induction k with
 | zero=>rfl
 | succ k ih=>rw [Int.pow_succ,Rat.intCast_mul,ih,Rat.pow_succ];rfl
def qM (s e:Int):Rat:=(s:Rat)*p2 e
def qV (v:Vl):Rat:=qM (Z0x v) v.e
def qN (x:Nm):Rat:=qM (mant x) x.exp
theorem W0m (s:Int) (k:Nat) (e:Int):qM (s*2^k) e=qM s (e+k):=by
 unfold qM;rw [Rat.intCast_mul,W2f,v0g];grind
theorem v2v (s t e:Int):qM (s+t) e=qM s e+qM t e:=by unfold qM;rw [Rat.intCast_add];grind
theorem v2u (s t e f:Int):qM (s*t) (e+f)=qM s e*qM t f:=by unfold qM;rw [Rat.intCast_mul,v0g];grind
theorem J0m (e:Int):qM 0 e=0:=by unfold qM;rw [Rat.intCast_zero];grind
theorem X1h (s e:Int):qM (-s) e= -qM s e:=by unfold qM;rw [Rat.intCast_neg];grind
theorem qM_le {s t e:Int} :qM s e≤qM t e↔s≤t:=by
 unfold qM
 constructor
 · intro h
   exact Rat.intCast_le_intCast.1 (Rat.le_of_mul_le_mul_right h (y0v e))
 · intro h
   exact Rat.mul_le_mul_of_nonneg_right (Rat.intCast_le_intCast.2 h) (Rat.le_of_lt (y0v e))
theorem qM_lt {s t e:Int} :qM s e<qM t e↔s<t:=by
 rw [←Rat.not_le,qM_le];omega
theorem qM_eq {s t e:Int} :qM s e=qM t e↔s=t:=by
 constructor
 · intro h
   have h1:=(qM_le (s:=s) (t:=t) (e:=e)).1 (by rw [h];exact Rat.le_refl)
   have h2:=(qM_le (s:=t) (t:=s) (e:=e)).1 (by rw [h];exact Rat.le_refl)
   omega
 · rintro rfl;rfl
theorem z2a (s e g:Int) (h:g≤e):qM s e=qM (s*2^(e-g).toNat) g:=by
 rw [W0m];congr 1;omega
theorem Z3f (s e:Int):qV (mkV s e)=qM s e:=by
 by_cases h:s=0
 · subst h
   rw [y1a,J0m]
   exact J0m 0
 · obtain⟨k,k1,k2,k3⟩:=W2u s e h
   unfold qV
   rw [k2,←W0m,k1]
theorem v0d (neg:Bool) (m:Nat) (e:Int):qV (oddV neg m e)=qM (if neg then -(m:Int) else(m:Int)) e:=by rw [W2v,Z3f]
theorem X0g (x:Nm):qV (ofN x)=qN x:=rfl
theorem w0s {v:Vl} (h:v.m=0):qV v=0:=by unfold qV;rw [w0y h,J0m]
theorem K0z (a b:Vl):qV (J0p a b)=qV a+qV b:=by
 unfold J0p
 split
 · rename_i h;rw [w0s h];grind
 · split
   · rename_i h;rw [w0s h];grind
   · rw [Z3f,v2v,←z2a _ _ _ (by omega),←z2a _ _ _ (by omega)];rfl
theorem Y0s (v:Vl):qV (V0f v)= -qV v:=by
 unfold qV;rw [w0z,Z1h,X1h]
theorem Y0t (a b:Vl):qV (U0r a b)=qV a-qV b:=by
 unfold U0r;rw [K0z,Y0s];grind
theorem x2m {a b:Vl} (ha:a.m≠0) (hb:b.m≠0):Z0x (byV a b)=Z0x a*Z0x b∧(byV a b).e=a.e+b.e:=by
 unfold byV
 rw [if_neg (by omega)]
 refine⟨?_,rfl⟩
 unfold Z0x
 cases a.neg<;>cases b.neg<;>simp [Int.neg_mul,Int.mul_neg]
theorem x0v (a b:Vl):qV (byV a b)=qV a*qV b:=by
 by_cases ha:a.m=0
 · rw [w0s ha,w0s (by unfold byV;rw [if_pos (.inl ha)])];grind
 · by_cases hb:b.m=0
   · rw [w0s hb,w0s (by unfold byV;rw [if_pos (.inr hb)])];grind
   · obtain⟨h1,h2⟩:=x2m ha hb
     unfold qV
     rw [h1,h2,v2u]
theorem K2t (m:Int):sgn m≤0↔m≤0:=by unfold sgn;split<;>(try split)<;>omega
theorem K2s (m:Int):sgn m<0↔m<0:=by unfold sgn;split<;>(try split)<;>omega
theorem q1t (a b:Vl):V0p a b≤0↔qV a≤qV b:=by
 unfold V0p
 have h:=Y0t a b
 rw [x0b,K2t]
 have h2:Z0x (U0r a b)≤0↔qV (U0r a b)≤0:=by
  rw [←J0m (U0r a b).e];exact qM_le.symm
 rw [h2,h];grind
theorem X1p (a b:Vl):V0p a b<0↔qV a<qV b:=by
 unfold V0p
 have h:=Y0t a b
 rw [x0b,K2s]
 have h2:Z0x (U0r a b)<0↔qV (U0r a b)<0:=by
  rw [←J0m (U0r a b).e];exact qM_lt.symm
 rw [h2,h];grind
theorem cmpN_le {a b:Nm} :cmpN a b≤0↔qN a≤qN b:=by rw [←w0w,q1t];rfl
theorem cmpN_lt {a b:Nm} :cmpN a b<0↔qN a<qN b:=by rw [←w0w,X1p];rfl
theorem cmpN_ge {a b:Nm} :0≤cmpN a b↔qN b≤qN a:=by
 have:=cmpN_lt (a:=a) (b:=b)
 rw [←Rat.not_lt,←this];omega
theorem cmpN_gt {a b:Nm} :0<cmpN a b↔qN b<qN a:=by
 have:=cmpN_le (a:=a) (b:=b)
 rw [←Rat.not_le,←this];omega
theorem v1q (a:Vl):W0j a<0↔qV a<0:=by
 rw [x0b,K2s,←J0m a.e];exact qM_lt.symm
theorem v1r (a:Vl):W0j a≤0↔qV a≤0:=by
 rw [x0b,K2t,←J0m a.e];exact qM_le.symm
def canV (v:Vl):Prop:=v.m % 2=1∨v=⟨false,0,0⟩
theorem q0c (neg:Bool) (m:Nat) (e:Int):canV (oddV neg m e):=by
 unfold oddV canV
 split
 · exact .inr rfl
 · exact .inl (G0v m (by assumption))
theorem K3n (s e:Int):canV (mkV s e):=q0c _ _ _
theorem k2j (x:Nm):canV (ofX x):=q0c _ _ _
theorem X0u {x:Nm} (h:Q0f x=true):canV (ofN x):=by rw [←Z3w h];exact k2j x
theorem K0r {a b:Vl} (ha:canV a) (hb:canV b):canV (J0p a b):=by
 unfold J0p
 split
 · exact hb
 · split
   · exact ha
   · exact K3n _ _
theorem v0w {a:Vl} (ha:canV a):canV (V0f a):=by
 rcases ha with h | rfl
 · exact .inl (by rw [Z1g];exact h)
 · exact .inr rfl
theorem U0z {a b:Vl} (ha:canV a) (hb:canV b):canV (U0r a b):=K0r ha (v0w hb)
theorem G1j {a b:Vl} (ha:canV a) (hb:canV b):canV (byV a b):=by
 rcases ha with h | rfl
 · rcases hb with k | rfl
   · exact .inl (by unfold byV;rw [if_neg (by omega)];exact Z3x h k)
   · exact .inr (by unfold byV;rw [if_pos (.inr rfl)])
 · exact .inr (by unfold byV;rw [if_pos (.inl rfl)])
theorem Z0a {v:Vl} (h:canV v) (p:Nat) (up:Bool):canV (Z0h v p up):=by
 unfold Z0h
 split
 · exact h
 · exact q0c _ _ _
theorem y0g {v:Vl} (h:canV v):okV v:=by
 rcases h with h | rfl
 · exact .inl h
 · exact .inr rfl
theorem x1j {v:Vl} (h:canV v):v=mkV (Z0x v) v.e:=by
 rcases h with h | rfl
 · have:oddV v.neg v.m v.e=v:=by rw [w1u _ _ _ h]
   conv=>lhs;rw [←this]
   rw [W2v];rfl
 · rw [show Z0x ⟨false,0,0⟩=0 from rfl,y1a]
theorem G3b {s e t f:Int} (h:qM s e=qM t f):mkV s e=mkV t f:=by
 have h1:mkV s e=mkV (s*2^(e-min e f).toNat) (min e f):=by rw [W2t];congr 1;omega
 have h2:mkV t f=mkV (t*2^(f-min e f).toNat) (min e f):=by rw [W2t];congr 1;omega
 rw [z2a s e (min e f) (by omega),z2a t f (min e f) (by omega),qM_eq] at h
 rw [h1,h2,h]
theorem k2k {v w:Vl} (hv:canV v) (hw:canV w) (h:qV v=qV w):v=w:=by
 rw [x1j hv,x1j hw]
 exact G3b h
theorem x0d (neg:Bool) (m d:Nat) (c:Nat) (e:Int):qM (if neg then -((m/2^d+c:Nat):Int) else((m/2^d+c:Nat):Int)) (e+(d:Int))=qM (if neg then -(((m/2^d+c)*2^d:Nat):Int) else(((m/2^d+c)*2^d:Nat):Int)) e:=by
 rw [←W0m]
 congr 1
 cases neg
 · simp
 · simp [Int.neg_mul]
theorem Y0e (v:Vl) (p:Nat):qV (Z0h v p false)≤qV v:=by
 unfold Z0h
 split
 · exact Rat.le_refl
 · rw [v0d,x0d]
   unfold qV Z0x
   rw [qM_le]
   generalize Q0j v.m-p=d
   have h1:=Nat.div_add_mod v.m (2^d)
   have h2:=Nat.mod_lt v.m (Nat.two_pow_pos d)
   rw [Nat.mul_comm] at h1
   rw [Nat.add_mul]
   cases v.neg
   · rw [if_neg (by simp),if_neg (by simp),if_neg (by simp),Nat.zero_mul];omega
   · rw [if_pos rfl,if_pos rfl]
     by_cases h3:v.m % 2^d=0
     · rw [if_neg (by simp [h3]),Nat.zero_mul];omega
     · rw [if_pos ⟨h3,by simp⟩,Nat.one_mul];omega
theorem G0x (v:Vl) (p:Nat):qV v≤qV (Z0h v p true):=by
 unfold Z0h
 split
 · exact Rat.le_refl
 · rw [v0d,x0d]
   unfold qV Z0x
   rw [qM_le]
   generalize Q0j v.m-p=d
   have h1:=Nat.div_add_mod v.m (2^d)
   have h2:=Nat.mod_lt v.m (Nat.two_pow_pos d)
   rw [Nat.mul_comm] at h1
   rw [Nat.add_mul]
   cases v.neg
   · rw [if_neg (by simp),if_neg (by simp)]
     by_cases h3:v.m % 2^d=0
     · rw [if_neg (by simp [h3]),Nat.zero_mul];omega
     · rw [if_pos ⟨h3,by simp⟩,Nat.one_mul];omega
   · rw [if_pos rfl,if_pos rfl,if_neg (by simp),Nat.zero_mul];omega
theorem J0f {v:Vl} (hv:canV v) (h:(numV v).2=0):ofN (numV v).1=v∧qN (numV v).1=qV v:=by
 unfold numV at h⊢
 split
 · rename_i h0
   rcases hv with hv | rfl
   · omega
   · exact⟨rfl,rfl⟩
 · rename_i h0
   rw [if_neg h0] at h
   split
   · rename_i h1;rw [if_pos h1] at h;cases h
   · have e:ofN ⟨v.neg,v.e,Z0z v.m⟩=v:=by unfold ofN;rw [J0t]
     exact⟨e,by rw [←X0g,e]⟩
theorem w1v {x:Nm} (h:Q0f x=true):numV (ofN x)=(x,0):=by
 unfold numV ofN
 simp only
 have h2:=h
 unfold Q0f at h2
 by_cases hw:x.w= []
 · rw [if_pos hw] at h2
   simp at h2
   rw [if_pos (by rw [hw];rfl)]
   congr 1
   obtain⟨n,e,w⟩:=x
   simp at hw h2
   obtain⟨rfl,rfl⟩:=h2
   subst hw;rfl
 · rw [if_neg hw] at h2
   simp only [Bool.and_eq_true,decide_eq_true_eq] at h2
   rw [if_neg (by have:=(V0s h);intro e;exact hw (this.1 e)),X0h,w0j h,if_neg (by omega)]
end Go.Pv
end
section
/-What sums,differences and products of intervals come to. No program in it. -/
namespace Go.Pv
theorem J0b {a b:Rat} (ha:0≤a) (hb:0≤b):0≤a*b:=Rat.mul_nonneg ha hb
theorem K3d {x y u v X U:Rat} (h1:x≤X) (h2:X≤y) (h3:u≤U) (h4:U≤v) (hx:0≤x) (hu:0≤u):x*u≤X*U:=by
 have a1:=J0b (a:=X-x) (b:=u) (by grind) hu
 have a2:=J0b (a:=X) (b:=U-u) (by grind) (by grind)
 grind
theorem U2y {x y u v X U:Rat} (h1:x≤X) (h2:X≤y) (h3:u≤U) (h4:U≤v) (hx:0≤X) (hu:u≤0):y*u≤X*U:=by
 have a1:=J0b (a:=y-X) (b:= -u) (by grind) (by grind)
 have a2:=J0b (a:=X) (b:=U-u) (by grind) (by grind)
 grind
theorem U2x {x y u v X U:Rat} (h1:x≤X) (h2:X≤y) (h3:u≤U) (h4:U≤v) (hx:x≤0) (hu:0≤U):x*v≤X*U:=by
 have a1:=J0b (a:= -x) (b:=v-U) (by grind) (by grind)
 have a2:=J0b (a:=X-x) (b:=U) (by grind) (by grind)
 grind
theorem K3c {x y u v X U:Rat} (h1:x≤X) (h2:X≤y) (h3:u≤U) (h4:U≤v) (hx:y≤0) (hu:v≤0):y*v≤X*U:=by
 have a1:=J0b (a:=y-X) (b:= -v) (by grind) (by grind)
 have a2:=J0b (a:= -X) (b:=v-U) (by grind) (by grind)
 grind
theorem Z3l {a b:Rat} (ha:a≤0) (hb:b≤0):0≤a*b:=by
 have:=J0b (a:= -a) (b:= -b) (by grind) (by grind)
 grind
theorem Z3m {a b:Rat} (ha:0≤a) (hb:b≤0):a*b≤0:=by
 have:=J0b (a:=a) (b:= -b) ha (by grind)
 grind
theorem x2f {a b:Rat} (ha:a≤0) (hb:0≤b):a*b≤0:=by
 have:=J0b (a:= -a) (b:=b) (by grind) hb
 grind
def z0c (x y u v:Vl):Vl:=
 if 0≤W0j x∧0≤W0j u then byV x u else if 0≤W0j x then byV y u else if 0≤W0j u then byV x v else
 if W0j y≤0∧W0j v≤0 then byV y v else if V0p (byV y u) (byV x v)<0 then byV y u else byV x v
def j0a (x y u v:Vl):Vl:=V0f (z0c (V0f y) (V0f x) u v)
theorem v1s (a:Vl):0≤W0j a↔0≤qV a:=by
 have:=v1q a
 rw [←Rat.not_lt,←this];omega
theorem z1d {x y u v:Vl} (hx:qV x≤qV y) (hu:qV u≤qV v) {X U:Rat} (h1:qV x≤X) (h2:X≤qV y) (h3:qV u≤U) (h4:U≤qV v):qV (z0c x y u v)≤X*U:=by
 unfold z0c
 simp only [v1s,v1r,X1p,x0v]
 split
 · rename_i h;rw [x0v];exact K3d h1 h2 h3 h4 h.1 h.2
 · rename_i n1
   split
   · rename_i h;rw [x0v];exact U2y h1 h2 h3 h4 (by grind) (by grind)
   · rename_i n2
     split
     · rename_i h;rw [x0v];exact U2x h1 h2 h3 h4 (by grind) (by grind)
     · rename_i n3
       split
       · rename_i h;rw [x0v];exact K3c h1 h2 h3 h4 h.1 h.2
       · rename_i n4
         have key:qV y*qV u≤X*U∨qV x*qV v≤X*U:=by
          by_cases hX:0≤X
          · exact .inl (U2y h1 h2 h3 h4 hX (by grind))
          · by_cases hU:0≤U
            · exact .inr (U2x h1 h2 h3 h4 (by grind) hU)
            · have p:=Z3l (a:=X) (b:=U) (by grind) (by grind)
              by_cases hy:0≤qV y
              · have:=Z3m (a:=qV y) (b:=qV u) hy (by grind);exact .inl (by grind)
              · have:=x2f (a:=qV x) (b:=qV v) (by grind) (by grind);exact .inr (by grind)
         split
         · rename_i h;rw [x0v];grind
         · rename_i h;rw [x0v];grind
theorem x0k (x y u v:Vl):z0c x y u v=byV x u∨z0c x y u v=byV x v∨z0c x y u v=byV y u∨z0c x y u v=byV y v:=by
 unfold z0c
 repeat' split
 all_goals simp
theorem Y2z {x y u v:Vl} (hx:qV x≤qV y) (hu:qV u≤qV v) {X U:Rat} (h1:qV x≤X) (h2:X≤qV y) (h3:qV u≤U) (h4:U≤qV v):X*U≤qV (j0a x y u v):=by
 unfold j0a
 have:=z1d (x:=V0f y) (y:=V0f x) (u:=u) (v:=v) (X:= -X) (U:=U) (by rw [Y0s,Y0s];grind) hu (by rw [Y0s];grind) (by rw [Y0s];grind) h3 h4
 rw [Y0s];grind
theorem W1m (x y u v:Vl):qV (j0a x y u v)=qV x*qV u∨qV (j0a x y u v)=qV x*qV v∨qV (j0a x y u v)=qV y*qV u∨qV (j0a x y u v)=qV y*qV v:=by
 unfold j0a
 rw [Y0s]
 rcases x0k (V0f y) (V0f x) u v with h | h | h | h
 all_goals rw [h,x0v,Y0s];grind
theorem Y1c {x y u v:Vl} (hx:canV x) (hy:canV y) (hu:canV u) (hv:canV v):canV (z0c x y u v):=by
 rcases x0k x y u v with h | h | h | h
 all_goals rw [h];exact G1j (by assumption) (by assumption)
theorem J2a {x y u v:Vl} (hx:canV x) (hy:canV y) (hu:canV u) (hv:canV v):canV (j0a x y u v):=v0w (Y1c (v0w hy) (v0w hx) hu hv)
def exV (k:Nat) (a b:Vl):Vl:=if k=0 then J0p a b else if k=1 then U0r a b else byV a b
def exQ (k:Nat) (a b:Rat):Rat:=if k=0 then a+b else if k=1 then a-b else a*b
theorem exQ0 (a b:Rat):exQ 0 a b=a+b:=by simp [exQ]
theorem exQ1 (a b:Rat):exQ 1 a b=a-b:=by simp [exQ]
theorem exQ2 (a b:Rat):exQ 2 a b=a*b:=by simp [exQ]
theorem Z3g (k:Nat) (a b:Vl):qV (exV k a b)=exQ k (qV a) (qV b):=by
 unfold exV exQ
 split
 · exact K0z a b
 · split
   · exact Y0t a b
   · exact x0v a b
theorem J1w (k:Nat) {a b:Vl} (ha:canV a) (hb:canV b):canV (exV k a b):=by
 unfold exV
 split
 · exact K0r ha hb
 · split
   · exact U0z ha hb
   · exact G1j ha hb
def Z0q (p:Int):Bool:=decide (8≤p)&&decide (p≤256)
def U0b (k:Nat) (a b:Nm) (p:Int) (up:Bool):Nm×Int:=if Q0f a=true∧Q0f b=true∧Z0q p=true then numV (Z0h (exV k (ofN a) (ofN b)) p.toNat up) else(default,1)
def strN (k:Nat) (a b:Nm):Nm×Int:=if Q0f a=true∧Q0f b=true then numV (exV k (ofN a) (ofN b)) else(default,1)
def X0w (x:Nm) (k:Int):Nm×Int:=if Q0f x=true then(if x.w= [] then(x,0) else if k< -131072∨131072<k then(default,2) else numV ⟨x.neg,valW x.w,x.exp+k⟩) else(default,1)
def x0x (lo hi:Vl):Ivl×Int:=if (numV lo).2=0∧(numV hi).2=0 then(⟨(numV lo).1,(numV hi).1⟩,0) else(default,2)
def loV (k:Nat) (x y u v:Vl):Vl:=if k=0 then J0p x u else if k=1 then U0r x v else z0c x y u v
def hiV (k:Nat) (x y u v:Vl):Vl:=if k=0 then J0p y v else if k=1 then U0r y u else j0a x y u v
def opI (k:Nat) (a b:Ivl) (p:Int):Ivl×Int:=
 if Q0l a=true∧Q0l b=true∧Z0q p=true then x0x (Z0h (loV k (ofN a.lo) (ofN a.hi) (ofN b.lo) (ofN b.hi)) p.toNat false) (Z0h (hiV k (ofN a.lo) (ofN a.hi) (ofN b.lo) (ofN b.hi)) p.toNat true) else(default,1)
theorem loV0 (x y u v:Vl):loV 0 x y u v=J0p x u:=by simp [loV]
theorem hiV0 (x y u v:Vl):hiV 0 x y u v=J0p y v:=by simp [hiV]
theorem loV1 (x y u v:Vl):loV 1 x y u v=U0r x v:=by simp [loV]
theorem hiV1 (x y u v:Vl):hiV 1 x y u v=U0r y u:=by simp [hiV]
theorem w2d (k:Nat) {x y u v:Vl} (hx:qV x≤qV y) (hu:qV u≤qV v) {X U:Rat} (h1:qV x≤X) (h2:X≤qV y) (h3:qV u≤U) (h4:U≤qV v):qV (loV k x y u v)≤exQ k X U:=by
 unfold loV exQ
 split
 · rw [K0z];grind
 · split
   · rw [Y0t];grind
   · exact z1d hx hu h1 h2 h3 h4
theorem w2e (k:Nat) {x y u v:Vl} (hx:qV x≤qV y) (hu:qV u≤qV v) {X U:Rat} (h1:qV x≤X) (h2:X≤qV y) (h3:qV u≤U) (h4:U≤qV v):exQ k X U≤qV (hiV k x y u v):=by
 unfold hiV exQ
 split
 · rw [K0z];grind
 · split
   · rw [Y0t];grind
   · exact Y2z hx hu h1 h2 h3 h4
theorem J1u (k:Nat) {x y u v:Vl} (hx:canV x) (hy:canV y) (hu:canV u) (hv:canV v):canV (loV k x y u v):=by
 unfold loV
 split
 · exact K0r hx hu
 · split
   · exact U0z hx hv
   · exact Y1c hx hy hu hv
theorem J1v (k:Nat) {x y u v:Vl} (hx:canV x) (hy:canV y) (hu:canV u) (hv:canV v):canV (hiV k x y u v):=by
 unfold hiV
 split
 · exact K0r hy hv
 · split
   · exact U0z hy hu
   · exact J2a hx hy hu hv
theorem q0t {x:Ivl} (h:Q0l x=true):qV (ofN x.lo)≤qV (ofN x.hi):=cmpN_le.1 (Q0x h).2.2
theorem j0x {lo hi:Vl} (h1:canV lo) (h2:canV hi) (h:qV lo≤qV hi):Q0l (x0x lo hi).1=true:=by
 unfold x0x
 split
 · rename_i hh
   exact Y0g (J0k (y0g h1)) (J0k (y0g h2)) (cmpN_le.2 (by rw [(J0f h1 hh.1).2,(J0f h2 hh.2).2];exact h))
 · decide
theorem X3h (k:Nat) {a b:Ivl} (ha:Q0l a=true) (hb:Q0l b=true) (p:Nat):
 qV (Z0h (loV k (ofN a.lo) (ofN a.hi) (ofN b.lo) (ofN b.hi)) p false)≤qV (Z0h (hiV k (ofN a.lo) (ofN a.hi) (ofN b.lo) (ofN b.hi)) p true):=by
 have h1:=Y0e (loV k (ofN a.lo) (ofN a.hi) (ofN b.lo) (ofN b.hi)) p
 have h2:=G0x (hiV k (ofN a.lo) (ofN a.hi) (ofN b.lo) (ofN b.hi)) p
 have h3:=w2d k (q0t ha) (q0t hb) Rat.le_refl (q0t ha) Rat.le_refl (q0t hb)
 have h4:=w2e k (q0t ha) (q0t hb) Rat.le_refl (q0t ha) Rat.le_refl (q0t hb)
 grind
theorem canI {x:Ivl} (h:Q0l x=true):canV (ofN x.lo)∧canV (ofN x.hi):=⟨X0u (Q0x h).1,X0u (Q0x h).2.1⟩
theorem X1q (k:Nat) (a b:Ivl) (p:Int):Q0l (opI k a b p).1=true:=by
 unfold opI
 split
 · rename_i h
   have ca:=canI h.1
   have cb:=canI h.2.1
   exact j0x (Z0a (J1u k ca.1 ca.2 cb.1 cb.2) _ _) (Z0a (J1v k ca.1 ca.2 cb.1 cb.2) _ _) (X3h k h.1 h.2.1 _)
 · decide
def memI (X:Rat) (a:Ivl):Prop:=qN a.lo≤X∧X≤qN a.hi
theorem Z3s (k:Nat) {a b:Ivl} {p:Int} (h:(opI k a b p).2=0) {X U:Rat} (hX:memI X a) (hU:memI U b):memI (exQ k X U) (opI k a b p).1:=by
 unfold opI at h⊢
 split
 · rename_i hr
   rw [if_pos hr] at h
   have ca:=canI hr.1
   have cb:=canI hr.2.1
   unfold x0x at h⊢
   split
   · rename_i hh
     have h1:=(J0f (Z0a (J1u k ca.1 ca.2 cb.1 cb.2) _ _) hh.1).2
     have h2:=(J0f (Z0a (J1v k ca.1 ca.2 cb.1 cb.2) _ _) hh.2).2
     have h3:=w2d k (q0t hr.1) (q0t hr.2.1) hX.1 hX.2 hU.1 hU.2
     have h4:=w2e k (q0t hr.1) (q0t hr.2.1) hX.1 hX.2 hU.1 hU.2
     have h5:=Y0e (loV k (ofN a.lo) (ofN a.hi) (ofN b.lo) (ofN b.hi)) p.toNat
     have h6:=G0x (hiV k (ofN a.lo) (ofN a.hi) (ofN b.lo) (ofN b.hi)) p.toNat
     exact⟨by rw [h1];grind,by rw [h2];grind⟩
   · rename_i hh;rw [if_neg hh] at h;cases h
 · rename_i hr;rw [if_neg hr] at h;cases h
end Go.Pv
end
section
/-Exact sums and products of numbers in any form,and how long they get. No program in it. -/
namespace Go.Pv
def bd (n k:Nat) (x:Nm):Prop:=x.w.length≤n∧ -(k:Int)≤x.exp∧x.exp≤k
theorem bd.mono {n k n' k':Nat} {x:Nm} (h:bd n k x) (h1:n≤n') (h2:k≤k'):bd n' k' x:=⟨by have:=h.1;omega,by have:=h.2.1;omega,by have:=h.2.2;omega⟩
theorem Z1r {x:Nm} (h:Q0f x=true):bd 64 65536 x:=by
 unfold Q0f at h
 by_cases hw:x.w= []
 · rw [if_pos hw] at h
   simp at h
   exact⟨by rw [hw];simp,by rw [h.2];omega,by rw [h.2];omega⟩
 · rw [if_neg hw] at h
   simp only [Bool.and_eq_true,decide_eq_true_eq] at h
   exact⟨h.1.1.1.2,h.1.2,h.2⟩
end Go.Pv
end
section
/-The right number of words by a power of two,rounded or not. No program in it. -/
namespace Go.Pv
def mkX (neg:Bool) (w:List UInt64) (e:Int):Nm×Int:=numV (oddV neg (valW w) e)
def rndX (x:Nm) (p:Nat) (up:Bool):Nm:=
 if U0g x.w≤p then x else⟨x.neg,x.exp+((U0g x.w-p:Nat):Int),Z0z (valW x.w/2^(U0g x.w-p)+(if tz (valW x.w)<U0g x.w-p∧up≠x.neg then 1 else 0))⟩
end Go.Pv
end
section
/-Intervals:has,meet,middle,width. No program in it. -/
namespace Go.Pv
def hasI (a:Ivl) (x:Nm):Bool:=Q0l a&&Q0f x&&decide (cmpN a.lo x≤0)&&decide (cmpN x a.hi≤0)
def V4u (lo hi:Nm):Ivl×Int:=if Q0l ⟨lo,hi⟩=true then(⟨lo,hi⟩,0) else(default,1)
def y0a (v:Vl):Vl:=if v.m=0 then v else { v with e:=v.e-1 }
def midV (a:Ivl) (p:Nat):Vl:=Z0h (y0a (J0p (ofN a.lo) (ofN a.hi))) p false
def midI (a:Ivl) (p:Int):Nm×Int:=if Q0l a=true∧Z0q p=true then(if V0p (midV a p.toNat) (ofN a.lo)<0 then(a.lo,0) else numV (midV a p.toNat)) else(default,1)
def K0k (a:Ivl) (p:Int):Nm×Int:=if Q0l a=true∧Z0q p=true then numV (Z0h (U0r (ofN a.hi) (ofN a.lo)) p.toNat true) else(default,1)
theorem U3v :p2 1=2:=by
 have:=W2f 1
 rw [←show((1:Nat):Int)=1 from rfl,←this];rfl
theorem V2r (s e:Int):qM s (e-1)*2=qM s e:=by
 unfold qM
 have h:=v0g (e-1) 1
 rw [show e-1+1=e from by omega,U3v] at h
 rw [h];grind
theorem V2q (v:Vl):qV (y0a v)*2=qV v:=by
 unfold y0a
 split
 · rename_i h;rw [w0s h];grind
 · exact V2r (Z0x v) v.e
theorem v0y {v:Vl} (h:canV v):canV (y0a v):=by
 unfold y0a
 split
 · exact h
 · rename_i h0
   rcases h with h | rfl
   · exact .inl h
   · exact absurd rfl h0
theorem Q3e {a b:Rat} (h:a*2=b*2):a=b:=by grind
theorem H1m {x y:Nm} (hx:Q0f x=true) (hy:Q0f y=true) (h:qN x=qN y):x=y:=by
 have h1:=k2k (X0u hx) (X0u hy) (by rw [X0g,X0g,h])
 have h2:=w1v hx
 rw [h1,w1v hy] at h2
 exact(congrArg Prod.fst h2).symm
theorem U3k (a b:Nm):qN (X0e a b)≤qN a∧qN (X0e a b)≤qN b∧(qN (X0e a b)=qN a∨qN (X0e a b)=qN b):=by
 have h1:=cmpN_le.1 (W1h a b)
 have h2:=cmpN_le.1 (X2f a b)
 refine⟨h1,h2,?_⟩
 unfold X0e
 split
 · exact .inr rfl
 · exact .inl rfl
theorem U3l (a b:Nm):qN a≤qN (X0d a b)∧qN b≤qN (X0d a b)∧(qN (X0d a b)=qN a∨qN (X0d a b)=qN b):=by
 have h1:=cmpN_le.1 (W1n a b)
 have h2:=cmpN_le.1 (X2l a b)
 refine⟨h1,h2,?_⟩
 unfold X0d
 split
 · exact .inr rfl
 · exact .inl rfl
end Go.Pv
end
section
/-What boxes are reckoned to. No program in it. -/
namespace Go.Pv
def opB (k:Nat) (a b:List Ivl) (p:Int):List Ivl×Int:=if rightB a=true∧rightB b=true∧a.length=b.length∧Z0q p=true then W0k (fun i x=>opI k x (b.getD i default) p) 0 a [] else([],1)
def G0c (x:Ivl) (b:List Ivl) (p:Int):List Ivl×Int:=if rightB b=true∧Q0l x=true∧Z0q p=true then W0k (fun _ y=>opI 2 x y p) 0 b [] else([],1)
def midB (b:List Ivl) (p:Int):List Nm×Int:=if rightB b=true∧Z0q p=true then W0k (fun _ a=>midI a p) 0 b [] else([],1)
def hasB (b:List Ivl) (q:List Nm):Bool:=rightB b&&decide (q.length=b.length)&&(List.range b.length).all fun i=>hasI (b.getD i default) (q.getD i default)
def ofB (q:List Nm):List Ivl:=q.map fun x=>⟨x,x⟩
def V0t (b:List Ivl) (p:Int):List Nm×Int:=if rightB b=true∧Z0q p=true then W0k (fun _ a=>K0k a p) 0 b [] else([],1)
def amax (l:List Nm):Nat→Nat
 | 0=>0
 | n+1=>if cmpR (l.getD n default) (l.getD (amax l n) default)>0 then n else amax l n
def V4o (b:List Ivl) (p:Int):Nm×Int:=if (V0t b p).2=0 then((V0t b p).1.getD (amax (V0t b p).1 b.length) default,0) else(default,(V0t b p).2)
def G0u (a:Ivl) (p:Int):Ivl×Int:=
 if (K0k a p).2≠0 then(default,(K0k a p).2) else if (X0w (K0k a p).1 (-2)).2≠0 then(default,(X0w (K0k a p).1 (-2)).2) else
 if (U0b 1 a.lo (X0w (K0k a p).1 (-2)).1 p false).2≠0∨(U0b 0 a.hi (X0w (K0k a p).1 (-2)).1 p true).2≠0 then(default,2) else
 (⟨(U0b 1 a.lo (X0w (K0k a p).1 (-2)).1 p false).1,(U0b 0 a.hi (X0w (K0k a p).1 (-2)).1 p true).1⟩,0)
def k0b (b:List Ivl) (p:Int):List Ivl×Int:=if rightB b=true∧Z0q p=true then W0k (fun _ a=>G0u a p) 0 b [] else([],1)
def V4n (b:List Ivl) (at':Nat) (x:Ivl):List Ivl:=b.set at' x
def K4n (b:List Ivl) (p:Int):(List Ivl×List Ivl)×Int:=
 if (V0t b p).2≠0 then(([],[]),(V0t b p).2) else
 if (midI (b.getD (amax (V0t b p).1 b.length) default) p).2≠0 then(([],[]),(midI (b.getD (amax (V0t b p).1 b.length) default) p).2) else
 ((b.set (amax (V0t b p).1 b.length) ⟨(b.getD (amax (V0t b p).1 b.length) default).lo,(midI (b.getD (amax (V0t b p).1 b.length) default) p).1⟩,
  b.set (amax (V0t b p).1 b.length) ⟨(midI (b.getD (amax (V0t b p).1 b.length) default) p).1,(b.getD (amax (V0t b p).1 b.length) default).hi⟩),0)
theorem x1v (a:Ivl) (p:Int):Q0f (K0k a p).1=true:=by
 unfold K0k
 split
 · rename_i h
   have c:=canI h.1
   exact J0k (y0g (Z0a (U0z c.2 c.1) _ _))
 · exact Z0o
theorem x0i (a:Ivl) (p:Int):Q0f (midI a p).1=true:=by
 unfold midI
 split
 · rename_i h
   split
   · exact(Q0x h.1).1
   · have c:=canI h.1
     exact J0k (y0g (Z0a (v0y (K0r c.1 c.2)) _ _))
 · exact Z0o
theorem q0n (x:Nm) (k:Int):Q0f (X0w x k).1=true:=by
 unfold X0w
 split
 · rename_i h
   split
   · exact h
   · split
     · exact Z0o
     · refine J0k ?_
       have h1:=U1m h
       rcases h1 with h1 | h1
       · exact .inl h1
       · exact .inr h1
 · exact Z0o
theorem Z1x (k:Nat) (a b:Nm) (p:Int) (up:Bool):Q0f (U0b k a b p up).1=true:=by
 unfold U0b
 split
 · rename_i h
   exact J0k (y0g (Z0a (J1w k (X0u h.1) (X0u h.2.1)) _ _))
 · exact Z0o
theorem k1c {a:Ivl} {p:Int} (h:(midI a p).2=0):Q0l a=true∧Q0f (midI a p).1=true∧qN a.lo≤qN (midI a p).1∧qN (midI a p).1≤qN a.hi:=by
 have hr:=x0i a p
 unfold midI at h hr⊢
 split
 · rename_i hh
   rw [if_pos hh] at h hr
   have hq:=q0t hh.1
   rw [X0g,X0g] at hq
   refine⟨hh.1,hr,?_⟩
   have c:=canI hh.1
   split
   · exact⟨Rat.le_refl,hq⟩
   · rename_i h2
     rw [if_neg h2] at h
     have h3:=(J0f (Z0a (v0y (K0r c.1 c.2)) _ _) h).2
     have h4: ¬qV (midV a p.toNat)<qV (ofN a.lo):=fun e=>h2 ((X1p _ _).2 e)
     have h5:=Y0e (y0a (J0p (ofN a.lo) (ofN a.hi))) p.toNat
     have h6:=V2q (J0p (ofN a.lo) (ofN a.hi))
     rw [K0z,X0g,X0g] at h6
     rw [X0g] at h4
     unfold midV at h4⊢
     rw [h3]
     exact⟨by grind,by grind⟩
 · rename_i hh
   rw [if_neg hh] at h;cases h
end Go.Pv
end
section
/-How long values get. No program in it. -/
namespace Go.Pv
def bdV (n k:Nat) (v:Vl):Prop:=Q0j v.m≤n∧ -(k:Int)≤v.e∧v.e≤k
theorem bdV.mono {n k n' k':Nat} {v:Vl} (h:bdV n k v) (h1:n≤n') (h2:k≤k'):bdV n' k' v:=⟨by have:=h.1;omega,by have:=h.2.1;omega,by have:=h.2.2;omega⟩
theorem k0c {x:Nm} (h:Q0f x=true):bdV 4096 65536 (ofN x):=by
 have hb:=Z1r h
 have h1:=v0z x.w
 exact⟨by show Q0j (valW x.w)≤_;unfold U0g at h1;have:=hb.1;omega,hb.2.1,hb.2.2⟩
theorem K1b {neg:Bool} {m:Nat} {e:Int} {n k:Nat} (h1:Q0j m≤n) (h2: -(k:Int)≤e) (h3:e≤k):bdV n (k+n) (oddV neg m e):=by
 unfold oddV
 split
 · exact⟨by rw [K0t];omega,by simp only;omega,by simp only;omega⟩
 · have ht:=q0k m
   have hl:=J0w (Nat.div_le_self m (2^tz m))
   exact⟨by simp only;omega,by simp only;omega,by simp only;omega⟩
theorem G1k {a b:Vl} {n k:Nat} (ha:bdV n k a) (hb:bdV n k b):bdV (n+2*k+1) (n+3*k+1) (J0p a b):=by
 unfold J0p
 split
 · exact hb.mono (by omega) (by omega)
 · split
   · exact ha.mono (by omega) (by omega)
   · have h1:=X0y a.m (a.e-min a.e b.e).toNat
     have h2:=X0y b.m (b.e-min a.e b.e).toNat
     have h3:=W0e (a.m*2^(a.e-min a.e b.e).toNat) (b.m*2^(b.e-min a.e b.e).toNat)
     obtain⟨a1,a2,a3⟩:=ha
     obtain⟨b1,b2,b3⟩:=hb
     have hk1:(a.e-min a.e b.e).toNat≤2*k:=by omega
     have hk2:(b.e-min a.e b.e).toNat≤2*k:=by omega
     have hm:(Z0x a*2^(a.e-min a.e b.e).toNat+Z0x b*2^(b.e-min a.e b.e).toNat).natAbs≤a.m*2^(a.e-min a.e b.e).toNat+b.m*2^(b.e-min a.e b.e).toNat:=by
      have e1: ∀(v:Vl) (j:Nat),(Z0x v*2^j).natAbs=v.m*2^j:=fun v j=>by
       rw [Int.natAbs_mul,Int.natAbs_pow]
       congr 1
       unfold Z0x;cases v.neg<;>simp
      have:=Int.natAbs_add_le (Z0x a*2^(a.e-min a.e b.e).toNat) (Z0x b*2^(b.e-min a.e b.e).toNat)
      rw [e1,e1] at this
      exact this
     have h4:=J0w hm
     have:=K1b (neg:=decide (Z0x a*2^(a.e-min a.e b.e).toNat+Z0x b*2^(b.e-min a.e b.e).toNat<0)) (m:=(Z0x a*2^(a.e-min a.e b.e).toNat+Z0x b*2^(b.e-min a.e b.e).toNat).natAbs) (e:=min a.e b.e) (n:=n+2*k+1) (k:=k) (by omega) (by omega) (by omega)
     exact this.mono (by omega) (by omega)
theorem k2t {a:Vl} {n k:Nat} (ha:bdV n k a):bdV n k (V0f a):=by
 unfold bdV;rw [Z1g,Z1h];exact ha
theorem y1y {a b:Vl} {n k:Nat} (ha:bdV n k a) (hb:bdV n k b):bdV (n+2*k+1) (n+3*k+1) (U0r a b):=G1k ha (k2t hb)
theorem k2u {a:Vl} {n k:Nat} (ha:bdV n k a):bdV n (k+1) (y0a a):=by
 unfold y0a
 split
 · exact ha.mono (by omega) (by omega)
 · exact⟨ha.1,by have:=ha.2.1;simp only;omega,by have:=ha.2.2;simp only;omega⟩
theorem K1a {a:Vl} {n k:Nat} (ha:bdV n k a) (p:Nat) (up:Bool):bdV (n+1) (k+2*n+1) (Z0h a p up):=by
 unfold Z0h
 split
 · exact ha.mono (by omega) (by omega)
 · have h1:=ha.1
   have h2:=J0w (Nat.div_le_self a.m (2^(Q0j a.m-p)))
   have h3:Q0j (a.m/2^(Q0j a.m-p)+(if a.m % 2^(Q0j a.m-p)≠0∧up≠a.neg then 1 else 0))≤n+1:=by
    have b1:Q0j 1=1:=rfl
    have h:=W0e (a.m/2^(Q0j a.m-p)) 1
    split
    · by_cases hq:Q0j (a.m/2^(Q0j a.m-p))=0
      · have hn:0<Q0j a.m:=by rename_i hh _;omega
        omega
      · omega
    · rw [Nat.add_zero];omega
   have:=K1b (neg:=a.neg) (e:=a.e+((Q0j a.m-p:Nat):Int)) (k:=k+n) h3 (by have:=ha.2.1;omega) (by have:=ha.2.2;omega)
   exact this.mono (by omega) (by omega)
theorem H0i {v:Vl} {n k:Nat} (h:bdV n k v) (hn:n≤1000000000000):(Q0d v.m).length≤1000000000000:=by
 have:=X0m v.m
 have:=h.1
 omega
end Go.Pv
end
section
/-A number of an interval,by parts of 8. No program in it. -/
namespace Go.Pv
def J3u (v:Vl):Vl:=if W0j v≠0 then { v with e:=v.e-3 } else v
def inV (a:Ivl) (k:Nat):Vl:=J3u (J0p (byV (ofN a.lo) (oddV false (8-k) 0)) (byV (ofN a.hi) (oddV false k 0)))
def inN (a:Ivl) (k:Nat):Nm:=if k=0 then a.lo else if k=8 then a.hi else if (numV (inV a k)).2≠0 then a.lo else(numV (inV a k)).1
theorem q2y (k:Nat):qV (oddV false k 0)=(k:Rat):=by
 rw [v0d,if_neg (by simp)]
 unfold qM
 rw [j1t]
 show((k:Int):Rat)*1=_
 rw [Rat.mul_one];rfl
theorem U1x {a:Ivl} {x:Nm} (ha:Q0l a=true) (hx:Q0f x=true) (h:memI (qN x) a):hasI a x=true:=by
 unfold hasI
 rw [ha,hx]
 simp only [Bool.true_and,Bool.and_eq_true,decide_eq_true_eq]
 exact⟨cmpN_le.2 h.1,cmpN_le.2 h.2⟩
theorem x2l {a:Ivl} {x:Nm} (h:hasI a x=true):Q0l a=true∧Q0f x=true∧memI (qN x) a:=by
 unfold hasI at h
 simp only [Bool.and_eq_true,decide_eq_true_eq] at h
 exact⟨h.1.1.1,h.1.1.2,cmpN_le.1 h.1.2,cmpN_le.1 h.2⟩
theorem v0h {v:Vl} {n k:Nat} (h:bdV n k v) (h1:n≤4096) (h2:k≤65536):(numV v).2=0:=by
 unfold numV
 split
 · rfl
 · rw [if_neg]
   have hl:=Q1z v.m
   have:=h.1;have:=h.2.1;have:=h.2.2
   omega
end Go.Pv
end
section
/-Small intervals:nothing that is reckoned of them fails. No program in it. -/
namespace Go.Pv
def smN (x:Nm):Prop:=Q0f x=true∧bdV 6 12 (ofN x)
def smI (a:Ivl):Prop:=Q0l a=true∧bdV 6 12 (ofN a.lo)∧bdV 6 12 (ofN a.hi)
theorem y1x {n k:Nat} :bdV n k (ofN default):=by
 refine⟨?_,?_,?_⟩
 · show Q0j 0≤n;rw [K0t];omega
 · show -(k:Int)≤0;omega
 · show(0:Int)≤k;omega
theorem v1p {neg:Bool} {w:List UInt64} {e:Int} (hw:Q0j (valW w)≤6) (h1: -6≤e) (h2:e≤6):smN (U0e neg w e).1:=by
 refine⟨y0q _ _ _,?_⟩
 unfold U0e
 split
 · exact y1x
 · split
   · exact y1x
   · have hb:=K1b (neg:=neg) (m:=valW w) (e:=e) (n:=6) (k:=6) hw (by omega) (by omega)
     have hf:=v0h hb (by omega) (by omega)
     have hc:canV (oddV neg (valW w) e):=by
      rename_i h0 _
      exact q0c _ _ _
     rw [(J0f hc hf).1]
     exact hb
theorem v2z :p2 2=4:=by
 have:=W2f 2
 rw [←show((2:Nat):Int)=2 from rfl,←this];rfl
end Go.Pv
end
section
/-The halves of a small box. No program in it. -/
namespace Go.Pv
theorem Q1s {α:Type} (l:List α) (i j:Nat) (x d:α) (hj:j<l.length):(l.set i x).getD j d=if i=j then x else l.getD j d:=by
 simp only [List.getD_eq_getElem?_getD,List.getElem?_set]
 split
 · rename_i h;subst h;simp [hj]
 · rfl
structure Cut (b:List Ivl) (i:Nat) (m:Nm):Prop where
 right:rightB b=true
 lt:i<b.length
 num:Q0f m=true
 lo:qN (b.getD i default).lo≤qN m
 hi:qN m≤qN (b.getD i default).hi
def loB (b:List Ivl) (i:Nat) (m:Nm):List Ivl:=b.set i ⟨(b.getD i default).lo,m⟩
def hiB (b:List Ivl) (i:Nat) (m:Nm):List Ivl:=b.set i ⟨m,(b.getD i default).hi⟩
theorem Cut.loI {b i m} (h:Cut b i m):Q0l ⟨(b.getD i default).lo,m⟩=true:=Y0g (Q0x (V0m h.right i h.lt)).1 h.num (cmpN_le.2 h.lo)
theorem Cut.hiI {b i m} (h:Cut b i m):Q0l ⟨m,(b.getD i default).hi⟩=true:=Y0g h.num (Q0x (V0m h.right i h.lt)).2.1 (cmpN_le.2 h.hi)
theorem w0k {b:List Ivl} {i:Nat} {x:Ivl} (h:rightB b=true) (hx:Q0l x=true):rightB (b.set i x)=true:=by
 have hl:=W0r h
 refine K0a (fun j hj=> ?_) (by rw [List.length_set];omega) (by rw [List.length_set];omega)
 rw [List.length_set] at hj
 rw [Q1s _ _ _ _ _ hj]
 split
 · exact hx
 · exact V0m h j hj
theorem U1u (a b:Nm):X0e a b=a∨X0e a b=b:=by unfold X0e;split<;>simp
theorem U1y (a b:Nm):X0d a b=a∨X0d a b=b:=by unfold X0d;split<;>simp
theorem z1e {a b:Nm} (ha:Q0f a=true) (hb:Q0f b=true) (h:qN a≤qN b):X0e a b=a:=by
 obtain⟨h1,h2,h3⟩:=U3k a b
 rcases U1u a b with e | e
 · exact e
 · rw [e] at h1⊢
   exact H1m hb ha (Rat.le_antisymm h1 h)
theorem z1g {a b:Nm} (ha:Q0f a=true) (hb:Q0f b=true) (h:qN a≤qN b):X0d a b=b:=by
 obtain⟨h1,h2,h3⟩:=U3l a b
 rcases U1y a b with e | e
 · rw [e] at h2⊢
   exact H1m ha hb (Rat.le_antisymm h h2)
 · exact e
theorem Cut.hull {b i m} (h:Cut b i m):q0h (loB b i m) (hiB b i m)=(b,0):=by
 have hl0:(loB b i m).length=(hiB b i m).length:=by unfold loB hiB;simp
 rw [j2e (show rightB (loB b i m)=true from w0k h.right h.loI) (show rightB (hiB b i m)=true from w0k h.right h.hiI) hl0]
 congr 1
 refine List.ext_getElem (by simp [loB]) fun j h1 h2=> ?_
 have hj:j<b.length:=h2
 have ri:=V0m h.right j hj
 obtain⟨r1,r2,_⟩:=Q0x ri
 have e:b[j]=b.getD j default:=by simp [List.getD_eq_getElem?_getD,hj]
 rw [List.getElem_map,List.getElem_range,e]
 unfold loB hiB
 rw [Q1s _ _ _ _ _ hj,Q1s _ _ _ _ _ hj]
 by_cases hij:i=j
 · subst hij
   rw [if_pos rfl,if_pos rfl]
   unfold K1q
   rw [if_pos ⟨h.loI,h.hiI⟩]
   show(⟨X0e (b.getD i default).lo m,X0d m (b.getD i default).hi⟩:Ivl)=_
   rw [z1e r1 h.num h.lo,z1g h.num r2 h.hi]
 · rw [if_neg hij,if_neg hij]
   unfold K1q
   rw [if_pos ⟨ri,ri⟩]
   show(⟨X0e (b.getD j default).lo (b.getD j default).lo,X0d (b.getD j default).hi (b.getD j default).hi⟩:Ivl)=_
   rw [z1e r1 r1 Rat.le_refl,z1g r2 r2 Rat.le_refl]
theorem y1k {b:List Ivl} {q:List Nm} {i:Nat} {x:Ivl} (h:hasB b q=true) (hx:Q0l x=true) (hi:hasI x (q.getD i default)=true):hasB (b.set i x) q=true:=by
 unfold hasB at h⊢
 simp only [Bool.and_eq_true,decide_eq_true_eq,List.all_eq_true] at h⊢
 refine⟨⟨w0k h.1.1 hx,by rw [List.length_set];exact h.1.2⟩,fun j hj=> ?_⟩
 have hj':j<b.length:=by simpa using hj
 rw [Q1s _ _ _ _ _ hj']
 split
 · rename_i e;subst e;exact hi
 · exact h.2 j (by simpa using hj')
theorem Cut.has {b i m q} (h:Cut b i m) (hq:hasB b q=true):(hasB (loB b i m) q||hasB (hiB b i m) q)=true:=by
 have hqi:hasI (b.getD i default) (q.getD i default)=true:=by
  unfold hasB at hq
  simp only [Bool.and_eq_true,List.all_eq_true] at hq
  exact hq.2 i (by simpa using h.lt)
 obtain⟨_,hr,h1,h2⟩:=x2l hqi
 rw [Bool.or_eq_true]
 by_cases hm:qN (q.getD i default)≤qN m
 · exact .inl (y1k hq h.loI (U1x h.loI hr ⟨h1,hm⟩))
 · exact .inr (y1k hq h.hiI (U1x h.hiI hr ⟨by grind,h2⟩))
end Go.Pv
end
