/- Parts of the walk: M23, M24, M25, M26, M27, M28, M29, M30, M31, M32, M33, M34, M35, M36. -/
import Derived.Test.YthichlfphjbadaaGreatZK
set_option linter.unusedVariables false
set_option linter.unusedSimpArgs false
section
/-Exact values and their rounding:what numbers that are not in one form stand for. No program in it. -/
namespace Go.Pv
def ofX (x:Nm):Vl:=oddV x.neg (valW x.w) x.exp
def Z0k (v:Vl) (p:Nat) (up:Bool):Vl:=
 if Q0l v.m≤p then v else
  oddV v.neg (v.m/2^(Q0l v.m-p)+(if v.m % 2^(Q0l v.m-p)≠0∧up≠v.neg then 1 else 0)) (v.e+((Q0l v.m-p:Nat):Int))
theorem z0p (neg:Bool) (e:Int):oddV neg 0 e=⟨false,0,0⟩:=by rw [oddV,if_pos rfl]
theorem k2m (neg:Bool) (m k:Nat) (e:Int):oddV neg (m*2^k) e=oddV neg m (e+k):=by
 by_cases h:m=0
 · subst h;rw [Nat.zero_mul,z0p,z0p]
 · have hp:m*2^k≠0:=Nat.mul_ne_zero h (Nat.ne_of_gt (Nat.two_pow_pos k))
   obtain⟨q,hq,hm⟩:=G1e m h
   have hmk:m*2^k=2^(tz m+k)*q:=by
    conv=>lhs;rw [hm]
    rw [Nat.pow_add,Nat.mul_right_comm]
   have ht:tz (m*2^k)=tz m+k:=by rw [hmk,y1j _ _ hq]
   unfold oddV
   rw [if_neg h,if_neg hp,ht]
   have e1:m*2^k/2^(tz m+k)=m/2^tz m:=by
    rw [hmk,Nat.mul_div_cancel_left _ (Nat.two_pow_pos _)]
    conv=>rhs;rw [hm]
    rw [y1j _ _ hq,Nat.mul_div_cancel_left _ (Nat.two_pow_pos _)]
   rw [e1]
   congr 1
   omega
theorem Q2u (neg:Bool) (m:Nat) (e:Int) (h:m % 2=1):oddV neg m e=⟨neg,m,e⟩:=by
 rw [oddV,if_neg (by omega),W2b h];simp
theorem K3g {x:Nm} (h:Q0f x=true):ofX x=ofN x:=by
 rcases H1d h with h1 | h1
 · exact Q2u _ _ _ h1
 · have h0:valW x.w=0:=h1
   have hw:x.w= []:=by
    refine Classical.byContradiction fun hw=> ?_
    have h2:=h
    unfold Q0f at h2
    rw [if_neg hw] at h2
    simp only [Bool.and_eq_true,decide_eq_true_eq] at h2
    have h3:=X1k x.w
    omega
   have h2:=h
   unfold Q0f at h2
   rw [if_pos hw] at h2
   simp at h2
   unfold ofX ofN
   rw [h0,z0p,h2.1,h2.2]
end Go.Pv
end
section
/-Exact sums and products,whatever form the numbers have. No program in it. -/
namespace Go.Pv
theorem G2c (neg:Bool) (m:Nat) (e:Int):oddV neg m e=mkV (if neg then -(m:Int) else(m:Int)) e:=by
 by_cases h:m=0
 · subst h
   rw [z0p]
   unfold mkV
   cases neg<;>simp [z0p]
 · unfold mkV
   cases neg
   · show oddV false m e=oddV (decide ((m:Int)<0)) (m:Int).natAbs e
     rw [decide_eq_false (by omega),Int.natAbs_natCast]
   · show oddV true m e=oddV (decide (-(m:Int)<0)) (-(m:Int)).natAbs e
     rw [decide_eq_true (by omega),Int.natAbs_neg,Int.natAbs_natCast]
theorem G2a (s:Int) (k:Nat) (e:Int):mkV (s*2^k) e=mkV s (e+k):=by
 unfold mkV
 have h1:(s*2^k).natAbs=s.natAbs*2^k:=by
  rw [Int.natAbs_mul,Int.natAbs_pow];rfl
 have h2:decide (s*2^k<0)=decide (s<0):=by
  have hp:=two_pow_pos k
  by_cases h:s<0
  · rw [decide_eq_true h,decide_eq_true (Int.mul_neg_of_neg_of_pos h hp)]
  · rw [decide_eq_false h,decide_eq_false (Int.not_lt.2 (Int.mul_nonneg (Int.not_lt.1 h) (Int.le_of_lt hp)))]
 rw [h1,h2,k2m]
theorem G2b (s e:Int) (h:s≠0): ∃k:Nat,Z0w (mkV s e)*2^k=s∧(mkV s e).e=e+k∧(mkV s e).m≠0:=by
 have h0:s.natAbs≠0:=by omega
 refine⟨tz s.natAbs,?_,?_,?_⟩
 · unfold mkV oddV Z0w
   rw [if_neg h0]
   simp only
   have h1:=W1s s.natAbs
   by_cases hs:s<0
   · rw [decide_eq_true hs,if_pos rfl,Int.neg_mul]
     have:((s.natAbs/2^tz s.natAbs:Nat):Int)*2^tz s.natAbs=(s.natAbs:Int):=by
      rw [show((2:Int)^tz s.natAbs)=((2^tz s.natAbs:Nat):Int) from by simp,←Int.natCast_mul,h1]
     rw [this];omega
   · rw [decide_eq_false hs,if_neg (by simp)]
     have:((s.natAbs/2^tz s.natAbs:Nat):Int)*2^tz s.natAbs=(s.natAbs:Int):=by
      rw [show((2:Int)^tz s.natAbs)=((2^tz s.natAbs:Nat):Int) from by simp,←Int.natCast_mul,h1]
     rw [this];omega
 · unfold mkV oddV;rw [if_neg h0]
 · unfold mkV oddV
   rw [if_neg h0]
   have:=H0i s.natAbs h0
   simp only;omega
def byV (a b:Vl):Vl:=if a.m=0∨b.m=0 then⟨false,0,0⟩ else⟨a.neg !=b.neg,a.m*b.m,a.e+b.e⟩
theorem K3h {a b:Nat} (ha:a % 2=1) (hb:b % 2=1):a*b % 2=1:=by rw [Nat.mul_mod,ha,hb]
end Go.Pv
end
section
/-Values as rational numbers. No program in it. -/
namespace Go.Pv
def p2 (e:Int):Rat:=(2:Rat)^e
theorem Q1y (e:Int):0<p2 e:=Rat.zpow_pos (by decide)
theorem Z4y (e:Int):p2 e≠0:=Rat.ne_of_gt (Q1y e)
theorem w0d (a b:Int):p2 (a+b)=p2 a*p2 b:=Rat.zpow_add (by decide) a b
theorem v1s :p2 0=1:=Rat.zpow_zero 2
theorem U2p (k:Nat):(((2:Int)^k:Int):Rat)=p2 k:=by
 unfold p2;rw [Rat.zpow_natCast]
 induction k with
 | zero=>rfl
 | succ k ih=>rw [Int.pow_succ,Rat.intCast_mul,ih,Rat.pow_succ];rfl
def qM (s e:Int):Rat:=(s:Rat)*p2 e
def qV (v:Vl):Rat:=qM (Z0w v) v.e
def qN (x:Nm):Rat:=qM (mant x) x.exp
theorem W0v (s:Int) (k:Nat) (e:Int):qM (s*2^k) e=qM s (e+k):=by
 unfold qM;rw [Rat.intCast_mul,U2p,w0d];grind
theorem Q3g (s t e:Int):qM (s+t) e=qM s e+qM t e:=by unfold qM;rw [Rat.intCast_add];grind
theorem Q3f (s t e f:Int):qM (s*t) (e+f)=qM s e*qM t f:=by unfold qM;rw [Rat.intCast_mul,w0d];grind
theorem J0p (e:Int):qM 0 e=0:=by unfold qM;rw [Rat.intCast_zero];grind
theorem J1u (s e:Int):qM (-s) e= -qM s e:=by unfold qM;rw [Rat.intCast_neg];grind
theorem qM_le {s t e:Int} :qM s e≤qM t e↔s≤t:=by
 unfold qM
 constructor
 · intro h
   exact Rat.intCast_le_intCast.1 (Rat.le_of_mul_le_mul_right h (Q1y e))
 · intro h
   exact Rat.mul_le_mul_of_nonneg_right (Rat.intCast_le_intCast.2 h) (Rat.le_of_lt (Q1y e))
theorem qM_lt {s t e:Int} :qM s e<qM t e↔s<t:=by
 rw [←Rat.not_le,qM_le];omega
theorem qM_eq {s t e:Int} :qM s e=qM t e↔s=t:=by
 constructor
 · intro h
   have h1:=(qM_le (s:=s) (t:=t) (e:=e)).1 (by rw [h];exact Rat.le_refl)
   have h2:=(qM_le (s:=t) (t:=s) (e:=e)).1 (by rw [h];exact Rat.le_refl)
   omega
 · rintro rfl;rfl
theorem j2l (s e g:Int) (h:g≤e):qM s e=qM (s*2^(e-g).toNat) g:=by
 rw [W0v];congr 1;omega
theorem J3r (s e:Int):qV (mkV s e)=qM s e:=by
 by_cases h:s=0
 · subst h
   rw [Z1t,J0p]
   exact J0p 0
 · obtain⟨k,k1,k2,k3⟩:=G2b s e h
   unfold qV
   rw [k2,←W0v,k1]
theorem w0a (neg:Bool) (m:Nat) (e:Int):qV (oddV neg m e)=qM (if neg then -(m:Int) else(m:Int)) e:=by rw [G2c,J3r]
theorem X0k (x:Nm):qV (ofN x)=qN x:=rfl
theorem y0y {v:Vl} (h:v.m=0):qV v=0:=by unfold qV;rw [Q1e h,J0p]
theorem V0e (a b:Vl):qV (J0l a b)=qV a+qV b:=by
 unfold J0l
 split
 · rename_i h;rw [y0y h];grind
 · split
   · rename_i h;rw [y0y h];grind
   · rw [J3r,Q3g,←j2l _ _ _ (by omega),←j2l _ _ _ (by omega)];rfl
theorem U0b (v:Vl):qV (V0m v)= -qV v:=by
 unfold qV;rw [Q1f,X1o,J1u]
theorem U0c (a b:Vl):qV (G0a a b)=qV a-qV b:=by
 unfold G0a;rw [V0e,U0b];grind
theorem k2y {a b:Vl} (ha:a.m≠0) (hb:b.m≠0):Z0w (byV a b)=Z0w a*Z0w b∧(byV a b).e=a.e+b.e:=by
 unfold byV
 rw [if_neg (by omega)]
 refine⟨?_,rfl⟩
 unfold Z0w
 cases a.neg<;>cases b.neg<;>simp [Int.neg_mul,Int.mul_neg]
theorem j0l (a b:Vl):qV (byV a b)=qV a*qV b:=by
 by_cases ha:a.m=0
 · rw [y0y ha,y0y (by unfold byV;rw [if_pos (.inl ha)])];grind
 · by_cases hb:b.m=0
   · rw [y0y hb,y0y (by unfold byV;rw [if_pos (.inr hb)])];grind
   · obtain⟨h1,h2⟩:=k2y ha hb
     unfold qV
     rw [h1,h2,Q3f]
theorem Y2a (m:Int):sgn m≤0↔m≤0:=by unfold sgn;split<;>(try split)<;>omega
theorem W2z (m:Int):sgn m<0↔m<0:=by unfold sgn;split<;>(try split)<;>omega
theorem x1o (a b:Vl):V0z a b≤0↔qV a≤qV b:=by
 unfold V0z
 have h:=U0c a b
 rw [x0r,Y2a]
 have h2:Z0w (G0a a b)≤0↔qV (G0a a b)≤0:=by
  rw [←J0p (G0a a b).e];exact qM_le.symm
 rw [h2,h];grind
theorem K1a (a b:Vl):V0z a b<0↔qV a<qV b:=by
 unfold V0z
 have h:=U0c a b
 rw [x0r,W2z]
 have h2:Z0w (G0a a b)<0↔qV (G0a a b)<0:=by
  rw [←J0p (G0a a b).e];exact qM_lt.symm
 rw [h2,h];grind
theorem cmpN_le {a b:Nm} :cmpN a b≤0↔qN a≤qN b:=by rw [←Q1c,x1o];rfl
theorem cmpN_lt {a b:Nm} :cmpN a b<0↔qN a<qN b:=by rw [←Q1c,K1a];rfl
theorem cmpN_ge {a b:Nm} :0≤cmpN a b↔qN b≤qN a:=by
 have:=cmpN_lt (a:=a) (b:=b)
 rw [←Rat.not_lt,←this];omega
theorem cmpN_gt {a b:Nm} :0<cmpN a b↔qN b<qN a:=by
 have:=cmpN_le (a:=a) (b:=b)
 rw [←Rat.not_le,←this];omega
theorem y1o (a:Vl):W0t a<0↔qV a<0:=by
 rw [x0r,W2z,←J0p a.e];exact qM_lt.symm
theorem y1p (a:Vl):W0t a≤0↔qV a≤0:=by
 rw [x0r,Y2a,←J0p a.e];exact qM_le.symm
def canV (v:Vl):Prop:=v.m % 2=1∨v=⟨false,0,0⟩
theorem q0r (neg:Bool) (m:Nat) (e:Int):canV (oddV neg m e):=by
 unfold oddV canV
 split
 · exact .inr rfl
 · exact .inl (H0i m (by assumption))
theorem W3w (s e:Int):canV (mkV s e):=q0r _ _ _
theorem w2w (x:Nm):canV (ofX x):=q0r _ _ _
theorem X0u {x:Nm} (h:Q0f x=true):canV (ofN x):=by rw [←K3g h];exact w2w x
theorem K0w {a b:Vl} (ha:canV a) (hb:canV b):canV (J0l a b):=by
 unfold J0l
 split
 · exact hb
 · split
   · exact ha
   · exact W3w _ _
theorem w0z {a:Vl} (ha:canV a):canV (V0m a):=by
 rcases ha with h | rfl
 · exact .inl (by rw [X1n];exact h)
 · exact .inr rfl
theorem G0i {a b:Vl} (ha:canV a) (hb:canV b):canV (G0a a b):=K0w ha (w0z hb)
theorem H1z {a b:Vl} (ha:canV a) (hb:canV b):canV (byV a b):=by
 rcases ha with h | rfl
 · rcases hb with k | rfl
   · exact .inl (by unfold byV;rw [if_neg (by omega)];exact K3h h k)
   · exact .inr (by unfold byV;rw [if_pos (.inr rfl)])
 · exact .inr (by unfold byV;rw [if_pos (.inl rfl)])
theorem Z0c {v:Vl} (h:canV v) (p:Nat) (up:Bool):canV (Z0k v p up):=by
 unfold Z0k
 split
 · exact h
 · exact q0r _ _ _
theorem Q1n {v:Vl} (h:canV v):okV v:=by
 rcases h with h | rfl
 · exact .inl h
 · exact .inr rfl
theorem k1i {v:Vl} (h:canV v):v=mkV (Z0w v) v.e:=by
 rcases h with h | rfl
 · have:oddV v.neg v.m v.e=v:=by rw [Q2u _ _ _ h]
   conv=>lhs;rw [←this]
   rw [G2c];rfl
 · rw [show Z0w ⟨false,0,0⟩=0 from rfl,Z1t]
theorem q3j {s e t f:Int} (h:qM s e=qM t f):mkV s e=mkV t f:=by
 have h1:mkV s e=mkV (s*2^(e-min e f).toNat) (min e f):=by rw [G2a];congr 1;omega
 have h2:mkV t f=mkV (t*2^(f-min e f).toNat) (min e f):=by rw [G2a];congr 1;omega
 rw [j2l s e (min e f) (by omega),j2l t f (min e f) (by omega),qM_eq] at h
 rw [h1,h2,h]
theorem w2x {v w:Vl} (hv:canV v) (hw:canV w) (h:qV v=qV w):v=w:=by
 rw [k1i hv,k1i hw]
 exact q3j h
theorem x0t (neg:Bool) (m d:Nat) (c:Nat) (e:Int):qM (if neg then -((m/2^d+c:Nat):Int) else((m/2^d+c:Nat):Int)) (e+(d:Int))=qM (if neg then -(((m/2^d+c)*2^d:Nat):Int) else(((m/2^d+c)*2^d:Nat):Int)) e:=by
 rw [←W0v]
 congr 1
 cases neg
 · simp
 · simp [Int.neg_mul]
theorem Y0n (v:Vl) (p:Nat):qV (Z0k v p false)≤qV v:=by
 unfold Z0k
 split
 · exact Rat.le_refl
 · rw [w0a,x0t]
   unfold qV Z0w
   rw [qM_le]
   generalize Q0l v.m-p=d
   have h1:=Nat.div_add_mod v.m (2^d)
   have h2:=Nat.mod_lt v.m (Nat.two_pow_pos d)
   rw [Nat.mul_comm] at h1
   rw [Nat.add_mul]
   cases v.neg
   · rw [if_neg (by simp),if_neg (by simp),if_neg (by simp),Nat.zero_mul];omega
   · rw [if_pos rfl,if_pos rfl]
     by_cases h3:v.m % 2^d=0
     · rw [if_neg (by simp [h3]),Nat.zero_mul];omega
     · rw [if_pos ⟨h3,by simp⟩,Nat.one_mul];omega
theorem H0l (v:Vl) (p:Nat):qV v≤qV (Z0k v p true):=by
 unfold Z0k
 split
 · exact Rat.le_refl
 · rw [w0a,x0t]
   unfold qV Z0w
   rw [qM_le]
   generalize Q0l v.m-p=d
   have h1:=Nat.div_add_mod v.m (2^d)
   have h2:=Nat.mod_lt v.m (Nat.two_pow_pos d)
   rw [Nat.mul_comm] at h1
   rw [Nat.add_mul]
   cases v.neg
   · rw [if_neg (by simp),if_neg (by simp)]
     by_cases h3:v.m % 2^d=0
     · rw [if_neg (by simp [h3]),Nat.zero_mul];omega
     · rw [if_pos ⟨h3,by simp⟩,Nat.one_mul];omega
   · rw [if_pos rfl,if_pos rfl,if_neg (by simp),Nat.zero_mul];omega
theorem J0f {v:Vl} (hv:canV v) (h:(numV v).2=0):ofN (numV v).1=v∧qN (numV v).1=qV v:=by
 unfold numV at h⊢
 split
 · rename_i h0
   rcases hv with hv | rfl
   · omega
   · exact⟨rfl,rfl⟩
 · rename_i h0
   rw [if_neg h0] at h
   split
   · rename_i h1;rw [if_pos h1] at h;cases h
   · have e:ofN ⟨v.neg,v.e,X0c v.m⟩=v:=by unfold ofN;rw [J0z]
     exact⟨e,by rw [←X0k,e]⟩
theorem Q2v {x:Nm} (h:Q0f x=true):numV (ofN x)=(x,0):=by
 unfold numV ofN
 simp only
 have h2:=h
 unfold Q0f at h2
 by_cases hw:x.w= []
 · rw [if_pos hw] at h2
   simp at h2
   rw [if_pos (by rw [hw];rfl)]
   congr 1
   obtain⟨n,e,w⟩:=x
   simp at hw h2
   obtain⟨rfl,rfl⟩:=h2
   subst hw;rfl
 · rw [if_neg hw] at h2
   simp only [Bool.and_eq_true,decide_eq_true_eq] at h2
   rw [if_neg (by have:=(W0b h);intro e;exact hw (this.1 e)),X0l,y0o h,if_neg (by omega)]
end Go.Pv
end
section
/-What sums,differences and products of intervals come to. No program in it. -/
namespace Go.Pv
theorem J0d {a b:Rat} (ha:0≤a) (hb:0≤b):0≤a*b:=Rat.mul_nonneg ha hb
theorem W3m {x y u v X U:Rat} (h1:x≤X) (h2:X≤y) (h3:u≤U) (h4:U≤v) (hx:0≤x) (hu:0≤u):x*u≤X*U:=by
 have a1:=J0d (a:=X-x) (b:=u) (by grind) hu
 have a2:=J0d (a:=X) (b:=U-u) (by grind) (by grind)
 grind
theorem q2c {x y u v X U:Rat} (h1:x≤X) (h2:X≤y) (h3:u≤U) (h4:U≤v) (hx:0≤X) (hu:u≤0):y*u≤X*U:=by
 have a1:=J0d (a:=y-X) (b:= -u) (by grind) (by grind)
 have a2:=J0d (a:=X) (b:=U-u) (by grind) (by grind)
 grind
theorem q2b {x y u v X U:Rat} (h1:x≤X) (h2:X≤y) (h3:u≤U) (h4:U≤v) (hx:x≤0) (hu:0≤U):x*v≤X*U:=by
 have a1:=J0d (a:= -x) (b:=v-U) (by grind) (by grind)
 have a2:=J0d (a:=X-x) (b:=U) (by grind) (by grind)
 grind
theorem W3l {x y u v X U:Rat} (h1:x≤X) (h2:X≤y) (h3:u≤U) (h4:U≤v) (hx:y≤0) (hu:v≤0):y*v≤X*U:=by
 have a1:=J0d (a:=y-X) (b:= -v) (by grind) (by grind)
 have a2:=J0d (a:= -X) (b:=v-U) (by grind) (by grind)
 grind
theorem J3w {a b:Rat} (ha:a≤0) (hb:b≤0):0≤a*b:=by
 have:=J0d (a:= -a) (b:= -b) (by grind) (by grind)
 grind
theorem J3x {a b:Rat} (ha:0≤a) (hb:b≤0):a*b≤0:=by
 have:=J0d (a:=a) (b:= -b) ha (by grind)
 grind
theorem k2s {a b:Rat} (ha:a≤0) (hb:0≤b):a*b≤0:=by
 have:=J0d (a:= -a) (b:=b) (by grind) hb
 grind
def z0u (x y u v:Vl):Vl:=
 if 0≤W0t x∧0≤W0t u then byV x u else if 0≤W0t x then byV y u else if 0≤W0t u then byV x v else
 if W0t y≤0∧W0t v≤0 then byV y v else if V0z (byV y u) (byV x v)<0 then byV y u else byV x v
def j0q (x y u v:Vl):Vl:=V0m (z0u (V0m y) (V0m x) u v)
theorem y1q (a:Vl):0≤W0t a↔0≤qV a:=by
 have:=y1o a
 rw [←Rat.not_lt,←this];omega
theorem x1w {x y u v:Vl} (hx:qV x≤qV y) (hu:qV u≤qV v) {X U:Rat} (h1:qV x≤X) (h2:X≤qV y) (h3:qV u≤U) (h4:U≤qV v):qV (z0u x y u v)≤X*U:=by
 unfold z0u
 simp only [y1q,y1p,K1a,j0l]
 split
 · rename_i h;rw [j0l];exact W3m h1 h2 h3 h4 h.1 h.2
 · rename_i n1
   split
   · rename_i h;rw [j0l];exact q2c h1 h2 h3 h4 (by grind) (by grind)
   · rename_i n2
     split
     · rename_i h;rw [j0l];exact q2b h1 h2 h3 h4 (by grind) (by grind)
     · rename_i n3
       split
       · rename_i h;rw [j0l];exact W3l h1 h2 h3 h4 h.1 h.2
       · rename_i n4
         have key:qV y*qV u≤X*U∨qV x*qV v≤X*U:=by
          by_cases hX:0≤X
          · exact .inl (q2c h1 h2 h3 h4 hX (by grind))
          · by_cases hU:0≤U
            · exact .inr (q2b h1 h2 h3 h4 (by grind) hU)
            · have p:=J3w (a:=X) (b:=U) (by grind) (by grind)
              by_cases hy:0≤qV y
              · have:=J3x (a:=qV y) (b:=qV u) hy (by grind);exact .inl (by grind)
              · have:=k2s (a:=qV x) (b:=qV v) (by grind) (by grind);exact .inr (by grind)
         split
         · rename_i h;rw [j0l];grind
         · rename_i h;rw [j0l];grind
theorem j0d (x y u v:Vl):z0u x y u v=byV x u∨z0u x y u v=byV x v∨z0u x y u v=byV y u∨z0u x y u v=byV y v:=by
 unfold z0u
 repeat' split
 all_goals simp
theorem H2c {x y u v:Vl} (hx:qV x≤qV y) (hu:qV u≤qV v) {X U:Rat} (h1:qV x≤X) (h2:X≤qV y) (h3:qV u≤U) (h4:U≤qV v):X*U≤qV (j0q x y u v):=by
 unfold j0q
 have:=x1w (x:=V0m y) (y:=V0m x) (u:=u) (v:=v) (X:= -X) (U:=U) (by rw [U0b,U0b];grind) hu (by rw [U0b];grind) (by rw [U0b];grind) h3 h4
 rw [U0b];grind
theorem U1b (x y u v:Vl):qV (j0q x y u v)=qV x*qV u∨qV (j0q x y u v)=qV x*qV v∨qV (j0q x y u v)=qV y*qV u∨qV (j0q x y u v)=qV y*qV v:=by
 unfold j0q
 rw [U0b]
 rcases j0d (V0m y) (V0m x) u v with h | h | h | h
 all_goals rw [h,j0l,U0b];grind
theorem U1t {x y u v:Vl} (hx:canV x) (hy:canV y) (hu:canV u) (hv:canV v):canV (z0u x y u v):=by
 rcases j0d x y u v with h | h | h | h
 all_goals rw [h];exact H1z (by assumption) (by assumption)
theorem V2b {x y u v:Vl} (hx:canV x) (hy:canV y) (hu:canV u) (hv:canV v):canV (j0q x y u v):=w0z (U1t (w0z hy) (w0z hx) hu hv)
def exV (k:Nat) (a b:Vl):Vl:=if k=0 then J0l a b else if k=1 then G0a a b else byV a b
def exQ (k:Nat) (a b:Rat):Rat:=if k=0 then a+b else if k=1 then a-b else a*b
theorem exQ0 (a b:Rat):exQ 0 a b=a+b:=by simp [exQ]
theorem exQ1 (a b:Rat):exQ 1 a b=a-b:=by simp [exQ]
theorem exQ2 (a b:Rat):exQ 2 a b=a*b:=by simp [exQ]
theorem J3s (k:Nat) (a b:Vl):qV (exV k a b)=exQ k (qV a) (qV b):=by
 unfold exV exQ
 split
 · exact V0e a b
 · split
   · exact U0c a b
   · exact j0l a b
theorem V1j (k:Nat) {a b:Vl} (ha:canV a) (hb:canV b):canV (exV k a b):=by
 unfold exV
 split
 · exact K0w ha hb
 · split
   · exact G0i ha hb
   · exact H1z ha hb
def Z0t (p:Int):Bool:=decide (8≤p)&&decide (p≤256)
def U0k (k:Nat) (a b:Nm) (p:Int) (up:Bool):Nm×Int:=if Q0f a=true∧Q0f b=true∧Z0t p=true then numV (Z0k (exV k (ofN a) (ofN b)) p.toNat up) else(default,1)
def strN (k:Nat) (a b:Nm):Nm×Int:=if Q0f a=true∧Q0f b=true then numV (exV k (ofN a) (ofN b)) else(default,1)
def X0y (x:Nm) (k:Int):Nm×Int:=if Q0f x=true then(if x.w= [] then(x,0) else if k< -131072∨131072<k then(default,2) else numV ⟨x.neg,valW x.w,x.exp+k⟩) else(default,1)
def j0n (lo hi:Vl):Ivl×Int:=if (numV lo).2=0∧(numV hi).2=0 then(⟨(numV lo).1,(numV hi).1⟩,0) else(default,2)
def loV (k:Nat) (x y u v:Vl):Vl:=if k=0 then J0l x u else if k=1 then G0a x v else z0u x y u v
def hiV (k:Nat) (x y u v:Vl):Vl:=if k=0 then J0l y v else if k=1 then G0a y u else j0q x y u v
def opI (k:Nat) (a b:Ivl) (p:Int):Ivl×Int:=
 if Q0n a=true∧Q0n b=true∧Z0t p=true then j0n (Z0k (loV k (ofN a.lo) (ofN a.hi) (ofN b.lo) (ofN b.hi)) p.toNat false) (Z0k (hiV k (ofN a.lo) (ofN a.hi) (ofN b.lo) (ofN b.hi)) p.toNat true) else(default,1)
theorem loV0 (x y u v:Vl):loV 0 x y u v=J0l x u:=by simp [loV]
theorem hiV0 (x y u v:Vl):hiV 0 x y u v=J0l y v:=by simp [hiV]
theorem loV1 (x y u v:Vl):loV 1 x y u v=G0a x v:=by simp [loV]
theorem hiV1 (x y u v:Vl):hiV 1 x y u v=G0a y u:=by simp [hiV]
theorem Q3n (k:Nat) {x y u v:Vl} (hx:qV x≤qV y) (hu:qV u≤qV v) {X U:Rat} (h1:qV x≤X) (h2:X≤qV y) (h3:qV u≤U) (h4:U≤qV v):qV (loV k x y u v)≤exQ k X U:=by
 unfold loV exQ
 split
 · rw [V0e];grind
 · split
   · rw [U0c];grind
   · exact x1w hx hu h1 h2 h3 h4
theorem Q3o (k:Nat) {x y u v:Vl} (hx:qV x≤qV y) (hu:qV u≤qV v) {X U:Rat} (h1:qV x≤X) (h2:X≤qV y) (h3:qV u≤U) (h4:U≤qV v):exQ k X U≤qV (hiV k x y u v):=by
 unfold hiV exQ
 split
 · rw [V0e];grind
 · split
   · rw [U0c];grind
   · exact H2c hx hu h1 h2 h3 h4
theorem V1h (k:Nat) {x y u v:Vl} (hx:canV x) (hy:canV y) (hu:canV u) (hv:canV v):canV (loV k x y u v):=by
 unfold loV
 split
 · exact K0w hx hu
 · split
   · exact G0i hx hv
   · exact U1t hx hy hu hv
theorem V1i (k:Nat) {x y u v:Vl} (hx:canV x) (hy:canV y) (hu:canV u) (hv:canV v):canV (hiV k x y u v):=by
 unfold hiV
 split
 · exact K0w hy hv
 · split
   · exact G0i hy hu
   · exact V2b hx hy hu hv
theorem z0l {x:Ivl} (h:Q0n x=true):qV (ofN x.lo)≤qV (ofN x.hi):=cmpN_le.1 (Z0a h).2.2
theorem k0t {lo hi:Vl} (h1:canV lo) (h2:canV hi) (h:qV lo≤qV hi):Q0n (j0n lo hi).1=true:=by
 unfold j0n
 split
 · rename_i hh
   exact V0h (J0n (Q1n h1)) (J0n (Q1n h2)) (cmpN_le.2 (by rw [(J0f h1 hh.1).2,(J0f h2 hh.2).2];exact h))
 · decide
theorem K3r (k:Nat) {a b:Ivl} (ha:Q0n a=true) (hb:Q0n b=true) (p:Nat):
 qV (Z0k (loV k (ofN a.lo) (ofN a.hi) (ofN b.lo) (ofN b.hi)) p false)≤qV (Z0k (hiV k (ofN a.lo) (ofN a.hi) (ofN b.lo) (ofN b.hi)) p true):=by
 have h1:=Y0n (loV k (ofN a.lo) (ofN a.hi) (ofN b.lo) (ofN b.hi)) p
 have h2:=H0l (hiV k (ofN a.lo) (ofN a.hi) (ofN b.lo) (ofN b.hi)) p
 have h3:=Q3n k (z0l ha) (z0l hb) Rat.le_refl (z0l ha) Rat.le_refl (z0l hb)
 have h4:=Q3o k (z0l ha) (z0l hb) Rat.le_refl (z0l ha) Rat.le_refl (z0l hb)
 grind
theorem canI {x:Ivl} (h:Q0n x=true):canV (ofN x.lo)∧canV (ofN x.hi):=⟨X0u (Z0a h).1,X0u (Z0a h).2.1⟩
theorem K1b (k:Nat) (a b:Ivl) (p:Int):Q0n (opI k a b p).1=true:=by
 unfold opI
 split
 · rename_i h
   have ca:=canI h.1
   have cb:=canI h.2.1
   exact k0t (Z0c (V1h k ca.1 ca.2 cb.1 cb.2) _ _) (Z0c (V1i k ca.1 ca.2 cb.1 cb.2) _ _) (K3r k h.1 h.2.1 _)
 · decide
def memI (X:Rat) (a:Ivl):Prop:=qN a.lo≤X∧X≤qN a.hi
theorem K3c (k:Nat) {a b:Ivl} {p:Int} (h:(opI k a b p).2=0) {X U:Rat} (hX:memI X a) (hU:memI U b):memI (exQ k X U) (opI k a b p).1:=by
 unfold opI at h⊢
 split
 · rename_i hr
   rw [if_pos hr] at h
   have ca:=canI hr.1
   have cb:=canI hr.2.1
   unfold j0n at h⊢
   split
   · rename_i hh
     have h1:=(J0f (Z0c (V1h k ca.1 ca.2 cb.1 cb.2) _ _) hh.1).2
     have h2:=(J0f (Z0c (V1i k ca.1 ca.2 cb.1 cb.2) _ _) hh.2).2
     have h3:=Q3n k (z0l hr.1) (z0l hr.2.1) hX.1 hX.2 hU.1 hU.2
     have h4:=Q3o k (z0l hr.1) (z0l hr.2.1) hX.1 hX.2 hU.1 hU.2
     have h5:=Y0n (loV k (ofN a.lo) (ofN a.hi) (ofN b.lo) (ofN b.hi)) p.toNat
     have h6:=H0l (hiV k (ofN a.lo) (ofN a.hi) (ofN b.lo) (ofN b.hi)) p.toNat
     exact⟨by rw [h1];grind,by rw [h2];grind⟩
   · rename_i hh;rw [if_neg hh] at h;cases h
 · rename_i hr;rw [if_neg hr] at h;cases h
end Go.Pv
end
section
/-Exact sums and products of numbers in any form,and how long they get. No program in it. -/
namespace Go.Pv
def bd (n k:Nat) (x:Nm):Prop:=x.w.length≤n∧ -(k:Int)≤x.exp∧x.exp≤k
theorem bd.mono {n k n' k':Nat} {x:Nm} (h:bd n k x) (h1:n≤n') (h2:k≤k'):bd n' k' x:=⟨by have:=h.1;omega,by have:=h.2.1;omega,by have:=h.2.2;omega⟩
theorem J1b {x:Nm} (h:Q0f x=true):bd 64 65536 x:=by
 unfold Q0f at h
 by_cases hw:x.w= []
 · rw [if_pos hw] at h
   simp at h
   exact⟨by rw [hw];simp,by rw [h.2];omega,by rw [h.2];omega⟩
 · rw [if_neg hw] at h
   simp only [Bool.and_eq_true,decide_eq_true_eq] at h
   exact⟨h.1.1.1.2,h.1.2,h.2⟩
end Go.Pv
end
section
/-The right number of words by a power of two,rounded or not. No program in it. -/
namespace Go.Pv
def mkX (neg:Bool) (w:List UInt64) (e:Int):Nm×Int:=numV (oddV neg (valW w) e)
def rndX (x:Nm) (p:Nat) (up:Bool):Nm:=
 if U0p x.w≤p then x else⟨x.neg,x.exp+((U0p x.w-p:Nat):Int),X0c (valW x.w/2^(U0p x.w-p)+(if tz (valW x.w)<U0p x.w-p∧up≠x.neg then 1 else 0))⟩
end Go.Pv
end
section
/-Intervals:has,meet,middle,width. No program in it. -/
namespace Go.Pv
def hasI (a:Ivl) (x:Nm):Bool:=Q0n a&&Q0f x&&decide (cmpN a.lo x≤0)&&decide (cmpN x a.hi≤0)
def U4c (lo hi:Nm):Ivl×Int:=if Q0n ⟨lo,hi⟩=true then(⟨lo,hi⟩,0) else(default,1)
def Q1g (v:Vl):Vl:=if v.m=0 then v else { v with e:=v.e-1 }
def midV (a:Ivl) (p:Nat):Vl:=Z0k (Q1g (J0l (ofN a.lo) (ofN a.hi))) p false
def midI (a:Ivl) (p:Int):Nm×Int:=if Q0n a=true∧Z0t p=true then(if V0z (midV a p.toNat) (ofN a.lo)<0 then(a.lo,0) else numV (midV a p.toNat)) else(default,1)
def K0m (a:Ivl) (p:Int):Nm×Int:=if Q0n a=true∧Z0t p=true then numV (Z0k (G0a (ofN a.hi) (ofN a.lo)) p.toNat true) else(default,1)
theorem q3d :p2 1=2:=by
 have:=U2p 1
 rw [←show((1:Nat):Int)=1 from rfl,←this];rfl
theorem Y2y (s e:Int):qM s (e-1)*2=qM s e:=by
 unfold qM
 have h:=w0d (e-1) 1
 rw [show e-1+1=e from by omega,q3d] at h
 rw [h];grind
theorem Y2x (v:Vl):qV (Q1g v)*2=qV v:=by
 unfold Q1g
 split
 · rename_i h;rw [y0y h];grind
 · exact Y2y (Z0w v) v.e
theorem y0b {v:Vl} (h:canV v):canV (Q1g v):=by
 unfold Q1g
 split
 · exact h
 · rename_i h0
   rcases h with h | rfl
   · exact .inl h
   · exact absurd rfl h0
theorem X3n {a b:Rat} (h:a*2=b*2):a=b:=by grind
theorem z1a {x y:Nm} (hx:Q0f x=true) (hy:Q0f y=true) (h:qN x=qN y):x=y:=by
 have h1:=w2x (X0u hx) (X0u hy) (by rw [X0k,X0k,h])
 have h2:=Q2v hx
 rw [h1,Q2v hy] at h2
 exact(congrArg Prod.fst h2).symm
theorem H3r (a b:Nm):qN (X0j a b)≤qN a∧qN (X0j a b)≤qN b∧(qN (X0j a b)=qN a∨qN (X0j a b)=qN b):=by
 have h1:=cmpN_le.1 (Y1w a b)
 have h2:=cmpN_le.1 (K2g a b)
 refine⟨h1,h2,?_⟩
 unfold X0j
 split
 · exact .inr rfl
 · exact .inl rfl
theorem H3s (a b:Nm):qN a≤qN (X0h a b)∧qN b≤qN (X0h a b)∧(qN (X0h a b)=qN a∨qN (X0h a b)=qN b):=by
 have h1:=cmpN_le.1 (U1c a b)
 have h2:=cmpN_le.1 (K2m a b)
 refine⟨h1,h2,?_⟩
 unfold X0h
 split
 · exact .inr rfl
 · exact .inl rfl
end Go.Pv
end
section
/-What boxes are reckoned to. No program in it. -/
namespace Go.Pv
def opB (k:Nat) (a b:List Ivl) (p:Int):List Ivl×Int:=if rightB a=true∧rightB b=true∧a.length=b.length∧Z0t p=true then W0u (fun i x=>opI k x (b.getD i default) p) 0 a [] else([],1)
def G0m (x:Ivl) (b:List Ivl) (p:Int):List Ivl×Int:=if rightB b=true∧Q0n x=true∧Z0t p=true then W0u (fun _ y=>opI 2 x y p) 0 b [] else([],1)
def midB (b:List Ivl) (p:Int):List Nm×Int:=if rightB b=true∧Z0t p=true then W0u (fun _ a=>midI a p) 0 b [] else([],1)
def hasB (b:List Ivl) (q:List Nm):Bool:=rightB b&&decide (q.length=b.length)&&(List.range b.length).all fun i=>hasI (b.getD i default) (q.getD i default)
def ofB (q:List Nm):List Ivl:=q.map fun x=>⟨x,x⟩
def W0c (b:List Ivl) (p:Int):List Nm×Int:=if rightB b=true∧Z0t p=true then W0u (fun _ a=>K0m a p) 0 b [] else([],1)
def amax (l:List Nm):Nat→Nat
 | 0=>0
 | n+1=>if cmpR (l.getD n default) (l.getD (amax l n) default)>0 then n else amax l n
def Y4w (b:List Ivl) (p:Int):Nm×Int:=if (W0c b p).2=0 then((W0c b p).1.getD (amax (W0c b p).1 b.length) default,0) else(default,(W0c b p).2)
def H0h (a:Ivl) (p:Int):Ivl×Int:=
 if (K0m a p).2≠0 then(default,(K0m a p).2) else if (X0y (K0m a p).1 (-2)).2≠0 then(default,(X0y (K0m a p).1 (-2)).2) else
 if (U0k 1 a.lo (X0y (K0m a p).1 (-2)).1 p false).2≠0∨(U0k 0 a.hi (X0y (K0m a p).1 (-2)).1 p true).2≠0 then(default,2) else
 (⟨(U0k 1 a.lo (X0y (K0m a p).1 (-2)).1 p false).1,(U0k 0 a.hi (X0y (K0m a p).1 (-2)).1 p true).1⟩,0)
def k0x (b:List Ivl) (p:Int):List Ivl×Int:=if rightB b=true∧Z0t p=true then W0u (fun _ a=>H0h a p) 0 b [] else([],1)
def Y4v (b:List Ivl) (at':Nat) (x:Ivl):List Ivl:=b.set at' x
def W4v (b:List Ivl) (p:Int):(List Ivl×List Ivl)×Int:=
 if (W0c b p).2≠0 then(([],[]),(W0c b p).2) else
 if (midI (b.getD (amax (W0c b p).1 b.length) default) p).2≠0 then(([],[]),(midI (b.getD (amax (W0c b p).1 b.length) default) p).2) else
 ((b.set (amax (W0c b p).1 b.length) ⟨(b.getD (amax (W0c b p).1 b.length) default).lo,(midI (b.getD (amax (W0c b p).1 b.length) default) p).1⟩,
  b.set (amax (W0c b p).1 b.length) ⟨(midI (b.getD (amax (W0c b p).1 b.length) default) p).1,(b.getD (amax (W0c b p).1 b.length) default).hi⟩),0)
theorem k1t (a:Ivl) (p:Int):Q0f (K0m a p).1=true:=by
 unfold K0m
 split
 · rename_i h
   have c:=canI h.1
   exact J0n (Q1n (Z0c (G0i c.2 c.1) _ _))
 · exact Z0q
theorem j0b (a:Ivl) (p:Int):Q0f (midI a p).1=true:=by
 unfold midI
 split
 · rename_i h
   split
   · exact(Z0a h.1).1
   · have c:=canI h.1
     exact J0n (Q1n (Z0c (y0b (K0w c.1 c.2)) _ _))
 · exact Z0q
theorem z0e (x:Nm) (k:Int):Q0f (X0y x k).1=true:=by
 unfold X0y
 split
 · rename_i h
   split
   · exact h
   · split
     · exact Z0q
     · refine J0n ?_
       have h1:=H1d h
       rcases h1 with h1 | h1
       · exact .inl h1
       · exact .inr h1
 · exact Z0q
theorem J1j (k:Nat) (a b:Nm) (p:Int) (up:Bool):Q0f (U0k k a b p up).1=true:=by
 unfold U0k
 split
 · rename_i h
   exact J0n (Q1n (Z0c (V1j k (X0u h.1) (X0u h.2.1)) _ _))
 · exact Z0q
theorem w1b {a:Ivl} {p:Int} (h:(midI a p).2=0):Q0n a=true∧Q0f (midI a p).1=true∧qN a.lo≤qN (midI a p).1∧qN (midI a p).1≤qN a.hi:=by
 have hr:=j0b a p
 unfold midI at h hr⊢
 split
 · rename_i hh
   rw [if_pos hh] at h hr
   have hq:=z0l hh.1
   rw [X0k,X0k] at hq
   refine⟨hh.1,hr,?_⟩
   have c:=canI hh.1
   split
   · exact⟨Rat.le_refl,hq⟩
   · rename_i h2
     rw [if_neg h2] at h
     have h3:=(J0f (Z0c (y0b (K0w c.1 c.2)) _ _) h).2
     have h4: ¬qV (midV a p.toNat)<qV (ofN a.lo):=fun e=>h2 ((K1a _ _).2 e)
     have h5:=Y0n (Q1g (J0l (ofN a.lo) (ofN a.hi))) p.toNat
     have h6:=Y2x (J0l (ofN a.lo) (ofN a.hi))
     rw [V0e,X0k,X0k] at h6
     rw [X0k] at h4
     unfold midV at h4⊢
     rw [h3]
     exact⟨by grind,by grind⟩
 · rename_i hh
   rw [if_neg hh] at h;cases h
end Go.Pv
end
section
/-How long values get. No program in it. -/
namespace Go.Pv
def bdV (n k:Nat) (v:Vl):Prop:=Q0l v.m≤n∧ -(k:Int)≤v.e∧v.e≤k
theorem bdV.mono {n k n' k':Nat} {v:Vl} (h:bdV n k v) (h1:n≤n') (h2:k≤k'):bdV n' k' v:=⟨by have:=h.1;omega,by have:=h.2.1;omega,by have:=h.2.2;omega⟩
theorem k0y {x:Nm} (h:Q0f x=true):bdV 4096 65536 (ofN x):=by
 have hb:=J1b h
 have h1:=y0c x.w
 exact⟨by show Q0l (valW x.w)≤_;unfold U0p at h1;have:=hb.1;omega,hb.2.1,hb.2.2⟩
theorem V1o {neg:Bool} {m:Nat} {e:Int} {n k:Nat} (h1:Q0l m≤n) (h2: -(k:Int)≤e) (h3:e≤k):bdV n (k+n) (oddV neg m e):=by
 unfold oddV
 split
 · exact⟨by rw [K0y];omega,by simp only;omega,by simp only;omega⟩
 · have ht:=z0c m
   have hl:=K0b (Nat.div_le_self m (2^tz m))
   exact⟨by simp only;omega,by simp only;omega,by simp only;omega⟩
theorem q1b {a b:Vl} {n k:Nat} (ha:bdV n k a) (hb:bdV n k b):bdV (n+2*k+1) (n+3*k+1) (J0l a b):=by
 unfold J0l
 split
 · exact hb.mono (by omega) (by omega)
 · split
   · exact ha.mono (by omega) (by omega)
   · have h1:=J0a a.m (a.e-min a.e b.e).toNat
     have h2:=J0a b.m (b.e-min a.e b.e).toNat
     have h3:=W0p (a.m*2^(a.e-min a.e b.e).toNat) (b.m*2^(b.e-min a.e b.e).toNat)
     obtain⟨a1,a2,a3⟩:=ha
     obtain⟨b1,b2,b3⟩:=hb
     have hk1:(a.e-min a.e b.e).toNat≤2*k:=by omega
     have hk2:(b.e-min a.e b.e).toNat≤2*k:=by omega
     have hm:(Z0w a*2^(a.e-min a.e b.e).toNat+Z0w b*2^(b.e-min a.e b.e).toNat).natAbs≤a.m*2^(a.e-min a.e b.e).toNat+b.m*2^(b.e-min a.e b.e).toNat:=by
      have e1: ∀(v:Vl) (j:Nat),(Z0w v*2^j).natAbs=v.m*2^j:=fun v j=>by
       rw [Int.natAbs_mul,Int.natAbs_pow]
       congr 1
       unfold Z0w;cases v.neg<;>simp
      have:=Int.natAbs_add_le (Z0w a*2^(a.e-min a.e b.e).toNat) (Z0w b*2^(b.e-min a.e b.e).toNat)
      rw [e1,e1] at this
      exact this
     have h4:=K0b hm
     have:=V1o (neg:=decide (Z0w a*2^(a.e-min a.e b.e).toNat+Z0w b*2^(b.e-min a.e b.e).toNat<0)) (m:=(Z0w a*2^(a.e-min a.e b.e).toNat+Z0w b*2^(b.e-min a.e b.e).toNat).natAbs) (e:=min a.e b.e) (n:=n+2*k+1) (k:=k) (by omega) (by omega) (by omega)
     exact this.mono (by omega) (by omega)
theorem y2f {a:Vl} {n k:Nat} (ha:bdV n k a):bdV n k (V0m a):=by
 unfold bdV;rw [X1n,X1o];exact ha
theorem Z2x {a b:Vl} {n k:Nat} (ha:bdV n k a) (hb:bdV n k b):bdV (n+2*k+1) (n+3*k+1) (G0a a b):=q1b ha (y2f hb)
theorem y2g {a:Vl} {n k:Nat} (ha:bdV n k a):bdV n (k+1) (Q1g a):=by
 unfold Q1g
 split
 · exact ha.mono (by omega) (by omega)
 · exact⟨ha.1,by have:=ha.2.1;simp only;omega,by have:=ha.2.2;simp only;omega⟩
theorem V1n {a:Vl} {n k:Nat} (ha:bdV n k a) (p:Nat) (up:Bool):bdV (n+1) (k+2*n+1) (Z0k a p up):=by
 unfold Z0k
 split
 · exact ha.mono (by omega) (by omega)
 · have h1:=ha.1
   have h2:=K0b (Nat.div_le_self a.m (2^(Q0l a.m-p)))
   have h3:Q0l (a.m/2^(Q0l a.m-p)+(if a.m % 2^(Q0l a.m-p)≠0∧up≠a.neg then 1 else 0))≤n+1:=by
    have b1:Q0l 1=1:=rfl
    have h:=W0p (a.m/2^(Q0l a.m-p)) 1
    split
    · by_cases hq:Q0l (a.m/2^(Q0l a.m-p))=0
      · have hn:0<Q0l a.m:=by rename_i hh _;omega
        omega
      · omega
    · rw [Nat.add_zero];omega
   have:=V1o (neg:=a.neg) (e:=a.e+((Q0l a.m-p:Nat):Int)) (k:=k+n) h3 (by have:=ha.2.1;omega) (by have:=ha.2.2;omega)
   exact this.mono (by omega) (by omega)
theorem q0a {v:Vl} {n k:Nat} (h:bdV n k v) (hn:n≤1000000000000):(Q0d v.m).length≤1000000000000:=by
 have:=X0o v.m
 have:=h.1
 omega
end Go.Pv
end
section
/-A number of an interval,by parts of 8. No program in it. -/
namespace Go.Pv
def W3d (v:Vl):Vl:=if W0t v≠0 then { v with e:=v.e-3 } else v
def inV (a:Ivl) (k:Nat):Vl:=W3d (J0l (byV (ofN a.lo) (oddV false (8-k) 0)) (byV (ofN a.hi) (oddV false k 0)))
def inN (a:Ivl) (k:Nat):Nm:=if k=0 then a.lo else if k=8 then a.hi else if (numV (inV a k)).2≠0 then a.lo else(numV (inV a k)).1
theorem j2j (k:Nat):qV (oddV false k 0)=(k:Rat):=by
 rw [w0a,if_neg (by simp)]
 unfold qM
 rw [v1s]
 show((k:Int):Rat)*1=_
 rw [Rat.mul_one];rfl
theorem H1n {a:Ivl} {x:Nm} (ha:Q0n a=true) (hx:Q0f x=true) (h:memI (qN x) a):hasI a x=true:=by
 unfold hasI
 rw [ha,hx]
 simp only [Bool.true_and,Bool.and_eq_true,decide_eq_true_eq]
 exact⟨cmpN_le.2 h.1,cmpN_le.2 h.2⟩
theorem k2x {a:Ivl} {x:Nm} (h:hasI a x=true):Q0n a=true∧Q0f x=true∧memI (qN x) a:=by
 unfold hasI at h
 simp only [Bool.and_eq_true,decide_eq_true_eq] at h
 exact⟨h.1.1.1,h.1.1.2,cmpN_le.1 h.1.2,cmpN_le.1 h.2⟩
theorem w0f {v:Vl} {n k:Nat} (h:bdV n k v) (h1:n≤4096) (h2:k≤65536):(numV v).2=0:=by
 unfold numV
 split
 · rfl
 · rw [if_neg]
   have hl:=X1f v.m
   have:=h.1;have:=h.2.1;have:=h.2.2
   omega
end Go.Pv
end
section
/-Small intervals:nothing that is reckoned of them fails. No program in it. -/
namespace Go.Pv
def smN (x:Nm):Prop:=Q0f x=true∧bdV 6 12 (ofN x)
def smI (a:Ivl):Prop:=Q0n a=true∧bdV 6 12 (ofN a.lo)∧bdV 6 12 (ofN a.hi)
theorem Z2w {n k:Nat} :bdV n k (ofN default):=by
 refine⟨?_,?_,?_⟩
 · show Q0l 0≤n;rw [K0y];omega
 · show -(k:Int)≤0;omega
 · show(0:Int)≤k;omega
theorem y1n {neg:Bool} {w:List UInt64} {e:Int} (hw:Q0l (valW w)≤6) (h1: -6≤e) (h2:e≤6):smN (U0n neg w e).1:=by
 refine⟨Q1v _ _ _,?_⟩
 unfold U0n
 split
 · exact Z2w
 · split
   · exact Z2w
   · have hb:=V1o (neg:=neg) (m:=valW w) (e:=e) (n:=6) (k:=6) hw (by omega) (by omega)
     have hf:=w0f hb (by omega) (by omega)
     have hc:canV (oddV neg (valW w) e):=by
      rename_i h0 _
      exact q0r _ _ _
     rw [(J0f hc hf).1]
     exact hb
theorem Q3k :p2 2=4:=by
 have:=U2p 2
 rw [←show((2:Nat):Int)=2 from rfl,←this];rfl
end Go.Pv
end
section
/-The halves of a small box. No program in it. -/
namespace Go.Pv
theorem Z1x {α:Type} (l:List α) (i j:Nat) (x d:α) (hj:j<l.length):(l.set i x).getD j d=if i=j then x else l.getD j d:=by
 simp only [List.getD_eq_getElem?_getD,List.getElem?_set]
 split
 · rename_i h;subst h;simp [hj]
 · rfl
structure Cut (b:List Ivl) (i:Nat) (m:Nm):Prop where
 right:rightB b=true
 lt:i<b.length
 num:Q0f m=true
 lo:qN (b.getD i default).lo≤qN m
 hi:qN m≤qN (b.getD i default).hi
def loB (b:List Ivl) (i:Nat) (m:Nm):List Ivl:=b.set i ⟨(b.getD i default).lo,m⟩
def hiB (b:List Ivl) (i:Nat) (m:Nm):List Ivl:=b.set i ⟨m,(b.getD i default).hi⟩
theorem Cut.loI {b i m} (h:Cut b i m):Q0n ⟨(b.getD i default).lo,m⟩=true:=V0h (Z0a (V0t h.right i h.lt)).1 h.num (cmpN_le.2 h.lo)
theorem Cut.hiI {b i m} (h:Cut b i m):Q0n ⟨m,(b.getD i default).hi⟩=true:=V0h h.num (Z0a (V0t h.right i h.lt)).2.1 (cmpN_le.2 h.hi)
theorem y0p {b:List Ivl} {i:Nat} {x:Ivl} (h:rightB b=true) (hx:Q0n x=true):rightB (b.set i x)=true:=by
 have hl:=W0z h
 refine J0t (fun j hj=> ?_) (by rw [List.length_set];omega) (by rw [List.length_set];omega)
 rw [List.length_set] at hj
 rw [Z1x _ _ _ _ _ hj]
 split
 · exact hx
 · exact V0t h j hj
theorem H1k (a b:Nm):X0j a b=a∨X0j a b=b:=by unfold X0j;split<;>simp
theorem H1o (a b:Nm):X0h a b=a∨X0h a b=b:=by unfold X0h;split<;>simp
theorem x1x {a b:Nm} (ha:Q0f a=true) (hb:Q0f b=true) (h:qN a≤qN b):X0j a b=a:=by
 obtain⟨h1,h2,h3⟩:=H3r a b
 rcases H1k a b with e | e
 · exact e
 · rw [e] at h1⊢
   exact z1a hb ha (Rat.le_antisymm h1 h)
theorem j1a {a b:Nm} (ha:Q0f a=true) (hb:Q0f b=true) (h:qN a≤qN b):X0h a b=b:=by
 obtain⟨h1,h2,h3⟩:=H3s a b
 rcases H1o a b with e | e
 · rw [e] at h2⊢
   exact z1a ha hb (Rat.le_antisymm h h2)
 · exact e
theorem Cut.hull {b i m} (h:Cut b i m):q0y (loB b i m) (hiB b i m)=(b,0):=by
 have hl0:(loB b i m).length=(hiB b i m).length:=by unfold loB hiB;simp
 rw [v2r (show rightB (loB b i m)=true from y0p h.right h.loI) (show rightB (hiB b i m)=true from y0p h.right h.hiI) hl0]
 congr 1
 refine List.ext_getElem (by simp [loB]) fun j h1 h2=> ?_
 have hj:j<b.length:=h2
 have ri:=V0t h.right j hj
 obtain⟨r1,r2,_⟩:=Z0a ri
 have e:b[j]=b.getD j default:=by simp [List.getD_eq_getElem?_getD,hj]
 rw [List.getElem_map,List.getElem_range,e]
 unfold loB hiB
 rw [Z1x _ _ _ _ _ hj,Z1x _ _ _ _ _ hj]
 by_cases hij:i=j
 · subst hij
   rw [if_pos rfl,if_pos rfl]
   unfold W1e
   rw [if_pos ⟨h.loI,h.hiI⟩]
   show(⟨X0j (b.getD i default).lo m,X0h m (b.getD i default).hi⟩:Ivl)=_
   rw [x1x r1 h.num h.lo,j1a h.num r2 h.hi]
 · rw [if_neg hij,if_neg hij]
   unfold W1e
   rw [if_pos ⟨ri,ri⟩]
   show(⟨X0j (b.getD j default).lo (b.getD j default).lo,X0h (b.getD j default).hi (b.getD j default).hi⟩:Ivl)=_
   rw [x1x r1 r1 Rat.le_refl,j1a r2 r2 Rat.le_refl]
theorem Z2k {b:List Ivl} {q:List Nm} {i:Nat} {x:Ivl} (h:hasB b q=true) (hx:Q0n x=true) (hi:hasI x (q.getD i default)=true):hasB (b.set i x) q=true:=by
 unfold hasB at h⊢
 simp only [Bool.and_eq_true,decide_eq_true_eq,List.all_eq_true] at h⊢
 refine⟨⟨y0p h.1.1 hx,by rw [List.length_set];exact h.1.2⟩,fun j hj=> ?_⟩
 have hj':j<b.length:=by simpa using hj
 rw [Z1x _ _ _ _ _ hj']
 split
 · rename_i e;subst e;exact hi
 · exact h.2 j (by simpa using hj')
theorem Cut.has {b i m q} (h:Cut b i m) (hq:hasB b q=true):(hasB (loB b i m) q||hasB (hiB b i m) q)=true:=by
 have hqi:hasI (b.getD i default) (q.getD i default)=true:=by
  unfold hasB at hq
  simp only [Bool.and_eq_true,List.all_eq_true] at hq
  exact hq.2 i (by simpa using h.lt)
 obtain⟨_,hr,h1,h2⟩:=k2x hqi
 rw [Bool.or_eq_true]
 by_cases hm:qN (q.getD i default)≤qN m
 · exact .inl (Z2k hq h.loI (H1n h.loI hr ⟨h1,hm⟩))
 · exact .inr (Z2k hq h.hiI (H1n h.hiI hr ⟨by grind,h2⟩))
end Go.Pv
end
