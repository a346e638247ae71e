/- Parts of the walk: M23, M24, M25, M26, M27, M28, M29, M30, M31, M32, M33, M34, M35, M36. -/
import Derived.Test.YthichlfphjbadaaGreatZK
set_option linter.unusedVariables false
set_option linter.unusedSimpArgs false
section
/-Exact values and their rounding:what numbers that are not in one form stand for. No program in it. -/
namespace Go.Pv
def ofX (x:Nm):Vl:=oddV x.neg (valW x.w) x.exp
def Z0o (v:Vl) (p:Nat) (up:Bool):Vl:=
 if Q0l v.m≤p then v else
  oddV v.neg (v.m/2^(Q0l v.m-p)+(if v.m % 2^(Q0l v.m-p)≠0∧up≠v.neg then 1 else 0)) (v.e+((Q0l v.m-p:Nat):Int))
theorem x0b (neg:Bool) (e:Int):oddV neg 0 e=⟨false,0,0⟩:=by rw [oddV,if_pos rfl]
theorem v2h (neg:Bool) (m k:Nat) (e:Int):oddV neg (m*2^k) e=oddV neg m (e+k):=by
 by_cases h:m=0
 · subst h;rw [Nat.zero_mul,x0b,x0b]
 · have hp:m*2^k≠0:=Nat.mul_ne_zero h (Nat.ne_of_gt (Nat.two_pow_pos k))
   obtain⟨q,hq,hm⟩:=H1b m h
   have hmk:m*2^k=2^(tz m+k)*q:=by
    conv=>lhs;rw [hm]
    rw [Nat.pow_add,Nat.mul_right_comm]
   have ht:tz (m*2^k)=tz m+k:=by rw [hmk,Q2j _ _ hq]
   unfold oddV
   rw [if_neg h,if_neg hp,ht]
   have e1:m*2^k/2^(tz m+k)=m/2^tz m:=by
    rw [hmk,Nat.mul_div_cancel_left _ (Nat.two_pow_pos _)]
    conv=>rhs;rw [hm]
    rw [Q2j _ _ hq,Nat.mul_div_cancel_left _ (Nat.two_pow_pos _)]
   rw [e1]
   congr 1
   omega
theorem Z2u (neg:Bool) (m:Nat) (e:Int) (h:m % 2=1):oddV neg m e=⟨neg,m,e⟩:=by
 rw [oddV,if_neg (by omega),Y2b h];simp
theorem V3i {x:Nm} (h:Q0f x=true):ofX x=ofN x:=by
 rcases q1b h with h1 | h1
 · exact Z2u _ _ _ h1
 · have h0:valW x.w=0:=h1
   have hw:x.w= []:=by
    refine Classical.byContradiction fun hw=> ?_
    have h2:=h
    unfold Q0f at h2
    rw [if_neg hw] at h2
    simp only [Bool.and_eq_true,decide_eq_true_eq] at h2
    have h3:=J1g x.w
    omega
   have h2:=h
   unfold Q0f at h2
   rw [if_pos hw] at h2
   simp at h2
   unfold ofX ofN
   rw [h0,x0b,h2.1,h2.2]
end Go.Pv
end
section
/-Exact sums and products,whatever form the numbers have. No program in it. -/
namespace Go.Pv
theorem H2a (neg:Bool) (m:Nat) (e:Int):oddV neg m e=mkV (if neg then -(m:Int) else(m:Int)) e:=by
 by_cases h:m=0
 · subst h
   rw [x0b]
   unfold mkV
   cases neg<;>simp [x0b]
 · unfold mkV
   cases neg
   · show oddV false m e=oddV (decide ((m:Int)<0)) (m:Int).natAbs e
     rw [decide_eq_false (by omega),Int.natAbs_natCast]
   · show oddV true m e=oddV (decide (-(m:Int)<0)) (-(m:Int)).natAbs e
     rw [decide_eq_true (by omega),Int.natAbs_neg,Int.natAbs_natCast]
theorem G2y (s:Int) (k:Nat) (e:Int):mkV (s*2^k) e=mkV s (e+k):=by
 unfold mkV
 have h1:(s*2^k).natAbs=s.natAbs*2^k:=by
  rw [Int.natAbs_mul,Int.natAbs_pow];rfl
 have h2:decide (s*2^k<0)=decide (s<0):=by
  have hp:=two_pow_pos k
  by_cases h:s<0
  · rw [decide_eq_true h,decide_eq_true (Int.mul_neg_of_neg_of_pos h hp)]
  · rw [decide_eq_false h,decide_eq_false (Int.not_lt.2 (Int.mul_nonneg (Int.not_lt.1 h) (Int.le_of_lt hp)))]
 rw [h1,h2,v2h]
theorem G2z (s e:Int) (h:s≠0): ∃k:Nat,Z0z (mkV s e)*2^k=s∧(mkV s e).e=e+k∧(mkV s e).m≠0:=by
 have h0:s.natAbs≠0:=by omega
 refine⟨tz s.natAbs,?_,?_,?_⟩
 · unfold mkV oddV Z0z
   rw [if_neg h0]
   simp only
   have h1:=Y1o s.natAbs
   by_cases hs:s<0
   · rw [decide_eq_true hs,if_pos rfl,Int.neg_mul]
     have:((s.natAbs/2^tz s.natAbs:Nat):Int)*2^tz s.natAbs=(s.natAbs:Int):=by
      rw [show((2:Int)^tz s.natAbs)=((2^tz s.natAbs:Nat):Int) from by simp,←Int.natCast_mul,h1]
     rw [this];omega
   · rw [decide_eq_false hs,if_neg (by simp)]
     have:((s.natAbs/2^tz s.natAbs:Nat):Int)*2^tz s.natAbs=(s.natAbs:Int):=by
      rw [show((2:Int)^tz s.natAbs)=((2^tz s.natAbs:Nat):Int) from by simp,←Int.natCast_mul,h1]
     rw [this];omega
 · unfold mkV oddV;rw [if_neg h0]
 · unfold mkV oddV
   rw [if_neg h0]
   have:=H0p s.natAbs h0
   simp only;omega
def byV (a b:Vl):Vl:=if a.m=0∨b.m=0 then⟨false,0,0⟩ else⟨a.neg !=b.neg,a.m*b.m,a.e+b.e⟩
theorem V3j {a b:Nat} (ha:a % 2=1) (hb:b % 2=1):a*b % 2=1:=by rw [Nat.mul_mod,ha,hb]
end Go.Pv
end
section
/-Values as rational numbers. No program in it. -/
namespace Go.Pv
def p2 (e:Int):Rat:=(2:Rat)^e
theorem Z1t (e:Int):0<p2 e:=Rat.zpow_pos (by decide)
theorem J4f (e:Int):p2 e≠0:=Rat.ne_of_gt (Z1t e)
theorem w0z (a b:Int):p2 (a+b)=p2 a*p2 b:=Rat.zpow_add (by decide) a b
theorem w1t :p2 0=1:=Rat.zpow_zero 2
theorem G2l (k:Nat):(((2:Int)^k:Int):Rat)=p2 k:=by
 unfold p2;rw [Rat.zpow_natCast]
 induction k with
 | zero=>rfl
 | succ k ih=>rw [Int.pow_succ,Rat.intCast_mul,ih,Rat.pow_succ];rfl
def qM (s e:Int):Rat:=(s:Rat)*p2 e
def qV (v:Vl):Rat:=qM (Z0z v) v.e
def qN (x:Nm):Rat:=qM (mant x) x.exp
theorem Y0d (s:Int) (k:Nat) (e:Int):qM (s*2^k) e=qM s (e+k):=by
 unfold qM;rw [Rat.intCast_mul,G2l,w0z];grind
theorem Z3c (s t e:Int):qM (s+t) e=qM s e+qM t e:=by unfold qM;rw [Rat.intCast_add];grind
theorem Z3b (s t e f:Int):qM (s*t) (e+f)=qM s e*qM t f:=by unfold qM;rw [Rat.intCast_mul,w0z];grind
theorem J0s (e:Int):qM 0 e=0:=by unfold qM;rw [Rat.intCast_zero];grind
theorem K1q (s e:Int):qM (-s) e= -qM s e:=by unfold qM;rw [Rat.intCast_neg];grind
theorem qM_le {s t e:Int} :qM s e≤qM t e↔s≤t:=by
 unfold qM
 constructor
 · intro h
   exact Rat.intCast_le_intCast.1 (Rat.le_of_mul_le_mul_right h (Z1t e))
 · intro h
   exact Rat.mul_le_mul_of_nonneg_right (Rat.intCast_le_intCast.2 h) (Rat.le_of_lt (Z1t e))
theorem qM_lt {s t e:Int} :qM s e<qM t e↔s<t:=by
 rw [←Rat.not_le,qM_le];omega
theorem qM_eq {s t e:Int} :qM s e=qM t e↔s=t:=by
 constructor
 · intro h
   have h1:=(qM_le (s:=s) (t:=t) (e:=e)).1 (by rw [h];exact Rat.le_refl)
   have h2:=(qM_le (s:=t) (t:=s) (e:=e)).1 (by rw [h];exact Rat.le_refl)
   omega
 · rintro rfl;rfl
theorem k2g (s e g:Int) (h:g≤e):qM s e=qM (s*2^(e-g).toNat) g:=by
 rw [Y0d];congr 1;omega
theorem K3s (s e:Int):qV (mkV s e)=qM s e:=by
 by_cases h:s=0
 · subst h
   rw [X1o,J0s]
   exact J0s 0
 · obtain⟨k,k1,k2,k3⟩:=G2z s e h
   unfold qV
   rw [k2,←Y0d,k1]
theorem w0w (neg:Bool) (m:Nat) (e:Int):qV (oddV neg m e)=qM (if neg then -(m:Int) else(m:Int)) e:=by rw [H2a,K3s]
theorem X0n (x:Nm):qV (ofN x)=qN x:=rfl
theorem Q1r {v:Vl} (h:v.m=0):qV v=0:=by unfold qV;rw [Q1x h,J0s]
theorem V0k (a b:Vl):qV (J0p a b)=qV a+qV b:=by
 unfold J0p
 split
 · rename_i h;rw [Q1r h];grind
 · split
   · rename_i h;rw [Q1r h];grind
   · rw [K3s,Z3c,←k2g _ _ _ (by omega),←k2g _ _ _ (by omega)];rfl
theorem U0h (v:Vl):qV (V0s v)= -qV v:=by
 unfold qV;rw [Q1y,J1k,K1q]
theorem U0i (a b:Vl):qV (G0i a b)=qV a-qV b:=by
 unfold G0i;rw [V0k,U0h];grind
theorem v2s {a b:Vl} (ha:a.m≠0) (hb:b.m≠0):Z0z (byV a b)=Z0z a*Z0z b∧(byV a b).e=a.e+b.e:=by
 unfold byV
 rw [if_neg (by omega)]
 refine⟨?_,rfl⟩
 unfold Z0z
 cases a.neg<;>cases b.neg<;>simp [Int.neg_mul,Int.mul_neg]
theorem k0a (a b:Vl):qV (byV a b)=qV a*qV b:=by
 by_cases ha:a.m=0
 · rw [Q1r ha,Q1r (by unfold byV;rw [if_pos (.inl ha)])];grind
 · by_cases hb:b.m=0
   · rw [Q1r hb,Q1r (by unfold byV;rw [if_pos (.inr hb)])];grind
   · obtain⟨h1,h2⟩:=v2s ha hb
     unfold qV
     rw [h1,h2,Z3b]
theorem Y2w (m:Int):sgn m≤0↔m≤0:=by unfold sgn;split<;>(try split)<;>omega
theorem Y2v (m:Int):sgn m<0↔m<0:=by unfold sgn;split<;>(try split)<;>omega
theorem j1p (a b:Vl):W0e a b≤0↔qV a≤qV b:=by
 unfold W0e
 have h:=U0i a b
 rw [j0d,Y2w]
 have h2:Z0z (G0i a b)≤0↔qV (G0i a b)≤0:=by
  rw [←J0s (G0i a b).e];exact qM_le.symm
 rw [h2,h];grind
theorem K1w (a b:Vl):W0e a b<0↔qV a<qV b:=by
 unfold W0e
 have h:=U0i a b
 rw [j0d,Y2v]
 have h2:Z0z (G0i a b)<0↔qV (G0i a b)<0:=by
  rw [←J0s (G0i a b).e];exact qM_lt.symm
 rw [h2,h];grind
theorem cmpN_le {a b:Nm} :cmpN a b≤0↔qN a≤qN b:=by rw [←Q1v,j1p];rfl
theorem cmpN_lt {a b:Nm} :cmpN a b<0↔qN a<qN b:=by rw [←Q1v,K1w];rfl
theorem cmpN_ge {a b:Nm} :0≤cmpN a b↔qN b≤qN a:=by
 have:=cmpN_lt (a:=a) (b:=b)
 rw [←Rat.not_lt,←this];omega
theorem cmpN_gt {a b:Nm} :0<cmpN a b↔qN b<qN a:=by
 have:=cmpN_le (a:=a) (b:=b)
 rw [←Rat.not_le,←this];omega
theorem Q2o (a:Vl):Y0b a<0↔qV a<0:=by
 rw [j0d,Y2v,←J0s a.e];exact qM_lt.symm
theorem Q2p (a:Vl):Y0b a≤0↔qV a≤0:=by
 rw [j0d,Y2w,←J0s a.e];exact qM_le.symm
def canV (v:Vl):Prop:=v.m % 2=1∨v=⟨false,0,0⟩
theorem z0d (neg:Bool) (m:Nat) (e:Int):canV (oddV neg m e):=by
 unfold oddV canV
 split
 · exact .inr rfl
 · exact .inl (H0p m (by assumption))
theorem Y3z (s e:Int):canV (mkV s e):=z0d _ _ _
theorem y2p (x:Nm):canV (ofX x):=z0d _ _ _
theorem X0y {x:Nm} (h:Q0f x=true):canV (ofN x):=by rw [←V3i h];exact y2p x
theorem V0c {a b:Vl} (ha:canV a) (hb:canV b):canV (J0p a b):=by
 unfold J0p
 split
 · exact hb
 · split
   · exact ha
   · exact Y3z _ _
theorem y0t {a:Vl} (ha:canV a):canV (V0s a):=by
 rcases ha with h | rfl
 · exact .inl (by rw [J1j];exact h)
 · exact .inr rfl
theorem G0p {a b:Vl} (ha:canV a) (hb:canV b):canV (G0i a b):=V0c ha (y0t hb)
theorem q1y {a b:Vl} (ha:canV a) (hb:canV b):canV (byV a b):=by
 rcases ha with h | rfl
 · rcases hb with k | rfl
   · exact .inl (by unfold byV;rw [if_neg (by omega)];exact V3j h k)
   · exact .inr (by unfold byV;rw [if_pos (.inr rfl)])
 · exact .inr (by unfold byV;rw [if_pos (.inl rfl)])
theorem Z0f {v:Vl} (h:canV v) (p:Nat) (up:Bool):canV (Z0o v p up):=by
 unfold Z0o
 split
 · exact h
 · exact z0d _ _ _
theorem Z1g {v:Vl} (h:canV v):okV v:=by
 rcases h with h | rfl
 · exact .inl h
 · exact .inr rfl
theorem v1g {v:Vl} (h:canV v):v=mkV (Z0z v) v.e:=by
 rcases h with h | rfl
 · have:oddV v.neg v.m v.e=v:=by rw [Z2u _ _ _ h]
   conv=>lhs;rw [←this]
   rw [H2a];rfl
 · rw [show Z0z ⟨false,0,0⟩=0 from rfl,X1o]
theorem z3o {s e t f:Int} (h:qM s e=qM t f):mkV s e=mkV t f:=by
 have h1:mkV s e=mkV (s*2^(e-min e f).toNat) (min e f):=by rw [G2y];congr 1;omega
 have h2:mkV t f=mkV (t*2^(f-min e f).toNat) (min e f):=by rw [G2y];congr 1;omega
 rw [k2g s e (min e f) (by omega),k2g t f (min e f) (by omega),qM_eq] at h
 rw [h1,h2,h]
theorem y2q {v w:Vl} (hv:canV v) (hw:canV w) (h:qV v=qV w):v=w:=by
 rw [v1g hv,v1g hw]
 exact z3o h
theorem j0f (neg:Bool) (m d:Nat) (c:Nat) (e:Int):qM (if neg then -((m/2^d+c:Nat):Int) else((m/2^d+c:Nat):Int)) (e+(d:Int))=qM (if neg then -(((m/2^d+c)*2^d:Nat):Int) else(((m/2^d+c)*2^d:Nat):Int)) e:=by
 rw [←Y0d]
 congr 1
 cases neg
 · simp
 · simp [Int.neg_mul]
theorem Y0t (v:Vl) (p:Nat):qV (Z0o v p false)≤qV v:=by
 unfold Z0o
 split
 · exact Rat.le_refl
 · rw [w0w,j0f]
   unfold qV Z0z
   rw [qM_le]
   generalize Q0l v.m-p=d
   have h1:=Nat.div_add_mod v.m (2^d)
   have h2:=Nat.mod_lt v.m (Nat.two_pow_pos d)
   rw [Nat.mul_comm] at h1
   rw [Nat.add_mul]
   cases v.neg
   · rw [if_neg (by simp),if_neg (by simp),if_neg (by simp),Nat.zero_mul];omega
   · rw [if_pos rfl,if_pos rfl]
     by_cases h3:v.m % 2^d=0
     · rw [if_neg (by simp [h3]),Nat.zero_mul];omega
     · rw [if_pos ⟨h3,by simp⟩,Nat.one_mul];omega
theorem H0r (v:Vl) (p:Nat):qV v≤qV (Z0o v p true):=by
 unfold Z0o
 split
 · exact Rat.le_refl
 · rw [w0w,j0f]
   unfold qV Z0z
   rw [qM_le]
   generalize Q0l v.m-p=d
   have h1:=Nat.div_add_mod v.m (2^d)
   have h2:=Nat.mod_lt v.m (Nat.two_pow_pos d)
   rw [Nat.mul_comm] at h1
   rw [Nat.add_mul]
   cases v.neg
   · rw [if_neg (by simp),if_neg (by simp)]
     by_cases h3:v.m % 2^d=0
     · rw [if_neg (by simp [h3]),Nat.zero_mul];omega
     · rw [if_pos ⟨h3,by simp⟩,Nat.one_mul];omega
   · rw [if_pos rfl,if_pos rfl,if_neg (by simp),Nat.zero_mul];omega
theorem J0k {v:Vl} (hv:canV v) (h:(numV v).2=0):ofN (numV v).1=v∧qN (numV v).1=qV v:=by
 unfold numV at h⊢
 split
 · rename_i h0
   rcases hv with hv | rfl
   · omega
   · exact⟨rfl,rfl⟩
 · rename_i h0
   rw [if_neg h0] at h
   split
   · rename_i h1;rw [if_pos h1] at h;cases h
   · have e:ofN ⟨v.neg,v.e,X0g v.m⟩=v:=by unfold ofN;rw [K0b]
     exact⟨e,by rw [←X0n,e]⟩
theorem Z2v {x:Nm} (h:Q0f x=true):numV (ofN x)=(x,0):=by
 unfold numV ofN
 simp only
 have h2:=h
 unfold Q0f at h2
 by_cases hw:x.w= []
 · rw [if_pos hw] at h2
   simp at h2
   rw [if_pos (by rw [hw];rfl)]
   congr 1
   obtain⟨n,e,w⟩:=x
   simp at hw h2
   obtain⟨rfl,rfl⟩:=h2
   subst hw;rfl
 · rw [if_neg hw] at h2
   simp only [Bool.and_eq_true,decide_eq_true_eq] at h2
   rw [if_neg (by have:=(W0i h);intro e;exact hw (this.1 e)),X0o,Q1g h,if_neg (by omega)]
end Go.Pv
end
section
/-What sums,differences and products of intervals come to. No program in it. -/
namespace Go.Pv
theorem J0g {a b:Rat} (ha:0≤a) (hb:0≤b):0≤a*b:=Rat.mul_nonneg ha hb
theorem Y3p {x y u v X U:Rat} (h1:x≤X) (h2:X≤y) (h3:u≤U) (h4:U≤v) (hx:0≤x) (hu:0≤u):x*u≤X*U:=by
 have a1:=J0g (a:=X-x) (b:=u) (by grind) hu
 have a2:=J0g (a:=X) (b:=U-u) (by grind) (by grind)
 grind
theorem z2a {x y u v X U:Rat} (h1:x≤X) (h2:X≤y) (h3:u≤U) (h4:U≤v) (hx:0≤X) (hu:u≤0):y*u≤X*U:=by
 have a1:=J0g (a:=y-X) (b:= -u) (by grind) (by grind)
 have a2:=J0g (a:=X) (b:=U-u) (by grind) (by grind)
 grind
theorem q2z {x y u v X U:Rat} (h1:x≤X) (h2:X≤y) (h3:u≤U) (h4:U≤v) (hx:x≤0) (hu:0≤U):x*v≤X*U:=by
 have a1:=J0g (a:= -x) (b:=v-U) (by grind) (by grind)
 have a2:=J0g (a:=X-x) (b:=U) (by grind) (by grind)
 grind
theorem Y3o {x y u v X U:Rat} (h1:x≤X) (h2:X≤y) (h3:u≤U) (h4:U≤v) (hx:y≤0) (hu:v≤0):y*v≤X*U:=by
 have a1:=J0g (a:=y-X) (b:= -v) (by grind) (by grind)
 have a2:=J0g (a:= -X) (b:=v-U) (by grind) (by grind)
 grind
theorem K3y {a b:Rat} (ha:a≤0) (hb:b≤0):0≤a*b:=by
 have:=J0g (a:= -a) (b:= -b) (by grind) (by grind)
 grind
theorem K3z {a b:Rat} (ha:0≤a) (hb:b≤0):a*b≤0:=by
 have:=J0g (a:=a) (b:= -b) ha (by grind)
 grind
theorem v2m {a b:Rat} (ha:a≤0) (hb:0≤b):a*b≤0:=by
 have:=J0g (a:= -a) (b:=b) (by grind) hb
 grind
def x0g (x y u v:Vl):Vl:=
 if 0≤Y0b x∧0≤Y0b u then byV x u else if 0≤Y0b x then byV y u else if 0≤Y0b u then byV x v else
 if Y0b y≤0∧Y0b v≤0 then byV y v else if W0e (byV y u) (byV x v)<0 then byV y u else byV x v
def k0h (x y u v:Vl):Vl:=V0s (x0g (V0s y) (V0s x) u v)
theorem Q2q (a:Vl):0≤Y0b a↔0≤qV a:=by
 have:=Q2o a
 rw [←Rat.not_lt,←this];omega
theorem j1y {x y u v:Vl} (hx:qV x≤qV y) (hu:qV u≤qV v) {X U:Rat} (h1:qV x≤X) (h2:X≤qV y) (h3:qV u≤U) (h4:U≤qV v):qV (x0g x y u v)≤X*U:=by
 unfold x0g
 simp only [Q2q,Q2p,K1w,k0a]
 split
 · rename_i h;rw [k0a];exact Y3p h1 h2 h3 h4 h.1 h.2
 · rename_i n1
   split
   · rename_i h;rw [k0a];exact z2a h1 h2 h3 h4 (by grind) (by grind)
   · rename_i n2
     split
     · rename_i h;rw [k0a];exact q2z h1 h2 h3 h4 (by grind) (by grind)
     · rename_i n3
       split
       · rename_i h;rw [k0a];exact Y3o h1 h2 h3 h4 h.1 h.2
       · rename_i n4
         have key:qV y*qV u≤X*U∨qV x*qV v≤X*U:=by
          by_cases hX:0≤X
          · exact .inl (z2a h1 h2 h3 h4 hX (by grind))
          · by_cases hU:0≤U
            · exact .inr (q2z h1 h2 h3 h4 (by grind) hU)
            · have p:=K3y (a:=X) (b:=U) (by grind) (by grind)
              by_cases hy:0≤qV y
              · have:=K3z (a:=qV y) (b:=qV u) hy (by grind);exact .inl (by grind)
              · have:=v2m (a:=qV x) (b:=qV v) (by grind) (by grind);exact .inr (by grind)
         split
         · rename_i h;rw [k0a];grind
         · rename_i h;rw [k0a];grind
theorem j0q (x y u v:Vl):x0g x y u v=byV x u∨x0g x y u v=byV x v∨x0g x y u v=byV y u∨x0g x y u v=byV y v:=by
 unfold x0g
 repeat' split
 all_goals simp
theorem q2b {x y u v:Vl} (hx:qV x≤qV y) (hu:qV u≤qV v) {X U:Rat} (h1:qV x≤X) (h2:X≤qV y) (h3:qV u≤U) (h4:U≤qV v):X*U≤qV (k0h x y u v):=by
 unfold k0h
 have:=j1y (x:=V0s y) (y:=V0s x) (u:=u) (v:=v) (X:= -X) (U:=U) (by rw [U0h,U0h];grind) hu (by rw [U0h];grind) (by rw [U0h];grind) h3 h4
 rw [U0h];grind
theorem U1y (x y u v:Vl):qV (k0h x y u v)=qV x*qV u∨qV (k0h x y u v)=qV x*qV v∨qV (k0h x y u v)=qV y*qV u∨qV (k0h x y u v)=qV y*qV v:=by
 unfold k0h
 rw [U0h]
 rcases j0q (V0s y) (V0s x) u v with h | h | h | h
 all_goals rw [h,k0a,U0h];grind
theorem G1q {x y u v:Vl} (hx:canV x) (hy:canV y) (hu:canV u) (hv:canV v):canV (x0g x y u v):=by
 rcases j0q x y u v with h | h | h | h
 all_goals rw [h];exact q1y (by assumption) (by assumption)
theorem W2b {x y u v:Vl} (hx:canV x) (hy:canV y) (hu:canV u) (hv:canV v):canV (k0h x y u v):=y0t (G1q (y0t hy) (y0t hx) hu hv)
def exV (k:Nat) (a b:Vl):Vl:=if k=0 then J0p a b else if k=1 then G0i a b else byV a b
def exQ (k:Nat) (a b:Rat):Rat:=if k=0 then a+b else if k=1 then a-b else a*b
theorem exQ0 (a b:Rat):exQ 0 a b=a+b:=by simp [exQ]
theorem exQ1 (a b:Rat):exQ 1 a b=a-b:=by simp [exQ]
theorem exQ2 (a b:Rat):exQ 2 a b=a*b:=by simp [exQ]
theorem K3t (k:Nat) (a b:Vl):qV (exV k a b)=exQ k (qV a) (qV b):=by
 unfold exV exQ
 split
 · exact V0k a b
 · split
   · exact U0i a b
   · exact k0a a b
theorem W1j (k:Nat) {a b:Vl} (ha:canV a) (hb:canV b):canV (exV k a b):=by
 unfold exV
 split
 · exact V0c ha hb
 · split
   · exact G0p ha hb
   · exact q1y ha hb
def Z0w (p:Int):Bool:=decide (8≤p)&&decide (p≤256)
def U0r (k:Nat) (a b:Nm) (p:Int) (up:Bool):Nm×Int:=if Q0f a=true∧Q0f b=true∧Z0w p=true then numV (Z0o (exV k (ofN a) (ofN b)) p.toNat up) else(default,1)
def strN (k:Nat) (a b:Nm):Nm×Int:=if Q0f a=true∧Q0f b=true then numV (exV k (ofN a) (ofN b)) else(default,1)
def J0b (x:Nm) (k:Int):Nm×Int:=if Q0f x=true then(if x.w= [] then(x,0) else if k< -131072∨131072<k then(default,2) else numV ⟨x.neg,valW x.w,x.exp+k⟩) else(default,1)
def k0c (lo hi:Vl):Ivl×Int:=if (numV lo).2=0∧(numV hi).2=0 then(⟨(numV lo).1,(numV hi).1⟩,0) else(default,2)
def loV (k:Nat) (x y u v:Vl):Vl:=if k=0 then J0p x u else if k=1 then G0i x v else x0g x y u v
def hiV (k:Nat) (x y u v:Vl):Vl:=if k=0 then J0p y v else if k=1 then G0i y u else k0h x y u v
def opI (k:Nat) (a b:Ivl) (p:Int):Ivl×Int:=
 if Q0n a=true∧Q0n b=true∧Z0w p=true then k0c (Z0o (loV k (ofN a.lo) (ofN a.hi) (ofN b.lo) (ofN b.hi)) p.toNat false) (Z0o (hiV k (ofN a.lo) (ofN a.hi) (ofN b.lo) (ofN b.hi)) p.toNat true) else(default,1)
theorem loV0 (x y u v:Vl):loV 0 x y u v=J0p x u:=by simp [loV]
theorem hiV0 (x y u v:Vl):hiV 0 x y u v=J0p y v:=by simp [hiV]
theorem loV1 (x y u v:Vl):loV 1 x y u v=G0i x v:=by simp [loV]
theorem hiV1 (x y u v:Vl):hiV 1 x y u v=G0i y u:=by simp [hiV]
theorem Z3j (k:Nat) {x y u v:Vl} (hx:qV x≤qV y) (hu:qV u≤qV v) {X U:Rat} (h1:qV x≤X) (h2:X≤qV y) (h3:qV u≤U) (h4:U≤qV v):qV (loV k x y u v)≤exQ k X U:=by
 unfold loV exQ
 split
 · rw [V0k];grind
 · split
   · rw [U0i];grind
   · exact j1y hx hu h1 h2 h3 h4
theorem Z3k (k:Nat) {x y u v:Vl} (hx:qV x≤qV y) (hu:qV u≤qV v) {X U:Rat} (h1:qV x≤X) (h2:X≤qV y) (h3:qV u≤U) (h4:U≤qV v):exQ k X U≤qV (hiV k x y u v):=by
 unfold hiV exQ
 split
 · rw [V0k];grind
 · split
   · rw [U0i];grind
   · exact q2b hx hu h1 h2 h3 h4
theorem W1h (k:Nat) {x y u v:Vl} (hx:canV x) (hy:canV y) (hu:canV u) (hv:canV v):canV (loV k x y u v):=by
 unfold loV
 split
 · exact V0c hx hu
 · split
   · exact G0p hx hv
   · exact G1q hx hy hu hv
theorem W1i (k:Nat) {x y u v:Vl} (hx:canV x) (hy:canV y) (hu:canV u) (hv:canV v):canV (hiV k x y u v):=by
 unfold hiV
 split
 · exact V0c hy hv
 · split
   · exact G0p hy hu
   · exact W2b hx hy hu hv
theorem z0x {x:Ivl} (h:Q0n x=true):qV (ofN x.lo)≤qV (ofN x.hi):=cmpN_le.1 (Z0c h).2.2
theorem v0l {lo hi:Vl} (h1:canV lo) (h2:canV hi) (h:qV lo≤qV hi):Q0n (k0c lo hi).1=true:=by
 unfold k0c
 split
 · rename_i hh
   exact V0n (J0q (Z1g h1)) (J0q (Z1g h2)) (cmpN_le.2 (by rw [(J0k h1 hh.1).2,(J0k h2 hh.2).2];exact h))
 · decide
theorem V3t (k:Nat) {a b:Ivl} (ha:Q0n a=true) (hb:Q0n b=true) (p:Nat):
 qV (Z0o (loV k (ofN a.lo) (ofN a.hi) (ofN b.lo) (ofN b.hi)) p false)≤qV (Z0o (hiV k (ofN a.lo) (ofN a.hi) (ofN b.lo) (ofN b.hi)) p true):=by
 have h1:=Y0t (loV k (ofN a.lo) (ofN a.hi) (ofN b.lo) (ofN b.hi)) p
 have h2:=H0r (hiV k (ofN a.lo) (ofN a.hi) (ofN b.lo) (ofN b.hi)) p
 have h3:=Z3j k (z0x ha) (z0x hb) Rat.le_refl (z0x ha) Rat.le_refl (z0x hb)
 have h4:=Z3k k (z0x ha) (z0x hb) Rat.le_refl (z0x ha) Rat.le_refl (z0x hb)
 grind
theorem canI {x:Ivl} (h:Q0n x=true):canV (ofN x.lo)∧canV (ofN x.hi):=⟨X0y (Z0c h).1,X0y (Z0c h).2.1⟩
theorem K1x (k:Nat) (a b:Ivl) (p:Int):Q0n (opI k a b p).1=true:=by
 unfold opI
 split
 · rename_i h
   have ca:=canI h.1
   have cb:=canI h.2.1
   exact v0l (Z0f (W1h k ca.1 ca.2 cb.1 cb.2) _ _) (Z0f (W1i k ca.1 ca.2 cb.1 cb.2) _ _) (V3t k h.1 h.2.1 _)
 · decide
def memI (X:Rat) (a:Ivl):Prop:=qN a.lo≤X∧X≤qN a.hi
theorem V3e (k:Nat) {a b:Ivl} {p:Int} (h:(opI k a b p).2=0) {X U:Rat} (hX:memI X a) (hU:memI U b):memI (exQ k X U) (opI k a b p).1:=by
 unfold opI at h⊢
 split
 · rename_i hr
   rw [if_pos hr] at h
   have ca:=canI hr.1
   have cb:=canI hr.2.1
   unfold k0c at h⊢
   split
   · rename_i hh
     have h1:=(J0k (Z0f (W1h k ca.1 ca.2 cb.1 cb.2) _ _) hh.1).2
     have h2:=(J0k (Z0f (W1i k ca.1 ca.2 cb.1 cb.2) _ _) hh.2).2
     have h3:=Z3j k (z0x hr.1) (z0x hr.2.1) hX.1 hX.2 hU.1 hU.2
     have h4:=Z3k k (z0x hr.1) (z0x hr.2.1) hX.1 hX.2 hU.1 hU.2
     have h5:=Y0t (loV k (ofN a.lo) (ofN a.hi) (ofN b.lo) (ofN b.hi)) p.toNat
     have h6:=H0r (hiV k (ofN a.lo) (ofN a.hi) (ofN b.lo) (ofN b.hi)) p.toNat
     exact⟨by rw [h1];grind,by rw [h2];grind⟩
   · rename_i hh;rw [if_neg hh] at h;cases h
 · rename_i hr;rw [if_neg hr] at h;cases h
end Go.Pv
end
section
/-Exact sums and products of numbers in any form,and how long they get. No program in it. -/
namespace Go.Pv
def bd (n k:Nat) (x:Nm):Prop:=x.w.length≤n∧ -(k:Int)≤x.exp∧x.exp≤k
theorem bd.mono {n k n' k':Nat} {x:Nm} (h:bd n k x) (h1:n≤n') (h2:k≤k'):bd n' k' x:=⟨by have:=h.1;omega,by have:=h.2.1;omega,by have:=h.2.2;omega⟩
theorem J1y {x:Nm} (h:Q0f x=true):bd 64 65536 x:=by
 unfold Q0f at h
 by_cases hw:x.w= []
 · rw [if_pos hw] at h
   simp at h
   exact⟨by rw [hw];simp,by rw [h.2];omega,by rw [h.2];omega⟩
 · rw [if_neg hw] at h
   simp only [Bool.and_eq_true,decide_eq_true_eq] at h
   exact⟨h.1.1.1.2,h.1.2,h.2⟩
end Go.Pv
end
section
/-The right number of words by a power of two,rounded or not. No program in it. -/
namespace Go.Pv
def mkX (neg:Bool) (w:List UInt64) (e:Int):Nm×Int:=numV (oddV neg (valW w) e)
def rndX (x:Nm) (p:Nat) (up:Bool):Nm:=
 if U0x x.w≤p then x else⟨x.neg,x.exp+((U0x x.w-p:Nat):Int),X0g (valW x.w/2^(U0x x.w-p)+(if tz (valW x.w)<U0x x.w-p∧up≠x.neg then 1 else 0))⟩
end Go.Pv
end
section
/-Intervals:has,meet,middle,width. No program in it. -/
namespace Go.Pv
def hasI (a:Ivl) (x:Nm):Bool:=Q0n a&&Q0f x&&decide (cmpN a.lo x≤0)&&decide (cmpN x a.hi≤0)
def G4j (lo hi:Nm):Ivl×Int:=if Q0n ⟨lo,hi⟩=true then(⟨lo,hi⟩,0) else(default,1)
def Q1z (v:Vl):Vl:=if v.m=0 then v else { v with e:=v.e-1 }
def midV (a:Ivl) (p:Nat):Vl:=Z0o (Q1z (J0p (ofN a.lo) (ofN a.hi))) p false
def midI (a:Ivl) (p:Int):Nm×Int:=if Q0n a=true∧Z0w p=true then(if W0e (midV a p.toNat) (ofN a.lo)<0 then(a.lo,0) else numV (midV a p.toNat)) else(default,1)
def K0r (a:Ivl) (p:Int):Nm×Int:=if Q0n a=true∧Z0w p=true then numV (Z0o (G0i (ofN a.hi) (ofN a.lo)) p.toNat true) else(default,1)
theorem z3i :p2 1=2:=by
 have:=G2l 1
 rw [←show((1:Nat):Int)=1 from rfl,←this];rfl
theorem U2v (s e:Int):qM s (e-1)*2=qM s e:=by
 unfold qM
 have h:=w0z (e-1) 1
 rw [show e-1+1=e from by omega,z3i] at h
 rw [h];grind
theorem U2u (v:Vl):qV (Q1z v)*2=qV v:=by
 unfold Q1z
 split
 · rename_i h;rw [Q1r h];grind
 · exact U2v (Z0z v) v.e
theorem y0v {v:Vl} (h:canV v):canV (Q1z v):=by
 unfold Q1z
 split
 · exact h
 · rename_i h0
   rcases h with h | rfl
   · exact .inl h
   · exact absurd rfl h0
theorem J3n {a b:Rat} (h:a*2=b*2):a=b:=by grind
theorem x1c {x y:Nm} (hx:Q0f x=true) (hy:Q0f y=true) (h:qN x=qN y):x=y:=by
 have h1:=y2q (X0y hx) (X0y hy) (by rw [X0n,X0n,h])
 have h2:=Z2v hx
 rw [h1,Z2v hy] at h2
 exact(congrArg Prod.fst h2).symm
theorem q3w (a b:Nm):qN (X0l a b)≤qN a∧qN (X0l a b)≤qN b∧(qN (X0l a b)=qN a∨qN (X0l a b)=qN b):=by
 have h1:=cmpN_le.1 (U1t a b)
 have h2:=cmpN_le.1 (V2h a b)
 refine⟨h1,h2,?_⟩
 unfold X0l
 split
 · exact .inr rfl
 · exact .inl rfl
theorem q3x (a b:Nm):qN a≤qN (X0k a b)∧qN b≤qN (X0k a b)∧(qN (X0k a b)=qN a∨qN (X0k a b)=qN b):=by
 have h1:=cmpN_le.1 (U1z a b)
 have h2:=cmpN_le.1 (V2n a b)
 refine⟨h1,h2,?_⟩
 unfold X0k
 split
 · exact .inr rfl
 · exact .inl rfl
end Go.Pv
end
section
/-What boxes are reckoned to. No program in it. -/
namespace Go.Pv
def opB (k:Nat) (a b:List Ivl) (p:Int):List Ivl×Int:=if rightB a=true∧rightB b=true∧a.length=b.length∧Z0w p=true then Y0c (fun i x=>opI k x (b.getD i default) p) 0 a [] else([],1)
def G0t (x:Ivl) (b:List Ivl) (p:Int):List Ivl×Int:=if rightB b=true∧Q0n x=true∧Z0w p=true then Y0c (fun _ y=>opI 2 x y p) 0 b [] else([],1)
def midB (b:List Ivl) (p:Int):List Nm×Int:=if rightB b=true∧Z0w p=true then Y0c (fun _ a=>midI a p) 0 b [] else([],1)
def hasB (b:List Ivl) (q:List Nm):Bool:=rightB b&&decide (q.length=b.length)&&(List.range b.length).all fun i=>hasI (b.getD i default) (q.getD i default)
def ofB (q:List Nm):List Ivl:=q.map fun x=>⟨x,x⟩
def W0j (b:List Ivl) (p:Int):List Nm×Int:=if rightB b=true∧Z0w p=true then Y0c (fun _ a=>K0r a p) 0 b [] else([],1)
def amax (l:List Nm):Nat→Nat
 | 0=>0
 | n+1=>if cmpR (l.getD n default) (l.getD (amax l n) default)>0 then n else amax l n
def G4d (b:List Ivl) (p:Int):Nm×Int:=if (W0j b p).2=0 then((W0j b p).1.getD (amax (W0j b p).1 b.length) default,0) else(default,(W0j b p).2)
def H0o (a:Ivl) (p:Int):Ivl×Int:=
 if (K0r a p).2≠0 then(default,(K0r a p).2) else if (J0b (K0r a p).1 (-2)).2≠0 then(default,(J0b (K0r a p).1 (-2)).2) else
 if (U0r 1 a.lo (J0b (K0r a p).1 (-2)).1 p false).2≠0∨(U0r 0 a.hi (J0b (K0r a p).1 (-2)).1 p true).2≠0 then(default,2) else
 (⟨(U0r 1 a.lo (J0b (K0r a p).1 (-2)).1 p false).1,(U0r 0 a.hi (J0b (K0r a p).1 (-2)).1 p true).1⟩,0)
def v0p (b:List Ivl) (p:Int):List Ivl×Int:=if rightB b=true∧Z0w p=true then Y0c (fun _ a=>H0o a p) 0 b [] else([],1)
def G4c (b:List Ivl) (at':Nat) (x:Ivl):List Ivl:=b.set at' x
def U4c (b:List Ivl) (p:Int):(List Ivl×List Ivl)×Int:=
 if (W0j b p).2≠0 then(([],[]),(W0j b p).2) else
 if (midI (b.getD (amax (W0j b p).1 b.length) default) p).2≠0 then(([],[]),(midI (b.getD (amax (W0j b p).1 b.length) default) p).2) else
 ((b.set (amax (W0j b p).1 b.length) ⟨(b.getD (amax (W0j b p).1 b.length) default).lo,(midI (b.getD (amax (W0j b p).1 b.length) default) p).1⟩,
  b.set (amax (W0j b p).1 b.length) ⟨(midI (b.getD (amax (W0j b p).1 b.length) default) p).1,(b.getD (amax (W0j b p).1 b.length) default).hi⟩),0)
theorem v1s (a:Ivl) (p:Int):Q0f (K0r a p).1=true:=by
 unfold K0r
 split
 · rename_i h
   have c:=canI h.1
   exact J0q (Z1g (Z0f (G0p c.2 c.1) _ _))
 · exact Z0t
theorem j0o (a:Ivl) (p:Int):Q0f (midI a p).1=true:=by
 unfold midI
 split
 · rename_i h
   split
   · exact(Z0c h.1).1
   · have c:=canI h.1
     exact J0q (Z1g (Z0f (y0v (V0c c.1 c.2)) _ _))
 · exact Z0t
theorem z0r (x:Nm) (k:Int):Q0f (J0b x k).1=true:=by
 unfold J0b
 split
 · rename_i h
   split
   · exact h
   · split
     · exact Z0t
     · refine J0q ?_
       have h1:=q1b h
       rcases h1 with h1 | h1
       · exact .inl h1
       · exact .inr h1
 · exact Z0t
theorem K1f (k:Nat) (a b:Nm) (p:Int) (up:Bool):Q0f (U0r k a b p up).1=true:=by
 unfold U0r
 split
 · rename_i h
   exact J0q (Z1g (Z0f (W1j k (X0y h.1) (X0y h.2.1)) _ _))
 · exact Z0t
theorem y1c {a:Ivl} {p:Int} (h:(midI a p).2=0):Q0n a=true∧Q0f (midI a p).1=true∧qN a.lo≤qN (midI a p).1∧qN (midI a p).1≤qN a.hi:=by
 have hr:=j0o a p
 unfold midI at h hr⊢
 split
 · rename_i hh
   rw [if_pos hh] at h hr
   have hq:=z0x hh.1
   rw [X0n,X0n] at hq
   refine⟨hh.1,hr,?_⟩
   have c:=canI hh.1
   split
   · exact⟨Rat.le_refl,hq⟩
   · rename_i h2
     rw [if_neg h2] at h
     have h3:=(J0k (Z0f (y0v (V0c c.1 c.2)) _ _) h).2
     have h4: ¬qV (midV a p.toNat)<qV (ofN a.lo):=fun e=>h2 ((K1w _ _).2 e)
     have h5:=Y0t (Q1z (J0p (ofN a.lo) (ofN a.hi))) p.toNat
     have h6:=U2u (J0p (ofN a.lo) (ofN a.hi))
     rw [V0k,X0n,X0n] at h6
     rw [X0n] at h4
     unfold midV at h4⊢
     rw [h3]
     exact⟨by grind,by grind⟩
 · rename_i hh
   rw [if_neg hh] at h;cases h
end Go.Pv
end
section
/-How long values get. No program in it. -/
namespace Go.Pv
def bdV (n k:Nat) (v:Vl):Prop:=Q0l v.m≤n∧ -(k:Int)≤v.e∧v.e≤k
theorem bdV.mono {n k n' k':Nat} {v:Vl} (h:bdV n k v) (h1:n≤n') (h2:k≤k'):bdV n' k' v:=⟨by have:=h.1;omega,by have:=h.2.1;omega,by have:=h.2.2;omega⟩
theorem v0q {x:Nm} (h:Q0f x=true):bdV 4096 65536 (ofN x):=by
 have hb:=J1y h
 have h1:=y0w x.w
 exact⟨by show Q0l (valW x.w)≤_;unfold U0x at h1;have:=hb.1;omega,hb.2.1,hb.2.2⟩
theorem W1n {neg:Bool} {m:Nat} {e:Int} {n k:Nat} (h1:Q0l m≤n) (h2: -(k:Int)≤e) (h3:e≤k):bdV n (k+n) (oddV neg m e):=by
 unfold oddV
 split
 · exact⟨by rw [V0e];omega,by simp only;omega,by simp only;omega⟩
 · have ht:=z0n m
   have hl:=K0e (Nat.div_le_self m (2^tz m))
   exact⟨by simp only;omega,by simp only;omega,by simp only;omega⟩
theorem z1a {a b:Vl} {n k:Nat} (ha:bdV n k a) (hb:bdV n k b):bdV (n+2*k+1) (n+3*k+1) (J0p a b):=by
 unfold J0p
 split
 · exact hb.mono (by omega) (by omega)
 · split
   · exact ha.mono (by omega) (by omega)
   · have h1:=J0d a.m (a.e-min a.e b.e).toNat
     have h2:=J0d b.m (b.e-min a.e b.e).toNat
     have h3:=W0w (a.m*2^(a.e-min a.e b.e).toNat) (b.m*2^(b.e-min a.e b.e).toNat)
     obtain⟨a1,a2,a3⟩:=ha
     obtain⟨b1,b2,b3⟩:=hb
     have hk1:(a.e-min a.e b.e).toNat≤2*k:=by omega
     have hk2:(b.e-min a.e b.e).toNat≤2*k:=by omega
     have hm:(Z0z a*2^(a.e-min a.e b.e).toNat+Z0z b*2^(b.e-min a.e b.e).toNat).natAbs≤a.m*2^(a.e-min a.e b.e).toNat+b.m*2^(b.e-min a.e b.e).toNat:=by
      have e1: ∀(v:Vl) (j:Nat),(Z0z v*2^j).natAbs=v.m*2^j:=fun v j=>by
       rw [Int.natAbs_mul,Int.natAbs_pow]
       congr 1
       unfold Z0z;cases v.neg<;>simp
      have:=Int.natAbs_add_le (Z0z a*2^(a.e-min a.e b.e).toNat) (Z0z b*2^(b.e-min a.e b.e).toNat)
      rw [e1,e1] at this
      exact this
     have h4:=K0e hm
     have:=W1n (neg:=decide (Z0z a*2^(a.e-min a.e b.e).toNat+Z0z b*2^(b.e-min a.e b.e).toNat<0)) (m:=(Z0z a*2^(a.e-min a.e b.e).toNat+Z0z b*2^(b.e-min a.e b.e).toNat).natAbs) (e:=min a.e b.e) (n:=n+2*k+1) (k:=k) (by omega) (by omega) (by omega)
     exact this.mono (by omega) (by omega)
theorem y2y {a:Vl} {n k:Nat} (ha:bdV n k a):bdV n k (V0s a):=by
 unfold bdV;rw [J1j,J1k];exact ha
theorem X2x {a b:Vl} {n k:Nat} (ha:bdV n k a) (hb:bdV n k b):bdV (n+2*k+1) (n+3*k+1) (G0i a b):=z1a ha (y2y hb)
theorem y2z {a:Vl} {n k:Nat} (ha:bdV n k a):bdV n (k+1) (Q1z a):=by
 unfold Q1z
 split
 · exact ha.mono (by omega) (by omega)
 · exact⟨ha.1,by have:=ha.2.1;simp only;omega,by have:=ha.2.2;simp only;omega⟩
theorem W1m {a:Vl} {n k:Nat} (ha:bdV n k a) (p:Nat) (up:Bool):bdV (n+1) (k+2*n+1) (Z0o a p up):=by
 unfold Z0o
 split
 · exact ha.mono (by omega) (by omega)
 · have h1:=ha.1
   have h2:=K0e (Nat.div_le_self a.m (2^(Q0l a.m-p)))
   have h3:Q0l (a.m/2^(Q0l a.m-p)+(if a.m % 2^(Q0l a.m-p)≠0∧up≠a.neg then 1 else 0))≤n+1:=by
    have b1:Q0l 1=1:=rfl
    have h:=W0w (a.m/2^(Q0l a.m-p)) 1
    split
    · by_cases hq:Q0l (a.m/2^(Q0l a.m-p))=0
      · have hn:0<Q0l a.m:=by rename_i hh _;omega
        omega
      · omega
    · rw [Nat.add_zero];omega
   have:=W1n (neg:=a.neg) (e:=a.e+((Q0l a.m-p:Nat):Int)) (k:=k+n) h3 (by have:=ha.2.1;omega) (by have:=ha.2.2;omega)
   exact this.mono (by omega) (by omega)
theorem q0f {v:Vl} {n k:Nat} (h:bdV n k v) (hn:n≤1000000000000):(Q0e v.m).length≤1000000000000:=by
 have:=X0s v.m
 have:=h.1
 omega
end Go.Pv
end
section
/-A number of an interval,by parts of 8. No program in it. -/
namespace Go.Pv
def Y3g (v:Vl):Vl:=if Y0b v≠0 then { v with e:=v.e-3 } else v
def inV (a:Ivl) (k:Nat):Vl:=Y3g (J0p (byV (ofN a.lo) (oddV false (8-k) 0)) (byV (ofN a.hi) (oddV false k 0)))
def inN (a:Ivl) (k:Nat):Nm:=if k=0 then a.lo else if k=8 then a.hi else if (numV (inV a k)).2≠0 then a.lo else(numV (inV a k)).1
theorem k2e (k:Nat):qV (oddV false k 0)=(k:Rat):=by
 rw [w0w,if_neg (by simp)]
 unfold qM
 rw [w1t]
 show((k:Int):Rat)*1=_
 rw [Rat.mul_one];rfl
theorem q1m {a:Ivl} {x:Nm} (ha:Q0n a=true) (hx:Q0f x=true) (h:memI (qN x) a):hasI a x=true:=by
 unfold hasI
 rw [ha,hx]
 simp only [Bool.true_and,Bool.and_eq_true,decide_eq_true_eq]
 exact⟨cmpN_le.2 h.1,cmpN_le.2 h.2⟩
theorem v2r {a:Ivl} {x:Nm} (h:hasI a x=true):Q0n a=true∧Q0f x=true∧memI (qN x) a:=by
 unfold hasI at h
 simp only [Bool.and_eq_true,decide_eq_true_eq] at h
 exact⟨h.1.1.1,h.1.1.2,cmpN_le.1 h.1.2,cmpN_le.1 h.2⟩
theorem y0b {v:Vl} {n k:Nat} (h:bdV n k v) (h1:n≤4096) (h2:k≤65536):(numV v).2=0:=by
 unfold numV
 split
 · rfl
 · rw [if_neg]
   have hl:=J1c v.m
   have:=h.1;have:=h.2.1;have:=h.2.2
   omega
end Go.Pv
end
section
/-Small intervals:nothing that is reckoned of them fails. No program in it. -/
namespace Go.Pv
def smN (x:Nm):Prop:=Q0f x=true∧bdV 6 12 (ofN x)
def smI (a:Ivl):Prop:=Q0n a=true∧bdV 6 12 (ofN a.lo)∧bdV 6 12 (ofN a.hi)
theorem X2w {n k:Nat} :bdV n k (ofN default):=by
 refine⟨?_,?_,?_⟩
 · show Q0l 0≤n;rw [V0e];omega
 · show -(k:Int)≤0;omega
 · show(0:Int)≤k;omega
theorem Q2n {neg:Bool} {w:List UInt64} {e:Int} (hw:Q0l (valW w)≤6) (h1: -6≤e) (h2:e≤6):smN (U0v neg w e).1:=by
 refine⟨Z1o _ _ _,?_⟩
 unfold U0v
 split
 · exact X2w
 · split
   · exact X2w
   · have hb:=W1n (neg:=neg) (m:=valW w) (e:=e) (n:=6) (k:=6) hw (by omega) (by omega)
     have hf:=y0b hb (by omega) (by omega)
     have hc:canV (oddV neg (valW w) e):=by
      rename_i h0 _
      exact z0d _ _ _
     rw [(J0k hc hf).1]
     exact hb
theorem Z3g :p2 2=4:=by
 have:=G2l 2
 rw [←show((2:Nat):Int)=2 from rfl,←this];rfl
end Go.Pv
end
section
/-The halves of a small box. No program in it. -/
namespace Go.Pv
theorem X1s {α:Type} (l:List α) (i j:Nat) (x d:α) (hj:j<l.length):(l.set i x).getD j d=if i=j then x else l.getD j d:=by
 simp only [List.getD_eq_getElem?_getD,List.getElem?_set]
 split
 · rename_i h;subst h;simp [hj]
 · rfl
structure Cut (b:List Ivl) (i:Nat) (m:Nm):Prop where
 right:rightB b=true
 lt:i<b.length
 num:Q0f m=true
 lo:qN (b.getD i default).lo≤qN m
 hi:qN m≤qN (b.getD i default).hi
def loB (b:List Ivl) (i:Nat) (m:Nm):List Ivl:=b.set i ⟨(b.getD i default).lo,m⟩
def hiB (b:List Ivl) (i:Nat) (m:Nm):List Ivl:=b.set i ⟨m,(b.getD i default).hi⟩
theorem Cut.loI {b i m} (h:Cut b i m):Q0n ⟨(b.getD i default).lo,m⟩=true:=V0n (Z0c (V0z h.right i h.lt)).1 h.num (cmpN_le.2 h.lo)
theorem Cut.hiI {b i m} (h:Cut b i m):Q0n ⟨m,(b.getD i default).hi⟩=true:=V0n h.num (Z0c (V0z h.right i h.lt)).2.1 (cmpN_le.2 h.hi)
theorem Q1h {b:List Ivl} {i:Nat} {x:Ivl} (h:rightB b=true) (hx:Q0n x=true):rightB (b.set i x)=true:=by
 have hl:=V0y h
 refine J0w (fun j hj=> ?_) (by rw [List.length_set];omega) (by rw [List.length_set];omega)
 rw [List.length_set] at hj
 rw [X1s _ _ _ _ _ hj]
 split
 · exact hx
 · exact V0z h j hj
theorem q1j (a b:Nm):X0l a b=a∨X0l a b=b:=by unfold X0l;split<;>simp
theorem q1n (a b:Nm):X0k a b=a∨X0k a b=b:=by unfold X0k;split<;>simp
theorem j1z {a b:Nm} (ha:Q0f a=true) (hb:Q0f b=true) (h:qN a≤qN b):X0l a b=a:=by
 obtain⟨h1,h2,h3⟩:=q3w a b
 rcases q1j a b with e | e
 · exact e
 · rw [e] at h1⊢
   exact x1c hb ha (Rat.le_antisymm h1 h)
theorem k1b {a b:Nm} (ha:Q0f a=true) (hb:Q0f b=true) (h:qN a≤qN b):X0k a b=b:=by
 obtain⟨h1,h2,h3⟩:=q3x a b
 rcases q1n a b with e | e
 · rw [e] at h2⊢
   exact x1c ha hb (Rat.le_antisymm h h2)
 · exact e
theorem Cut.hull {b i m} (h:Cut b i m):z0k (loB b i m) (hiB b i m)=(b,0):=by
 have hl0:(loB b i m).length=(hiB b i m).length:=by unfold loB hiB;simp
 rw [w2k (show rightB (loB b i m)=true from Q1h h.right h.loI) (show rightB (hiB b i m)=true from Q1h h.right h.hiI) hl0]
 congr 1
 refine List.ext_getElem (by simp [loB]) fun j h1 h2=> ?_
 have hj:j<b.length:=h2
 have ri:=V0z h.right j hj
 obtain⟨r1,r2,_⟩:=Z0c ri
 have e:b[j]=b.getD j default:=by simp [List.getD_eq_getElem?_getD,hj]
 rw [List.getElem_map,List.getElem_range,e]
 unfold loB hiB
 rw [X1s _ _ _ _ _ hj,X1s _ _ _ _ _ hj]
 by_cases hij:i=j
 · subst hij
   rw [if_pos rfl,if_pos rfl]
   unfold Y1d
   rw [if_pos ⟨h.loI,h.hiI⟩]
   show(⟨X0l (b.getD i default).lo m,X0k m (b.getD i default).hi⟩:Ivl)=_
   rw [j1z r1 h.num h.lo,k1b h.num r2 h.hi]
 · rw [if_neg hij,if_neg hij]
   unfold Y1d
   rw [if_pos ⟨ri,ri⟩]
   show(⟨X0l (b.getD j default).lo (b.getD j default).lo,X0k (b.getD j default).hi (b.getD j default).hi⟩:Ivl)=_
   rw [j1z r1 r1 Rat.le_refl,k1b r2 r2 Rat.le_refl]
theorem X2k {b:List Ivl} {q:List Nm} {i:Nat} {x:Ivl} (h:hasB b q=true) (hx:Q0n x=true) (hi:hasI x (q.getD i default)=true):hasB (b.set i x) q=true:=by
 unfold hasB at h⊢
 simp only [Bool.and_eq_true,decide_eq_true_eq,List.all_eq_true] at h⊢
 refine⟨⟨Q1h h.1.1 hx,by rw [List.length_set];exact h.1.2⟩,fun j hj=> ?_⟩
 have hj':j<b.length:=by simpa using hj
 rw [X1s _ _ _ _ _ hj']
 split
 · rename_i e;subst e;exact hi
 · exact h.2 j (by simpa using hj')
theorem Cut.has {b i m q} (h:Cut b i m) (hq:hasB b q=true):(hasB (loB b i m) q||hasB (hiB b i m) q)=true:=by
 have hqi:hasI (b.getD i default) (q.getD i default)=true:=by
  unfold hasB at hq
  simp only [Bool.and_eq_true,List.all_eq_true] at hq
  exact hq.2 i (by simpa using h.lt)
 obtain⟨_,hr,h1,h2⟩:=v2r hqi
 rw [Bool.or_eq_true]
 by_cases hm:qN (q.getD i default)≤qN m
 · exact .inl (X2k hq h.loI (q1m h.loI hr ⟨h1,hm⟩))
 · exact .inr (X2k hq h.hiI (q1m h.hiI hr ⟨by grind,h2⟩))
end Go.Pv
end
