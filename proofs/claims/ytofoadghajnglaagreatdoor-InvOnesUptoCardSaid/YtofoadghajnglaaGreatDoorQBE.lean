/- Parts of the walk: M43, M44, M45, N49, N50, N51, N52, M62, N81, N82, N83, N85, N86, M47, M48, M49, M50. -/
import Derived.Test.YtofoadghajnglaaGreatDoorQBD
import Derived.Test.YtofoadghajnglaaGreatDoorQBA
import Derived.Test.YtofoadghajnglaaGreatDoorQP
set_option linter.unusedVariables false
set_option linter.unusedSimpArgs false
section
/-Powers of numbers and of intervals;values and ranges of polynomials. No program in it. -/
namespace Go.Pv
def powV (v:Vl):Nat→Vl
 | 0=>oddV false 1 0
 | k+1=>byV (powV v k) v
def G3e (a:Ivl) (k:Nat):Vl:=
 if 0<k∧k % 2=0∧hasI a default=true then⟨false,0,0⟩ else if G0r (powV (ofN a.lo) k) (powV (ofN a.hi) k)>0 then powV (ofN a.hi) k else powV (ofN a.lo) k
def G3f (a:Ivl) (k:Nat):Vl:=if G0r (powV (ofN a.lo) k) (powV (ofN a.hi) k)>0 then powV (ofN a.lo) k else powV (ofN a.hi) k
def powI (a:Ivl) (k p:Int):Ivl×Int:=
 if Q0v a=true∧0≤k∧k≤8∧Z0b p=true then w0s (Z0l (G3e a k.toNat) p.toNat false) (Z0l (G3f a k.toNat) p.toNat true) else(default,1)
theorem H2r (x:Nm):0<sgnN x↔0<qN x:=by
 have h1:sgnN x≤0↔qN x≤0:=by rw [z0k,k1j,←J0f x.exp];exact qM_le.symm
 rw [←Rat.not_le,←h1];omega
def Y1f (m:Mn) (b:List Ivl) (p:Int):Nat→Ivl×Int
 | 0=>(⟨m.c,m.c⟩,0)
 | i+1=>if (Y1f m b p i).2≠0 then(default,(Y1f m b p i).2) else if m.ks.getD i 0=0 then Y1f m b p i
  else if (powI (b.getD i default) (m.ks.getD i 0) p).2≠0 then(default,(powI (b.getD i default) (m.ks.getD i 0) p).2)
  else opI 2 (Y1f m b p i).1 (powI (b.getD i default) (m.ks.getD i 0) p).1 p
def G0p (q:List Mn) (b:List Ivl) (p:Int):Nat→Ivl×Int
 | 0=>(default,0)
 | i+1=>if (G0p q b p i).2≠0 then(default,(G0p q b p i).2) else if (Y1f (q.getD i default) b p b.length).2≠0 then(default,(Y1f (q.getD i default) b p b.length).2)
  else opI 0 (G0p q b p i).1 (Y1f (q.getD i default) b p b.length).1 p
def G1s (q:List Mn) (b:List Ivl) (p:Int):Ivl×Int:=if U2f q b.length=true∧b.all Q0v=true∧Z0b p=true then G0p q b p q.length else(default,1)
end Go.Pv
end
section
/-Polynomials of the program:At,over a box,Range. -/
set_option maxRecDepth 100000
namespace Go.Pv
open Go.Proofs
theorem q1h {α:Type} [Inhabited α] (l:List α) (f:α→Bool):l.all f=true↔ ∀i,i<l.length→f (l.getD i default)=true:=by
 rw [List.all_eq_true]
 constructor
 · intro h i hi
   have:l.getD i default=l[i]:=by simp [List.getD_eq_getElem?_getD,hi]
   rw [this];exact h _ (List.getElem_mem hi)
 · intro h x hx
   obtain⟨i,hi,e⟩:=List.mem_iff_getElem.1 hx
   have:=h i hi
   rw [show l.getD i default=l[i] by simp [List.getD_eq_getElem?_getD,hi],e] at this
   exact this
end Go.Pv
end
section
/-Fields at points and over boxes,on both sides. -/
set_option maxRecDepth 100000
namespace Go.Pv
open Go.Proofs
def K0k (f:List (List Mn)) (b:List Ivl) (p:Int):List Ivl×Int:=if J1i f=true∧b.length=f.length then tabF (fun i=>G1s (f.getD i []) b p) 0 f.length [] else([],1)
end Go.Pv
end
section
/-Quotients,with a bit more that says whether something was left. No program in it. -/
namespace Go.Pv
def W0c (a b:Nat) (p:Nat):Nat:=p+2+Q0g b-Q0g a
def x0v (a b:Nat) (p:Nat):Nat:=2*(a*2^W0c a b p/b)+if a*2^W0c a b p % b=0 then 0 else 1
def ratV (a b:Vl) (p:Nat):Vl:=if a.m=0 then⟨false,0,0⟩ else oddV (a.neg !=b.neg) (x0v a.m b.m p) (a.e-b.e-(W0c a.m b.m p:Int)-1)
theorem j0l (a b:Vl) (p:Nat):canV (ratV a b p):=by
 unfold ratV
 split
 · exact .inr rfl
 · exact j0m _ _ _
def divN (a b:Nm) (p:Int) (up:Bool):Nm×Int:=numV (Z0l (ratV (ofN a) (ofN b) p.toNat) p.toNat up)
end Go.Pv
end
section
/-math/bits.LeadingZeros64;Div64 by what has half a word. -/
set_option maxRecDepth 100000
namespace Go.Pv
open Go.Proofs
theorem U2p (v:Nat) (hv:v<18446744073709551616) (st:Q0c):PCalls Tryz.prog 277 [.sc (.int .u64 v)] st (fun r st'=>r= .sc (.int .i64 ((64-Q0g v:Nat):Int))∧st'=st):=by
 refine Q0b none Tryz.func277 rfl fun E=>Q0a ?_
 simp -dsimp only [go_sem]
 refine(w1y v hv st).mono ?_
 rintro r st ⟨rfl,rfl⟩
 have hb:Q0g v≤64:=bitlen_le_iff.2 (by omega)
 have e:IntKind.i64.wrap (64-(Q0g v:Int))=((64-Q0g v:Nat):Int):=by rw [Q0u _ (by omega) (by omega)];omega
 simp -dsimp only [go_sem,e]
theorem W0a (x:Int):IntKind.u64.wrap x=x % 18446744073709551616:=by
 simp [IntKind.wrap,IntKind.bits,IntKind.signed]
end Go.Pv
end
section
/-nat.byWord,nat.Div by what has half a word. -/
set_option maxRecDepth 100000
namespace Go.Pv
open Go.Proofs
theorem U1o (a:List UInt64) (d k:Nat) (hd:0<d) (h0:0<k):
 valW (a.drop (k-1))/d=(valW (a.drop k) % d*18446744073709551616+(a.getD (k-1) 0).toNat)/d+18446744073709551616*(valW (a.drop k)/d)∧
 valW (a.drop (k-1)) % d=(valW (a.drop k) % d*18446744073709551616+(a.getD (k-1) 0).toNat) % d:=by
 have h:=W0r a (k-1)
 rw [show k-1+1=k by omega] at h
 have e:valW (a.drop (k-1))=d*(18446744073709551616*(valW (a.drop k)/d))+(valW (a.drop k) % d*18446744073709551616+(a.getD (k-1) 0).toNat):=by
  rw [h]
  have:=Nat.div_add_mod (valW (a.drop k)) d
  generalize valW (a.drop k)/d=q at*
  generalize valW (a.drop k) % d=r at*
  rw [←this]
  grind
 rw [e]
 refine⟨?_,?_⟩
 · rw [Nat.mul_add_div hd,Nat.add_comm]
 · rw [Nat.mul_add_mod]
theorem Z2c {r d x:Nat} (hr:r<d) (hx:x<18446744073709551616):(r*18446744073709551616+x)/d<18446744073709551616:=by
 rw [Nat.div_lt_iff_lt_mul (by omega)]
 have:(r+1)*18446744073709551616≤d*18446744073709551616:=Nat.mul_le_mul_right _ hr
 rw [Nat.mul_comm 18446744073709551616 d]
 omega
theorem W1e {d:Nat} (h0:0<d) (h:d<18446744073709551616):Q0k d= [UInt64.ofNat d]:=by
 unfold Q0k
 rw [digs,dif_neg (by omega),Nat.mod_eq_of_lt h,Nat.div_eq_of_lt h,J0t]
 rfl
end Go.Pv
end
section
/-round.quotient,round.Div by what has half a word. -/
set_option maxRecDepth 100000
namespace Go.Pv
open Go.Proofs
theorem V0l (m s:Nat):Q0g (m*2^s)≤Q0g m+s:=bitlen_le_iff.2 (by
 rw [Nat.pow_add];exact Nat.mul_lt_mul_of_pos_right (Z0p m) (Nat.two_pow_pos _))
def v1b (a b:Nm) (p:Nat):Nm:=⟨a.neg !=b.neg,a.exp-b.exp-(W0c (valW a.w) (valW b.w) p:Int)-1,Q0k (x0v (valW a.w) (valW b.w) p)⟩
theorem k1z {a b:Nm} {p:Nat} (h:valW a.w≠0):ofX (v1b a b p)=ratV (ofN a) (ofN b) p:=by
 unfold ratV
 rw [if_neg (show¬(ofN a).m=0 from h)]
 show oddV (a.neg !=b.neg) (valW (Q0k (x0v (valW a.w) (valW b.w) p))) _=_
 rw [Q0t]
 rfl
end Go.Pv
end
section
/-Rounding to p bits is the greatest value of p bits that is not above,so it keeps the order. No program in it. -/
namespace Go.Pv
def Z1u (p:Nat) (x:Rat):Prop:= ∃m e:Int,x=qM m e∧m.natAbs≤2^p
theorem G1j (v:Vl) (p:Nat) (h: ¬Q0g v.m≤p): ∃k:Int,qV (Z0l v p false)=qM (k*2^(Q0g v.m-p)) v.e∧k*2^(Q0g v.m-p)≤J0g v∧(∀j:Int,j*2^(Q0g v.m-p)≤J0g v→j≤k)∧k.natAbs≤2^p:=by
 unfold Z0l
 rw [if_neg h,q0h,z0l]
 have hb:=Z0p v.m
 have hbp:2^Q0g v.m=2^p*2^(Q0g v.m-p):=by rw [←Nat.pow_add];congr 1;omega
 generalize Q0g v.m-p=d at*
 have hD:=Nat.two_pow_pos d
 have h1:=Nat.div_add_mod v.m (2^d)
 have h2:=Nat.mod_lt v.m hD
 have hq:v.m/2^d<2^p:=by
  rw [Nat.div_lt_iff_lt_mul hD,←hbp];exact hb
 have hcast:((2^d:Nat):Int)=(2:Int)^d:=by simp
 have hD':(0:Int)<(2:Int)^d:=by rw [←hcast];exact_mod_cast hD
 unfold J0g
 cases hn:v.neg
 · refine⟨((v.m/2^d:Nat):Int),?_,?_,fun j hj=> ?_,by rw [Int.natAbs_natCast];exact Nat.le_of_lt hq⟩
   · rw [if_neg (by simp),if_neg (by simp),Nat.add_zero,Int.natCast_mul,hcast]
   · rw [if_neg (by simp),←hcast,←Int.natCast_mul]
     have:=Nat.div_mul_le_self v.m (2^d)
     omega
   · rw [if_neg (by simp)] at hj
     by_cases hj0:j<0
     · have:(0:Int)≤((v.m/2^d:Nat):Int):=Int.natCast_nonneg _
       omega
     · obtain⟨n,rfl⟩:=Int.eq_ofNat_of_zero_le (by omega:0≤j)
       rw [←hcast,←Int.natCast_mul] at hj
       have hj':n*2^d≤v.m:=by exact_mod_cast hj
       have:=(Nat.le_div_iff_mul_le hD).2 hj'
       exact_mod_cast this
 · generalize hc':(if v.m % 2^d≠0∧false≠true then 1 else 0)=c
   have hc:(v.m % 2^d≠0∧c=1)∨(v.m % 2^d=0∧c=0):=by
    by_cases h3:v.m % 2^d=0
    · rw [if_neg (by simp [h3])] at hc';exact .inr ⟨h3,hc'.symm⟩
    · rw [if_pos ⟨h3,by simp⟩] at hc';exact .inl ⟨h3,hc'.symm⟩
   refine⟨-((v.m/2^d+c:Nat):Int),?_,?_,fun j hj=> ?_,by rw [Int.natAbs_neg];simp only [Int.natAbs_natCast];omega⟩
   · rw [if_pos rfl];congr 1;rw [Int.neg_mul,←hcast,←Int.natCast_mul]
   · rw [if_pos rfl,Int.neg_mul,←hcast,←Int.natCast_mul]
     have:v.m≤(v.m/2^d+c)*2^d:=by
      rw [Nat.mul_comm] at h1
      rw [Nat.add_mul]
      rcases hc with ⟨a,rfl⟩ | ⟨a,rfl⟩<;>omega
     omega
   · rw [if_pos rfl] at hj
     by_cases hj0:0<j
     · have:0<j*(2:Int)^d:=Int.mul_pos hj0 hD'
       omega
     · obtain⟨n,hn'⟩:=Int.eq_ofNat_of_zero_le (by omega:0≤ -j)
       obtain rfl:j= -(n:Int):=by omega
       rw [Int.neg_mul,←hcast,←Int.natCast_mul] at hj
       have hj':v.m≤n*2^d:=by omega
       have:v.m/2^d+c≤n:=by
        rcases hc with ⟨a,rfl⟩ | ⟨a,rfl⟩
        · have:v.m/2^d<n:=by
           refine Nat.lt_of_not_le fun hle=> ?_
           have:=Nat.mul_le_mul_right (2^d) hle
           rw [Nat.mul_comm] at h1
           omega
          omega
        · have:=Nat.div_le_div_right (c:=2^d) hj'
          rw [Nat.mul_div_cancel _ hD] at this
          omega
       omega
theorem x2e (v:Vl) (p:Nat):Z1u p (qV (Z0l v p false)):=by
 by_cases h:Q0g v.m≤p
 · unfold Z0l
   rw [if_pos h]
   refine⟨J0g v,v.e,rfl,?_⟩
   rw [K2w]
   exact Nat.le_of_lt (Nat.lt_of_lt_of_le (Z0p v.m) (Nat.pow_le_pow_right (by decide) h))
 · obtain⟨k,h1,h2,h3,h4⟩:=G1j v p h
   exact⟨k,v.e+((Q0g v.m-p:Nat):Int),by rw [h1,Y0t],h4⟩
theorem z1g {v:Vl} {p:Nat} (hp:1≤p) {x:Rat} (hx:Z1u p x) (hle:x≤qV v):x≤qV (Z0l v p false):=by
 by_cases h:Q0g v.m≤p
 · unfold Z0l;rw [if_pos h];exact hle
 · obtain⟨k,h1,h2,h3,h4⟩:=G1j v p h
   rw [h1]
   obtain⟨m,e,rfl,hm⟩:=hx
   have h0:v.m≠0:=fun e=>by rw [e,K0r] at h;omega
   have hlow:=q0l h0
   obtain⟨d,hd⟩: ∃d,Q0g v.m-p=d:=⟨_,rfl⟩
   rw [hd] at h1 h2 h3⊢
   have hd1:1≤d:=by omega
   have hlow':2^(p-1)*2^d≤v.m:=by rw [←Nat.pow_add];exact Nat.le_trans (Nat.pow_le_pow_right (by decide) (by omega)) hlow
   have hcast:((2^(p-1):Nat):Int)=(2:Int)^(p-1):=by simp
   have hcd:((2^d:Nat):Int)=(2:Int)^d:=by simp
   unfold qV at hle
   by_cases he:v.e+d≤e
   · have e1:qM m e=qM (m*2^(e-(v.e+d)).toNat*2^d) v.e:=by
      rw [Y0t,Y0t];congr 1;omega
     rw [e1,qM_le] at hle⊢
     have:=h3 _ hle
     exact Int.mul_le_mul_of_nonneg_right this (Int.le_of_lt (by rw [←hcd];exact_mod_cast Nat.two_pow_pos d))
   · -- |x| is at most 2^(p-1) units
     have hb: ∀s:Int,s.natAbs≤2^p→qM s e≤qM ((2:Int)^(p-1)*2^d) v.e:=fun s hs=>by
      have e2:(2:Int)^(p-1)*2^d=2^p*2^(d-1):=by rw [←Int.pow_add,←Int.pow_add];congr 1;omega
      rw [e2,Y0t]
      have e3:qM ((2:Int)^p) (v.e+((d-1:Nat):Int))=qM ((2:Int)^p*2^(v.e+((d-1:Nat):Int)-e).toNat) e:=by
       rw [Y0t];congr 1;omega
      rw [e3,qM_le]
      have hc2:((2^p:Nat):Int)=(2:Int)^p:=by simp
      have hpos:(1:Int)≤2^(v.e+((d-1:Nat):Int)-e).toNat:=by
       have:0<2^(v.e+((d-1:Nat):Int)-e).toNat:=Nat.two_pow_pos _
       exact_mod_cast this
      have hs':s≤2^p:=by rw [←hc2];omega
      have hp0:(0:Int)≤2^p:=by rw [←hc2];exact Int.natCast_nonneg _
      calc s≤2^p:=hs'
       _=2^p*1:=(Int.mul_one _).symm
       _≤_:=Int.mul_le_mul_of_nonneg_left hpos hp0
     unfold J0g at h2 h3 hle
     cases hn:v.neg
     · rw [hn,if_neg (by simp)] at h3
       refine Rat.le_trans (hb m hm) ?_
       rw [qM_le]
       have:=h3 ((2:Int)^(p-1)) (by rw [←hcast,←hcd,←Int.natCast_mul];exact_mod_cast hlow')
       exact Int.mul_le_mul_of_nonneg_right this (Int.le_of_lt (by rw [←hcd];exact_mod_cast Nat.two_pow_pos d))
     · rw [hn,if_pos rfl] at h3 hle
       have hx2:=hb (-m) (by rw [Int.natAbs_neg];exact hm)
       rw [x0n] at hx2
       have hx3:qM (-((2:Int)^(p-1)*2^d)) v.e≤qM (-(v.m:Int)) v.e:=by rw [x0n ((2:Int)^(p-1)*2^d)];grind
       have:=h3 (-((2:Int)^(p-1))) (by rw [Int.neg_mul];exact qM_le.1 hx3)
       refine Rat.le_trans hle ?_
       rw [qM_le]
       have h5: -(v.m:Int)≤ -((2:Int)^(p-1))*2^d:=by
        rw [Int.neg_mul,←hcast,←hcd,←Int.natCast_mul]
        have:((2^(p-1)*2^d:Nat):Int)≤(v.m:Int):=by exact_mod_cast hlow'
        omega
       exact Int.le_trans h5 (Int.mul_le_mul_of_nonneg_right this (Int.le_of_lt (by rw [←hcd];exact_mod_cast Nat.two_pow_pos d)))
theorem z1f (v:Vl) (p:Nat):qV (Z0l v p true)= -qV (Z0l (K0a v) p false):=by
 by_cases h0:v.m=0
 · have e:K0a v=v:=by unfold K0a;rw [if_pos h0]
   have hb:Q0g v.m≤p:=by rw [h0,K0r];omega
   rw [e]
   unfold Z0l
   rw [if_pos hb,if_pos hb,J1q h0];rfl
 · have e1:(K0a v).m=v.m:=Q1q v
   have e2:(K0a v).e=v.e:=Q1r v
   have e3:(K0a v).neg= !v.neg:=by unfold K0a;rw [if_neg h0]
   unfold Z0l
   rw [e1,e2,e3]
   split
   · rw [W0k];grind
   · rw [q0h,q0h]
     have ec:(if v.m % 2^(Q0g v.m-p)≠0∧false≠ !v.neg then 1 else 0)=(if v.m % 2^(Q0g v.m-p)≠0∧true≠v.neg then 1 else 0):=by
      cases v.neg<;>simp
     rw [ec]
     generalize v.m/2^(Q0g v.m-p)+(if v.m % 2^(Q0g v.m-p)≠0∧true≠v.neg then 1 else 0)=M
     rw [←x0n]
     congr 1
     cases v.neg<;>simp
end Go.Pv
end
