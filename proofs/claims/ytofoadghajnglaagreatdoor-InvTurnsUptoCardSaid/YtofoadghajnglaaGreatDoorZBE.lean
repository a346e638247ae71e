/- Parts of the walk: M43, M44, M45, N49, N50, N51, N52, M62, N81, N82, N83, N85, N86, M47, M48, M49, M50. -/
import Derived.Test.YtofoadghajnglaaGreatDoorZBD
import Derived.Test.YtofoadghajnglaaGreatDoorZAR
import Derived.Test.YtofoadghajnglaaGreatDoorZP
set_option linter.unusedVariables false
set_option linter.unusedSimpArgs false
section
/-Powers of numbers and of intervals;values and ranges of polynomials. No program in it. -/
namespace Go.Pv
def powV (v:Vl):Nat→Vl
 | 0=>oddV false 1 0
 | k+1=>byV (powV v k) v
def powQ (q:Rat):Nat→Rat
 | 0=>1
 | k+1=>powQ q k*q
theorem k0l (v:Vl): ∀k,qV (powV v k)=powQ (qV v) k
 | 0=>H3j
 | k+1=>by rw [powV,H0m,k0l v k];rfl
theorem v0y {v:Vl} (h:canV v): ∀k,canV (powV v k)
 | 0=>q0c _ _ _
 | k+1=>G1b (v0y h k) h
theorem H1y (q:Rat): ∀k,0≤powQ q (2*k)
 | 0=>by show(0:Rat)≤1;decide
 | k+1=>by
  have e:powQ q (2*(k+1))=powQ q (2*k)*(q*q):=by
   show powQ q (2*k)*q*q=_
   rw [Rat.mul_assoc]
  rw [e]
  have h:0≤q*q:=by
   by_cases c:0≤q
   · exact X0r c c
   · have:=X0r (a:= -q) (b:= -q) (by grind) (by grind);grind
  exact X0r (H1y q k) h
theorem W2f : ∀k,0<k→powQ 0 k=0
 | k+1,_=>by rw [powQ,Rat.mul_zero]
theorem J1d {L U:Nat} {q:Rat} (h:luQ L U q): ∀k,luQ (L*k) (U*k) (powQ q k)
 | 0=>by
  have:=k1l (z:=1) (n:=0) (by decide) 0
  rw [show qM 1 0=1 from U0p] at this
  exact this
 | k+1=>q0v (J1d h k) h
def Q1j (a:Ivl) (k:Nat):Vl:=
 if 0<k∧k % 2=0∧hasI a default=true then⟨false,0,0⟩ else if Y0d (powV (ofN a.lo) k) (powV (ofN a.hi) k)>0 then powV (ofN a.hi) k else powV (ofN a.lo) k
def X1l (a:Ivl) (k:Nat):Vl:=if Y0d (powV (ofN a.lo) k) (powV (ofN a.hi) k)>0 then powV (ofN a.lo) k else powV (ofN a.hi) k
def powI (a:Ivl) (k p:Int):Ivl×Int:=
 if Q0m a=true∧0≤k∧k≤8∧Z0a p=true then Y0j (Z0b (Q1j a k.toNat) p.toNat false) (Z0b (X1l a k.toNat) p.toNat true) else(default,1)
theorem y0l {a:Ivl} (h:Q0m a=true) (k:Nat):canV (Q1j a k):=by
 obtain⟨c1,c2⟩:=canI h
 unfold Q1j
 split
 · exact .inr rfl
 · split
   · exact v0y c2 k
   · exact v0y c1 k
theorem y0m {a:Ivl} (h:Q0m a=true) (k:Nat):canV (X1l a k):=by
 obtain⟨c1,c2⟩:=canI h
 unfold X1l
 split
 · exact v0y c1 k
 · exact v0y c2 k
theorem q1v {a:Ivl} (h:Q0m a=true):hasI a default=true↔qN a.lo≤0∧0≤qN a.hi:=by
 unfold hasI
 have hd:Q0h (default:Nm)=true:=by decide
 rw [h,hd]
 simp only [Bool.true_and,Bool.and_eq_true,decide_eq_true_eq]
 rw [cmpN_le,cmpN_le,W0y]
theorem X3j (x:Nm):0<sgnN x↔0<qN x:=by
 have h1:sgnN x≤0↔qN x≤0:=by rw [w0j,V2g,←J0b x.exp];exact qM_le.symm
 rw [←Rat.not_le,←h1];omega
def W0s (m:Mn) (b:List Ivl) (p:Int):Nat→Ivl×Int
 | 0=>(⟨m.c,m.c⟩,0)
 | i+1=>if (W0s m b p i).2≠0 then(default,(W0s m b p i).2) else if m.ks.getD i 0=0 then W0s m b p i
  else if (powI (b.getD i default) (m.ks.getD i 0) p).2≠0 then(default,(powI (b.getD i default) (m.ks.getD i 0) p).2)
  else opI 2 (W0s m b p i).1 (powI (b.getD i default) (m.ks.getD i 0) p).1 p
def J0a (q:List Mn) (b:List Ivl) (p:Int):Nat→Ivl×Int
 | 0=>(default,0)
 | i+1=>if (J0a q b p i).2≠0 then(default,(J0a q b p i).2) else if (W0s (q.getD i default) b p b.length).2≠0 then(default,(W0s (q.getD i default) b p b.length).2)
  else opI 0 (J0a q b p i).1 (W0s (q.getD i default) b p b.length).1 p
def k0k (q:List Mn) (b:List Ivl) (p:Int):Ivl×Int:=if H1c q b.length=true∧b.all Q0m=true∧Z0a p=true then J0a q b p q.length else(default,1)
end Go.Pv
end
section
/-Polynomials of the program:At,over a box,Range. -/
set_option maxRecDepth 100000
namespace Go.Pv
open Go.Proofs
theorem Z2i {α:Type} [Inhabited α] (l:List α) (f:α→Bool):l.all f=true↔ ∀i,i<l.length→f (l.getD i default)=true:=by
 rw [List.all_eq_true]
 constructor
 · intro h i hi
   have:l.getD i default=l[i]:=by simp [List.getD_eq_getElem?_getD,hi]
   rw [this];exact h _ (List.getElem_mem hi)
 · intro h x hx
   obtain⟨i,hi,e⟩:=List.mem_iff_getElem.1 hx
   have:=h i hi
   rw [show l.getD i default=l[i] by simp [List.getD_eq_getElem?_getD,hi],e] at this
   exact this
end Go.Pv
end
section
/-Fields at points and over boxes,on both sides. -/
set_option maxRecDepth 100000
namespace Go.Pv
open Go.Proofs
def J0n (f:List (List Mn)) (b:List Ivl) (p:Int):List Ivl×Int:=if x0r f=true∧b.length=f.length then tabF (fun i=>k0k (f.getD i []) b p) 0 f.length [] else([],1)
end Go.Pv
end
section
/-Quotients,with a bit more that says whether something was left. No program in it. -/
namespace Go.Pv
def Y0u (a b:Nat) (p:Nat):Nat:=p+2+Q0f b-Q0f a
def j0b (a b:Nat) (p:Nat):Nat:=2*(a*2^Y0u a b p/b)+if a*2^Y0u a b p % b=0 then 0 else 1
def ratV (a b:Vl) (p:Nat):Vl:=if a.m=0 then⟨false,0,0⟩ else oddV (a.neg !=b.neg) (j0b a.m b.m p) (a.e-b.e-(Y0u a.m b.m p:Int)-1)
theorem v0x (a b:Vl) (p:Nat):canV (ratV a b p):=by
 unfold ratV
 split
 · exact .inr rfl
 · exact q0c _ _ _
def divN (a b:Nm) (p:Int) (up:Bool):Nm×Int:=numV (Z0b (ratV (ofN a) (ofN b) p.toNat) p.toNat up)
end Go.Pv
end
section
/-math/bits.LeadingZeros64;Div64 by what has half a word. -/
set_option maxRecDepth 100000
namespace Go.Pv
open Go.Proofs
theorem y2w (v:Nat) (hv:v<18446744073709551616) (st:Q0d):PCalls Tryz.prog 277 [.sc (.int .u64 v)] st (fun r st'=>r= .sc (.int .i64 ((64-Q0f v:Nat):Int))∧st'=st):=by
 refine Q0b none Tryz.func277 rfl fun E=>Q0a ?_
 simp -dsimp only [go_sem]
 refine(U2a v hv st).mono ?_
 rintro r st ⟨rfl,rfl⟩
 have hb:Q0f v≤64:=bitlen_le_iff.2 (by omega)
 have e:IntKind.i64.wrap (64-(Q0f v:Int))=((64-Q0f v:Nat):Int):=by rw [Q0v _ (by omega) (by omega)];omega
 simp -dsimp only [go_sem,e]
theorem U0f (x:Int):IntKind.u64.wrap x=x % 18446744073709551616:=by
 simp [IntKind.wrap,IntKind.bits,IntKind.signed]
end Go.Pv
end
section
/-nat.byWord,nat.Div by what has half a word. -/
set_option maxRecDepth 100000
namespace Go.Pv
open Go.Proofs
theorem v1o (a:List UInt64) (d k:Nat) (hd:0<d) (h0:0<k):
 valW (a.drop (k-1))/d=(valW (a.drop k) % d*18446744073709551616+(a.getD (k-1) 0).toNat)/d+18446744073709551616*(valW (a.drop k)/d)∧
 valW (a.drop (k-1)) % d=(valW (a.drop k) % d*18446744073709551616+(a.getD (k-1) 0).toNat) % d:=by
 have h:=G0i a (k-1)
 rw [show k-1+1=k by omega] at h
 have e:valW (a.drop (k-1))=d*(18446744073709551616*(valW (a.drop k)/d))+(valW (a.drop k) % d*18446744073709551616+(a.getD (k-1) 0).toNat):=by
  rw [h]
  have:=Nat.div_add_mod (valW (a.drop k)) d
  generalize valW (a.drop k)/d=q at*
  generalize valW (a.drop k) % d=r at*
  rw [←this]
  grind
 rw [e]
 refine⟨?_,?_⟩
 · rw [Nat.mul_add_div hd,Nat.add_comm]
 · rw [Nat.mul_add_mod]
theorem H2i {r d x:Nat} (hr:r<d) (hx:x<18446744073709551616):(r*18446744073709551616+x)/d<18446744073709551616:=by
 rw [Nat.div_lt_iff_lt_mul (by omega)]
 have:(r+1)*18446744073709551616≤d*18446744073709551616:=Nat.mul_le_mul_right _ hr
 rw [Nat.mul_comm 18446744073709551616 d]
 omega
theorem x1n {d:Nat} (h0:0<d) (h:d<18446744073709551616):Q0l d= [UInt64.ofNat d]:=by
 unfold Q0l
 rw [digs,dif_neg (by omega),Nat.mod_eq_of_lt h,Nat.div_eq_of_lt h,K0t]
 rfl
end Go.Pv
end
section
/-round.quotient,round.Div by what has half a word. -/
set_option maxRecDepth 100000
namespace Go.Pv
open Go.Proofs
theorem Y0l (m s:Nat):Q0f (m*2^s)≤Q0f m+s:=bitlen_le_iff.2 (by
 rw [Nat.pow_add];exact Nat.mul_lt_mul_of_pos_right (Z0d m) (Nat.two_pow_pos _))
def V2y (a b:Nm) (p:Nat):Nm:=⟨a.neg !=b.neg,a.exp-b.exp-(Y0u (valW a.w) (valW b.w) p:Int)-1,Q0l (j0b (valW a.w) (valW b.w) p)⟩
theorem V2w {a b:Nm} {p:Nat} (h:valW a.w≠0):ofX (V2y a b p)=ratV (ofN a) (ofN b) p:=by
 unfold ratV
 rw [if_neg (show¬(ofN a).m=0 from h)]
 show oddV (a.neg !=b.neg) (valW (Q0l (j0b (valW a.w) (valW b.w) p))) _=_
 rw [Q0w]
 rfl
end Go.Pv
end
section
/-The document's gather,for terms in any order:what comes of small terms is a right polynomial. No program in it. -/
namespace Go.Pv
def okT (n L U:Nat) (D:Int) (t:Tm):Prop:=t.ks.length=n∧q0f t.ks=true∧t.ks.sum≤D∧canV t.v∧luQ L U (qV t.v)
theorem okT.up {n L U U':Nat} {D:Int} {t:Tm} (h:okT n L U D t) (hu:U≤U'):okT n L U' D t:=⟨h.1,h.2.1,h.2.2.1,h.2.2.2.1,h.2.2.2.2.up hu⟩
def okMn (n L U:Nat) (D:Int) (m:Mn):Prop:=m.ks.length=n∧q0f m.ks=true∧m.ks.sum≤D∧Q0h m.c=true∧m.c.w.length≠0∧luQ L U (qN m.c)
theorem H3l {x:Nm} (h:x.w.length=0):qN x=0:=by
 have e:x.w= []:=List.eq_nil_of_length_eq_zero h
 rw [←Z0g]
 refine k0m ?_
 show valW x.w=0
 rw [e];rfl
end Go.Pv
end
section
/-Rounding to p bits is the greatest value of p bits that is not above,so it keeps the order. No program in it. -/
namespace Go.Pv
def y0e (p:Nat) (x:Rat):Prop:= ∃m e:Int,x=qM m e∧m.natAbs≤2^p
theorem w1o (v:Vl) (p:Nat) (h: ¬Q0f v.m≤p): ∃k:Int,qV (Z0b v p false)=qM (k*2^(Q0f v.m-p)) v.e∧k*2^(Q0f v.m-p)≤X0i v∧(∀j:Int,j*2^(Q0f v.m-p)≤X0i v→j≤k)∧k.natAbs≤2^p:=by
 unfold Z0b
 rw [if_neg h,q0g,z0w]
 have hb:=Z0d v.m
 have hbp:2^Q0f v.m=2^p*2^(Q0f v.m-p):=by rw [←Nat.pow_add];congr 1;omega
 generalize Q0f v.m-p=d at*
 have hD:=Nat.two_pow_pos d
 have h1:=Nat.div_add_mod v.m (2^d)
 have h2:=Nat.mod_lt v.m hD
 have hq:v.m/2^d<2^p:=by
  rw [Nat.div_lt_iff_lt_mul hD,←hbp];exact hb
 have hcast:((2^d:Nat):Int)=(2:Int)^d:=by simp
 have hD':(0:Int)<(2:Int)^d:=by rw [←hcast];exact_mod_cast hD
 unfold X0i
 cases hn:v.neg
 · refine⟨((v.m/2^d:Nat):Int),?_,?_,fun j hj=> ?_,by rw [Int.natAbs_natCast];exact Nat.le_of_lt hq⟩
   · rw [if_neg (by simp),if_neg (by simp),Nat.add_zero,Int.natCast_mul,hcast]
   · rw [if_neg (by simp),←hcast,←Int.natCast_mul]
     have:=Nat.div_mul_le_self v.m (2^d)
     omega
   · rw [if_neg (by simp)] at hj
     by_cases hj0:j<0
     · have:(0:Int)≤((v.m/2^d:Nat):Int):=Int.natCast_nonneg _
       omega
     · obtain⟨n,rfl⟩:=Int.eq_ofNat_of_zero_le (by omega:0≤j)
       rw [←hcast,←Int.natCast_mul] at hj
       have hj':n*2^d≤v.m:=by exact_mod_cast hj
       have:=(Nat.le_div_iff_mul_le hD).2 hj'
       exact_mod_cast this
 · generalize hc':(if v.m % 2^d≠0∧false≠true then 1 else 0)=c
   have hc:(v.m % 2^d≠0∧c=1)∨(v.m % 2^d=0∧c=0):=by
    by_cases h3:v.m % 2^d=0
    · rw [if_neg (by simp [h3])] at hc';exact .inr ⟨h3,hc'.symm⟩
    · rw [if_pos ⟨h3,by simp⟩] at hc';exact .inl ⟨h3,hc'.symm⟩
   refine⟨-((v.m/2^d+c:Nat):Int),?_,?_,fun j hj=> ?_,by rw [Int.natAbs_neg];simp only [Int.natAbs_natCast];omega⟩
   · rw [if_pos rfl];congr 1;rw [Int.neg_mul,←hcast,←Int.natCast_mul]
   · rw [if_pos rfl,Int.neg_mul,←hcast,←Int.natCast_mul]
     have:v.m≤(v.m/2^d+c)*2^d:=by
      rw [Nat.mul_comm] at h1
      rw [Nat.add_mul]
      rcases hc with ⟨a,rfl⟩ | ⟨a,rfl⟩<;>omega
     omega
   · rw [if_pos rfl] at hj
     by_cases hj0:0<j
     · have:0<j*(2:Int)^d:=Int.mul_pos hj0 hD'
       omega
     · obtain⟨n,hn'⟩:=Int.eq_ofNat_of_zero_le (by omega:0≤ -j)
       obtain rfl:j= -(n:Int):=by omega
       rw [Int.neg_mul,←hcast,←Int.natCast_mul] at hj
       have hj':v.m≤n*2^d:=by omega
       have:v.m/2^d+c≤n:=by
        rcases hc with ⟨a,rfl⟩ | ⟨a,rfl⟩
        · have:v.m/2^d<n:=by
           refine Nat.lt_of_not_le fun hle=> ?_
           have:=Nat.mul_le_mul_right (2^d) hle
           rw [Nat.mul_comm] at h1
           omega
          omega
        · have:=Nat.div_le_div_right (c:=2^d) hj'
          rw [Nat.mul_div_cancel _ hD] at this
          omega
       omega
theorem k1z (v:Vl) (p:Nat):y0e p (qV (Z0b v p false)):=by
 by_cases h:Q0f v.m≤p
 · unfold Z0b
   rw [if_pos h]
   refine⟨X0i v,v.e,rfl,?_⟩
   rw [U0s]
   exact Nat.le_of_lt (Nat.lt_of_lt_of_le (Z0d v.m) (Nat.pow_le_pow_right (by decide) h))
 · obtain⟨k,h1,h2,h3,h4⟩:=w1o v p h
   exact⟨k,v.e+((Q0f v.m-p:Nat):Int),by rw [h1,V0q],h4⟩
theorem w0k {v:Vl} {p:Nat} (hp:1≤p) {x:Rat} (hx:y0e p x) (hle:x≤qV v):x≤qV (Z0b v p false):=by
 by_cases h:Q0f v.m≤p
 · unfold Z0b;rw [if_pos h];exact hle
 · obtain⟨k,h1,h2,h3,h4⟩:=w1o v p h
   rw [h1]
   obtain⟨m,e,rfl,hm⟩:=hx
   have h0:v.m≠0:=fun e=>by rw [e,X0e] at h;omega
   have hlow:=Y0g h0
   obtain⟨d,hd⟩: ∃d,Q0f v.m-p=d:=⟨_,rfl⟩
   rw [hd] at h1 h2 h3⊢
   have hd1:1≤d:=by omega
   have hlow':2^(p-1)*2^d≤v.m:=by rw [←Nat.pow_add];exact Nat.le_trans (Nat.pow_le_pow_right (by decide) (by omega)) hlow
   have hcast:((2^(p-1):Nat):Int)=(2:Int)^(p-1):=by simp
   have hcd:((2^d:Nat):Int)=(2:Int)^d:=by simp
   unfold qV at hle
   by_cases he:v.e+d≤e
   · have e1:qM m e=qM (m*2^(e-(v.e+d)).toNat*2^d) v.e:=by
      rw [V0q,V0q];congr 1;omega
     rw [e1,qM_le] at hle⊢
     have:=h3 _ hle
     exact Int.mul_le_mul_of_nonneg_right this (Int.le_of_lt (by rw [←hcd];exact_mod_cast Nat.two_pow_pos d))
   · -- |x| is at most 2^(p-1) units
     have hb: ∀s:Int,s.natAbs≤2^p→qM s e≤qM ((2:Int)^(p-1)*2^d) v.e:=fun s hs=>by
      have e2:(2:Int)^(p-1)*2^d=2^p*2^(d-1):=by rw [←Int.pow_add,←Int.pow_add];congr 1;omega
      rw [e2,V0q]
      have e3:qM ((2:Int)^p) (v.e+((d-1:Nat):Int))=qM ((2:Int)^p*2^(v.e+((d-1:Nat):Int)-e).toNat) e:=by
       rw [V0q];congr 1;omega
      rw [e3,qM_le]
      have hc2:((2^p:Nat):Int)=(2:Int)^p:=by simp
      have hpos:(1:Int)≤2^(v.e+((d-1:Nat):Int)-e).toNat:=by
       have:0<2^(v.e+((d-1:Nat):Int)-e).toNat:=Nat.two_pow_pos _
       exact_mod_cast this
      have hs':s≤2^p:=by rw [←hc2];omega
      have hp0:(0:Int)≤2^p:=by rw [←hc2];exact Int.natCast_nonneg _
      calc s≤2^p:=hs'
       _=2^p*1:=(Int.mul_one _).symm
       _≤_:=Int.mul_le_mul_of_nonneg_left hpos hp0
     unfold X0i at h2 h3 hle
     cases hn:v.neg
     · rw [hn,if_neg (by simp)] at h3
       refine Rat.le_trans (hb m hm) ?_
       rw [qM_le]
       have:=h3 ((2:Int)^(p-1)) (by rw [←hcast,←hcd,←Int.natCast_mul];exact_mod_cast hlow')
       exact Int.mul_le_mul_of_nonneg_right this (Int.le_of_lt (by rw [←hcd];exact_mod_cast Nat.two_pow_pos d))
     · rw [hn,if_pos rfl] at h3 hle
       have hx2:=hb (-m) (by rw [Int.natAbs_neg];exact hm)
       rw [q0h] at hx2
       have hx3:qM (-((2:Int)^(p-1)*2^d)) v.e≤qM (-(v.m:Int)) v.e:=by rw [q0h ((2:Int)^(p-1)*2^d)];grind
       have:=h3 (-((2:Int)^(p-1))) (by rw [Int.neg_mul];exact qM_le.1 hx3)
       refine Rat.le_trans hle ?_
       rw [qM_le]
       have h5: -(v.m:Int)≤ -((2:Int)^(p-1))*2^d:=by
        rw [Int.neg_mul,←hcast,←hcd,←Int.natCast_mul]
        have:((2^(p-1)*2^d:Nat):Int)≤(v.m:Int):=by exact_mod_cast hlow'
        omega
       exact Int.le_trans h5 (Int.mul_le_mul_of_nonneg_right this (Int.le_of_lt (by rw [←hcd];exact_mod_cast Nat.two_pow_pos d)))
theorem X1a {v w:Vl} {p:Nat} (hp:1≤p) (h:qV v≤qV w):qV (Z0b v p false)≤qV (Z0b w p false):=
 w0k hp (k1z v p) (Rat.le_trans (V0w v p) h)
theorem z0x (v:Vl) (p:Nat):qV (Z0b v p true)= -qV (Z0b (J0r v) p false):=by
 by_cases h0:v.m=0
 · have e:J0r v=v:=by unfold J0r;rw [if_pos h0]
   have hb:Q0f v.m≤p:=by rw [h0,X0e];omega
   rw [e]
   unfold Z0b
   rw [if_pos hb,if_pos hb,k0m h0];rfl
 · have e1:(J0r v).m=v.m:=Z1k v
   have e2:(J0r v).e=v.e:=Z1l v
   have e3:(J0r v).neg= !v.neg:=by unfold J0r;rw [if_neg h0]
   unfold Z0b
   rw [e1,e2,e3]
   split
   · rw [V0x];grind
   · rw [q0g,q0g]
     have ec:(if v.m % 2^(Q0f v.m-p)≠0∧false≠ !v.neg then 1 else 0)=(if v.m % 2^(Q0f v.m-p)≠0∧true≠v.neg then 1 else 0):=by
      cases v.neg<;>simp
     rw [ec]
     generalize v.m/2^(Q0f v.m-p)+(if v.m % 2^(Q0f v.m-p)≠0∧true≠v.neg then 1 else 0)=M
     rw [←q0h]
     congr 1
     cases v.neg<;>simp
theorem K1n {v w:Vl} {p:Nat} (hp:1≤p) (h:qV v≤qV w):qV (Z0b v p true)≤qV (Z0b w p true):=by
 rw [z0x,z0x]
 have:=X1a (v:=J0r w) (w:=J0r v) (p:=p) hp (by rw [V0x,V0x];grind)
 grind
end Go.Pv
end
section
/-Interval operations keep inclusion;powers and ranges have what they should;of small ones there is no error. No program in it. -/
namespace Go.Pv
def subI (a b:Ivl):Prop:=qN b.lo≤qN a.lo∧qN a.hi≤qN b.hi
theorem U2l {a b:Ivl} (ha:Q0m a=true) (hb:Q0m b=true):inI a b=true↔subI a b:=by
 rw [K3j]
 constructor
 · rintro⟨_,_,h1,h2⟩;exact⟨cmpN_ge.1 h1,cmpN_ge.1 h2⟩
 · rintro⟨h1,h2⟩;exact⟨ha,hb,cmpN_ge.2 h1,cmpN_ge.2 h2⟩
theorem H0s {a:Ivl} (h:Q0m a=true):memI (qN a.lo) a:=⟨Rat.le_refl,G0c h⟩
theorem X1z {a:Ivl} (h:Q0m a=true):memI (qN a.hi) a:=⟨G0c h,Rat.le_refl⟩
theorem J4f (k:Nat) {a b:Ivl} (ha:Q0m a=true) (hb:Q0m b=true): ∃X U,memI X a∧memI U b∧qV (loV k (ofN a.lo) (ofN a.hi) (ofN b.lo) (ofN b.hi))=exQ k X U:=by
 have a1:=H0s ha
 have a2:=X1z ha
 have b1:=H0s hb
 have b2:=X1z hb
 unfold loV exQ
 split
 · exact⟨_,_,a1,b1,by rw [V0k];rfl⟩
 · split
   · exact⟨_,_,a1,b2,by rw [K0y];rfl⟩
   · rcases G0s (ofN a.lo) (ofN a.hi) (ofN b.lo) (ofN b.hi) with h | h | h | h
     · exact⟨_,_,a1,b1,by rw [h,H0m];rfl⟩
     · exact⟨_,_,a1,b2,by rw [h,H0m];rfl⟩
     · exact⟨_,_,a2,b1,by rw [h,H0m];rfl⟩
     · exact⟨_,_,a2,b2,by rw [h,H0m];rfl⟩
theorem J4r (k:Nat) {a b:Ivl} (ha:Q0m a=true) (hb:Q0m b=true): ∃X U,memI X a∧memI U b∧qV (hiV k (ofN a.lo) (ofN a.hi) (ofN b.lo) (ofN b.hi))=exQ k X U:=by
 have a1:=H0s ha
 have a2:=X1z ha
 have b1:=H0s hb
 have b2:=X1z hb
 unfold hiV exQ
 split
 · exact⟨_,_,a2,b2,by rw [V0k];rfl⟩
 · split
   · exact⟨_,_,a2,b1,by rw [K0y];rfl⟩
   · rcases y0c (ofN a.lo) (ofN a.hi) (ofN b.lo) (ofN b.hi) with h | h | h | h
     · exact⟨_,_,a1,b1,by rw [h];rfl⟩
     · exact⟨_,_,a1,b2,by rw [h];rfl⟩
     · exact⟨_,_,a2,b1,by rw [h];rfl⟩
     · exact⟨_,_,a2,b2,by rw [h];rfl⟩
theorem Q2t {lo hi:Vl} (h1:canV lo) (h2:canV hi) (h:(Y0j lo hi).2=0):qN (Y0j lo hi).1.lo=qV lo∧qN (Y0j lo hi).1.hi=qV hi:=by
 unfold Y0j at h⊢
 split
 · rename_i hh
   exact⟨(J0u h1 hh.1).2,(J0u h2 hh.2).2⟩
 · rename_i hh;rw [if_neg hh] at h;cases h
theorem Q1w {k:Nat} {a b:Ivl} {p:Int} (h:(opI k a b p).2=0):Q0m a=true∧Q0m b=true∧Z0a p=true:=by
 unfold opI at h
 split at h
 · assumption
 · cases h
theorem y1m {k:Nat} {a b:Ivl} {p:Int} (h:(opI k a b p).2=0):qN (opI k a b p).1.lo=qV (Z0b (loV k (ofN a.lo) (ofN a.hi) (ofN b.lo) (ofN b.hi)) p.toNat false)∧qN (opI k a b p).1.hi=qV (Z0b (hiV k (ofN a.lo) (ofN a.hi) (ofN b.lo) (ofN b.hi)) p.toNat true):=by
 have hr:=Q1w h
 have ca:=canI hr.1
 have cb:=canI hr.2.1
 unfold opI at h⊢
 rw [if_pos hr] at h⊢
 exact Q2t (Q0x (U0b k ca.1 ca.2 cb.1 cb.2) _ _) (Q0x (U0d k ca.1 ca.2 cb.1 cb.2) _ _) h
theorem H0n {x y:Rat} (h0:0≤x) (h:x≤y): ∀k,0≤powQ x k∧powQ x k≤powQ y k
 | 0=>⟨by show(0:Rat)≤1;decide,Rat.le_refl⟩
 | k+1=>by
  obtain⟨a1,a2⟩:=H0n h0 h k
  refine⟨X0r a1 h0,?_⟩
  show powQ x k*x≤powQ y k*y
  have p1:=X0r (a:=powQ y k-powQ x k) (b:=x) (by grind) h0
  have p2:=X0r (a:=powQ y k) (b:=y-x) (by grind) (by grind)
  grind
theorem H0o (x:Rat): ∀k,powQ (-x) k=if k % 2=0 then powQ x k else-powQ x k
 | 0=>rfl
 | k+1=>by
  rw [powQ,powQ,H0o x k]
  by_cases h:k % 2=0
  · rw [if_pos h,if_neg (by omega)];grind
  · rw [if_neg h,if_pos (by omega)];grind
theorem y1d {k:Nat} (hk:k % 2=1) {x y:Rat} (h:x≤y):powQ x k≤powQ y k:=by
 by_cases hx:0≤x
 · exact(H0n hx h k).2
 · have nx:=H0o x k
   rw [if_neg (by omega)] at nx
   by_cases hy:0≤y
   · have a1:=(H0n (x:= -x) (y:= -x) (by grind) Rat.le_refl k).1
     have a2:=(H0n hy Rat.le_refl k).1
     rw [nx] at a1;grind
   · have ny:=H0o y k
     rw [if_neg (by omega)] at ny
     have a1:=(H0n (x:= -y) (y:= -x) (by grind) (by grind) k).2
     rw [nx,ny] at a1;grind
theorem H1w {k:Nat} (hk:k % 2=0) {x y X:Rat} (h1:x≤X) (h2:X≤y):powQ X k≤powQ x k∨powQ X k≤powQ y k:=by
 by_cases hX:0≤X
 · exact .inr (H0n hX h2 k).2
 · have e1:=H0o X k
   have e2:=H0o x k
   rw [if_pos hk] at e1 e2
   have:=(H0n (x:= -X) (y:= -x) (by grind) (by grind) k).2
   rw [e1,e2] at this
   exact .inl this
theorem H1x {k:Nat} (hk:k % 2=0) {x y X:Rat} (h1:x≤X) (h2:X≤y) (h0: ¬(x≤0∧0≤y)):powQ x k≤powQ X k∨powQ y k≤powQ X k:=by
 by_cases hx:0≤x
 · exact .inl (H0n hx h1 k).2
 · have e1:=H0o X k
   have e2:=H0o y k
   rw [if_pos hk] at e1 e2
   have:=(H0n (x:= -y) (y:= -X) (by grind) (by grind) k).2
   rw [e1,e2] at this
   exact .inr this
theorem j1n (a:Ivl) (k:Nat): ∃X,(X=qN a.lo∨X=qN a.hi)∧qV (if Y0d (powV (ofN a.lo) k) (powV (ofN a.hi) k)>0 then powV (ofN a.hi) k else powV (ofN a.lo) k)=powQ X k∧powQ X k≤powQ (qN a.lo) k∧powQ X k≤powQ (qN a.hi) k:=by
 have hg:=q1f (powV (ofN a.lo) k) (powV (ofN a.hi) k)
 rw [k0l,k0l,Z0g,Z0g] at hg
 split
 · rename_i h
   have:=hg.1 h
   exact⟨_,.inr rfl,by rw [k0l,Z0g],by grind,Rat.le_refl⟩
 · rename_i h
   have: ¬powQ (qN a.hi) k<powQ (qN a.lo) k:=fun e=>h (hg.2 e)
   exact⟨_,.inl rfl,by rw [k0l,Z0g],Rat.le_refl,by grind⟩
theorem j1o (a:Ivl) (k:Nat): ∃X,(X=qN a.lo∨X=qN a.hi)∧qV (X1l a k)=powQ X k∧powQ (qN a.lo) k≤powQ X k∧powQ (qN a.hi) k≤powQ X k:=by
 have hg:=q1f (powV (ofN a.lo) k) (powV (ofN a.hi) k)
 rw [k0l,k0l,Z0g,Z0g] at hg
 unfold X1l
 split
 · rename_i h
   have:=hg.1 h
   exact⟨_,.inl rfl,by rw [k0l,Z0g],Rat.le_refl,by grind⟩
 · rename_i h
   have: ¬powQ (qN a.hi) k<powQ (qN a.lo) k:=fun e=>h (hg.2 e)
   exact⟨_,.inr rfl,by rw [k0l,Z0g],by grind,Rat.le_refl⟩
theorem Y2k {a:Ivl} (h:Q0m a=true) {X:Rat} (hX:X=qN a.lo∨X=qN a.hi):memI X a:=by
 rcases hX with rfl | rfl
 · exact H0s h
 · exact X1z h
theorem y1f {a:Ivl} (h:Q0m a=true) (k:Nat) {X:Rat} (hX:memI X a):powQ X k≤qV (X1l a k):=by
 obtain⟨Y,_,e,m1,m2⟩:=j1o a k
 rw [e]
 by_cases hk:k % 2=0
 · rcases H1w hk hX.1 hX.2 with c | c
   · exact Rat.le_trans c m1
   · exact Rat.le_trans c m2
 · exact Rat.le_trans (y1d (by omega) hX.2) m2
theorem x2w {a:Ivl} (h:Q0m a=true) (k:Nat): ∃X,memI X a∧qV (X1l a k)=powQ X k:=by
 obtain⟨Y,h1,e,_,_⟩:=j1o a k
 exact⟨Y,Y2k h h1,e⟩
theorem y1e {a:Ivl} (h:Q0m a=true) (k:Nat) {X:Rat} (hX:memI X a):qV (Q1j a k)≤powQ X k:=by
 have hz:=q1v h
 unfold Q1j
 split
 · rename_i hc
   rw [show qV ⟨false,0,0⟩=0 from k0m rfl]
   obtain⟨m,hm⟩: ∃m,k=2*m:=⟨k/2,by omega⟩
   rw [hm];exact H1y X m
 · rename_i hc
   obtain⟨Y,_,e,m1,m2⟩:=j1n a k
   rw [e]
   by_cases h0:k=0
   · subst h0;exact Rat.le_refl
   by_cases hk:k % 2=0
   · have hnz: ¬(qN a.lo≤0∧0≤qN a.hi):=fun e=>hc ⟨by omega,hk,hz.2 e⟩
     rcases H1x hk hX.1 hX.2 hnz with c | c
     · exact Rat.le_trans m1 c
     · exact Rat.le_trans m2 c
   · exact Rat.le_trans m1 (y1d (by omega) hX.1)
theorem x2t {a:Ivl} (h:Q0m a=true) (k:Nat): ∃X,memI X a∧qV (Q1j a k)=powQ X k:=by
 have hz:=q1v h
 unfold Q1j
 split
 · rename_i hc
   obtain⟨z1,z2⟩:=hz.1 hc.2.2
   exact⟨0,⟨z1,z2⟩,by rw [W2f k hc.1];exact k0m rfl⟩
 · obtain⟨Y,h1,e,_,_⟩:=j1n a k
   exact⟨Y,Y2k h h1,e⟩
theorem H1z {a:Ivl} {k p:Int} (h:(powI a k p).2=0):Q0m a=true∧0≤k∧k≤8∧Z0a p=true:=by
 unfold powI at h
 split at h
 · assumption
 · cases h
theorem W2g {a:Ivl} {k p:Int} (h:(powI a k p).2=0):qN (powI a k p).1.lo=qV (Z0b (Q1j a k.toNat) p.toNat false)∧qN (powI a k p).1.hi=qV (Z0b (X1l a k.toNat) p.toNat true):=by
 have hr:=H1z h
 unfold powI at h⊢
 rw [if_pos hr] at h⊢
 exact Q2t (Q0x (y0l hr.1 _) _ _) (Q0x (y0m hr.1 _) _ _) h
theorem X2s (a:Ivl) (k p:Int):Q0m (powI a k p).1=true:=by
 unfold powI
 split
 · rename_i hr
   refine H0y (Q0x (y0l hr.1 _) _ _) (Q0x (y0m hr.1 _) _ _) ?_
   have h1:=y1e hr.1 k.toNat (H0s hr.1)
   have h2:=y1f hr.1 k.toNat (H0s hr.1)
   have h3:=V0w (Q1j a k.toNat) p.toNat
   have h4:=K0c (X1l a k.toNat) p.toNat
   grind
 · decide
theorem x2s {L U:Nat} {a:Ivl} (ha:luI L U a) (k:Nat):luQ (L*k) (U*k) (qV (Q1j a k)):=by
 have h1:=J1d ha.2.1 k
 have h2:=J1d ha.2.2 k
 unfold Q1j
 split
 · rw [show qV ⟨false,0,0⟩=0 from k0m rfl];exact U0t _ _
 · obtain⟨Y,hY,e,_,_⟩:=j1n a k
   rw [e]
   rcases hY with rfl | rfl
   · exact h1
   · exact h2
theorem x2v {L U:Nat} {a:Ivl} (ha:luI L U a) (k:Nat):luQ (L*k) (U*k) (qV (X1l a k)):=by
 obtain⟨Y,hY,e,_,_⟩:=j1o a k
 rw [e]
 rcases hY with rfl | rfl
 · exact J1d ha.2.1 k
 · exact J1d ha.2.2 k
theorem X3x {L U:Nat} {a:Ivl} {k p:Int} (ha:luI L U a) (h0:0≤k) (h8:k≤8) (hp:Z0a p=true) (hb:L*k.toNat+U*k.toNat+2≤4096):(powI a k p).2=0∧luI (L*k.toNat) (U*k.toNat+1) (powI a k p).1:=by
 have pp:=X0u hp
 have c1:=y0l ha.1 k.toNat
 have c2:=y0m ha.1 k.toNat
 have hr:=X2s a k p
 unfold powI at hr⊢
 rw [if_pos ⟨ha.1,h0,h8,hp⟩] at hr⊢
 refine U1r (Q0x c1 _ _) (Q0x c2 _ _) (J0c c1 (x2s ha _) _ pp _) (J0c c2 (x2v ha _) _ pp _) (by omega) ?_
 have h1:=y1e ha.1 k.toNat (H0s ha.1)
 have h2:=y1f ha.1 k.toNat (H0s ha.1)
 have h3:=V0w (Q1j a k.toNat) p.toNat
 have h4:=K0c (X1l a k.toNat) p.toNat
 grind
theorem V1s {m:Mn} {b:List Ivl} {p:Int} {i:Nat} (h:(W0s m b p (i+1)).2=0):(W0s m b p i).2=0:=by
 rw [W0s] at h
 split at h
 · rename_i c;exact absurd h c
 · rename_i c;exact Classical.not_not.1 c
theorem X2x {m:Mn} {b:List Ivl} {p:Int} {i:Nat} (h:(W0s m b p (i+1)).2=0):(m.ks.getD i 0=0∧W0s m b p (i+1)=W0s m b p i)∨
 (m.ks.getD i 0≠0∧(powI (b.getD i default) (m.ks.getD i 0) p).2=0∧W0s m b p (i+1)=opI 2 (W0s m b p i).1 (powI (b.getD i default) (m.ks.getD i 0) p).1 p):=by
 have h0:=V1s h
 rw [W0s] at h⊢
 rw [if_neg (by rw [h0];decide)] at h⊢
 by_cases c:m.ks.getD i 0=0
 · rw [if_pos c];exact .inl ⟨c,rfl⟩
 · rw [if_neg c] at h⊢
   split at h
   · rename_i d;exact absurd h d
   · rename_i d
     rw [if_neg d]
     exact .inr ⟨c,Classical.not_not.1 d,rfl⟩
def sumK (ks:List Int) (i:Nat):Nat:=(ks.take i).sum.toNat
theorem y1i {m:Mn} {b:List Ivl} {p:Int} {Lc Uc L U:Nat} (hp:Z0a p=true) (hm:Q0h m.c=true∧luQ Lc Uc (qN m.c)) (hk:q0f m.ks=true) (hbd:Lc+Uc+8*L+8*U+20≤4096):
 ∀i,i≤4→i≤m.ks.length→(∀j,j<i→luI L U (b.getD j default))→(W0s m b p i).2=0∧luI (Lc+L*sumK m.ks i) (Uc+U*sumK m.ks i+2*i) (W0s m b p i).1
 | 0,_,_,_=>⟨rfl,(show luI Lc Uc ⟨m.c,m.c⟩ from⟨j0d hm.1,hm.2,hm.2⟩).mono (by omega) (by omega)⟩
 | i+1,h4,hi,hb=>by
  obtain⟨e1,e2⟩:=y1i hp hm hk hbd i (by omega) (by omega) fun j hj=>hb j (by omega)
  have hs:=V0p hk (i+1) hi
  have hs0:=V0p hk i (by omega)
  have hat:=H1h hk i (by omega)
  have hst:=j0v m.ks i (by omega)
  have hsum:sumK m.ks (i+1)=sumK m.ks i+(m.ks.getD i 0).toNat:=by unfold sumK;omega
  have hs8:sumK m.ks (i+1)≤8:=by unfold sumK;omega
  rw [W0s,if_neg (by rw [e1];decide)]
  by_cases c:m.ks.getD i 0=0
  · rw [if_pos c]
    refine⟨e1,e2.mono ?_ ?_⟩
    · rw [hsum,c];exact Nat.le_refl _
    · rw [hsum,c,show(0:Int).toNat=0 from rfl,Nat.add_zero];omega
  · rw [if_neg c]
    have hL8:L*(sumK m.ks i+(m.ks.getD i 0).toNat)≤L*8:=Nat.mul_le_mul_left _ (by omega)
    have hU8:U*(sumK m.ks i+(m.ks.getD i 0).toNat)≤U*8:=Nat.mul_le_mul_left _ (by omega)
    rw [Nat.mul_add] at hL8 hU8
    obtain⟨p1,p2⟩:=X3x (hb i (by omega)) hat.1 hat.2 hp (by omega)
    rw [if_neg (by rw [p1];decide)]
    obtain⟨o1,o2⟩:=W2n e2 p2 hp (by omega)
    refine⟨o1,o2.mono ?_ ?_⟩
    · rw [hsum,Nat.mul_add];omega
    · rw [hsum,Nat.mul_add];omega
theorem j1h {q:List Mn} {b:List Ivl} {p:Int} {i:Nat} (h:(J0a q b p (i+1)).2=0):(J0a q b p i).2=0∧(W0s (q.getD i default) b p b.length).2=0∧J0a q b p (i+1)=opI 0 (J0a q b p i).1 (W0s (q.getD i default) b p b.length).1 p:=by
 rw [J0a] at h⊢
 split at h
 · rename_i c;exact absurd h c
 · rename_i c
   rw [if_neg c]
   split at h
   · rename_i d;exact absurd h d
   · rename_i d
     rw [if_neg d]
     exact⟨Classical.not_not.1 c,Classical.not_not.1 d,rfl⟩
theorem H1p {q:List Mn} {b:List Ivl} {p:Int} {Lc Uc L U:Nat} (hp:Z0a p=true) (hq: ∀j,j<q.length→Q0h (q.getD j default).c=true∧luQ Lc Uc (qN (q.getD j default).c)∧q0f (q.getD j default).ks=true∧(q.getD j default).ks.length=b.length)
 (hb4:b.length≤4) (hb: ∀j,j<b.length→luI L U (b.getD j default)) (hql:q.length≤24) (hbd:Lc+Uc+8*L+8*U+80≤4096):
 ∀i,i≤q.length→(J0a q b p i).2=0∧luI (Lc+L*8) (Uc+U*8+8+2*i) (J0a q b p i).1
 | 0,_=>⟨rfl,U1d _ _⟩
 | i+1,hi=>by
  obtain⟨e1,e2⟩:=H1p hp hq hb4 hb hql hbd i (by omega)
  obtain⟨q1,q2,q3,q4⟩:=hq i (by omega)
  obtain⟨o1,o2⟩:=y1i (b:=b) hp ⟨q1,q2⟩ q3 (by omega) b.length hb4 (by omega) hb
  have hs:=V0p q3 b.length (by omega)
  have hs8:sumK (q.getD i default).ks b.length≤8:=by unfold sumK;omega
  have hL8:L*sumK (q.getD i default).ks b.length≤L*8:=Nat.mul_le_mul_left _ hs8
  have hU8:U*sumK (q.getD i default).ks b.length≤U*8:=Nat.mul_le_mul_left _ hs8
  have o3:luI (Lc+L*8) (Uc+U*8+8+2*i) (W0s (q.getD i default) b p b.length).1:=o2.mono (by omega) (by omega)
  rw [J0a,if_neg (by rw [e1];decide),if_neg (by rw [o1];decide)]
  obtain⟨a1,a2⟩:=y2s (k:=0) (by omega) e2 o3 hp (by omega)
  exact⟨a1,a2.mono (by omega) (by omega)⟩
end Go.Pv
end
