/- Parts of the walk: M43, M44, M45, N49, N50, N51, N52, M47, M48, M49, M50, N61, N62, N64, M62, N81, N82, N83, N85, N86. -/
import Derived.Test.YtofoadghajnglaaGreatDoorZBD
import Derived.Test.YtofoadghajnglaaGreatDoorZBA
import Derived.Test.YtofoadghajnglaaGreatDoorZP
set_option linter.unusedVariables false
set_option linter.unusedSimpArgs false
section
/-Powers of numbers and of intervals;values and ranges of polynomials. No program in it. -/
namespace Go.Pv
def powV (v:Vl):Nat→Vl
 | 0=>oddV false 1 0
 | k+1=>byV (powV v k) v
def z3k (a:Ivl) (k:Nat):Vl:=
 if 0<k∧k % 2=0∧hasI a default=true then⟨false,0,0⟩ else if U0b (powV (ofN a.lo) k) (powV (ofN a.hi) k)>0 then powV (ofN a.hi) k else powV (ofN a.lo) k
def z3l (a:Ivl) (k:Nat):Vl:=if U0b (powV (ofN a.lo) k) (powV (ofN a.hi) k)>0 then powV (ofN a.lo) k else powV (ofN a.hi) k
def powI (a:Ivl) (k p:Int):Ivl×Int:=
 if Q0w a=true∧0≤k∧k≤8∧Z0p p=true then j0q (Z0h (z3k a k.toNat) p.toNat false) (Z0h (z3l a k.toNat) p.toNat true) else(default,1)
theorem w2f (x:Nm):0<sgnN x↔0<qN x:=by
 have h1:sgnN x≤0↔qN x≤0:=by rw [w0l,X2j,←K0w x.exp];exact qM_le.symm
 rw [←Rat.not_le,←h1];omega
def x1e (m:Mn) (b:List Ivl) (p:Int):Nat→Ivl×Int
 | 0=>(⟨m.c,m.c⟩,0)
 | i+1=>if (x1e m b p i).2≠0 then(default,(x1e m b p i).2) else if m.ks.getD i 0=0 then x1e m b p i
  else if (powI (b.getD i default) (m.ks.getD i 0) p).2≠0 then(default,(powI (b.getD i default) (m.ks.getD i 0) p).2)
  else opI 2 (x1e m b p i).1 (powI (b.getD i default) (m.ks.getD i 0) p).1 p
def x0p (q:List Mn) (b:List Ivl) (p:Int):Nat→Ivl×Int
 | 0=>(default,0)
 | i+1=>if (x0p q b p i).2≠0 then(default,(x0p q b p i).2) else if (x1e (q.getD i default) b p b.length).2≠0 then(default,(x1e (q.getD i default) b p b.length).2)
  else opI 0 (x0p q b p i).1 (x1e (q.getD i default) b p b.length).1 p
def k1s (q:List Mn) (b:List Ivl) (p:Int):Ivl×Int:=if k1m q b.length=true∧b.all Q0w=true∧Z0p p=true then x0p q b p q.length else(default,1)
end Go.Pv
end
section
/-Polynomials of the program:At,over a box,Range. -/
set_option maxRecDepth 100000
namespace Go.Pv
open Go.Proofs
theorem Q1q {α:Type} [Inhabited α] (l:List α) (f:α→Bool):l.all f=true↔ ∀i,i<l.length→f (l.getD i default)=true:=by
 rw [List.all_eq_true]
 constructor
 · intro h i hi
   have:l.getD i default=l[i]:=by simp [List.getD_eq_getElem?_getD,hi]
   rw [this];exact h _ (List.getElem_mem hi)
 · intro h x hx
   obtain⟨i,hi,e⟩:=List.mem_iff_getElem.1 hx
   have:=h i hi
   rw [show l.getD i default=l[i] by simp [List.getD_eq_getElem?_getD,hi],e] at this
   exact this
end Go.Pv
end
section
/-Fields at points and over boxes,on both sides. -/
set_option maxRecDepth 100000
namespace Go.Pv
open Go.Proofs
def W0j (f:List (List Mn)) (b:List Ivl) (p:Int):List Ivl×Int:=if G1e f=true∧b.length=f.length then tabF (fun i=>k1s (f.getD i []) b p) 0 f.length [] else([],1)
end Go.Pv
end
section
/-The document's gather,for terms in any order:what comes of small terms is a right polynomial. No program in it. -/
namespace Go.Pv
def okT (n L U:Nat) (D:Int) (t:Tm):Prop:=t.ks.length=n∧X2t t.ks=true∧t.ks.sum≤D∧canV t.v∧luQ L U (qV t.v)
theorem okT.up {n L U U':Nat} {D:Int} {t:Tm} (h:okT n L U D t) (hu:U≤U'):okT n L U' D t:=⟨h.1,h.2.1,h.2.2.1,h.2.2.2.1,h.2.2.2.2.up hu⟩
def okMn (n L U:Nat) (D:Int) (m:Mn):Prop:=m.ks.length=n∧X2t m.ks=true∧m.ks.sum≤D∧Q0j m.c=true∧m.c.w.length≠0∧luQ L U (qN m.c)
end Go.Pv
end
section
/-Rounding to p bits is the greatest value of p bits that is not above,so it keeps the order. No program in it. -/
namespace Go.Pv
def Y1l (p:Nat) (x:Rat):Prop:= ∃m e:Int,x=qM m e∧m.natAbs≤2^p
theorem k1j (v:Vl) (p:Nat) (h: ¬Q0h v.m≤p): ∃k:Int,qV (Z0h v p false)=qM (k*2^(Q0h v.m-p)) v.e∧k*2^(Q0h v.m-p)≤J0a v∧(∀j:Int,j*2^(Q0h v.m-p)≤J0a v→j≤k)∧k.natAbs≤2^p:=by
 unfold Z0h
 rw [if_neg h,k0t,w0m]
 have hb:=Z0c v.m
 have hbp:2^Q0h v.m=2^p*2^(Q0h v.m-p):=by rw [←Nat.pow_add];congr 1;omega
 generalize Q0h v.m-p=d at*
 have hD:=Nat.two_pow_pos d
 have h1:=Nat.div_add_mod v.m (2^d)
 have h2:=Nat.mod_lt v.m hD
 have hq:v.m/2^d<2^p:=by
  rw [Nat.div_lt_iff_lt_mul hD,←hbp];exact hb
 have hcast:((2^d:Nat):Int)=(2:Int)^d:=by simp
 have hD':(0:Int)<(2:Int)^d:=by rw [←hcast];exact_mod_cast hD
 unfold J0a
 cases hn:v.neg
 · refine⟨((v.m/2^d:Nat):Int),?_,?_,fun j hj=> ?_,by rw [Int.natAbs_natCast];exact Nat.le_of_lt hq⟩
   · rw [if_neg (by simp),if_neg (by simp),Nat.add_zero,Int.natCast_mul,hcast]
   · rw [if_neg (by simp),←hcast,←Int.natCast_mul]
     have:=Nat.div_mul_le_self v.m (2^d)
     omega
   · rw [if_neg (by simp)] at hj
     by_cases hj0:j<0
     · have:(0:Int)≤((v.m/2^d:Nat):Int):=Int.natCast_nonneg _
       omega
     · obtain⟨n,rfl⟩:=Int.eq_ofNat_of_zero_le (by omega:0≤j)
       rw [←hcast,←Int.natCast_mul] at hj
       have hj':n*2^d≤v.m:=by exact_mod_cast hj
       have:=(Nat.le_div_iff_mul_le hD).2 hj'
       exact_mod_cast this
 · generalize hc':(if v.m % 2^d≠0∧false≠true then 1 else 0)=c
   have hc:(v.m % 2^d≠0∧c=1)∨(v.m % 2^d=0∧c=0):=by
    by_cases h3:v.m % 2^d=0
    · rw [if_neg (by simp [h3])] at hc';exact .inr ⟨h3,hc'.symm⟩
    · rw [if_pos ⟨h3,by simp⟩] at hc';exact .inl ⟨h3,hc'.symm⟩
   refine⟨-((v.m/2^d+c:Nat):Int),?_,?_,fun j hj=> ?_,by rw [Int.natAbs_neg];simp only [Int.natAbs_natCast];omega⟩
   · rw [if_pos rfl];congr 1;rw [Int.neg_mul,←hcast,←Int.natCast_mul]
   · rw [if_pos rfl,Int.neg_mul,←hcast,←Int.natCast_mul]
     have:v.m≤(v.m/2^d+c)*2^d:=by
      rw [Nat.mul_comm] at h1
      rw [Nat.add_mul]
      rcases hc with ⟨a,rfl⟩ | ⟨a,rfl⟩<;>omega
     omega
   · rw [if_pos rfl] at hj
     by_cases hj0:0<j
     · have:0<j*(2:Int)^d:=Int.mul_pos hj0 hD'
       omega
     · obtain⟨n,hn'⟩:=Int.eq_ofNat_of_zero_le (by omega:0≤ -j)
       obtain rfl:j= -(n:Int):=by omega
       rw [Int.neg_mul,←hcast,←Int.natCast_mul] at hj
       have hj':v.m≤n*2^d:=by omega
       have:v.m/2^d+c≤n:=by
        rcases hc with ⟨a,rfl⟩ | ⟨a,rfl⟩
        · have:v.m/2^d<n:=by
           refine Nat.lt_of_not_le fun hle=> ?_
           have:=Nat.mul_le_mul_right (2^d) hle
           rw [Nat.mul_comm] at h1
           omega
          omega
        · have:=Nat.div_le_div_right (c:=2^d) hj'
          rw [Nat.mul_div_cancel _ hD] at this
          omega
       omega
theorem Q3p (v:Vl) (p:Nat):Y1l p (qV (Z0h v p false)):=by
 by_cases h:Q0h v.m≤p
 · unfold Z0h
   rw [if_pos h]
   refine⟨J0a v,v.e,rfl,?_⟩
   rw [q2e]
   exact Nat.le_of_lt (Nat.lt_of_lt_of_le (Z0c v.m) (Nat.pow_le_pow_right (by decide) h))
 · obtain⟨k,h1,h2,h3,h4⟩:=k1j v p h
   exact⟨k,v.e+((Q0h v.m-p:Nat):Int),by rw [h1,U0v],h4⟩
theorem y1j {v:Vl} {p:Nat} (hp:1≤p) {x:Rat} (hx:Y1l p x) (hle:x≤qV v):x≤qV (Z0h v p false):=by
 by_cases h:Q0h v.m≤p
 · unfold Z0h;rw [if_pos h];exact hle
 · obtain⟨k,h1,h2,h3,h4⟩:=k1j v p h
   rw [h1]
   obtain⟨m,e,rfl,hm⟩:=hx
   have h0:v.m≠0:=fun e=>by rw [e,X0g] at h;omega
   have hlow:=k0x h0
   obtain⟨d,hd⟩: ∃d,Q0h v.m-p=d:=⟨_,rfl⟩
   rw [hd] at h1 h2 h3⊢
   have hd1:1≤d:=by omega
   have hlow':2^(p-1)*2^d≤v.m:=by rw [←Nat.pow_add];exact Nat.le_trans (Nat.pow_le_pow_right (by decide) (by omega)) hlow
   have hcast:((2^(p-1):Nat):Int)=(2:Int)^(p-1):=by simp
   have hcd:((2^d:Nat):Int)=(2:Int)^d:=by simp
   unfold qV at hle
   by_cases he:v.e+d≤e
   · have e1:qM m e=qM (m*2^(e-(v.e+d)).toNat*2^d) v.e:=by
      rw [U0v,U0v];congr 1;omega
     rw [e1,qM_le] at hle⊢
     have:=h3 _ hle
     exact Int.mul_le_mul_of_nonneg_right this (Int.le_of_lt (by rw [←hcd];exact_mod_cast Nat.two_pow_pos d))
   · -- |x| is at most 2^(p-1) units
     have hb: ∀s:Int,s.natAbs≤2^p→qM s e≤qM ((2:Int)^(p-1)*2^d) v.e:=fun s hs=>by
      have e2:(2:Int)^(p-1)*2^d=2^p*2^(d-1):=by rw [←Int.pow_add,←Int.pow_add];congr 1;omega
      rw [e2,U0v]
      have e3:qM ((2:Int)^p) (v.e+((d-1:Nat):Int))=qM ((2:Int)^p*2^(v.e+((d-1:Nat):Int)-e).toNat) e:=by
       rw [U0v];congr 1;omega
      rw [e3,qM_le]
      have hc2:((2^p:Nat):Int)=(2:Int)^p:=by simp
      have hpos:(1:Int)≤2^(v.e+((d-1:Nat):Int)-e).toNat:=by
       have:0<2^(v.e+((d-1:Nat):Int)-e).toNat:=Nat.two_pow_pos _
       exact_mod_cast this
      have hs':s≤2^p:=by rw [←hc2];omega
      have hp0:(0:Int)≤2^p:=by rw [←hc2];exact Int.natCast_nonneg _
      calc s≤2^p:=hs'
       _=2^p*1:=(Int.mul_one _).symm
       _≤_:=Int.mul_le_mul_of_nonneg_left hpos hp0
     unfold J0a at h2 h3 hle
     cases hn:v.neg
     · rw [hn,if_neg (by simp)] at h3
       refine Rat.le_trans (hb m hm) ?_
       rw [qM_le]
       have:=h3 ((2:Int)^(p-1)) (by rw [←hcast,←hcd,←Int.natCast_mul];exact_mod_cast hlow')
       exact Int.mul_le_mul_of_nonneg_right this (Int.le_of_lt (by rw [←hcd];exact_mod_cast Nat.two_pow_pos d))
     · rw [hn,if_pos rfl] at h3 hle
       have hx2:=hb (-m) (by rw [Int.natAbs_neg];exact hm)
       rw [y0t] at hx2
       have hx3:qM (-((2:Int)^(p-1)*2^d)) v.e≤qM (-(v.m:Int)) v.e:=by rw [y0t ((2:Int)^(p-1)*2^d)];grind
       have:=h3 (-((2:Int)^(p-1))) (by rw [Int.neg_mul];exact qM_le.1 hx3)
       refine Rat.le_trans hle ?_
       rw [qM_le]
       have h5: -(v.m:Int)≤ -((2:Int)^(p-1))*2^d:=by
        rw [Int.neg_mul,←hcast,←hcd,←Int.natCast_mul]
        have:((2^(p-1)*2^d:Nat):Int)≤(v.m:Int):=by exact_mod_cast hlow'
        omega
       exact Int.le_trans h5 (Int.mul_le_mul_of_nonneg_right this (Int.le_of_lt (by rw [←hcd];exact_mod_cast Nat.two_pow_pos d)))
theorem y1i (v:Vl) (p:Nat):qV (Z0h v p true)= -qV (Z0h (K0q v) p false):=by
 by_cases h0:v.m=0
 · have e:K0q v=v:=by unfold K0q;rw [if_pos h0]
   have hb:Q0h v.m≤p:=by rw [h0,X0g];omega
   rw [e]
   unfold Z0h
   rw [if_pos hb,if_pos hb,G1o h0];rfl
 · have e1:(K0q v).m=v.m:=w0h v
   have e2:(K0q v).e=v.e:=w0i v
   have e3:(K0q v).neg= !v.neg:=by unfold K0q;rw [if_neg h0]
   unfold Z0h
   rw [e1,e2,e3]
   split
   · rw [G0j];grind
   · rw [k0t,k0t]
     have ec:(if v.m % 2^(Q0h v.m-p)≠0∧false≠ !v.neg then 1 else 0)=(if v.m % 2^(Q0h v.m-p)≠0∧true≠v.neg then 1 else 0):=by
      cases v.neg<;>simp
     rw [ec]
     generalize v.m/2^(Q0h v.m-p)+(if v.m % 2^(Q0h v.m-p)≠0∧true≠v.neg then 1 else 0)=M
     rw [←y0t]
     congr 1
     cases v.neg<;>simp
end Go.Pv
end
section
/-The document's Make;the deck's powers,monomials,polynomials,fields. -/
set_option maxRecDepth 100000
namespace Go.Pv
open Go.Proofs
theorem H1j {α:Type} [Inhabited α] {l:List α} {P:α→Prop} (h: ∀x∈l,P x) {i:Nat} (hi:i<l.length):P (l.getD i default):=by
 rw [show l.getD i default=l[i] by simp [List.getD_eq_getElem?_getD,hi]]
 exact h _ (List.getElem_mem hi)
def okPoly (n M:Nat) (D:Int) (p:List Mn):Prop:=k1m p n=true∧p.length≤M∧ ∀m∈p,okMn n 12 (18+M) D m
def okField (n M:Nat) (D:Int) (f:List (List Mn)):Prop:=f.length=n∧ ∀p∈f,okPoly n M D p
end Go.Pv
end
section
/-Layer 11:FieldDrawn,FieldHolds. -/
set_option maxRecDepth 100000
namespace Go.Pv
open Go.Proofs
theorem okPoly.at {n M:Nat} {D:Int} {p:List Mn} (h:okPoly n M D p) {j:Nat} (hj:j<p.length):okMn n 12 (18+M) D (p.getD j default):=H1j h.2.2 hj
theorem okField.at {n M:Nat} {D:Int} {f:List (List Mn)} (h:okField n M D f) {i:Nat} (hi:i<f.length):okPoly n M D (f.getD i []):=by
 rw [show f.getD i []=f[i] by simp [List.getD_eq_getElem?_getD,hi]]
 exact h.2 _ (List.getElem_mem hi)
end Go.Pv
end
section
/-Quotients,with a bit more that says whether something was left. No program in it. -/
namespace Go.Pv
def J0y (a b:Nat) (p:Nat):Nat:=p+2+Q0h b-Q0h a
def q0v (a b:Nat) (p:Nat):Nat:=2*(a*2^J0y a b p/b)+if a*2^J0y a b p % b=0 then 0 else 1
def ratV (a b:Vl) (p:Nat):Vl:=if a.m=0 then⟨false,0,0⟩ else oddV (a.neg !=b.neg) (q0v a.m b.m p) (a.e-b.e-(J0y a.m b.m p:Int)-1)
theorem Q1o (a b:Vl) (p:Nat):canV (ratV a b p):=by
 unfold ratV
 split
 · exact .inr rfl
 · exact v0y _ _ _
def divN (a b:Nm) (p:Int) (up:Bool):Nm×Int:=numV (Z0h (ratV (ofN a) (ofN b) p.toNat) p.toNat up)
end Go.Pv
end
section
/-math/bits.LeadingZeros64;Div64 by what has half a word. -/
set_option maxRecDepth 100000
namespace Go.Pv
open Go.Proofs
theorem k2f (v:Nat) (hv:v<18446744073709551616) (st:Q0f):PCalls Tryz.prog 277 [.sc (.int .u64 v)] st (fun r st'=>r= .sc (.int .i64 ((64-Q0h v:Nat):Int))∧st'=st):=by
 refine Q0b none Tryz.func277 rfl fun E=>Q0a ?_
 simp -dsimp only [go_sem]
 refine(K2s v hv st).mono ?_
 rintro r st ⟨rfl,rfl⟩
 have hb:Q0h v≤64:=bitlen_le_iff.2 (by omega)
 have e:IntKind.i64.wrap (64-(Q0h v:Int))=((64-Q0h v:Nat):Int):=by rw [Q0r _ (by omega) (by omega)];omega
 simp -dsimp only [go_sem,e]
theorem U0o (x:Int):IntKind.u64.wrap x=x % 18446744073709551616:=by
 simp [IntKind.wrap,IntKind.bits,IntKind.signed]
end Go.Pv
end
section
/-nat.byWord,nat.Div by what has half a word. -/
set_option maxRecDepth 100000
namespace Go.Pv
open Go.Proofs
theorem j1p (a:List UInt64) (d k:Nat) (hd:0<d) (h0:0<k):
 valW (a.drop (k-1))/d=(valW (a.drop k) % d*18446744073709551616+(a.getD (k-1) 0).toNat)/d+18446744073709551616*(valW (a.drop k)/d)∧
 valW (a.drop (k-1)) % d=(valW (a.drop k) % d*18446744073709551616+(a.getD (k-1) 0).toNat) % d:=by
 have h:=G0r a (k-1)
 rw [show k-1+1=k by omega] at h
 have e:valW (a.drop (k-1))=d*(18446744073709551616*(valW (a.drop k)/d))+(valW (a.drop k) % d*18446744073709551616+(a.getD (k-1) 0).toNat):=by
  rw [h]
  have:=Nat.div_add_mod (valW (a.drop k)) d
  generalize valW (a.drop k)/d=q at*
  generalize valW (a.drop k) % d=r at*
  rw [←this]
  grind
 rw [e]
 refine⟨?_,?_⟩
 · rw [Nat.mul_add_div hd,Nat.add_comm]
 · rw [Nat.mul_add_mod]
theorem W2v {r d x:Nat} (hr:r<d) (hx:x<18446744073709551616):(r*18446744073709551616+x)/d<18446744073709551616:=by
 rw [Nat.div_lt_iff_lt_mul (by omega)]
 have:(r+1)*18446744073709551616≤d*18446744073709551616:=Nat.mul_le_mul_right _ hr
 rw [Nat.mul_comm 18446744073709551616 d]
 omega
theorem z1e {d:Nat} (h0:0<d) (h:d<18446744073709551616):Q0n d= [UInt64.ofNat d]:=by
 unfold Q0n
 rw [digs,dif_neg (by omega),Nat.mod_eq_of_lt h,Nat.div_eq_of_lt h,V0a]
 rfl
end Go.Pv
end
section
/-round.quotient,round.Div by what has half a word. -/
set_option maxRecDepth 100000
namespace Go.Pv
open Go.Proofs
theorem Y0j (m s:Nat):Q0h (m*2^s)≤Q0h m+s:=bitlen_le_iff.2 (by
 rw [Nat.pow_add];exact Nat.mul_lt_mul_of_pos_right (Z0c m) (Nat.two_pow_pos _))
def J2g (a b:Nm) (p:Nat):Nm:=⟨a.neg !=b.neg,a.exp-b.exp-(J0y (valW a.w) (valW b.w) p:Int)-1,Q0n (q0v (valW a.w) (valW b.w) p)⟩
theorem J2e {a b:Nm} {p:Nat} (h:valW a.w≠0):ofX (J2g a b p)=ratV (ofN a) (ofN b) p:=by
 unfold ratV
 rw [if_neg (show¬(ofN a).m=0 from h)]
 show oddV (a.neg !=b.neg) (valW (Q0n (q0v (valW a.w) (valW b.w) p))) _=_
 rw [Q0z]
 rfl
end Go.Pv
end
section
/-The document's Div,bit by bit. -/
set_option maxRecDepth 100000
namespace Go.Pv
open Go.Proofs
theorem v2b (l:List UInt32) (j:Nat) (hj:j<l.length):(l.getD j 0).toNat=valD l/4294967296^j % 4294967296:=by
 rw [z0o l j (by omega),w0f]
 have:=UInt32.toNat_lt (l.getD j 0)
 omega
theorem bitD (m i:Nat) (hi:i/32<(Q0c m).length):((Q0c m).getD (i/32) 0).toNat/2^(i % 32) % 2=m/2^i % 2:=by
 rw [v2b _ _ hi,Q0y,y0y]
 have h1:m/2^i=m/2^(32*(i/32))/2^(i % 32):=by
  rw [Nat.div_div_eq_div_mul,←Nat.pow_add];congr 2;omega
 rw [h1]
 generalize m/2^(32*(i/32))=x
 have hs:i % 32<32:=Nat.mod_lt _ (by decide)
 generalize i % 32=s at*
 have t:=Nat.testBit_mod_two_pow x 32 s
 rw [decide_eq_true hs,Bool.true_and,Nat.testBit_eq_decide_div_mod_eq,Nat.testBit_eq_decide_div_mod_eq] at t
 have t2:=decide_eq_decide.1 t
 rw [show(4294967296:Nat)=2^32 from rfl]
 have a1:=Nat.mod_lt (x % 2^32/2^s) (show 0<2 by decide)
 have a2:=Nat.mod_lt (x/2^s) (show 0<2 by decide)
 omega
theorem W2e (m n k:Nat) (hn:0<n) (h0:0<k):m/2^(k-1)=2*(m/2^k)+m/2^(k-1) % 2:=by
 have e:m/2^k=m/2^(k-1)/2:=by
  rw [Nat.div_div_eq_div_mul,←Nat.pow_succ];congr 2;omega
 rw [e];omega
theorem Y3r (x n b:Nat) (hn:0<n) (hb:b<2):(2*x+b)/n=2*(x/n)+(if n≤2*(x % n)+b then 1 else 0)∧(2*x+b) % n=2*(x % n)+b-(if n≤2*(x % n)+b then n else 0):=by
 have h1:=Nat.div_add_mod x n
 have h2:=Nat.mod_lt x hn
 generalize hq:x/n=q at*
 generalize hr:x % n=r at*
 have e:2*x+b=n*(2*q)+(2*r+b):=by rw [←h1];grind
 rw [e,Nat.mul_add_div hn,Nat.mul_add_mod]
 split
 · rename_i hle
   have e2:2*r+b=n*1+(2*r+b-n):=by omega
   rw [e2,Nat.mul_add_div hn,Nat.mul_add_mod,Nat.div_eq_of_lt (by omega),Nat.mod_eq_of_lt (by omega)]
   omega
 · rename_i hle
   rw [Nat.div_eq_of_lt (by omega),Nat.mod_eq_of_lt (by omega)]
   omega
theorem setB (o:List UInt32) (i Q:Nat) (hi:i/32<o.length) (hv:valD o=Q*2^(i+1)):
 ((o.getD (i/32) 0).toNat|||2^(i % 32))<4294967296∧valD (o.set (i/32) (UInt32.ofNat ((o.getD (i/32) 0).toNat|||2^(i % 32))))=(2*Q+1)*2^i:=by
 have hd:=v2b o (i/32) hi
 have hs:i % 32<32:=Nat.mod_lt _ (by decide)
 have hdiv:valD o/4294967296^(i/32)=Q*2^(i % 32+1):=by
  rw [hv,y0y,show i+1=(i % 32+1)+32*(i/32) by omega,Nat.pow_add,←Nat.mul_assoc,Nat.mul_div_cancel _ (Nat.two_pow_pos _)]
 rw [hdiv] at hd
 have hm:(o.getD (i/32) 0).toNat % 2^(i % 32+1)=0:=by
  rw [hd,show(4294967296:Nat)=2^(i % 32+1)*2^(31-i % 32) by rw [←Nat.pow_add,show i % 32+1+(31-i % 32)=32 by omega],Nat.mod_mul_right_mod,Nat.mul_mod_left]
 have hor:(o.getD (i/32) 0).toNat|||2^(i % 32)=2^(i % 32)+(o.getD (i/32) 0).toNat:=by
  rw [Nat.or_comm]
  exact X1c _ _ (i % 32+1) (Nat.pow_lt_pow_right (by decide) (by omega)) hm
 have hlt:(o.getD (i/32) 0).toNat|||2^(i % 32)<4294967296:=by
  rw [show(4294967296:Nat)=2^32 from rfl]
  exact Nat.or_lt_two_pow (by have:=UInt32.toNat_lt (o.getD (i/32) 0);exact this) (Nat.pow_lt_pow_right (by decide) hs)
 refine⟨hlt,?_⟩
 have hset:=j0z o (i/32) (UInt32.ofNat ((o.getD (i/32) 0).toNat|||2^(i % 32))) hi
 rw [X0j _ hlt,hor,Nat.mul_add] at hset
 rw [hor]
 have hp:4294967296^(i/32)*2^(i % 32)=2^i:=by rw [y0y,←Nat.pow_add];congr 1;omega
 rw [hp,hv] at hset
 rw [Nat.add_mul,Nat.one_mul,Nat.mul_comm 2 Q,Nat.mul_assoc,show 2*2^i=2^(i+1) by rw [Nat.pow_succ];omega]
 omega
theorem G2n (m n:Nat) (st:Q0f) (hm:(Q0c m).length≤1000000000) (hn0:0<n) (hn:(Q0c n).length≤1000000000):PCalls Tryz.prog 245 [.sl .no (encD (Q0c m)),.sl .no (encD (Q0c n))] st
 (fun r st'=>r= .tup [.sl .no (encD (Q0c (m/n))),.sl .no (encD (Q0c (m % n)))]∧st'=st):=by
 have hbl:Q0h m≤32*(Q0c m).length:=bitlen_le_iff.2 (by
  have:=q0m (Q0c m)
  rw [Q0y,y0y] at this
  exact this)
 refine Q0b none Tryz.func245 rfl fun E=>Q0a ?_
 simp -dsimp only [go_sem]
 refine⟨by omega,?_⟩
 refine(k0s m st (by omega)).mono ?_
 rintro r st ⟨rfl,rfl⟩
 have e1:IntKind.i64.wrap ((Q0h m:Int)-1)=(Q0h m:Int)-1:=Q0r _ (by omega) (by omega)
 simp -dsimp only [go_sem,e1]
 refine Z1w [false,false,false,false,false,false,false,true] ?_
 simp -dsimp only [go_sem]
 refine Q0e [true,true,false,false,false,false,true,true,true] 1 0
  (fun c s'=> ∃(k:Nat) (o:List UInt32),k=c∧k≤Q0h m∧o.length=(Q0c m).length∧valD o=m/2^k/n*2^k∧
   s'=⟨[.sl .no (encD (Q0c m)),.sl .no (encD (Q0c n)),.junk,.junk,.junk,.junk,.ms false 0 0 (Q0c m).length,.sl .no (encD (Q0c (m/2^k % n))),.sc (.int .i64 ((k:Int)-1))]++List.replicate 45 .junk,[encD o],[],st⟩) (Q0h m) ?_ ?_
 · simp -dsimp only [go_sem]
   have h0:m/2^Q0h m=0:=Nat.div_eq_of_lt (Z0c m)
   refine⟨Q0h m,List.replicate (Q0c m).length 0,rfl,Nat.le_refl _,by simp,by rw [h0,w0e];simp,?_⟩
   rw [h0,Nat.zero_mod,Z0g]
   rfl
 · rintro c s' ⟨k,o,rfl,hk,ho,hv,rfl⟩
   simp -dsimp only [go_sem]
   refine ck (fun h=> ?_) (fun h=> ?_)
   · have h0:0<k:=by have:=of_decide_eq_true h;omega
     have e2:(k:Int)-1=((k-1:Nat):Int):=by omega
     have hki:(k-1)/32<(Q0c m).length:=by omega
     have hs32:(k-1) % 32<32:=Nat.mod_lt _ (by decide)
     have q1:IntKind.i64.wrap (((k-1:Nat):Int).tdiv 32)=(((k-1)/32:Nat):Int):=by
      rw [show(32:Int)=((32:Nat):Int) from rfl,U0u,Q0m _ (by omega)]
     have q2:((k-1:Nat):Int).tmod 32=(((k-1) % 32:Nat):Int):=by
      rw [show(32:Int)=((32:Nat):Int) from rfl,U0t]
     have g1:=X0t (Q0c m) ((k-1)/32) hki
     have s1:=U1a ((Q0c m).getD ((k-1)/32) 0).toNat ((k-1) % 32) (by omega)
     have hbit:=bitD m (k-1) hki
     have hdl:=UInt32.toNat_lt ((Q0c m).getD ((k-1)/32) 0)
     have s2:bAnd .u32 ((((Q0c m).getD ((k-1)/32) 0).toNat/2^((k-1) % 32):Nat):Int) 1=((m/2^(k-1) % 2:Nat):Int):=by
      have:=U1b (((Q0c m).getD ((k-1)/32) 0).toNat/2^((k-1) % 32)) 1 (Nat.lt_of_le_of_lt (Nat.div_le_self _ _) hdl) (by decide)
      rw [Nat.and_one_is_mod,hbit] at this
      exact this
     obtain⟨d1,d2⟩:=Y3r (m/2^k) n (m/2^(k-1) % 2) hn0 (Nat.mod_lt _ (by decide))
     rw [←W2e m n k hn0 h0] at d1 d2
     have hrl:m/2^k % n<n:=Nat.mod_lt _ hn0
     have hb2:m/2^(k-1) % 2<2:=Nat.mod_lt _ (by decide)
     have hlr: ∀x,x≤2*n→(Q0c x).length≤1000000001:=fun x hx=>by
      have h1:=G0e (n:=x) (k:=(Q0c n).length+1) (by
       have h2:=q0m (Q0c n)
       rw [Q0y] at h2
       rw [Nat.pow_succ];omega)
      omega
     generalize hr:m/2^k % n=r at*
     generalize hb:m/2^(k-1) % 2=b at*
     simp -dsimp only [go_sem,e2]
     refine(q0u r 1 _ (by have:=hlr r (by omega);omega) (by omega)).mono ?_
     rintro rr st ⟨rfl,rfl⟩
     rw [Nat.pow_one]
     simp -dsimp only [go_sem,q1,q2,g1,s1,s2]
     refine⟨⟨by omega,by omega⟩,by omega,?_⟩
     obtain⟨t,ht⟩: ∃t,t=2*r+b:=⟨_,rfl⟩
     rw [←ht] at d1 d2
     have hto:(k-1)/32<o.length:=by omega
     have e4:IntKind.i64.wrap (((k-1:Nat):Int)-1)=((k-1:Nat):Int)-1:=Q0r _ (by omega) (by omega)
     have b01:b=0∨b=1:=by omega
     rcases b01 with hb0 | hb1
     have f1:((b:Int)==1)=false:=beq_eq_false_iff_ne.2 (by omega)
     simp -dsimp only [go_sem,f1]
     rw [show r*2=t by omega]
     rotate_left
     have f1:((b:Int)==1)=true:=by rw [hb1];rfl
     simp -dsimp only [go_sem,f1]
     have a1:=Q1h (r*2) 1 st (by have:=hlr (r*2) (by omega);omega) (by have:=hlr 1 (by omega);omega)
     rw [show Q0c 1= [1] from by decide+kernel,show r*2+1=t by omega] at a1
     refine a1.mono ?_
     rintro rr st ⟨rfl,rfl⟩
     simp -dsimp only [go_sem]
     all_goals
      refine(k1r t n _ (by have:=hlr t (by omega);omega) (by omega)).mono ?_
      rintro rr st ⟨rfl,rfl⟩
      by_cases hge:n≤t
      · have c1:decide (cmpW t n≥0)=true:=decide_eq_true (by unfold cmpW cmpI;split<;>(try split)<;>omega)
        rw [if_pos hge] at d1 d2
        simp -dsimp only [go_sem,c1]
        refine(W1q t n _ (by have:=hlr t (by omega);omega) hge).mono ?_
        rintro rr st ⟨rfl,rfl⟩
        have hvk:valD o=m/2^k/n*2^(k-1+1):=by rw [hv];congr 2;omega
        obtain⟨b1,b2⟩:=setB o (k-1) (m/2^k/n) hto hvk
        have g2:=X0t o ((k-1)/32) hto
        have hp32:2^((k-1) % 32)<4294967296:=by rw [show(4294967296:Nat)=2^32 from rfl];exact Nat.pow_lt_pow_right (by decide) hs32
        have sh1:bShl .u32 1 (((k-1) % 32:Nat):Int)=((2^((k-1) % 32):Nat):Int):=by
         have:=w1h 1 ((k-1) % 32) (by omega)
         rw [Nat.one_mul,Nat.mod_eq_of_lt hp32] at this
         exact this
        have or1:bOr .u32 (((o.getD ((k-1)/32) 0).toNat:Nat):Int) ((2^((k-1) % 32):Nat):Int)=(((UInt32.ofNat ((o.getD ((k-1)/32) 0).toNat|||2^((k-1) % 32))).toNat:Nat):Int):=by
         rw [Y2f _ _ (UInt32.toNat_lt _) hp32,X0j _ b1]
        have o1:=z0m o ((k-1)/32) (UInt32.ofNat ((o.getD ((k-1)/32) 0).toNat|||2^((k-1) % 32))) hto
        simp -dsimp only [go_sem]
        refine Q0k Z0f 54 (.step 0 [] (.step 1 [] (.step 2 [] (.step 3 [] (.step 4 [] (.step 5 [] (.step 6 [] (.step 7 [] (.step 8 [] (.step 9 [] (.step 10 [] (.done)))))))))))) (by decide+kernel) (by simp) ?_
        simp -dsimp only [go_sem,q1,q2,g2,sh1,or1,o1,e4]
        refine⟨⟨by omega,by omega⟩,by omega,by omega,⟨by omega,by omega⟩,⟨by omega,by omega⟩,k-1,by omega,k-1,o.set ((k-1)/32) (UInt32.ofNat ((o.getD ((k-1)/32) 0).toNat|||2^((k-1) % 32))),rfl,by omega,by rw [List.length_set];exact ho,?_,by rw [d2]⟩
        rw [b2,d1]
      · have c1:decide (cmpW t n≥0)=false:=decide_eq_false (by unfold cmpW cmpI;split<;>(try split)<;>omega)
        rw [if_neg hge] at d1 d2
        simp -dsimp only [go_sem,c1,e4]
        refine⟨k-1,by omega,k-1,o,rfl,by omega,ho,?_,by rw [d2,Nat.sub_zero]⟩
        rw [hv,d1,Nat.add_zero,Nat.mul_comm 2,Nat.mul_assoc]
        congr 1
        rw [show k=k-1+1 by omega,Nat.pow_succ];simp [Nat.mul_comm]
   · have hz:k=0:=by have:=of_decide_eq_false h;omega
     subst hz
     have ht:o.take (Q0c m).length=o:=List.take_of_length_le (by omega)
     have hle:(Q0c m).length≤o.length:=by omega
     rw [Nat.pow_zero,Nat.div_one,Nat.mul_one] at hv
     rw [Nat.pow_zero,Nat.div_one]
     simp -dsimp only [go_sem]
     refine Z0u 0 ?_ ?_
     · simp -dsimp only [go_sem]
     refine Q0a ?_
     simp -dsimp only [go_sem,ht,hle]
     refine(Q1w o st (by omega)).mono ?_
     rintro rr st ⟨rfl,rfl⟩
     simp -dsimp only [go_sem]
     rw [←J0l o,hv]
end Go.Pv
end
section
/-The document's Ratio,quot,Op:quotients by a number above nought. -/
set_option maxRecDepth 100000
namespace Go.Pv
open Go.Proofs
theorem V0m (m s:Nat):Q0h (m*2^s)≤Q0h m+s:=bitlen_le_iff.2 (by
 rw [Nat.pow_add];exact Nat.mul_lt_mul_of_pos_right (Z0c m) (Nat.two_pow_pos _))
theorem Y2d {a b:Vl} {p:Nat} (ha:bdV 4096 65536 a) (hb:bdV 4096 65536 b) (hp:p≤256):bdV 10000 1000000 (ratV a b p):=by
 unfold ratV
 split
 · refine⟨?_,?_,?_⟩
   · show Q0h 0≤_;rw [X0g];omega
   · show -((1000000:Nat):Int)≤0;omega
   · show(0:Int)≤((1000000:Nat):Int);omega
 · have h1:=ha.1
   have h2:=hb.1
   have hm:J0y a.m b.m p≤4400:=by unfold J0y;omega
   have hq:Q0h (q0v a.m b.m p)≤10000:=by
    have q1:q0v a.m b.m p≤a.m*2^J0y a.m b.m p*2^2:=by
     unfold q0v
     have:=Nat.div_le_self (a.m*2^J0y a.m b.m p) b.m
     have:=Nat.mod_le (a.m*2^J0y a.m b.m p) b.m
     split
     · omega
     · rename_i hne
       have:a.m*2^J0y a.m b.m p≠0:=fun e=>by rw [e,Nat.zero_mod] at hne;exact hne rfl
       omega
    have h3:=X0o q1
    have h4:=V0m (a.m*2^J0y a.m b.m p) 2
    have h5:=V0m a.m (J0y a.m b.m p)
    omega
   exact(Y1y (neg:=a.neg !=b.neg) (n:=10000) (k:=900000) hq (by have:=ha.2;have:=hb.2;omega) (by have:=ha.2;have:=hb.2;omega)).mono (by omega) (by omega)
set_option maxHeartbeats 4000000 in
theorem w2p (a b:Vl) (p:Nat) (up:Bool) (st:Q0f) (ha:bdV 4096 65536 a) (hb:bdV 4096 65536 b) (hb0:0<b.m) (hp:p≤256):
 PCalls Tryz.prog 189 [.agg (encV a),.agg (encV b),.sc (.int .i64 p),.sc (.bool up)] st (fun r st'=>r= .agg (encV (Z0h (ratV a b p) p up))∧st'=st):=by
 have dga:=J0f ha (by omega)
 have dgb:=J0f hb (by omega)
 have la:(Q0c a.m).length≤200:=by have:=Z0l a.m;have:=ha.1;omega
 have lb:(Q0c b.m).length≤200:=by have:=Z0l b.m;have:=hb.1;omega
 have hbd:=Y2d ha hb hp
 refine Q0b none Tryz.func189 rfl fun E=>Q0a ?_
 by_cases h0:a.m=0
 · have f1:(((Q0c a.m).length:Int)==0)=true:=by rw [h0,Z0g];rfl
   simp -dsimp only [go_sem,f1]
   unfold ratV
   rw [if_pos h0]
   unfold Z0h
   rw [if_pos (by show Q0h 0≤p;rw [X0g];omega)]
   rw [Z0g]
   rfl
 · have hne:Q0c a.m≠ []:=fun e=>h0 (digitsOf_nil.1 e)
   have f1:(((Q0c a.m).length:Int)==0)=false:=beq_eq_false_iff_ne.2 (fun e=>hne (List.eq_nil_of_length_eq_zero (by omega)))
   have h1:=ha.1
   have h2:=hb.1
   have e1:IntKind.i64.wrap ((p:Int)+2)=((p+2:Nat):Int):=by rw [Q0r _ (by omega) (by omega)];omega
   have e2:IntKind.i64.wrap (((p+2:Nat):Int)+(Q0h b.m:Int))=((p+2+Q0h b.m:Nat):Int):=by rw [Q0r _ (by omega) (by omega)];omega
   have e3:IntKind.i64.wrap (((p+2+Q0h b.m:Nat):Int)-(Q0h a.m:Int))=((p+2+Q0h b.m:Nat):Int)-(Q0h a.m:Int):=Q0r _ (by omega) (by omega)
   have mx:(if 0>((p+2+Q0h b.m:Nat):Int)-(Q0h a.m:Int) then 0 else((p+2+Q0h b.m:Nat):Int)-(Q0h a.m:Int))=((J0y a.m b.m p:Nat):Int):=by
    unfold J0y;split<;>omega
   have hs:J0y a.m b.m p≤4400:=by unfold J0y;omega
   have hrat:ratV a b p=oddV (a.neg !=b.neg) (q0v a.m b.m p) (a.e-b.e-(J0y a.m b.m p:Int)-1):=by unfold ratV;rw [if_neg h0]
   have hqm:q0v a.m b.m p=2*(a.m*2^J0y a.m b.m p/b.m)+if a.m*2^J0y a.m b.m p % b.m=0 then 0 else 1:=rfl
   have hshl:=V0m a.m (J0y a.m b.m p)
   have hdl:=Z0l (a.m*2^J0y a.m b.m p)
   rw [hqm] at hrat
   generalize J0y a.m b.m p=s at*
   have hqb:=X0o (Nat.div_le_self (a.m*2^s) b.m)
   have hmod:(Q0c (a.m*2^s % b.m)).length=0↔a.m*2^s % b.m=0:=by
    constructor
    · intro h;exact digitsOf_nil.1 (List.eq_nil_of_length_eq_zero h)
    · intro h;rw [h,Z0g];rfl
   simp -dsimp only [go_sem,f1]
   refine Q0k Z0f 66 (.step 0 [] (.step 1 [] (.step 2 [] (.step 3 [] (.step 6 [] (.step 7 [] (.step 4 [7] (.step 5 [] (.step 8 [] (.step 9 [] (.step 10 [] (.step 11 [] (.done))))))))))))) (by decide+kernel) (by simp) ?_
   simp -dsimp only [go_sem]
   refine(k0s b.m _ (by omega)).mono ?_
   rintro r st ⟨rfl,rfl⟩
   simp -dsimp only [go_sem]
   refine(k0s a.m _ (by omega)).mono ?_
   rintro r st ⟨rfl,rfl⟩
   simp -dsimp only [go_sem,e1,e2,e3,mx]
   refine Q0k Z0f 66 (.step 0 [] (.step 1 [] (.step 2 [] (.step 4 [] (.step 5 [] (.step 3 [5] (.step 6 [] (.step 7 [] (.step 8 [] (.step 9 [] (.step 10 [] (.step 11 [] (.done))))))))))))) (by decide+kernel) (by simp) ?_
   simp -dsimp only [go_sem]
   refine(q0u a.m s _ (by omega) (by omega)).mono ?_
   rintro r st ⟨rfl,rfl⟩
   simp -dsimp only [go_sem]
   refine(G2n (a.m*2^s) b.m _ (by omega) hb0 (by omega)).mono ?_
   rintro r st ⟨rfl,rfl⟩
   have e4:IntKind.i64.wrap (a.e-b.e)=a.e-b.e:=Q0r _ (by have:=ha.2;have:=hb.2;omega) (by have:=ha.2;have:=hb.2;omega)
   have e5:IntKind.i64.wrap (a.e-b.e-(s:Int))=a.e-b.e-(s:Int):=Q0r _ (by have:=ha.2;have:=hb.2;omega) (by have:=ha.2;have:=hb.2;omega)
   have e6:IntKind.i64.wrap (a.e-b.e-(s:Int)-1)=a.e-b.e-(s:Int)-1:=Q0r _ (by have:=ha.2;have:=hb.2;omega) (by have:=ha.2;have:=hb.2;omega)
   have hneg:(!(a.neg==b.neg))=(a.neg !=b.neg):=rfl
   have hq2: ∀q:Nat,q*2=2*q:=fun q=>Nat.mul_comm _ _
   have hqd:(Q0c (a.m*2^s/b.m)).length≤1000:=by have:=Z0l (a.m*2^s/b.m);omega
   have hb2:=V0m (a.m*2^s/b.m) 1
   have hb3:Q0h (a.m*2^s/b.m*2^1+1)≤10000:=by
    have h3:a.m*2^s/b.m*2^1+1≤(a.m*2^s/b.m+1)*2^1:=by omega
    have h4:=X0o h3
    have h5:=V0m (a.m*2^s/b.m+1) 1
    have h6:Q0h (a.m*2^s/b.m+1)≤Q0h (a.m*2^s/b.m)+1:=bitlen_le_iff.2 (by
     have:=Z0c (a.m*2^s/b.m)
     rw [Nat.pow_succ];omega)
    omega
   generalize a.m*2^s/b.m=q at*
   generalize a.m*2^s % b.m=rr at*
   by_cases hz:rr=0
   · have f2:decide (((Q0c rr).length:Int)>0)=false:=decide_eq_false (by have:=hmod.2 hz;omega)
     rw [if_pos hz,Nat.add_zero] at hrat
     have hodd:oddV (a.neg !=b.neg) q (a.e-b.e-(s:Int))=ratV a b p:=by
      rw [hrat,←hq2,←Nat.pow_one 2,Q1k];congr 1;omega
     simp -dsimp only [go_sem,f2,e4,e5]
     refine(W1y (!(a.neg==b.neg)) q (a.e-b.e-(s:Int)) _ (by omega) (by have:=ha.2;have:=hb.2;omega) (by have:=ha.2;have:=hb.2;omega)).mono ?_
     rintro r st ⟨rfl,rfl⟩
     rw [hneg,hodd]
     simp -dsimp only [go_sem]
     refine(Y0z (ratV a b p) p up _ (X0p hbd (by omega) (by omega)) (by omega)).mono ?_
     rintro r st ⟨rfl,rfl⟩
     simp -dsimp only [go_sem]
   · have f2:decide (((Q0c rr).length:Int)>0)=true:=decide_eq_true (by have:=fun h=>hz (hmod.1 h);omega)
     rw [if_neg hz,←hq2,←Nat.pow_one 2] at hrat
     simp -dsimp only [go_sem,f2,e4,e5]
     refine(q0u q 1 _ (by omega) (by omega)).mono ?_
     rintro r st ⟨rfl,rfl⟩
     simp -dsimp only [go_sem]
     have hone:(Q0c 1).length≤1000000000000:=by rw [show Q0c 1= [1] from by decide+kernel];simp
     have a1:=Q1h (q*2^1) 1 st (by have:=Z0l (q*2^1);omega) hone
     rw [show Q0c 1= [1] from by decide+kernel] at a1
     refine a1.mono ?_
     rintro r st ⟨rfl,rfl⟩
     simp -dsimp only [go_sem,e4,e5,e6]
     refine(W1y (!(a.neg==b.neg)) (q*2^1+1) (a.e-b.e-(s:Int)-1) _ (by omega) (by have:=ha.2;have:=hb.2;omega) (by have:=ha.2;have:=hb.2;omega)).mono ?_
     rintro r st ⟨rfl,rfl⟩
     rw [hneg,←hrat]
     simp -dsimp only [go_sem]
     refine(Y0z (ratV a b p) p up _ (X0p hbd (by omega) (by omega)) (by omega)).mono ?_
     rintro r st ⟨rfl,rfl⟩
     simp -dsimp only [go_sem]
end Go.Pv
end
