/- Parts of the walk: M43, M44, M45, N49, N50, N51, N52, M47, M48, M49, M50, M51. -/
import Derived.Test.YtofoadghajnglaaGreatDoorZBD
import Derived.Test.YtofoadghajnglaaGreatDoorZAR
import Derived.Test.YtofoadghajnglaaGreatDoorZP
set_option linter.unusedVariables false
set_option linter.unusedSimpArgs false
section
/-Powers of numbers and of intervals;values and ranges of polynomials. No program in it. -/
namespace Go.Pv
def powV (v:Vl):Nat→Vl
 | 0=>oddV false 1 0
 | k+1=>byV (powV v k) v
def k3x (a:Ivl) (k:Nat):Vl:=
 if 0<k∧k % 2=0∧hasI a default=true then⟨false,0,0⟩ else if Y0p (powV (ofN a.lo) k) (powV (ofN a.hi) k)>0 then powV (ofN a.hi) k else powV (ofN a.lo) k
def k3y (a:Ivl) (k:Nat):Vl:=if Y0p (powV (ofN a.lo) k) (powV (ofN a.hi) k)>0 then powV (ofN a.lo) k else powV (ofN a.hi) k
def powI (a:Ivl) (k p:Int):Ivl×Int:=
 if Q0m a=true∧0≤k∧k≤8∧Z0i p=true then W0s (Z0f (k3x a k.toNat) p.toNat false) (Z0f (k3y a k.toNat) p.toNat true) else(default,1)
theorem w2m (x:Nm):sgnN x<0↔qN x<0:=by
 rw [x0h,Z2h,←V0o x.exp];exact qM_lt.symm
theorem H1r (x:Nm):0<sgnN x↔0<qN x:=by
 have h1:sgnN x≤0↔qN x≤0:=by rw [x0h,Z2i,←V0o x.exp];exact qM_le.symm
 rw [←Rat.not_le,←h1];omega
def q1j (m:Mn) (b:List Ivl) (p:Int):Nat→Ivl×Int
 | 0=>(⟨m.c,m.c⟩,0)
 | i+1=>if (q1j m b p i).2≠0 then(default,(q1j m b p i).2) else if m.ks.getD i 0=0 then q1j m b p i
  else if (powI (b.getD i default) (m.ks.getD i 0) p).2≠0 then(default,(powI (b.getD i default) (m.ks.getD i 0) p).2)
  else opI 2 (q1j m b p i).1 (powI (b.getD i default) (m.ks.getD i 0) p).1 p
def z0w (q:List Mn) (b:List Ivl) (p:Int):Nat→Ivl×Int
 | 0=>(default,0)
 | i+1=>if (z0w q b p i).2≠0 then(default,(z0w q b p i).2) else if (q1j (q.getD i default) b p b.length).2≠0 then(default,(q1j (q.getD i default) b p b.length).2)
  else opI 0 (z0w q b p i).1 (q1j (q.getD i default) b p b.length).1 p
def x1r (q:List Mn) (b:List Ivl) (p:Int):Ivl×Int:=if J0d q b.length=true∧b.all Q0m=true∧Z0i p=true then z0w q b p q.length else(default,1)
theorem V1j (k:Nat) (a b:Ivl) (p:Int) (h:(opI k a b p).2≠0):(opI k a b p).1=default:=by
 unfold opI at h⊢
 split
 · rename_i c
   rw [if_pos c] at h
   unfold W0s at h⊢
   split
   · rename_i d;rw [if_pos d] at h;exact absurd rfl h
   · rfl
 · rfl
end Go.Pv
end
section
/-Differentiation of polynomials,as the program does it;an object of machine numbers. No program in it. -/
namespace Go.Pv
theorem H2t (l:List Int) (t:Tag):NoG (.sl t (encZ l)):=by
 refine .sl _ _ fun i j hi hj=> ?_
 rw [J0u] at hi
 rw [W0h l i hi] at hj⊢
 have:j=0:=by simp [PV.cells] at hj;omega
 subst this;exact .sc _
theorem y2m (off:Nat) (T:List Int) (k:Nat) (h:k<T.length):(List.replicate off PV.junk++encZ T).getD (off+k) .junk= .sc (.int .i64 (T.getD k 0)):=by
 rw [List.getD_eq_getElem?_getD,List.getElem?_append_right (by simp),List.length_replicate,Nat.add_sub_cancel_left,←List.getD_eq_getElem?_getD]
 exact W0h T k h
theorem y2l (off:Nat) (T:List Int) (k:Nat) (c:Int) (h:k<T.length):over (List.replicate off PV.junk++encZ T) (off+k) [.sc (.int .i64 c)]=List.replicate off PV.junk++encZ (T.set k c):=by
 unfold over
 have e:encZ (T.set k c)=(encZ T).set k (.sc (.int .i64 c)):=by unfold encZ;rw [List.map_set]
 rw [e,show List.replicate off PV.junk++(encZ T).set k (.sc (.int .i64 c))=(List.replicate off PV.junk++encZ T).set (off+k) (.sc (.int .i64 c)) from by
  rw [List.set_append_right _ _ (by simp),List.length_replicate,Nat.add_sub_cancel_left]]
 rw [List.set_eq_take_append_cons_drop,if_pos (by simp [encZ];omega)]
 simp
theorem y2n (off:Nat) (T:List Int):((List.replicate off PV.junk++encZ T).drop off).take T.length=encZ T:=by
 rw [List.drop_append_of_le_length (by simp),List.drop_eq_nil_of_le (by simp),List.nil_append,List.take_of_length_le (by rw [J0u];exact Nat.le_refl _)]
def intN (n:Nat):Nm:=(mkX false [UInt64.ofNat n] 0).1
def decK (ks:List Int) (i:Nat):List Int:=ks.set i (ks.getD i 0-1)
def G0m (i:Nat):List Mn→List Mn→List Mn×Int
 | [],acc=>(acc,0)
 | m::r,acc=>if m.ks.getD i 0=0 then G0m i r acc else if (strN 2 m.c (intN (m.ks.getD i 0).toNat)).2≠0 then([],(strN 2 m.c (intN (m.ks.getD i 0).toNat)).2)
  else G0m i r (acc++ [⟨(strN 2 m.c (intN (m.ks.getD i 0).toNat)).1,decK m.ks i⟩])
def w0f (p:List Mn) (i n:Int):List Mn×Int:=if J0d p n=true∧0≤i∧i<n then G0m i.toNat p [] else([],1)
theorem y1l (a:List Mn) (i:Nat) (h:i<a.length):a.drop i=a.getD i default::a.drop (i+1):=by
 rw [List.drop_eq_getElem_cons h]
 simp [List.getD_eq_getElem?_getD,h]
theorem y1p {p:List Mn} {i j:Nat} (h:j<p.length) (acc:List Mn):G0m i (p.drop j) acc=if (p.getD j default).ks.getD i 0=0 then G0m i (p.drop (j+1)) acc else if (strN 2 (p.getD j default).c (intN ((p.getD j default).ks.getD i 0).toNat)).2≠0 then([],(strN 2 (p.getD j default).c (intN ((p.getD j default).ks.getD i 0).toNat)).2)
 else G0m i (p.drop (j+1)) (acc++ [⟨(strN 2 (p.getD j default).c (intN ((p.getD j default).ks.getD i 0).toNat)).1,decK (p.getD j default).ks i⟩]):=by
 rw [y1l p j h,G0m]
theorem V2z {p:List Mn} {i:Nat} (acc:List Mn):G0m i (p.drop p.length) acc=(acc,0):=by
 rw [List.drop_length,G0m]
end Go.Pv
end
section
/-The document's derivative is the program's. No program in it. -/
namespace Go.Pv
theorem J1j : ∀(a b c:List Int),a.length=b.length→b.length=c.length→ordK a b=1→ordK b c=1→ordK a c=1
 | [],_,_,_,_,h,_=>by simp [ordK] at h
 | x::a,[],_,h1,_,_,_=>by simp at h1
 | x::a,y::b,[],_,h2,_,_=>by simp at h2
 | x::a,y::b,z::c,h1,h2,h3,h4=>by
  rw [ordK] at h3 h4⊢
  have ih:=J1j a b c (by simpa using h1) (by simpa using h2)
  by_cases c1:x>y
  · by_cases c2:y>z
    · rw [if_pos (by omega)]
    · rw [if_neg c2] at h4
      by_cases c3:y<z
      · rw [if_pos c3] at h4;omega
      · rw [if_pos (by omega)]
  · rw [if_neg c1] at h3
    by_cases c2:x<y
    · rw [if_pos c2] at h3;omega
    · rw [if_neg c2] at h3
      by_cases c3:y>z
      · rw [if_pos (by omega)]
      · rw [if_neg c3] at h4
        by_cases c4:y<z
        · rw [if_pos c4] at h4;omega
        · rw [if_neg c4] at h4
          rw [if_neg (by omega),if_neg (by omega)]
          exact ih h3 h4
theorem K1f (x:Int) (a:List Int):decK (x::a) 0=(x-1)::a:=rfl
theorem K1e (x:Int) (a:List Int) (i:Nat):decK (x::a) (i+1)=x::decK a i:=rfl
theorem j1b : ∀(a b:List Int) (i:Nat),ordK (decK a i) (decK b i)=ordK a b
 | [],b,i=>by cases b<;>rfl
 | x::a,[],i=>by cases i<;>rfl
 | x::a,y::b,0=>by
  rw [K1f,K1f,ordK,ordK]
  by_cases c1:x>y
  · rw [if_pos (by omega),if_pos c1]
  · rw [if_neg (by omega),if_neg c1]
    by_cases c2:x<y
    · rw [if_pos (by omega),if_pos c2]
    · rw [if_neg (by omega),if_neg c2]
 | x::a,y::b,i+1=>by rw [K1e,K1e,ordK,ordK,j1b a b i]
theorem G0z (ks:List Int) (i:Nat):(decK ks i).length=ks.length:=by unfold decK;rw [List.length_set]
def V2e :List (List Int)→Prop:=List.Pairwise fun a b=>ordK a b=1
theorem Y1g {p:List Mn} {n:Int} (h:J0d p n=true):V2e (p.map Mn.ks):=by
 have hl: ∀i,i<p.length→(((p.getD i default).ks.length:Int)=n):=fun i hi=>(Y0n h hi).1
 have hs: ∀d i,i+d+1<p.length→ordK (p.getD i default).ks (p.getD (i+d+1) default).ks=1:=by
  intro d
  induction d with
  | zero=>
   intro i hi
   have:=((U0w _ _ _).1 (((J0k p n).1 h).2 (i+1) hi)).2.2
   rcases this with e | e
   · omega
   · exact e
  | succ d ih=>
   intro i hi
   have h1:=ih i (by omega)
   have h2:=((U0w _ _ _).1 (((J0k p n).1 h).2 (i+(d+1)+1) hi)).2.2
   have a1:=hl i (by omega)
   have a2:=hl (i+d+1) (by omega)
   have a3:=hl (i+(d+1)+1) hi
   rcases h2 with e | e
   · omega
   · rw [show i+(d+1)+1-1=i+d+1 from by omega] at e
     exact J1j _ _ _ (by omega) (by omega) h1 e
 refine List.pairwise_iff_getElem.2 fun i j hi hj hij=> ?_
 simp only [List.length_map] at hi hj
 have:=hs (j-i-1) i (by omega)
 rw [show i+(j-i-1)+1=j from by omega] at this
 simpa [List.getD_eq_getElem?_getD,hi,hj] using this
theorem z2d {k:Nat} (hk:k≤8):Q0r (intN k)=true∧ofN (intN k)=oddV false k 0:=by
 have hr:Q0r (intN k)=true:=J0s (q0m (y0r ⟨false,0,[UInt64.ofNat k]⟩))
 refine⟨hr,?_⟩
 have key: ∀k:Fin 9,ofN (intN k.val)=oddV false k.val 0:=by decide+kernel
 exact key ⟨k,by omega⟩
theorem k3u {x:Nm} (h:Q0r x=true) (hw:x.w.length≠0):qN x≠0:=fun e=>by
 have h1:=w2m x
 have h2:=H1r x
 rw [e] at h1 h2
 have:sgnN x=0:=by
  have a1: ¬sgnN x<0:=fun c=>absurd (h1.1 c) (by decide)
  have a2: ¬0<sgnN x:=fun c=>absurd (h2.1 c) (by decide)
  omega
 have h3:=(G2a h).1 (by rw [ownN,if_pos h];exact this)
 exact hw h3
end Go.Pv
end
section
/-Fields at points and over boxes,on both sides. -/
set_option maxRecDepth 100000
namespace Go.Pv
open Go.Proofs
def V0x (f:List (List Mn)) (b:List Ivl) (p:Int):List Ivl×Int:=if V0n f=true∧b.length=f.length then tabF (fun i=>x1r (f.getD i []) b p) 0 f.length [] else([],1)
end Go.Pv
end
section
/-The document's gather,for terms in any order:what comes of small terms is a right polynomial. No program in it. -/
namespace Go.Pv
def okMn (n L U:Nat) (D:Int) (m:Mn):Prop:=m.ks.length=n∧U0i m.ks=true∧m.ks.sum≤D∧Q0r m.c=true∧m.c.w.length≠0∧luQ L U (qN m.c)
theorem V3s {x:Nm} (h:x.w.length=0):qN x=0:=by
 have e:x.w= []:=List.eq_nil_of_length_eq_zero h
 rw [←U0j]
 refine V1d ?_
 show valW x.w=0
 rw [e];rfl
end Go.Pv
end
section
/-Rounding to p bits is the greatest value of p bits that is not above,so it keeps the order. No program in it. -/
namespace Go.Pv
def z1a (p:Nat) (x:Rat):Prop:= ∃m e:Int,x=qM m e∧m.natAbs≤2^p
theorem G2g (v:Vl) (p:Nat) (h: ¬Q0g v.m≤p): ∃k:Int,qV (Z0f v p false)=qM (k*2^(Q0g v.m-p)) v.e∧k*2^(Q0g v.m-p)≤X0v v∧(∀j:Int,j*2^(Q0g v.m-p)≤X0v v→j≤k)∧k.natAbs≤2^p:=by
 unfold Z0f
 rw [if_neg h,j0u,v0m]
 have hb:=Z0d v.m
 have hbp:2^Q0g v.m=2^p*2^(Q0g v.m-p):=by rw [←Nat.pow_add];congr 1;omega
 generalize Q0g v.m-p=d at*
 have hD:=Nat.two_pow_pos d
 have h1:=Nat.div_add_mod v.m (2^d)
 have h2:=Nat.mod_lt v.m hD
 have hq:v.m/2^d<2^p:=by
  rw [Nat.div_lt_iff_lt_mul hD,←hbp];exact hb
 have hcast:((2^d:Nat):Int)=(2:Int)^d:=by simp
 have hD':(0:Int)<(2:Int)^d:=by rw [←hcast];exact_mod_cast hD
 unfold X0v
 cases hn:v.neg
 · refine⟨((v.m/2^d:Nat):Int),?_,?_,fun j hj=> ?_,by rw [Int.natAbs_natCast];exact Nat.le_of_lt hq⟩
   · rw [if_neg (by simp),if_neg (by simp),Nat.add_zero,Int.natCast_mul,hcast]
   · rw [if_neg (by simp),←hcast,←Int.natCast_mul]
     have:=Nat.div_mul_le_self v.m (2^d)
     omega
   · rw [if_neg (by simp)] at hj
     by_cases hj0:j<0
     · have:(0:Int)≤((v.m/2^d:Nat):Int):=Int.natCast_nonneg _
       omega
     · obtain⟨n,rfl⟩:=Int.eq_ofNat_of_zero_le (by omega:0≤j)
       rw [←hcast,←Int.natCast_mul] at hj
       have hj':n*2^d≤v.m:=by exact_mod_cast hj
       have:=(Nat.le_div_iff_mul_le hD).2 hj'
       exact_mod_cast this
 · generalize hc':(if v.m % 2^d≠0∧false≠true then 1 else 0)=c
   have hc:(v.m % 2^d≠0∧c=1)∨(v.m % 2^d=0∧c=0):=by
    by_cases h3:v.m % 2^d=0
    · rw [if_neg (by simp [h3])] at hc';exact .inr ⟨h3,hc'.symm⟩
    · rw [if_pos ⟨h3,by simp⟩] at hc';exact .inl ⟨h3,hc'.symm⟩
   refine⟨-((v.m/2^d+c:Nat):Int),?_,?_,fun j hj=> ?_,by rw [Int.natAbs_neg];simp only [Int.natAbs_natCast];omega⟩
   · rw [if_pos rfl];congr 1;rw [Int.neg_mul,←hcast,←Int.natCast_mul]
   · rw [if_pos rfl,Int.neg_mul,←hcast,←Int.natCast_mul]
     have:v.m≤(v.m/2^d+c)*2^d:=by
      rw [Nat.mul_comm] at h1
      rw [Nat.add_mul]
      rcases hc with ⟨a,rfl⟩ | ⟨a,rfl⟩<;>omega
     omega
   · rw [if_pos rfl] at hj
     by_cases hj0:0<j
     · have:0<j*(2:Int)^d:=Int.mul_pos hj0 hD'
       omega
     · obtain⟨n,hn'⟩:=Int.eq_ofNat_of_zero_le (by omega:0≤ -j)
       obtain rfl:j= -(n:Int):=by omega
       rw [Int.neg_mul,←hcast,←Int.natCast_mul] at hj
       have hj':v.m≤n*2^d:=by omega
       have:v.m/2^d+c≤n:=by
        rcases hc with ⟨a,rfl⟩ | ⟨a,rfl⟩
        · have:v.m/2^d<n:=by
           refine Nat.lt_of_not_le fun hle=> ?_
           have:=Nat.mul_le_mul_right (2^d) hle
           rw [Nat.mul_comm] at h1
           omega
          omega
        · have:=Nat.div_le_div_right (c:=2^d) hj'
          rw [Nat.mul_div_cancel _ hD] at this
          omega
       omega
theorem K2y (v:Vl) (p:Nat):z1a p (qV (Z0f v p false)):=by
 by_cases h:Q0g v.m≤p
 · unfold Z0f
   rw [if_pos h]
   refine⟨X0v v,v.e,rfl,?_⟩
   rw [q2l]
   exact Nat.le_of_lt (Nat.lt_of_lt_of_le (Z0d v.m) (Nat.pow_le_pow_right (by decide) h))
 · obtain⟨k,h1,h2,h3,h4⟩:=G2g v p h
   exact⟨k,v.e+((Q0g v.m-p:Nat):Int),by rw [h1,Q1k],h4⟩
theorem v1q (v:Vl) (p:Nat):qV (Z0f v p true)= -qV (Z0f (K0h v) p false):=by
 by_cases h0:v.m=0
 · have e:K0h v=v:=by unfold K0h;rw [if_pos h0]
   have hb:Q0g v.m≤p:=by rw [h0,J0c];omega
   rw [e]
   unfold Z0f
   rw [if_pos hb,if_pos hb,V1d h0];rfl
 · have e1:(K0h v).m=v.m:=v0g v
   have e2:(K0h v).e=v.e:=v0h v
   have e3:(K0h v).neg= !v.neg:=by unfold K0h;rw [if_neg h0]
   unfold Z0f
   rw [e1,e2,e3]
   split
   · rw [U0v];grind
   · rw [j0u,j0u]
     have ec:(if v.m % 2^(Q0g v.m-p)≠0∧false≠ !v.neg then 1 else 0)=(if v.m % 2^(Q0g v.m-p)≠0∧true≠v.neg then 1 else 0):=by
      cases v.neg<;>simp
     rw [ec]
     generalize v.m/2^(Q0g v.m-p)+(if v.m % 2^(Q0g v.m-p)≠0∧true≠v.neg then 1 else 0)=M
     rw [←x1t]
     congr 1
     cases v.neg<;>simp
end Go.Pv
end
section
/-Interval operations keep inclusion;powers and ranges have what they should;of small ones there is no error. No program in it. -/
namespace Go.Pv
theorem z2v {lo hi:Vl} (h1:canV lo) (h2:canV hi) (h:(W0s lo hi).2=0):qN (W0s lo hi).1.lo=qV lo∧qN (W0s lo hi).1.hi=qV hi:=by
 unfold W0s at h⊢
 split
 · rename_i hh
   exact⟨(z0h h1 hh.1).2,(z0h h2 hh.2).2⟩
 · rename_i hh;rw [if_neg hh] at h;cases h
end Go.Pv
end
section
/-Values of small polynomials;along a line a polynomial of degree two changes as its derivatives at the middle say. No program in it. -/
namespace Go.Pv
theorem W2a (ks:List Int) (j i:Nat) (hj:j<ks.length):(decK ks j).getD i 0=if j=i then ks.getD i 0-1 else ks.getD i 0:=by
 unfold decK
 by_cases h:j=i
 · subst h;rw [if_pos rfl,Q0o _ _ _ _ hj]
 · rw [if_neg h,Q0i _ _ _ _ _ h]
end Go.Pv
end
section
/-Derivatives of small polynomials:right,small,and their values. No program in it. -/
namespace Go.Pv
theorem w2h {ks:List Int} {k:Nat} (hk:k<ks.length):(decK ks k).sum=ks.sum-1:=by
 unfold decK
 induction ks generalizing k with
 | nil=>simp at hk
 | cons x r ih=>
  cases k with
  | zero=>simp;omega
  | succ k=>
   have:=ih (k:=k) (by simpa using hk)
   simp only [List.set_cons_succ,List.sum_cons,List.getD_cons_succ,this];omega
theorem v1v {ks:List Int} {k:Nat} (h:U0i ks=true) (hk:k<ks.length) (hne:ks.getD k 0≠0):U0i (decK ks k)=true:=by
 obtain⟨h1,h2⟩:=(Y0d ks).1 h
 refine(Y0d _).2 ⟨fun j hj=> ?_,by rw [w2h hk];omega⟩
 rw [G0z] at hj
 rw [W2a _ _ _ hk]
 have:=h1 j hj
 split
 · rename_i e;subst e;have:=h1 k hk;omega
 · exact this
end Go.Pv
end
