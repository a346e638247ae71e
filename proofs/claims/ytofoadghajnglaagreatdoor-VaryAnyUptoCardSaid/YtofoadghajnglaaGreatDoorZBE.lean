/- Parts of the walk: M43, M44, M45, N49, N50, N51, N52, M47, M48, M49, M50, M51, N53, N54. -/
import Derived.Test.YtofoadghajnglaaGreatDoorZBD
import Derived.Test.YtofoadghajnglaaGreatDoorZAR
import Derived.Test.YtofoadghajnglaaGreatDoorZP
set_option linter.unusedVariables false
set_option linter.unusedSimpArgs false
section
namespace Go.Pv
def powV (v:Vl):Nat->Vl
 | 0=>oddV false 1 0
 | k+1=>byV (powV v k) v
def Q4q (a:Ivl) (k:Nat):Vl:=
 if 0<k/\k % 2=0/\hasI a default=true then⟨false,0,0⟩ else if U0y (powV (ofN a.lo) k) (powV (ofN a.hi) k)>0 then powV (ofN a.hi) k else powV (ofN a.lo) k
def Q4r (a:Ivl) (k:Nat):Vl:=if U0y (powV (ofN a.lo) k) (powV (ofN a.hi) k)>0 then powV (ofN a.lo) k else powV (ofN a.hi) k
def powI (a:Ivl) (k p:Int):Ivl×Int:=
 if Q0l a=true/\0<=k/\k<=8/\Z0m p=true then Y0a (Z0c (Q4q a k.toNat) p.toNat false) (Z0c (Q4r a k.toNat) p.toNat true) else(default,1)
theorem X3d (x:Nm):sgnN x<0<->qN x<0:=by rw [j0v,K2m,<-W0c x.exp];exact qM_lt.symm
theorem x1k (x:Nm):0<sgnN x<->0<qN x:=by
 have h1:sgnN x<=0<->qN x<=0:=by rw [j0v,K2n,<-W0c x.exp];exact qM_le.symm
 rw [<-Rat.not_le,<-h1];omega
def j1d (m:Mn) (b:List Ivl) (p:Int):Nat->Ivl×Int
 | 0=>(⟨m.c,m.c⟩,0)
 | i+1=>if (j1d m b p i).2≠0 then(default,(j1d m b p i).2) else if m.ks.getD i 0=0 then j1d m b p i
  else if (powI (b.getD i default) (m.ks.getD i 0) p).2≠0 then(default,(powI (b.getD i default) (m.ks.getD i 0) p).2)
  else opI 2 (j1d m b p i).1 (powI (b.getD i default) (m.ks.getD i 0) p).1 p
def j0j (q:List Mn) (b:List Ivl) (p:Int):Nat->Ivl×Int
 | 0=>(default,0)
 | i+1=>if (j0j q b p i).2≠0 then(default,(j0j q b p i).2) else if (j1d (q.getD i default) b p b.length).2≠0 then(default,(j1d (q.getD i default) b p b.length).2)
  else opI 0 (j0j q b p i).1 (j1d (q.getD i default) b p b.length).1 p
def v1p (q:List Mn) (b:List Ivl) (p:Int):Ivl×Int:=if X0b q b.length=true/\b.all Q0l=true/\Z0m p=true then j0j q b p q.length else(default,1)
theorem X1x (k:Nat) (a b:Ivl) (p:Int) (h:(opI k a b p).2≠0):(opI k a b p).1=default:=by unfold opI at h⊢;split;rename_i c;rw [if_pos c] at h;unfold Y0a at h⊢;split;rename_i d;rw [if_pos d] at h;exact absurd rfl h;rfl;rfl
theorem j2e (l:List Int) (t:Tag):NoG (.sl t (encZ l)):=by refine .sl _ _ fun i j hi hj=> ?_;rw [K0o] at hi;rw [K0p l i hi] at hj⊢;have:j=0:=(by simp [PV.cells] at hj;omega);subst this;exact .sc _
theorem J3b (off:Nat) (T:List Int) (k:Nat) (h:k<T.length):(List.replicate off PV.junk++encZ T).getD (off+k) .junk= .sc (.int .i64 (T.getD k 0)):=by rw [List.getD_eq_getElem?_getD,List.getElem?_append_right (by simp),List.length_replicate,Nat.add_sub_cancel_left,<-List.getD_eq_getElem?_getD];exact K0p T k h
theorem J3a (off:Nat) (T:List Int) (k:Nat) (c:Int) (h:k<T.length):over (List.replicate off PV.junk++encZ T) (off+k) [.sc (.int .i64 c)]=List.replicate off PV.junk++encZ (T.set k c):=by unfold over;have e:encZ (T.set k c)=(encZ T).set k (.sc (.int .i64 c)):=(by unfold encZ;rw [List.map_set]);rw [e,show List.replicate off PV.junk++(encZ T).set k (.sc (.int .i64 c))=(List.replicate off PV.junk++encZ T).set (off+k) (.sc (.int .i64 c)) from by rw [List.set_append_right _ _ (by simp),List.length_replicate,Nat.add_sub_cancel_left]];rw [List.set_eq_take_append_cons_drop,if_pos (by simp [encZ];omega)];simp
theorem J3c (off:Nat) (T:List Int):((List.replicate off PV.junk++encZ T).drop off).take T.length=encZ T:=by rw [List.drop_append_of_le_length (by simp),List.drop_eq_nil_of_le (by simp),List.nil_append,List.take_of_length_le (by rw [K0o];exact Nat.le_refl _)]
def intN (n:Nat):Nm:=(mkX false [UInt64.ofNat n] 0).1
def decK (ks:List Int) (i:Nat):List Int:=ks.set i (ks.getD i 0-1)
def G0n (i:Nat):List Mn->List Mn->List Mn×Int
 | [],acc=>(acc,0)
 | m::r,acc=>if m.ks.getD i 0=0 then G0n i r acc else if (strN 2 m.c (intN (m.ks.getD i 0).toNat)).2≠0 then([],(strN 2 m.c (intN (m.ks.getD i 0).toNat)).2)
  else G0n i r (acc++ [⟨(strN 2 m.c (intN (m.ks.getD i 0).toNat)).1,decK m.ks i⟩])
def q0w (p:List Mn) (i n:Int):List Mn×Int:=if X0b p n=true/\0<=i/\i<n then G0n i.toNat p [] else([],1)
theorem W1n (a:List Mn) (i:Nat) (h:i<a.length):a.drop i=a.getD i default::a.drop (i+1):=by rw [List.drop_eq_getElem_cons h];simp [List.getD_eq_getElem?_getD,h]
theorem X2v {p:List Mn} {i j:Nat} (h:j<p.length) (acc:List Mn):G0n i (p.drop j) acc=if (p.getD j default).ks.getD i 0=0 then G0n i (p.drop (j+1)) acc else if (strN 2 (p.getD j default).c (intN ((p.getD j default).ks.getD i 0).toNat)).2≠0 then([],(strN 2 (p.getD j default).c (intN ((p.getD j default).ks.getD i 0).toNat)).2)
 else G0n i (p.drop (j+1)) (acc++ [⟨(strN 2 (p.getD j default).c (intN ((p.getD j default).ks.getD i 0).toNat)).1,decK (p.getD j default).ks i⟩]):=by
 rw [W1n p j h,G0n]
theorem G2g {p:List Mn} {i:Nat} (acc:List Mn):G0n i (p.drop p.length) acc=(acc,0):=by rw [List.drop_length,G0n]
theorem V1t : ∀(a b c:List Int),a.length=b.length->b.length=c.length->ordK a b=1->ordK b c=1->ordK a c=1
 | [],_,_,_,_,h,_=>by simp [ordK] at h
 | x::a,[],_,h1,_,_,_=>by simp at h1
 | x::a,y::b,[],_,h2,_,_=>by simp at h2
 | x::a,y::b,z::c,h1,h2,h3,h4=>by rw [ordK] at h3 h4⊢;have ih:=V1t a b c (by simpa using h1) (by simpa using h2);by_cases c1:x>y;by_cases c2:y>z;rw [if_pos (by omega)];rw [if_neg c2] at h4;by_cases c3:y<z;rw [if_pos c3] at h4;omega;rw [if_pos (by omega)];rw [if_neg c1] at h3;by_cases c2:x<y;rw [if_pos c2] at h3;omega;rw [if_neg c2] at h3;by_cases c3:y>z;rw [if_pos (by omega)];rw [if_neg c3] at h4;by_cases c4:y<z;rw [if_pos c4] at h4;omega;rw [if_neg c4] at h4;rw [if_neg (by omega),if_neg (by omega)];exact ih h3 h4
theorem W1r (x:Int) (a:List Int):decK (x::a) 0=(x-1)::a:=rfl
theorem W1q (x:Int) (a:List Int) (i:Nat):decK (x::a) (i+1)=x::decK a i:=rfl
theorem Y1x : ∀(a b:List Int) (i:Nat),ordK (decK a i) (decK b i)=ordK a b
 | [],b,i=>by cases b<;>rfl
 | x::a,[],i=>by cases i<;>rfl
 | x::a,y::b,0=>by rw [W1r,W1r,ordK,ordK];by_cases c1:x>y;rw [if_pos (by omega),if_pos c1];rw [if_neg (by omega),if_neg c1];by_cases c2:x<y;rw [if_pos (by omega),if_pos c2];rw [if_neg (by omega),if_neg c2]
 | x::a,y::b,i+1=>by rw [W1q,W1q,ordK,ordK,Y1x a b i]
theorem W0i (ks:List Int) (i:Nat):(decK ks i).length=ks.length:=by unfold decK;rw [List.length_set]
def J1m :List (List Int)->Prop:=List.Pairwise fun a b=>ordK a b=1
theorem Q1c {p:List Mn} {n:Int} (h:X0b p n=true):J1m (p.map Mn.ks):=by
 have hl: ∀i,i<p.length->(((p.getD i default).ks.length:Int)=n):=fun i hi=>(K0l h hi).1;have hs: ∀d i,i+d+1<p.length->ordK (p.getD i default).ks (p.getD (i+d+1) default).ks=1:=by
  intro d
  induction d with
  | zero=>
   intro i hi;have:=((W0d _ _ _).1 (((X0i p n).1 h).2 (i+1) hi)).2.2;rcases this with e | e;omega;exact e
  | succ d ih=>
   intro i hi;have h1:=ih i (by omega);have h2:=((W0d _ _ _).1 (((X0i p n).1 h).2 (i+(d+1)+1) hi)).2.2;have a1:=hl i (by omega);have a2:=hl (i+d+1) (by omega);have a3:=hl (i+(d+1)+1) hi;rcases h2 with e | e;omega;rw [show i+(d+1)+1-1=i+d+1 from by omega] at e;exact V1t _ _ _ (by omega) (by omega) h1 e
 refine List.pairwise_iff_getElem.2 fun i j hi hj hij=> ?_;simp only [List.length_map] at hi hj;have:=hs (j-i-1) i (by omega);rw [show i+(j-i-1)+1=j from by omega] at this;simpa [List.getD_eq_getElem?_getD,hi,hj] using this
def J0t (i:Nat):List Mn->List Tm
 | []=> []
 | m::r=>if m.ks.getD i 0=0 then J0t i r else⟨byV (ofN m.c) (oddV false (m.ks.getD i 0).toNat 0),decK m.ks i⟩::J0t i r
theorem y0s {i:Nat} {t:Tm} : ∀ {p:List Mn},t∈J0t i p-> ∃m∈p,t.ks=decK m.ks i
 | [],h=>by cases h
 | m::r,h=>by rw [J0t] at h;split at h;obtain⟨m',h1,h2⟩:=y0s h;exact⟨m',by simp [h1],h2⟩;rcases List.mem_cons.1 h with rfl | h;exact⟨m,by simp,rfl⟩;obtain⟨m',h1,h2⟩:=y0s h;exact⟨m',by simp [h1],h2⟩
theorem Q1k {i:Nat} : ∀ {p:List Mn},J1m (p.map Mn.ks)->J1m ((J0t i p).map Tm.ks)
 | [],_=>List.Pairwise.nil
 | m::r,h=>by obtain⟨h1,h2⟩:=List.pairwise_cons.1 h;have ih:=Q1k (i:=i) h2;rw [J0t];split;exact ih;refine List.pairwise_cons.2 ⟨fun k hk=> ?_,ih⟩;obtain⟨t,ht,rfl⟩:=List.mem_map.1 hk;obtain⟨m',hm',e⟩:=y0s ht;rw [e];show ordK (decK m.ks i) (decK m'.ks i)=1;rw [Y1x];exact h1 _ (List.mem_map.2 ⟨m',hm',rfl⟩)
theorem w0h (i:Nat): ∀p:List Mn,(J0t i p).length<=p.length
 | []=>Nat.le_refl _
 | m::r=>by have:=w0h i r;rw [J0t];split<;>simp only [List.length_cons]<;>omega
def J1i :List Tm->List Mn->List Mn×Int
 | [],acc=>(acc,0)
 | t::r,acc=>if J0v t.v=0 then J1i r acc else if (numV t.v).2≠0 then([],2) else J1i r (acc++ [⟨(numV t.v).1,t.ks⟩])
theorem w1o {k:Nat} (hk:k<=8):Q0r (intN k)=true/\ofN (intN k)=oddV false k 0:=by have hr:Q0r (intN k)=true:=V0d (x0a (Z1n ⟨false,0,[UInt64.ofNat k]⟩));refine⟨hr,?_⟩;have key: ∀k:Fin 9,ofN (intN k.val)=oddV false k.val 0:=(by decide+kernel);exact key ⟨k,by omega⟩
theorem G3c {x:Nm} (h:Q0r x=true) (hw:x.w.length≠0):qN x≠0:=fun e=>by
 have h1:=X3d x;have h2:=x1k x;rw [e] at h1 h2;have:sgnN x=0:=by have a1: ¬sgnN x<0:=fun c=>absurd (h1.1 c) (by decide);have a2: ¬0<sgnN x:=fun c=>absurd (h2.1 c) (by decide);omega
 have h3:=(z2h h).1 (by rw [ownN,if_pos h];exact this);exact hw h3
theorem W1d {i:Nat} : ∀(p:List Mn) (acc:List Mn),(∀m∈p,Q0r m.c=true/\m.c.w.length≠0/\0<=m.ks.getD i 0/\m.ks.getD i 0<=8)->J1i (J0t i p) acc=G0n i p acc
 | [],_,_=>rfl
 | m::r,acc,h=>by
  obtain⟨h1,h2,h3,h4⟩:=h m (by simp);have ih:=fun acc=>W1d (i:=i) r acc fun m hm=>h m (by simp [hm]);rw [J0t,G0n];by_cases c:m.ks.getD i 0=0;rw [if_pos c,if_pos c];exact ih acc;rw [if_neg c,if_neg c,J1i];obtain⟨i1,i2⟩:=w1o (k:=(m.ks.getD i 0).toNat) (by omega);have hs:strN 2 m.c (intN (m.ks.getD i 0).toNat)=numV (byV (ofN m.c) (oddV false (m.ks.getD i 0).toNat 0)):=by rw [strN,if_pos ⟨h1,i1⟩,i2];rfl
  have hne:J0v (byV (ofN m.c) (oddV false (m.ks.getD i 0).toNat 0))≠0:=fun e=>by have hz:=K1v (Q2q e);rw [X1m,U0g,x2e] at hz;rcases Rat.mul_eq_zero.1 hz with e1 | e1;exact G3c h1 h2 e1;have:(m.ks.getD i 0).toNat≠0:=(by omega);exact this (by exact_mod_cast e1)
  rw [if_neg hne,hs];rcases Y1z (byV (ofN m.c) (oddV false (m.ks.getD i 0).toNat 0)) with e | e;rw [if_neg (by rw [e];decide),if_neg (by rw [e];decide)];exact ih _;rw [e,if_pos (by decide),if_pos (by decide)]
set_option maxRecDepth 100000
open Go.Proofs
def Y0f (f:List (List Mn)) (b:List Ivl) (p:Int):List Ivl×Int:=if K0e f=true/\b.length=f.length then tabF (fun i=>v1p (f.getD i []) b p) 0 f.length [] else([],1)
def okMn (n L U:Nat) (D:Int) (m:Mn):Prop:=m.ks.length=n/\Y0w m.ks=true/\m.ks.sum<=D/\Q0r m.c=true/\m.c.w.length≠0/\luQ L U (qN m.c)
theorem G3b {x:Nm} (h:x.w.length=0):qN x=0:=by have e:x.w= []:=List.eq_nil_of_length_eq_zero h;rw [<-U0g];refine K1v ?_;show valW x.w=0;rw [e];rfl
def j1w (p:Nat) (x:Rat):Prop:= ∃m e:Int,x=qM m e/\m.natAbs<=2^p
theorem z2p (v:Vl) (p:Nat) (h: ¬Q0g v.m<=p): ∃k:Int,qV (Z0c v p false)=qM (k*2^(Q0g v.m-p)) v.e/\k*2^(Q0g v.m-p)<=J0o v/\(∀j:Int,j*2^(Q0g v.m-p)<=J0o v->j<=k)/\k.natAbs<=2^p:=by
 unfold Z0c;rw [if_neg h,j0k,y0b];have hb:=Z0a v.m;have hbp:2^Q0g v.m=2^p*2^(Q0g v.m-p):=(by rw [<-Nat.pow_add];congr 1;omega);generalize Q0g v.m-p=d at*
 have hD:=Nat.two_pow_pos d;have h1:=Nat.div_add_mod v.m (2^d);have h2:=Nat.mod_lt v.m hD;have hq:v.m/2^d<2^p:=by rw [Nat.div_lt_iff_lt_mul hD,<-hbp];exact hb
 have hcast:((2^d:Nat):Int)=(2:Int)^d:=(by simp);have hD':(0:Int)<(2:Int)^d:=(by rw [<-hcast];exact_mod_cast hD);unfold J0o;cases hn:v.neg;refine⟨((v.m/2^d:Nat):Int),?_,?_,fun j hj=> ?_,by rw [Int.natAbs_natCast];exact Nat.le_of_lt hq⟩;rw [if_neg (by simp),if_neg (by simp),Nat.add_zero,Int.natCast_mul,hcast];rw [if_neg (by simp),<-hcast,<-Int.natCast_mul];have:=Nat.div_mul_le_self v.m (2^d);omega;rw [if_neg (by simp)] at hj;by_cases hj0:j<0;have:(0:Int)<=((v.m/2^d:Nat):Int):=Int.natCast_nonneg _;omega;obtain⟨n,rfl⟩:=Int.eq_ofNat_of_zero_le (by omega:0<=j);rw [<-hcast,<-Int.natCast_mul] at hj;have hj':n*2^d<=v.m:=(by exact_mod_cast hj);have:=(Nat.le_div_iff_mul_le hD).2 hj'
 exact_mod_cast this
 generalize hc':(if v.m % 2^d≠0/\false≠true then 1 else 0)=c;have hc:(v.m % 2^d≠0/\c=1)\/(v.m % 2^d=0/\c=0):=by by_cases h3:v.m % 2^d=0;rw [if_neg (by simp [h3])] at hc';exact .inr ⟨h3,hc'.symm⟩;rw [if_pos ⟨h3,by simp⟩] at hc';exact .inl ⟨h3,hc'.symm⟩
 refine⟨-((v.m/2^d+c:Nat):Int),?_,?_,fun j hj=> ?_,by rw [Int.natAbs_neg];simp only [Int.natAbs_natCast];omega⟩;rw [if_pos rfl];congr 1;rw [Int.neg_mul,<-hcast,<-Int.natCast_mul];rw [if_pos rfl,Int.neg_mul,<-hcast,<-Int.natCast_mul];have:v.m<=(v.m/2^d+c)*2^d:=by rw [Nat.mul_comm] at h1;rw [Nat.add_mul];rcases hc with ⟨a,rfl⟩ | ⟨a,rfl⟩<;>omega
 omega;rw [if_pos rfl] at hj;by_cases hj0:0<j;have:0<j*(2:Int)^d:=Int.mul_pos hj0 hD';omega;obtain⟨n,hn'⟩:=Int.eq_ofNat_of_zero_le (by omega:0<= -j);obtain rfl:j= -(n:Int):=(by omega);rw [Int.neg_mul,<-hcast,<-Int.natCast_mul] at hj;have hj':v.m<=n*2^d:=(by omega);have:v.m/2^d+c<=n:=by
  rcases hc with ⟨a,rfl⟩ | ⟨a,rfl⟩;have:v.m/2^d<n:=by refine Nat.lt_of_not_le fun hle=> ?_;have:=Nat.mul_le_mul_right (2^d) hle;rw [Nat.mul_comm] at h1;omega
  omega;have:=Nat.div_le_div_right (c:=2^d) hj';rw [Nat.mul_div_cancel _ hD] at this;omega
 omega
theorem U2f (v:Vl) (p:Nat):j1w p (qV (Z0c v p false)):=by by_cases h:Q0g v.m<=p;unfold Z0c;rw [if_pos h];refine⟨J0o v,v.e,rfl,?_⟩;rw [j2x];exact Nat.le_of_lt (Nat.lt_of_lt_of_le (Z0a v.m) (Nat.pow_le_pow_right (by decide) h));obtain⟨k,h1,h2,h3,h4⟩:=z2p v p h;exact⟨k,v.e+((Q0g v.m-p:Nat):Int),by rw [h1,X1n],h4⟩
theorem Q2v (v:Vl) (p:Nat):qV (Z0c v p true)= -qV (Z0c (V0b v) p false):=by
 by_cases h0:v.m=0;have e:V0b v=v:=(by unfold V0b;rw [if_pos h0]);have hb:Q0g v.m<=p:=(by rw [h0,J0j];omega);rw [e];unfold Z0c;rw [if_pos hb,if_pos hb,K1v h0];rfl;have e1:(V0b v).m=v.m:=w0v v;have e2:(V0b v).e=v.e:=w0w v;have e3:(V0b v).neg= !v.neg:=(by unfold V0b;rw [if_neg h0]);unfold Z0c;rw [e1,e2,e3];split;rw [H0d];grind;rw [j0k,j0k];have ec:(if v.m % 2^(Q0g v.m-p)≠0/\false≠ !v.neg then 1 else 0)=(if v.m % 2^(Q0g v.m-p)≠0/\true≠v.neg then 1 else 0):=by cases v.neg<;>simp
 rw [ec];generalize v.m/2^(Q0g v.m-p)+(if v.m % 2^(Q0g v.m-p)≠0/\true≠v.neg then 1 else 0)=M;rw [<-v1r];congr 1;cases v.neg<;>simp
theorem v2j {lo hi:Vl} (h1:canV lo) (h2:canV hi) (h:(Y0a lo hi).2=0):qN (Y0a lo hi).1.lo=qV lo/\qN (Y0a lo hi).1.hi=qV hi:=by unfold Y0a at h⊢;split;rename_i hh;exact⟨(v0t h1 hh.1).2,(v0t h2 hh.2).2⟩;rename_i hh;rw [if_neg hh] at h;cases h
theorem G2h (ks:List Int) (j i:Nat) (hj:j<ks.length):(decK ks j).getD i 0=if j=i then ks.getD i 0-1 else ks.getD i 0:=by unfold decK;by_cases h:j=i;subst h;rw [if_pos rfl,Q0s _ _ _ _ hj];rw [if_neg h,Q0n _ _ _ _ _ h]
theorem Z3x {ks:List Int} {k:Nat} (hk:k<ks.length):(decK ks k).sum=ks.sum-1:=by
 unfold decK
 induction ks generalizing k with
 | nil=>simp at hk
 | cons x r ih=>
  cases k with
  | zero=>simp;omega
  | succ k=>
   have:=ih (k:=k) (by simpa using hk);simp only [List.set_cons_succ,List.sum_cons,List.getD_cons_succ,this];omega
theorem Z2a {ks:List Int} {k:Nat} (h:Y0w ks=true) (hk:k<ks.length) (hne:ks.getD k 0≠0):Y0w (decK ks k)=true:=by obtain⟨h1,h2⟩:=(K0w ks).1 h;refine(K0w _).2 ⟨fun j hj=> ?_,by rw [Z3x hk];omega⟩;rw [W0i] at hj;rw [G2h _ _ _ hk];have:=h1 j hj;split;rename_i e;subst e;have:=h1 k hk;omega;exact this
theorem w2c (l:List Int) (st:Q0f) (hl:l.length<=100000000000):PCalls Tryz.prog 237 [.sl .no (encZ l)] st (fun r st'=>r= .sl (.fresh 1) (encZ l)/\st'=st):=by refine Q0b (some 1) Tryz.func237 rfl fun E=>Q0a ?_;simp -dsimp only [go_sem];intro b hb;cases b;simp -dsimp only [go_sem];omega;have:l= []:=(by have:=hb rfl;simpa [encZ] using this);subst this;simp -dsimp only [go_sem]
theorem w2b (l:List Int) (st:Q0f) (hl:l.length<=100000000000) (h0:0<l.length):PCalls Tryz.prog 237 [.sl .no (encZ l)] st (fun r st'=> ∃off,r= .ms true st.length off l.length/\st'=st++ [List.replicate off PV.junk++encZ l]):=by have:=PCalls.owned (P:=Tryz.prog) (f:=237) (args:= [.sl .no (encZ l)]) (es:=encZ l) (by rw [K0o];exact h0) (fun j hj=>⟨_,K0p l j (by rw [K0o] at hj;exact hj)⟩) (fun p hp=>by simp at hp;subst hp;exact j2e l _) (w2c l [] hl) st;rw [K0o] at this;exact this
set_option maxHeartbeats 2000000 in
theorem H1n (p:List Mn) (i n:Int) (st:Q0f) (hp:wP p):PCalls Tryz.prog 174 [.sl .no (Z0p p),.sc (.int .i64 i),.sc (.int .i64 n)] st (fun r st'=>r= .tup [.sl .no (Z0p (q0w p i n).1),.sc (.int .i64 (q0w p i n).2)]/\ ∃e,st'=st++List.replicate e []):=by
 refine Q0b none Tryz.func174 rfl fun E=>Q0a ?_;have bad: ¬(X0b p n=true/\0<=i/\i<n)->q0w p i n=([],1):=fun h=>if_neg h;simp -dsimp only [go_sem];refine(k0a p n _ hp).mono ?_;rintro r st ⟨rfl,rfl⟩;cases r1:X0b p n with
 | false=>
  have hv:=bad (by rintro⟨h,_⟩;rw [r1] at h;cases h);simp -dsimp only [go_sem];rw [hv];exact⟨rfl,0,by simp⟩
 | true=>
  simp -dsimp only [go_sem];refine gkF (fun g1=> ?_) (fun g1=> ?_)
  . have g1':=of_decide_eq_false g1;simp -dsimp only [go_sem,g1];refine ck (fun g2=> ?_) (fun g2=> ?_);have hv:=bad (by rintro⟨_,_,h⟩;have:=of_decide_eq_true g2;omega);simp -dsimp only [go_sem];rw [hv];exact⟨rfl,0,by simp⟩
    . have g2':=of_decide_eq_false g2;obtain⟨k,rfl⟩: ∃k:Nat,i=k:=⟨i.toNat,by omega⟩;have hv:q0w p k n=G0n k p []:=(by rw [q0w,if_pos ⟨r1,by omega,by omega⟩,Int.toNat_natCast]);rw [hv];clear hv bad;have h4:=((X0i _ _).1 r1).1;simp -dsimp only [go_sem];refine Q0y 8 4 ?_;simp -dsimp only [go_sem];refine Q0u [false,true,false,false,false,false,false,false,true,false,false,false,false,false,false,false,false,false,false,false,false,false,false,false,false,false,false,true,true,true] 0 1
       (fun c s=> ∃(j:Nat) (o:List Mn) (e:Nat),c=p.length-j/\j<=p.length/\o.length<=j/\G0n k p []=G0n k (p.drop j) o/\
        s=⟨[.junk,.sc (.int .i64 k),.junk,.junk,.junk,.junk,.junk,.junk,.sl (.own 0) (Z0p o),.junk,.junk,.junk,.junk,.junk,.junk,.junk,.junk,.junk,.junk,.junk,.junk,.junk,.junk,.junk,.junk,.junk,.junk,.sl .no (Z0p p),.sc (.int .i64 p.length),.sc (.int .i64 (j:Nat))]++List.replicate 42 .junk,[],[(o.length,4)],st++List.replicate e []⟩) p.length ?_ ?_
      simp -dsimp only [go_sem];exact⟨0,[],0,by omega,by omega,by simp,by rw [List.drop_zero],by simp [U2s]⟩
      . rintro c s ⟨j,o,e,rfl,hj,ho,hr,rfl⟩;generalize hS:st++List.replicate e []=S;refine Q0h (Q0a ?_);simp -dsimp only [go_sem];refine Q0h (Q0a ?_);simp -dsimp only [go_sem];refine ck (fun h'=> ?_) (fun h'=> ?_)
        . have hlt:j<p.length:=by have:=of_decide_eq_true h';omega
          have e1:=V0j p j hlt;have e3:=J0f j (by omega);obtain⟨k1,k2,k3⟩:=K0l r1 hlt;rw [X2v hlt] at hr;generalize hm:p.getD j default=m at*
          have hkl:k<m.ks.length:=(by omega);have f1:=K0p m.ks k hkl;have hk:=W0t k2 k hkl;simp -dsimp only [go_sem];refine Q0h (Z0o (Q0h (Q0a ?_)));simp -dsimp only [go_sem,e1];refine⟨by omega,?_⟩;refine Q0h (Q0a ?_);simp -dsimp only [go_sem,f1];refine⟨by omega,?_⟩;refine ck (fun h2=> ?_) (fun h2=> ?_);have h2':=V1b h2;rw [if_pos h2'] at hr;simp -dsimp only [go_sem];refine Q0a ?_;simp -dsimp only [go_sem,e3];exact⟨p.length-(j+1),by omega,j+1,o,e,rfl,by omega,by omega,hr,by rw [<-hS]⟩
          . have h2':=k1y h2;rw [if_neg h2'] at hr;obtain⟨x,hx⟩: ∃x:Nat,m.ks.getD k 0=x:=⟨(m.ks.getD k 0).toNat,by omega⟩;rw [hx] at f1;rw [hx,Int.toNat_natCast] at hr;have wi:wN (intN x):=Y1l (J0h (V0d (x0a (Z1n ⟨false,0,[UInt64.ofNat x]⟩))));have wc:wN m.c:=Y1l (J0h k3);simp -dsimp only [go_sem];refine G0s [false,true,false,false,false,false,false,false,true,false,true,true,true,false,false,false,false,false,false,false,false,false,false,false,false,false,false,true,true,true] 2 1
             (fun s=>s=⟨[.junk,.sc (.int .i64 k),.junk,.junk,.junk,.junk,.junk,.junk,.sl (.own 0) (Z0p o),.junk,.lp 0 0,.lp 1 0,.sc (.int .i64 (strN 2 m.c (intN x)).2),.junk,.junk,.junk,.junk,.junk,.junk,.junk,.junk,.junk,.junk,.junk,.junk,.junk,.junk,.sl .no (Z0p p),.sc (.int .i64 p.length),.sc (.int .i64 (j:Nat))]++List.replicate 42 .junk,[G0m m,encN (strN 2 m.c (intN x)).1],[(o.length,4)],S⟩) ?_ ?_
            . simp -dsimp only [go_sem];refine Q0k Z0d 72 (.step 0 [] (.step 1 [] (.step 2 [] (.step 3 [] (.step 4 [] (.step 5 [] (.step 6 [] (.alt (.step 7 [1] (.alt (.step 8 [3] (.step 9 [] (.step 10 [] (.step 11 [] (.step 12 [1,3,6] (.step 13 [] (.step 14 [] (.done)))))))) (.step 12 [1,3,6] (.step 8 [3] (.step 9 [] (.step 10 [] (.step 11 [] (.step 13 [] (.step 14 [] (.done)))))))))) (.step 12 [1,3,6] (.step 7 [1] (.step 8 [3] (.step 9 [] (.step 10 [] (.step 11 [] (.step 13 [] (.step 14 [] (.done))))))))))))))))) (by decide+kernel) (by simp) ?_;simp -dsimp only [go_sem,f1];refine⟨by omega,And.intro ?_ ?_⟩
              . refine(v0u x _ (by omega)).mono ?_;rintro r st' ⟨rfl,rfl⟩;simp -dsimp only [go_sem];refine And.intro ?_ ?_
                all_goals
                 refine(w1d m.c (intN x) _ wc wi).mono ?_;rintro r st' ⟨rfl,rfl⟩;simp -dsimp only [go_sem]
              refine(v0u x _ (by omega)).mono ?_;rintro r st' ⟨rfl,rfl⟩;simp -dsimp only [go_sem];refine(w1d m.c (intN x) _ wc wi).mono ?_;rintro r st' ⟨rfl,rfl⟩;simp -dsimp only [go_sem]
            . rintro s rfl;refine Q0h (Q0a ?_);simp -dsimp only [go_sem];refine ck (fun h3=> ?_) (fun h3=> ?_);have hne:=U0u h3;rw [if_pos hne] at hr;rw [hr];simp -dsimp only [go_sem];exact⟨e,hS.symm⟩
              . have he:=G0o h3;rw [if_neg (fun hh=>hh he)] at hr;simp -dsimp only [go_sem];generalize (strN 2 m.c (intN x)).1=y at*
                have hml:m.ks.length<=100000000000:=(by omega);refine G0s [false,true,false,false,false,false,false,false,true,false,false,false,false,true,false,false,false,false,false,false,false,false,false,false,false,false,false,true,true,true] 3 1
                 (fun s=> ∃off,s=⟨[.junk,.sc (.int .i64 k),.junk,.junk,.junk,.junk,.junk,.junk,.sl (.own 0) (Z0p o),.junk,.junk,.junk,.junk,.lp 2 0,.junk,.junk,.junk,.junk,.junk,.junk,.junk,.junk,.junk,.junk,.junk,.junk,.junk,.sl .no (Z0p p),.sc (.int .i64 p.length),.sc (.int .i64 (j:Nat))]++List.replicate 42 .junk,[G0m m,encN y,[.sc (.bool y.neg),.sc (.int .i64 y.exp),.sl .no (encW y.w),.ms true S.length off m.ks.length]],[(o.length,4)],S++ [List.replicate off PV.junk++encZ m.ks]⟩) ?_ ?_
                . simp -dsimp only [go_sem];refine Q0k Z0d 72 (.step 0 [] (.step 1 [] (.step 2 [] (.alt (.step 3 [0] (.step 4 [] (.step 5 [0,2] (.step 6 [] (.done))))) (.step 5 [0,2] (.step 3 [0] (.step 4 [] (.step 6 [] (.done))))))))) (by decide+kernel) (by simp) ?_;simp -dsimp only [go_sem];refine And.intro ?_ ?_
                  all_goals
                   refine(w2b m.ks _ hml (by omega)).mono ?_;rintro r st' ⟨off,rfl,rfl⟩;simp -dsimp only [go_sem];exact⟨off,rfl⟩
                rintro s ⟨off,rfl⟩;have gst:(S++ [List.replicate off PV.junk++encZ m.ks]).getD S.length []=List.replicate off PV.junk++encZ m.ks:=(by simp [List.getD_eq_getElem?_getD]);have g2:=J3b off m.ks k hkl;rw [hx] at g2;have x6:IntKind.i64.wrap ((x:Int)-1)=(x:Int)-1:=Q0i _ (by omega) (by omega);have o1:=J3a off m.ks k ((x:Int)-1) hkl;have sst:(S++ [List.replicate off PV.junk++encZ m.ks]).set S.length (List.replicate off PV.junk++encZ (m.ks.set k ((x:Int)-1)))=S++ [List.replicate off PV.junk++encZ (decK m.ks k)]:=by rw [List.set_append_right _ _ (Nat.le_refl _),decK,hx];simp
                have r0:(List.replicate off PV.junk).length=off:=List.length_replicate;refine Q0h (Q0a ?_);simp -dsimp only [go_sem,gst,g2,x6,o1,sst];rw [r0];refine⟨by omega,by omega,by omega,by omega,?_⟩;have hdl:(decK m.ks k).length=m.ks.length:=(by unfold decK;rw [List.length_set]);have gst2:(S++ [List.replicate off PV.junk++encZ (decK m.ks k)]).getD S.length []=List.replicate off PV.junk++encZ (decK m.ks k):=(by simp [List.getD_eq_getElem?_getD]);have sst2:(S++ [List.replicate off PV.junk++encZ (decK m.ks k)]).set S.length []=S++ [[]]:=by rw [List.set_append_right _ _ (Nat.le_refl _)];simp
                have hcut:=J3c off (decK m.ks k);rw [hdl] at hcut;have hms:PV.frzG S.length (List.replicate off PV.junk++encZ (decK m.ks k)) (.ms true S.length off m.ks.length)= .sl .no (encZ (decK m.ks k)):=(by rw [J3z (by rw [List.length_append,K0o,hdl,r0];exact Nat.le_refl _),hcut]);refine x1s S.length (by simp) ?_ ?_ ?_;intro q hq;have hq':q∈List.replicate off PV.junk++encZ (decK m.ks k):=(by rw [<-gst2];exact hq);rcases List.mem_append.1 hq' with hq' | hq';rw [List.eq_of_mem_replicate hq'];rfl;simp [encZ] at hq';obtain⟨c,_,rfl⟩:=hq';rfl;intro e0;have h2:(List.replicate off PV.junk++encZ (decK m.ks k)).length=0:=by have e':(S++ [List.replicate off PV.junk++encZ (decK m.ks k)]).getD S.length []= []:=e0;rw [gst2] at e';rw [e'];rfl
                rw [List.length_append,K0o,hdl] at h2;omega;simp -dsimp only [go_sem,gst2,sst2,hms];refine Q0a ?_;simp -dsimp only [go_sem];refine⟨⟨by omega,by omega⟩,Q0a ?_⟩;simp -dsimp only [go_sem,e3];refine⟨p.length-(j+1),by omega,j+1,o++ [⟨y,decK m.ks k⟩],e+1,rfl,by omega,by simp;omega,hr,?_⟩;have hS2:S++ [[]]=st++List.replicate (e+1) []:=(by rw [<-hS,List.append_assoc,<-List.replicate_succ']);rw [hS2];simp [Z0p,G0m]
        have hge:j=p.length:=by have:=of_decide_eq_false h';omega
        subst hge;rw [G2g] at hr;rw [hr];simp -dsimp only [go_sem];refine K0f [false,false,false,false,false,false,false,false,true] (Q0a ?_);simp -dsimp only [go_sem];exact⟨e,hS.symm⟩
  have hv:=bad (by rintro⟨_,h,_⟩;have:=of_decide_eq_true g1;omega);simp -dsimp only [go_sem,g1];rw [hv];exact⟨rfl,0,by simp⟩
theorem Z2u (n:Nat) (m:Mn): ∀j,j<(G0m m).length->Bnd n ((G0m m).getD j .junk):=fun j hj=>by
 have hj':j<4:=hj;have hw:Bnd n (.sl .no (encW m.c.w)):= .sl _ _ 1 (fun i hi=>by rw [X0k] at hi;rw [Z0g _ i hi];rfl) fun i j hi hj=>by rw [X0k] at hi;rw [Z0g _ i hi];have:j=0:=(by omega);subst this;exact .sc _
 have hz:Bnd n (.sl .no (encZ m.ks)):= .sl _ _ 1 (fun i hi=>by rw [K0o] at hi;rw [K0p _ i hi];rfl) fun i j hi hj=>by rw [K0o] at hi;rw [K0p _ i hi];have:j=0:=(by omega);subst this;exact .sc _
 match j,hj' with
 | 0,_=>exact .sc _
 | 1,_=>exact .sc _
 | 2,_=>exact hw
 | 3,_=>exact hz
theorem H2b (n:Nat) (p:List Mn) (t:Tag):Bnd n (.sl t (Z0p p)):= .sl _ _ 4 (k1c p) fun i j hi hj=>by rw [Q1j] at hi;rw [V0j p i hi];exact Z2u n _ j hj
theorem w2k {n:Nat} {a b:PV} (ha:Bnd n a) (hb:Bnd n b):Bnd n (.tup [a,b]):= .tup _ fun j hj=>by
 have hj':j<2:=hj
 match j,hj' with
 | 0,_=>exact ha
 | 1,_=>exact hb
theorem Z2m (p:List Mn) (i n:Int) (st:Q0f) (hp:wP p):PCalls Tryz.prog 174 [.sl .no (Z0p p),.sc (.int .i64 i),.sc (.int .i64 n)] st (fun r st'=>r= .tup [.sl .no (Z0p (q0w p i n).1),.sc (.int .i64 (q0w p i n).2)]/\st'=st):=by refine PCalls.drop ((H1n p i n st hp).mono ?_);rintro r st' ⟨rfl,e,rfl⟩;exact⟨w2k (H2b _ _ _) (.sc _),_,rfl,rfl,rfl⟩
def jacG (f:List (List Mn)) (i j:Nat):List Mn×Int:=q0w (f.getD i []) (j:Nat) f.length
def jacF (f:List (List Mn)):List (List (List Mn))×Int:=if K0e f=true then tabF (fun i=>tabF (fun j=>jacG f i j) 0 f.length []) 0 f.length [] else([],1)
set_option maxHeartbeats 2000000 in
theorem X2m (f:List (List Mn)) (st:Q0f) (hf:wF f):PCalls Tryz.prog 109 [.sl .no (Z0n f)] st (fun r st'=>r= .tup [.sl .no (K0g (jacF f).1),.sc (.int .i64 (jacF f).2)]/\st'=st):=by
 have hfl:=hf.1;refine Q0b none Tryz.func109 rfl fun E=>Q0a ?_;simp -dsimp only [go_sem];refine(Q1i f _ hf).mono ?_;rintro r st ⟨rfl,rfl⟩;cases r1:K0e f with
 | false=>
  have hv:jacF f=([],1):=(by rw [jacF,if_neg (by rw [r1];decide)]);simp -dsimp only [go_sem];rw [hv];rfl
 | true=>
  have h4:=((J0r f).1 r1).1;have hv:jacF f=tabF (fun i=>tabF (fun j=>jacG f i j) 0 f.length []) 0 f.length []:=(by rw [jacF,if_pos r1]);rw [hv];clear hv;generalize hT:tabF (fun i=>tabF (fun j=>jacG f i j) 0 f.length []) 0 f.length []=T;simp -dsimp only [go_sem];refine Q0y 5 1 ?_;simp -dsimp only [go_sem];refine Q0d [true,false,false,false,true,true,false,false,false,false,false,false,false,false,false,true,true] 0 1
   (fun k s=> ∃(i:Nat) (o:List (List (List Mn))),k=f.length-i/\i<=f.length/\o.length=i/\T=tabF (fun i=>tabF (fun j=>jacG f i j) 0 f.length []) i (f.length-i) o/\
    s=⟨[.sl .no (Z0n f),.junk,.junk,.junk,.sc (.int .i64 0),.sl (.own 0) (K0g o),.junk,.junk,.junk,.junk,.junk,.junk,.junk,.junk,.junk,.sc (.int .i64 f.length),.sc (.int .i64 (i:Nat))]++List.replicate 35 .junk,[],[(o.length,1)],st⟩) f.length ?_ ?_
  simp -dsimp only [go_sem];exact⟨0,[],by omega,by omega,rfl,hT.symm,rfl⟩;rintro k s ⟨i,o,rfl,hi,ho,hr,rfl⟩;simp -dsimp only [go_sem];refine ck (fun h'=> ?_) (fun h'=> ?_);have hlt:i<f.length:=(by have:=of_decide_eq_true h';omega);have e1:=W0x f i hlt;have e3:=J0f i (by omega);have e4:=X0a (fun i=>tabF (fun j=>jacG f i j) 0 f.length []) hlt o;simp -dsimp only [go_sem];refine Q0y 7 1 ?_;simp -dsimp only [go_sem];refine Q0d [true,false,false,false,true,true,true,true,false,false,false,false,false,false,false,true,true,false,false,false,true,true] 0 2
   (fun k s=> ∃(j:Nat) (r:List (List Mn)),k=f.length-j/\j<=f.length/\r.length=j/\tabF (fun j=>jacG f i j) 0 f.length []=tabF (fun j=>jacG f i j) j (f.length-j) r/\
    s=⟨[.sl .no (Z0n f),.junk,.junk,.junk,.sc (.int .i64 0),.sl (.own 0) (K0g o),.sc (.int .i64 (i:Nat)),.sl (.own 1) (Z0n r),.junk,.junk,.junk,.junk,.junk,.junk,.junk,.sc (.int .i64 f.length),.sc (.int .i64 (i:Nat)),.junk,.junk,.junk,.sc (.int .i64 f.length),.sc (.int .i64 (j:Nat))]++List.replicate 30 .junk,[],[(o.length,1),(r.length,1)],st⟩) f.length ?_ ?_
  simp -dsimp only [go_sem];exact⟨0,[],by omega,by omega,rfl,rfl,rfl⟩;rintro k s ⟨j,r,rfl,hj,hrl,hrr,rfl⟩;simp -dsimp only [go_sem];refine ck (fun h''=> ?_) (fun h''=> ?_);have hlt2:j<f.length:=(by have:=of_decide_eq_true h'';omega);have f3:=J0f j (by omega);have f4:=X0a (fun j=>jacG f i j) hlt2 r;simp -dsimp only [go_sem,e1];refine⟨by omega,?_⟩;refine(Z2m (f.getD i []) j f.length _ (hf.2 i hlt)).mono ?_;rintro rr st ⟨rfl,rfl⟩;simp -dsimp only [go_sem];refine ck (fun h5=> ?_) (fun h5=> ?_);have hne:(jacG f i j).2≠0:=U0u h5;have q1:tabF (fun j=>jacG f i j) 0 f.length []=([],(jacG f i j).2):=(by rw [hrr,f4,if_pos hne]);have hTT:T=([],(jacG f i j).2):=(by rw [hr,e4,if_pos (by rw [q1];exact hne),q1]);subst hTT;simp -dsimp only [go_sem];refine Q0a ?_;simp -dsimp only [go_sem,h5]
  try rfl
  have he:(jacG f i j).2=0:=G0o h5;simp -dsimp only [go_sem,f3];refine⟨⟨by omega,by omega⟩,f.length-(j+1),by omega,j+1,r++ [(jacG f i j).1],rfl,by omega,by simp [hrl],?_,?_⟩;rw [hrr,f4,if_neg (fun hh=>hh he)];simp [Z0n,jacG];have hge:j=f.length:=(by have:=of_decide_eq_false h'';omega);have q1:tabF (fun j=>jacG f i j) 0 f.length []=(r,0):=(by rw [hrr,hge];exact X0w _ f.length r);simp -dsimp only [go_sem];refine Q0a ?_;simp -dsimp only [go_sem];refine⟨⟨by omega,by omega⟩,Q0a ?_⟩;simp -dsimp only [go_sem,e3];refine⟨f.length-(i+1),by omega,i+1,o++ [r],rfl,by omega,by simp [ho],?_,?_⟩;rw [hr,e4,q1,if_neg (by simp)];simp;have hge:i=f.length:=(by have:=of_decide_eq_false h';omega);have z0:((0:Int) !=0)=false:=rfl;simp -dsimp only [go_sem];refine Q0a ?_;simp -dsimp only [go_sem,z0];rw [hr,hge,X0w]
end Go.Pv
end
