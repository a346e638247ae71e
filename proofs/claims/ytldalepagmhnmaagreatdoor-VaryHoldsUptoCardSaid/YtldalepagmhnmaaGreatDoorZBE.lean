/- Parts of the walk: M43, M44, M45, N49, N50, N51, N52, N53, N54, M47, M48, M49, M50, M51. -/
import Derived.Test.YtldalepagmhnmaaGreatDoorZBD
import Derived.Test.YtldalepagmhnmaaGreatDoorZAR
set_option linter.unusedVariables false
set_option linter.unusedSimpArgs false
section
namespace Go.Pv
def powV (v:Vl):Nat->Vl
 | 0=>oddV false 1 0
 | k+1=>byV (powV v k) v
def powQ (q:Rat):Nat->Rat
 | 0=>1
 | k+1=>powQ q k*q
def Y4i (a:Ivl)(k:Nat):Vl:=
 if 0<k/\k % 2=0/\hasI a default=true then⟨false,0,0⟩ else if q0f (powV (ofN a.lo) k) (powV (ofN a.hi) k)>0 then powV (ofN a.hi) k else powV (ofN a.lo) k
def Y4j (a:Ivl)(k:Nat):Vl:=if q0f (powV (ofN a.lo) k) (powV (ofN a.hi) k)>0 then powV (ofN a.lo) k else powV (ofN a.hi) k
def powI (a:Ivl)(k p:Int):Ivl×Int:=
 if Q0p a=true/\0<=k/\k<=8/\Z0p p=true then U0j (Z0z (Y4i a k.toNat) p.toNat false) (Z0z (Y4j a k.toNat) p.toNat true) else(default,1)
theorem Y3i (x:Nm):sgnN x<0<->qN x<0:=by rw[k0o,U2j,<-K0h x.exp];exact qM_lt.symm
theorem v1e (x:Nm):0<sgnN x<->0<qN x:=by
 have h1:sgnN x<=0<->qN x<=0:=by rw[k0o,U2k,<-K0h x.exp];exact qM_le.symm
 rw[<-Rat.not_le,<-h1];omega
def J2n (m:Mn)(x:Nat->Rat):Nat->Rat
 | 0=>qN m.c
 | i+1=>J2n m x i*powQ (x i) (m.ks.getD i 0).toNat
def valQ (p:List Mn)(x:Nat->Rat)(n:Nat):Nat->Rat
 | 0=>0
 | i+1=>valQ p x n i+J2n (p.getD i default) x n
def v1y (m:Mn)(b:List Ivl)(p:Int):Nat->Ivl×Int
 | 0=>(⟨m.c,m.c⟩,0)
 | i+1=>if (v1y m b p i).2≠0 then(default,(v1y m b p i).2) else if m.ks.getD i 0=0 then v1y m b p i
  else if (powI (b.getD i default) (m.ks.getD i 0) p).2≠0 then(default,(powI (b.getD i default) (m.ks.getD i 0) p).2)
  else opI 2 (v1y m b p i).1 (powI (b.getD i default) (m.ks.getD i 0) p).1 p
def k0e (q:List Mn)(b:List Ivl)(p:Int):Nat->Ivl×Int
 | 0=>(default,0)
 | i+1=>if (k0e q b p i).2≠0 then(default,(k0e q b p i).2) else if (v1y (q.getD i default) b p b.length).2≠0 then(default,(v1y (q.getD i default) b p b.length).2)
  else opI 0 (k0e q b p i).1 (v1y (q.getD i default) b p b.length).1 p
def Q2w (q:List Mn)(b:List Ivl)(p:Int):Ivl×Int:=if X0a q b.length=true/\b.all Q0p=true/\Z0p p=true then k0e q b p q.length else(default,1)
theorem G1g (k:Nat)(a b:Ivl)(p:Int)(h:(opI k a b p).2≠0):(opI k a b p).1=default:=by unfold opI at h⊢;split;rename_i c;rw[if_pos c] at h;unfold U0j at h⊢;split;rename_i d;rw[if_pos d] at h;exact absurd rfl h;rfl;rfl
theorem y2k (l:List Int)(t:Tag):NoG (.sl t (encZ l)):=by refine .sl _ _ fun i j hi hj=> ?_;rw[K0r] at hi;rw[K0a l i hi] at hj⊢;have:j=0:=(by simp[PV.cells] at hj;omega);subst this;exact .sc _
theorem U3g (off:Nat)(T:List Int)(k:Nat)(h:k<T.length):(List.replicate off PV.junk++encZ T).getD (off+k) .junk= .sc (.int .i64 (T.getD k 0)):=by rw[q_a,List.getElem?_append_right (by simp),List.length_replicate,Nat.add_sub_cancel_left,<-q_a];exact K0a T k h
theorem H2g (off:Nat)(T:List Int)(k:Nat)(c:Int)(h:k<T.length):over (List.replicate off PV.junk++encZ T) (off+k) [.sc (.int .i64 c)]=List.replicate off PV.junk++encZ (T.set k c):=by unfold over;have e:encZ (T.set k c)=(encZ T).set k (.sc (.int .i64 c)):=(by unfold encZ;rw[List.map_set]);rw[e,show List.replicate off PV.junk++(encZ T).set k (.sc (.int .i64 c))=(List.replicate off PV.junk++encZ T).set (off+k) (.sc (.int .i64 c)) from by rw[List.set_append_right _ _ (by simp),List.length_replicate,Nat.add_sub_cancel_left]];rw[List.set_eq_take_append_cons_drop,if_pos (by simp[encZ];omega)];simp
theorem U3h (off:Nat)(T:List Int):((List.replicate off PV.junk++encZ T).drop off).take T.length=encZ T:=by rw[List.drop_append_of_le_length (by simp),List.drop_eq_nil_of_le (by simp),List.nil_append,List.take_of_length_le (by rw[K0r];exact Nat.le_refl _)]
def intN (n:Nat):Nm:=(mkX false [UInt64.ofNat n] 0).1
def decK (ks:List Int)(i:Nat):List Int:=ks.set i (ks.getD i 0-1)
def G0o (i:Nat):List Mn->List Mn->List Mn×Int
 | [],acc=>(acc,0)
 | m::r,acc=>if m.ks.getD i 0=0 then G0o i r acc else if (strN 2 m.c (intN (m.ks.getD i 0).toNat)).2≠0 then([],(strN 2 m.c (intN (m.ks.getD i 0).toNat)).2)
  else G0o i r (acc++ [⟨(strN 2 m.c (intN (m.ks.getD i 0).toNat)).1,decK m.ks i⟩])
def W0z (p:List Mn)(i n:Int):List Mn×Int:=if X0a p n=true/\0<=i/\i<n then G0o i.toNat p [] else([],1)
theorem Y1z (a:List Mn)(i:Nat)(h:i<a.length):a.drop i=a.getD i default::a.drop (i+1):=by rw[List.drop_eq_getElem_cons h];simp[q_a,h]
theorem W2f {p:List Mn}{i j:Nat}(h:j<p.length)(acc:List Mn):G0o i (p.drop j) acc=if (p.getD j default).ks.getD i 0=0 then G0o i (p.drop (j+1)) acc else if (strN 2 (p.getD j default).c (intN ((p.getD j default).ks.getD i 0).toNat)).2≠0 then([],(strN 2 (p.getD j default).c (intN ((p.getD j default).ks.getD i 0).toNat)).2)
 else G0o i (p.drop (j+1)) (acc++ [⟨(strN 2 (p.getD j default).c (intN ((p.getD j default).ks.getD i 0).toNat)).1,decK (p.getD j default).ks i⟩]):=by
 rw[Y1z p j h,G0o]
theorem x2t {p:List Mn}{i:Nat}(acc:List Mn):G0o i (p.drop p.length) acc=(acc,0):=by rw[List.drop_length,G0o]
theorem Q1g : ∀(a b c:List Int),a.length=b.length->b.length=c.length->ordK a b=1->ordK b c=1->ordK a c=1
 | [],_,_,_,_,h,_=>by simp[ordK] at h
 | x::a,[],_,h1,_,_,_=>by simp at h1
 | x::a,y::b,[],_,h2,_,_=>by simp at h2
 | x::a,y::b,z::c,h1,h2,h3,h4=>by rw[ordK] at h3 h4⊢;have ih:=Q1g a b c (by simpa using h1) (by simpa using h2);by_cases c1:x>y;by_cases c2:y>z;rw[if_pos (by omega)];rw[if_neg c2] at h4;by_cases c3:y<z;rw[if_pos c3] at h4;omega;rw[if_pos (by omega)];rw[if_neg c1] at h3;by_cases c2:x<y;rw[if_pos c2] at h3;omega;rw[if_neg c2] at h3;by_cases c3:y>z;rw[if_pos (by omega)];rw[if_neg c3] at h4;by_cases c4:y<z;rw[if_pos c4] at h4;omega;rw[if_neg c4] at h4;rw[if_neg (by omega),if_neg (by omega)];exact ih h3 h4
theorem U1e (x:Int)(a:List Int):decK (x::a) 0=(x-1)::a:=rfl
theorem U1d (x:Int)(a:List Int)(i:Nat):decK (x::a) (i+1)=x::decK a i:=rfl
theorem G1f : ∀(a b:List Int) (i:Nat),ordK (decK a i) (decK b i)=ordK a b
 | [],b,i=>by cases b<;>rfl
 | x::a,[],i=>by cases i<;>rfl
 | x::a,y::b,0=>by rw[U1e,U1e,ordK,ordK];by_cases c1:x>y;rw[if_pos (by omega),if_pos c1];rw[if_neg (by omega),if_neg c1];by_cases c2:x<y;rw[if_pos (by omega),if_pos c2];rw[if_neg (by omega),if_neg c2]
 | x::a,y::b,i+1=>by rw[U1d,U1d,ordK,ordK,G1f a b i]
theorem V0l (ks:List Int)(i:Nat):(decK ks i).length=ks.length:=by unfold decK;rw[List.length_set]
def Y0w :List (List Int)->Prop:=List.Pairwise fun a b=>ordK a b=1
theorem x0a {p:List Mn}{n:Int}(h:X0a p n=true):Y0w (p.map Mn.ks):=by
 have hl: ∀i,i<p.length->(((p.getD i default).ks.length:Int)=n):=fun i hi=>(V0c h hi).1;have hs: ∀d i,i+d+1<p.length->ordK (p.getD i default).ks (p.getD (i+d+1) default).ks=1:=by
  intro d
  induction d with
  | zero=>
   intro i hi;have:=((V0s _ _ _).1 (((Z0v p n).1 h).2 (i+1) hi)).2.2;rcases this with e | e;omega;exact e
  | succ d ih=>
   intro i hi;have h1:=ih i (by omega);have h2:=((V0s _ _ _).1 (((Z0v p n).1 h).2 (i+(d+1)+1) hi)).2.2;have a1:=hl i (by omega);have a2:=hl (i+d+1) (by omega);have a3:=hl (i+(d+1)+1) hi;rcases h2 with e | e;omega;rw[show i+(d+1)+1-1=i+d+1 from by omega] at e;exact Q1g _ _ _ (by omega) (by omega) h1 e
 refine List.pairwise_iff_getElem.2 fun i j hi hj hij=> ?_;simp only[List.length_map] at hi hj;have:=hs (j-i-1) i (by omega);rw[show i+(j-i-1)+1=j from by omega] at this;simpa[q_a,hi,hj] using this
def X0h (i:Nat):List Mn->List Tm
 | []=> []
 | m::r=>if m.ks.getD i 0=0 then X0h i r else⟨byV (ofN m.c) (oddV false (m.ks.getD i 0).toNat 0),decK m.ks i⟩::X0h i r
theorem Q1u {i:Nat}{t:Tm} : ∀ {p:List Mn},t∈X0h i p-> ∃m∈p,t.ks=decK m.ks i
 | [],h=>by cases h
 | m::r,h=>by rw[X0h] at h;split at h;obtain⟨m',h1,h2⟩:=Q1u h;exact⟨m',by simp[h1],h2⟩;rcases List.mem_cons.1 h with rfl | h;exact⟨m,by simp,rfl⟩;obtain⟨m',h1,h2⟩:=Q1u h;exact⟨m',by simp[h1],h2⟩
theorem x0q {i:Nat} : ∀ {p:List Mn},Y0w (p.map Mn.ks)->Y0w ((X0h i p).map Tm.ks)
 | [],_=>List.Pairwise.nil
 | m::r,h=>by obtain⟨h1,h2⟩:=List.pairwise_cons.1 h;have ih:=x0q (i:=i) h2;rw[X0h];split;exact ih;refine List.pairwise_cons.2 ⟨fun k hk=> ?_,ih⟩;obtain⟨t,ht,rfl⟩:=List.mem_map.1 hk;obtain⟨m',hm',e⟩:=Q1u ht;rw[e];show ordK (decK m.ks i) (decK m'.ks i)=1;rw[G1f];exact h1 _ (List.mem_map.2 ⟨m',hm',rfl⟩)
theorem z0g (i:Nat): ∀p:List Mn,(X0h i p).length<=p.length
 | []=>Nat.le_refl _
 | m::r=>by have:=z0g i r;rw[X0h];split<;>simp only[List.length_cons]<;>omega
def W0x :List Tm->List Mn->List Mn×Int
 | [],acc=>(acc,0)
 | t::r,acc=>if K0t t.v=0 then W0x r acc else if (numV t.v).2≠0 then([],2) else W0x r (acc++ [⟨(numV t.v).1,t.ks⟩])
theorem Z2u {k:Nat}(hk:k<=8):Q0q (intN k)=true/\ofN (intN k)=oddV false k 0:=by have hr:Q0q (intN k)=true:=J0i (H0r (X1l ⟨false,0,[UInt64.ofNat k]⟩));refine⟨hr,?_⟩;have key: ∀k:Fin 9,ofN (intN k.val)=oddV false k.val 0:=(by decide+kernel);exact key ⟨k,by omega⟩
theorem k3c {x:Nm}(h:Q0q x=true)(hw:x.w.length≠0):qN x≠0:=fun e=>by
 have h1:=Y3i x;have h2:=v1e x;rw[e] at h1 h2;have:sgnN x=0:=by have a1: ¬sgnN x<0:=fun c=>absurd (h1.1 c) (by decide);have a2: ¬0<sgnN x:=fun c=>absurd (h2.1 c) (by decide);omega
 have h3:=(v2t h).1 (by rw[ownN,if_pos h];exact this);exact hw h3
theorem Q1o {i:Nat} : ∀(p:List Mn) (acc:List Mn),(∀m∈p,Q0q m.c=true/\m.c.w.length≠0/\0<=m.ks.getD i 0/\m.ks.getD i 0<=8)->W0x (X0h i p) acc=G0o i p acc
 | [],_,_=>rfl
 | m::r,acc,h=>by
  obtain⟨h1,h2,h3,h4⟩:=h m (by simp);have ih:=fun acc=>Q1o (i:=i) r acc fun m hm=>h m (by simp[hm]);rw[X0h,G0o];by_cases c:m.ks.getD i 0=0;rw[if_pos c,if_pos c];exact ih acc;rw[if_neg c,if_neg c,W0x];obtain⟨i1,i2⟩:=Z2u (k:=(m.ks.getD i 0).toNat) (by omega);have hs:strN 2 m.c (intN (m.ks.getD i 0).toNat)=numV (byV (ofN m.c) (oddV false (m.ks.getD i 0).toNat 0)):=by rw[strN,if_pos ⟨h1,i1⟩,i2];rfl
  have hne:K0t (byV (ofN m.c) (oddV false (m.ks.getD i 0).toNat 0))≠0:=fun e=>by have hz:=Z1w (y0u e);rw[x0e,K0n,j0j] at hz;rcases Rat.mul_eq_zero.1 hz with e1 | e1;exact k3c h1 h2 e1;have:(m.ks.getD i 0).toNat≠0:=(by omega);exact this (by exact_mod_cast e1)
  rw[if_neg hne,hs];rcases G1j (byV (ofN m.c) (oddV false (m.ks.getD i 0).toNat 0)) with e | e;rw[if_neg (by rw[e];decide),if_neg (by rw[e];decide)];exact ih _;rw[e,if_pos (by decide),if_pos (by decide)]
set_option maxRecDepth 100000
open Go.Proofs
theorem z1u {x:Nm}(h:Q0q x=true):luQ 65536 69632 (qN x):=by have:=z1v (V1r h);rw[K0n] at this;exact this
def Y0c (f:List (List Mn))(b:List Ivl)(p:Int):List Ivl×Int:=if K0m f=true/\b.length=f.length then tabF (fun i=>Q2w (f.getD i []) b p) 0 f.length [] else([],1)
theorem X3w (l:List Int)(st:Q0f)(hl:l.length<=100000000000):PCalls Tryz.prog 219 [.sl .no (encZ l)] st (fun r st'=>r= .sl (.fresh 1) (encZ l)/\st'=st):=by refine Q0b (some 1) Tryz.func219 rfl fun E=>Q0a ?_;simp-dsimp only[go_sem];intro b hb;cases b;simp-dsimp only[go_sem];omega;have:l= []:=(by have:=hb rfl;simpa[encZ] using this);subst this;simp-dsimp only[go_sem]
theorem X3v (l:List Int)(st:Q0f)(hl:l.length<=100000000000)(h0:0<l.length):PCalls Tryz.prog 219 [.sl .no (encZ l)] st (fun r st'=> ∃off,r= .ms true st.length off l.length/\st'=st++ [List.replicate off PV.junk++encZ l]):=by have:=PCalls.owned (P:=Tryz.prog) (f:=219) (args:= [.sl .no (encZ l)]) (es:=encZ l) (by rw[K0r];exact h0) (fun j hj=>⟨_,K0a l j (by rw[K0r] at hj;exact hj)⟩) (fun p hp=>by simp at hp;subst hp;exact y2k l _) (X3w l [] hl) st;rw[K0r] at this;exact this
set_option maxHeartbeats 2000000 in
theorem z1f (p:List Mn)(i n:Int)(st:Q0f)(hp:wP p):PCalls Tryz.prog 151 [.sl .no (Z0n p),.sc (.int .i64 i),.sc (.int .i64 n)] st (fun r st'=>r= .tup [.sl .no (Z0n (W0z p i n).1),.sc (.int .i64 (W0z p i n).2)]/\ ∃e,st'=st++List.replicate e []):=by
 refine Q0b none Tryz.func151 rfl fun E=>Q0a ?_;have bad: ¬(X0a p n=true/\0<=i/\i<n)->W0z p i n=([],1):=fun h=>if_neg h;simp-dsimp only[go_sem];refine(k0s p n _ hp).mono ?_;rintro r st ⟨rfl,rfl⟩;cases r1:X0a p n with
 | false=>
  have hv:=bad (by rintro⟨h,_⟩;rw[r1] at h;cases h);simp-dsimp only[go_sem];rw[hv];exact⟨rfl,0,by simp⟩
 | true=>
  simp-dsimp only[go_sem];refine gkF (fun g1=> ?_) (fun g1=> ?_)
  . have g1':=q_c g1;simp-dsimp only[go_sem,g1];refine ck (fun g2=> ?_) (fun g2=> ?_);have hv:=bad (by rintro⟨_,_,h⟩;have:=q_b g2;omega);simp-dsimp only[go_sem];rw[hv];exact⟨rfl,0,by simp⟩
    . have g2':=q_c g2;obtain⟨k,rfl⟩: ∃k:Nat,i=k:=⟨i.toNat,by omega⟩;have hv:W0z p k n=G0o k p []:=(by rw[W0z,if_pos ⟨r1,by omega,by omega⟩,Int.toNat_natCast]);rw[hv];clear hv bad;have h4:=((Z0v _ _).1 r1).1;simp-dsimp only[go_sem];refine Z0c 8 4 ?_;simp-dsimp only[go_sem];refine Q0r [false,true,false,false,false,false,false,false,true,false,false,false,false,false,false,false,false,false,false,false,false,false,false,false,false,false,false,true,true,true] 0 1
       (fun c s=> ∃(j:Nat) (o:List Mn) (e:Nat),c=p.length-j/\j<=p.length/\o.length<=j/\G0o k p []=G0o k (p.drop j) o/\
        s=⟨[.junk,.sc (.int .i64 k),.junk,.junk,.junk,.junk,.junk,.junk,.sl (.own 0) (Z0n o),.junk,.junk,.junk,.junk,.junk,.junk,.junk,.junk,.junk,.junk,.junk,.junk,.junk,.junk,.junk,.junk,.junk,.junk,.sl .no (Z0n p),.sc (.int .i64 p.length),.sc (.int .i64 (j:Nat))]++List.replicate 42 .junk,[],[(o.length,4)],st++List.replicate e []⟩) p.length ?_ ?_
      simp-dsimp only[go_sem];exact⟨0,[],0,by omega,by omega,by simp,by rw[List.drop_zero],by simp[x2g]⟩
      . rintro c s ⟨j,o,e,rfl,hj,ho,hr,rfl⟩;generalize hS:st++List.replicate e []=S;refine Q0h (Q0a ?_);simp-dsimp only[go_sem];refine Q0h (Q0a ?_);simp-dsimp only[go_sem];refine ck (fun h'=> ?_) (fun h'=> ?_)
        . have hlt:j<p.length:=by have:=q_b h';omega
          have e1:=V0i p j hlt;have e3:=J0n j (by omega);obtain⟨k1,k2,k3⟩:=V0c r1 hlt;rw[W2f hlt] at hr;generalize hm:p.getD j default=m at*
          have hkl:k<m.ks.length:=(by omega);have f1:=K0a m.ks k hkl;have hk:=X0n k2 k hkl;simp-dsimp only[go_sem];refine Q0h (Z0d (Q0h (Q0a ?_)));simp-dsimp only[go_sem,e1];refine⟨by omega,?_⟩;refine Q0h (Q0a ?_);simp-dsimp only[go_sem,f1];refine⟨by omega,?_⟩;refine ck (fun h2=> ?_) (fun h2=> ?_);have h2':=Z1c h2;rw[if_pos h2'] at hr;simp-dsimp only[go_sem];refine Q0a ?_;simp-dsimp only[go_sem,e3];exact⟨p.length-(j+1),by omega,j+1,o,e,rfl,by omega,by omega,hr,by rw[<-hS]⟩
          . have h2':=W1h h2;rw[if_neg h2'] at hr;obtain⟨x,hx⟩: ∃x:Nat,m.ks.getD k 0=x:=⟨(m.ks.getD k 0).toNat,by omega⟩;rw[hx] at f1;rw[hx,Int.toNat_natCast] at hr;have wi:wN (intN x):=v1d (K0f (J0i (H0r (X1l ⟨false,0,[UInt64.ofNat x]⟩))));have wc:wN m.c:=v1d (K0f k3);simp-dsimp only[go_sem];refine Y0s [false,true,false,false,false,false,false,false,true,false,true,true,true,false,false,false,false,false,false,false,false,false,false,false,false,false,false,true,true,true] 2 1
             (fun s=>s=⟨[.junk,.sc (.int .i64 k),.junk,.junk,.junk,.junk,.junk,.junk,.sl (.own 0) (Z0n o),.junk,.lp 0 0,.lp 1 0,.sc (.int .i64 (strN 2 m.c (intN x)).2),.junk,.junk,.junk,.junk,.junk,.junk,.junk,.junk,.junk,.junk,.junk,.junk,.junk,.junk,.sl .no (Z0n p),.sc (.int .i64 p.length),.sc (.int .i64 (j:Nat))]++List.replicate 42 .junk,[H0q m,encN (strN 2 m.c (intN x)).1],[(o.length,4)],S⟩) ?_ ?_
            . simp-dsimp only[go_sem];refine Q0o Z0m 72 (.step 0 [] (.step 1 [] (.step 2 [] (.step 3 [] (.step 4 [] (.step 5 [] (.step 6 [] (.alt (.step 7 [1] (.alt (.step 8 [3] (.step 9 [] (.step 10 [] (.step 11 [] (.step 12 [1,3,6] (.step 13 [] (.step 14 [] (.done)))))))) (.step 12 [1,3,6] (.step 8 [3] (.step 9 [] (.step 10 [] (.step 11 [] (.step 13 [] (.step 14 [] (.done)))))))))) (.step 12 [1,3,6] (.step 7 [1] (.step 8 [3] (.step 9 [] (.step 10 [] (.step 11 [] (.step 13 [] (.step 14 [] (.done))))))))))))))))) (by decide+kernel) (by simp) ?_;simp-dsimp only[go_sem,f1];refine⟨by omega,And.intro ?_ ?_⟩
              . refine(w0m x _ (by omega)).mono ?_;rintro r st' ⟨rfl,rfl⟩;simp-dsimp only[go_sem];refine And.intro ?_ ?_
                all_goals
                 refine(Z2k m.c (intN x) _ wc wi).mono ?_;rintro r st' ⟨rfl,rfl⟩;simp-dsimp only[go_sem]
              refine(w0m x _ (by omega)).mono ?_;rintro r st' ⟨rfl,rfl⟩;simp-dsimp only[go_sem];refine(Z2k m.c (intN x) _ wc wi).mono ?_;rintro r st' ⟨rfl,rfl⟩;simp-dsimp only[go_sem]
            . rintro s rfl;refine Q0h (Q0a ?_);simp-dsimp only[go_sem];refine ck (fun h3=> ?_) (fun h3=> ?_);have hne:=G0x h3;rw[if_pos hne] at hr;rw[hr];simp-dsimp only[go_sem];exact⟨e,hS.symm⟩
              . have he:=H0t h3;rw[if_neg (fun hh=>hh he)] at hr;simp-dsimp only[go_sem];generalize (strN 2 m.c (intN x)).1=y at*
                have hml:m.ks.length<=100000000000:=(by omega);refine Y0s [false,true,false,false,false,false,false,false,true,false,false,false,false,true,false,false,false,false,false,false,false,false,false,false,false,false,false,true,true,true] 3 1
                 (fun s=> ∃off,s=⟨[.junk,.sc (.int .i64 k),.junk,.junk,.junk,.junk,.junk,.junk,.sl (.own 0) (Z0n o),.junk,.junk,.junk,.junk,.lp 2 0,.junk,.junk,.junk,.junk,.junk,.junk,.junk,.junk,.junk,.junk,.junk,.junk,.junk,.sl .no (Z0n p),.sc (.int .i64 p.length),.sc (.int .i64 (j:Nat))]++List.replicate 42 .junk,[H0q m,encN y,[.sc (.bool y.neg),.sc (.int .i64 y.exp),.sl .no (encW y.w),.ms true S.length off m.ks.length]],[(o.length,4)],S++ [List.replicate off PV.junk++encZ m.ks]⟩) ?_ ?_
                . simp-dsimp only[go_sem];refine Q0o Z0m 72 (.step 0 [] (.step 1 [] (.step 2 [] (.alt (.step 3 [0] (.step 4 [] (.step 5 [0,2] (.step 6 [] (.done))))) (.step 5 [0,2] (.step 3 [0] (.step 4 [] (.step 6 [] (.done))))))))) (by decide+kernel) (by simp) ?_;simp-dsimp only[go_sem];refine And.intro ?_ ?_
                  all_goals
                   refine(X3v m.ks _ hml (by omega)).mono ?_;rintro r st' ⟨off,rfl,rfl⟩;simp-dsimp only[go_sem];exact⟨off,rfl⟩
                rintro s ⟨off,rfl⟩;have gst:(S++ [List.replicate off PV.junk++encZ m.ks]).getD S.length []=List.replicate off PV.junk++encZ m.ks:=(by simp[q_a]);have g2:=U3g off m.ks k hkl;rw[hx] at g2;have x6:IntKind.i64.wrap ((x:Int)-1)=(x:Int)-1:=Q0l _ (by omega) (by omega);have o1:=H2g off m.ks k ((x:Int)-1) hkl;have sst:(S++ [List.replicate off PV.junk++encZ m.ks]).set S.length (List.replicate off PV.junk++encZ (m.ks.set k ((x:Int)-1)))=S++ [List.replicate off PV.junk++encZ (decK m.ks k)]:=by rw[List.set_append_right _ _ (Nat.le_refl _),decK,hx];simp
                have r0:(List.replicate off PV.junk).length=off:=List.length_replicate;refine Q0h (Q0a ?_);simp-dsimp only[go_sem,gst,g2,x6,o1,sst];rw[r0];refine⟨by omega,by omega,by omega,by omega,?_⟩;have hdl:(decK m.ks k).length=m.ks.length:=(by unfold decK;rw[List.length_set]);have gst2:(S++ [List.replicate off PV.junk++encZ (decK m.ks k)]).getD S.length []=List.replicate off PV.junk++encZ (decK m.ks k):=(by simp[q_a]);have sst2:(S++ [List.replicate off PV.junk++encZ (decK m.ks k)]).set S.length []=S++ [[]]:=by rw[List.set_append_right _ _ (Nat.le_refl _)];simp
                have hcut:=U3h off (decK m.ks k);rw[hdl] at hcut;have hms:PV.frzG S.length (List.replicate off PV.junk++encZ (decK m.ks k)) (.ms true S.length off m.ks.length)= .sl .no (encZ (decK m.ks k)):=(by rw[G3m (by rw[List.length_append,K0r,hdl,r0];exact Nat.le_refl _),hcut]);refine v1n S.length (by simp) ?_ ?_ ?_;intro q hq;have hq':q∈List.replicate off PV.junk++encZ (decK m.ks k):=(by rw[<-gst2];exact hq);rcases List.mem_append.1 hq' with hq' | hq';rw[List.eq_of_mem_replicate hq'];rfl;simp[encZ] at hq';obtain⟨c,_,rfl⟩:=hq';rfl;intro e0;have h2:(List.replicate off PV.junk++encZ (decK m.ks k)).length=0:=by have e':(S++ [List.replicate off PV.junk++encZ (decK m.ks k)]).getD S.length []= []:=e0;rw[gst2] at e';rw[e'];rfl
                rw[List.length_append,K0r,hdl] at h2;omega;simp-dsimp only[go_sem,gst2,sst2,hms];refine Q0a ?_;simp-dsimp only[go_sem];refine⟨⟨by omega,by omega⟩,Q0a ?_⟩;simp-dsimp only[go_sem,e3];refine⟨p.length-(j+1),by omega,j+1,o++ [⟨y,decK m.ks k⟩],e+1,rfl,by omega,by simp;omega,hr,?_⟩;have hS2:S++ [[]]=st++List.replicate (e+1) []:=(by rw[<-hS,List.append_assoc,<-List.replicate_succ']);rw[hS2];simp[Z0n,H0q]
        have hge:j=p.length:=by have:=q_c h';omega
        subst hge;rw[x2t] at hr;rw[hr];simp-dsimp only[go_sem];refine X0p [false,false,false,false,false,false,false,false,true] (Q0a ?_);simp-dsimp only[go_sem];exact⟨e,hS.symm⟩
  have hv:=bad (by rintro⟨_,h,_⟩;have:=q_b g1;omega);simp-dsimp only[go_sem,g1];rw[hv];exact⟨rfl,0,by simp⟩
theorem V2a (n:Nat)(m:Mn): ∀j,j<(H0q m).length->Bnd n ((H0q m).getD j .junk):=fun j hj=>by
 have hj':j<4:=hj;have hw:Bnd n (.sl .no (encW m.c.w)):= .sl _ _ 1 (fun i hi=>by rw[X0l] at hi;rw[Z0j _ i hi];rfl) fun i j hi hj=>by rw[X0l] at hi;rw[Z0j _ i hi];have:j=0:=(by omega);subst this;exact .sc _
 have hz:Bnd n (.sl .no (encZ m.ks)):= .sl _ _ 1 (fun i hi=>by rw[K0r] at hi;rw[K0a _ i hi];rfl) fun i j hi hj=>by rw[K0r] at hi;rw[K0a _ i hi];have:j=0:=(by omega);subst this;exact .sc _
 match j,hj' with
 | 0,_=>exact .sc _
 | 1,_=>exact .sc _
 | 2,_=>exact hw
 | 3,_=>exact hz
theorem j2p (n:Nat)(p:List Mn)(t:Tag):Bnd n (.sl t (Z0n p)):= .sl _ _ 4 (w1y p) fun i j hi hj=>by rw[Z1o] at hi;rw[V0i p i hi];exact V2a n _ j hj
theorem J3f {n:Nat}{a b:PV}(ha:Bnd n a)(hb:Bnd n b):Bnd n (.tup [a,b]):= .tup _ fun j hj=>by
 have hj':j<2:=hj
 match j,hj' with
 | 0,_=>exact ha
 | 1,_=>exact hb
theorem K2s (p:List Mn)(i n:Int)(st:Q0f)(hp:wP p):PCalls Tryz.prog 151 [.sl .no (Z0n p),.sc (.int .i64 i),.sc (.int .i64 n)] st (fun r st'=>r= .tup [.sl .no (Z0n (W0z p i n).1),.sc (.int .i64 (W0z p i n).2)]/\st'=st):=by refine PCalls.drop ((z1f p i n st hp).mono ?_);rintro r st' ⟨rfl,e,rfl⟩;exact⟨J3f (j2p _ _ _) (.sc _),_,rfl,rfl,rfl⟩
def jacG (f:List (List Mn))(i j:Nat):List Mn×Int:=W0z (f.getD i []) (j:Nat) f.length
def jacF (f:List (List Mn)):List (List (List Mn))×Int:=if K0m f=true then tabF (fun i=>tabF (fun j=>jacG f i j) 0 f.length []) 0 f.length [] else([],1)
set_option maxHeartbeats 2000000 in
theorem V2v (f:List (List Mn))(st:Q0f)(hf:wF f):PCalls Tryz.prog 72 [.sl .no (Z0q f)] st (fun r st'=>r= .tup [.sl .no (J0k (jacF f).1),.sc (.int .i64 (jacF f).2)]/\st'=st):=by
 have hfl:=hf.1;refine Q0b none Tryz.func72 rfl fun E=>Q0a ?_;simp-dsimp only[go_sem];refine(Z1l f _ hf).mono ?_;rintro r st ⟨rfl,rfl⟩;cases r1:K0m f with
 | false=>
  have hv:jacF f=([],1):=(by rw[jacF,if_neg (by rw[r1];decide)]);simp-dsimp only[go_sem];rw[hv];rfl
 | true=>
  have h4:=((J0r f).1 r1).1;have hv:jacF f=tabF (fun i=>tabF (fun j=>jacG f i j) 0 f.length []) 0 f.length []:=(by rw[jacF,if_pos r1]);rw[hv];clear hv;generalize hT:tabF (fun i=>tabF (fun j=>jacG f i j) 0 f.length []) 0 f.length []=T;simp-dsimp only[go_sem];refine Z0c 5 1 ?_;simp-dsimp only[go_sem];refine Q0d [true,false,false,false,true,true,false,false,false,false,false,false,false,false,false,true,true] 0 1
   (fun k s=> ∃(i:Nat) (o:List (List (List Mn))),k=f.length-i/\i<=f.length/\o.length=i/\T=tabF (fun i=>tabF (fun j=>jacG f i j) 0 f.length []) i (f.length-i) o/\
    s=⟨[.sl .no (Z0q f),.junk,.junk,.junk,.sc (.int .i64 0),.sl (.own 0) (J0k o),.junk,.junk,.junk,.junk,.junk,.junk,.junk,.junk,.junk,.sc (.int .i64 f.length),.sc (.int .i64 (i:Nat))]++List.replicate 35 .junk,[],[(o.length,1)],st⟩) f.length ?_ ?_
  simp-dsimp only[go_sem];exact⟨0,[],by omega,by omega,rfl,hT.symm,rfl⟩;rintro k s ⟨i,o,rfl,hi,ho,hr,rfl⟩;simp-dsimp only[go_sem];refine ck (fun h'=> ?_) (fun h'=> ?_);have hlt:i<f.length:=(by have:=q_b h';omega);have e1:=Y0x f i hlt;have e3:=J0n i (by omega);have e4:=V0u (fun i=>tabF (fun j=>jacG f i j) 0 f.length []) hlt o;simp-dsimp only[go_sem];refine Z0c 7 1 ?_;simp-dsimp only[go_sem];refine Q0d [true,false,false,false,true,true,true,true,false,false,false,false,false,false,false,true,true,false,false,false,true,true] 0 2
   (fun k s=> ∃(j:Nat) (r:List (List Mn)),k=f.length-j/\j<=f.length/\r.length=j/\tabF (fun j=>jacG f i j) 0 f.length []=tabF (fun j=>jacG f i j) j (f.length-j) r/\
    s=⟨[.sl .no (Z0q f),.junk,.junk,.junk,.sc (.int .i64 0),.sl (.own 0) (J0k o),.sc (.int .i64 (i:Nat)),.sl (.own 1) (Z0q r),.junk,.junk,.junk,.junk,.junk,.junk,.junk,.sc (.int .i64 f.length),.sc (.int .i64 (i:Nat)),.junk,.junk,.junk,.sc (.int .i64 f.length),.sc (.int .i64 (j:Nat))]++List.replicate 30 .junk,[],[(o.length,1),(r.length,1)],st⟩) f.length ?_ ?_
  simp-dsimp only[go_sem];exact⟨0,[],by omega,by omega,rfl,rfl,rfl⟩;rintro k s ⟨j,r,rfl,hj,hrl,hrr,rfl⟩;simp-dsimp only[go_sem];refine ck (fun h''=> ?_) (fun h''=> ?_);have hlt2:j<f.length:=(by have:=q_b h'';omega);have f3:=J0n j (by omega);have f4:=V0u (fun j=>jacG f i j) hlt2 r;simp-dsimp only[go_sem,e1];refine⟨by omega,?_⟩;refine(K2s (f.getD i []) j f.length _ (hf.2 i hlt)).mono ?_;rintro rr st ⟨rfl,rfl⟩;simp-dsimp only[go_sem];refine ck (fun h5=> ?_) (fun h5=> ?_);have hne:(jacG f i j).2≠0:=G0x h5;have q1:tabF (fun j=>jacG f i j) 0 f.length []=([],(jacG f i j).2):=(by rw[hrr,f4,if_pos hne]);have hTT:T=([],(jacG f i j).2):=(by rw[hr,e4,if_pos (by rw[q1];exact hne),q1]);subst hTT;simp-dsimp only[go_sem];refine Q0a ?_;simp-dsimp only[go_sem,h5]
  try rfl
  have he:(jacG f i j).2=0:=H0t h5;simp-dsimp only[go_sem,f3];refine⟨⟨by omega,by omega⟩,f.length-(j+1),by omega,j+1,r++ [(jacG f i j).1],rfl,by omega,by simp[hrl],?_,?_⟩;rw[hrr,f4,if_neg (fun hh=>hh he)];simp[Z0q,jacG];have hge:j=f.length:=(by have:=q_c h'';omega);have q1:tabF (fun j=>jacG f i j) 0 f.length []=(r,0):=(by rw[hrr,hge];exact Y0i _ f.length r);simp-dsimp only[go_sem];refine Q0a ?_;simp-dsimp only[go_sem];refine⟨⟨by omega,by omega⟩,Q0a ?_⟩;simp-dsimp only[go_sem,e3];refine⟨f.length-(i+1),by omega,i+1,o++ [r],rfl,by omega,by simp[ho],?_,?_⟩;rw[hr,e4,q1,if_neg (by simp)];simp;have hge:i=f.length:=(by have:=q_c h';omega);have z0:((0:Int) !=0)=false:=rfl;simp-dsimp only[go_sem];refine Q0a ?_;simp-dsimp only[go_sem,z0];rw[hr,hge,Y0i]
def insT (t:Tm):List Tm->List Tm
 | []=> [t]
 | o::r=>if ordK o.ks t.ks>0 then o::insT t r else if ordK o.ks t.ks=0 then⟨V0x o.v t.v,o.ks⟩::r else t::o::r
def gatT :List Tm->List Tm->List Tm
 | [],acc=>acc
 | t::r,acc=>gatT r (insT t acc)
theorem G1s (t:Tm): ∀(k:Nat) (O:List Tm),k<=O.length->(∀q,q<k->ordK (O.getD q default).ks t.ks>0)->insT t O=O.take k++insT t (O.drop k)
 | 0,O,_,_=>by simp
 | k+1,[],h,_=>by simp at h
 | k+1,o::r,h,h1=>by have h0:ordK o.ks t.ks>0:=h1 0 (by omega);rw[insT,if_pos h0,G1s t k r (by simpa using h) (fun q hq=>h1 (q+1) (by omega))];simp
theorem Q3y {t:Tm}{O:List Tm}(h: ∀q,q<O.length->ordK (O.getD q default).ks t.ks>0):insT t O=O++ [t]:=by rw[G1s t O.length O (Nat.le_refl _) h,List.take_length,List.drop_length,insT]
theorem z2b {t:Tm}{O:List Tm}{k:Nat}(hk:k<O.length)(h: ∀q,q<k->ordK (O.getD q default).ks t.ks>0)(h0:ordK (O.getD k default).ks t.ks=0):
 insT t O=O.set k ⟨V0x (O.getD k default).v t.v,(O.getD k default).ks⟩:=by
 rw[G1s t k O (by omega) h,show O.drop k=O.getD k default::O.drop (k+1) from by rw[List.drop_eq_getElem_cons hk];simp[q_a,hk],insT,if_neg (by omega),if_pos h0,List.set_eq_take_append_cons_drop,if_pos hk]
theorem z2c {t:Tm}{O:List Tm}{k:Nat}(hk:k<O.length)(h: ∀q,q<k->ordK (O.getD q default).ks t.ks>0)(h0: ¬ordK (O.getD k default).ks t.ks>0)(h1:ordK (O.getD k default).ks t.ks≠0):
 insT t O=O.take k++t::O.drop k:=by
 rw[G1s t k O (by omega) h,show O.drop k=O.getD k default::O.drop (k+1) from by rw[List.drop_eq_getElem_cons hk];simp[q_a,hk],insT,if_neg h0,if_neg h1]
theorem G1r {t x:Tm} : ∀ {O:List Tm},x∈insT t O->x=t\/x∈O\/ ∃o∈O,x=⟨V0x o.v t.v,o.ks⟩
 | [],h=>by rw[insT] at h;exact .inl (List.mem_singleton.1 h)
 | o::r,h=>by rw[insT] at h;split at h;rcases List.mem_cons.1 h with rfl | h;exact .inr (.inl (by simp));rcases G1r h with h | h | ⟨o',h1,h2⟩;exact .inl h;exact .inr (.inl (by simp[h]));exact .inr (.inr ⟨o',by simp[h1],h2⟩);split at h;rcases List.mem_cons.1 h with h | h;exact .inr (.inr ⟨o,by simp,h⟩);exact .inr (.inl (by simp[h]));rcases List.mem_cons.1 h with h | h;exact .inl h;exact .inr (.inl h)
theorem G3d {t x:Tm}{O:List Tm}(h:x∈insT t O):x.ks=t.ks\/ ∃o∈O,x.ks=o.ks:=by rcases G1r h with h | h | ⟨o',h1,h2⟩;exact .inl (by rw[h]);exact .inr ⟨x,h,rfl⟩;exact .inr ⟨o',h1,by rw[h2]⟩
theorem z1m : ∀(a b:List Int),a.length=b.length->ordK a b= -ordK b a
 | [],[],_=>rfl
 | x::a,y::b,h=>by rw[ordK,ordK,z1m a b (by simpa using h)];by_cases h1:x>y;rw[if_pos h1,if_neg (by omega),if_pos (by omega)];rfl;rw[if_neg h1];by_cases h2:x<y;rw[if_pos h2,if_pos (by omega)];rw[if_neg h2,if_neg (by omega),if_neg (by omega)]
theorem Y1m {t:Tm}{n:Nat}(ht:t.ks.length=n): ∀ {O:List Tm},(∀o∈O,o.ks.length=n)->Y0w (O.map Tm.ks)->Y0w ((insT t O).map Tm.ks)
 | [],_,_=>List.pairwise_singleton _ _
 | o::r,hl,h=>by
  obtain⟨h1,h2⟩:=List.pairwise_cons.1 h;have lo:o.ks.length=n:=hl o (by simp);have ih:=Y1m ht (O:=r) (fun x hx=>hl x (by simp[hx])) h2;rw[insT];split;rename_i hg;have hg1:ordK o.ks t.ks=1:=by rcases X1f o.ks t.ks with e | e | e<;>omega
  refine List.pairwise_cons.2 ⟨fun k hk=> ?_,ih⟩;obtain⟨x,hx,rfl⟩:=List.mem_map.1 hk;rcases G3d hx with e | ⟨o',e1,e2⟩;rw[e];exact hg1;rw[e2];exact h1 _ (List.mem_map.2 ⟨o',e1,rfl⟩);split;exact List.pairwise_cons.2 ⟨h1,h2⟩;rename_i hg h0;have hg1:ordK t.ks o.ks=1:=by rw[z1m _ _ (by rw[ht,lo])];rcases X1f o.ks t.ks with e | e | e<;>omega
  refine List.pairwise_cons.2 ⟨fun k hk=> ?_,h⟩;rcases List.mem_cons.1 hk with rfl | hk;exact hg1;obtain⟨x,hx,rfl⟩:=List.mem_map.1 hk;exact Q1g _ _ _ (by rw[ht,lo]) (by rw[lo,hl x (by simp[hx])]) hg1 (h1 _ (List.mem_map.2 ⟨x,hx,rfl⟩))
theorem v0a (t:Tm): ∀(O:List Tm),(insT t O).length<=O.length+1
 | []=>by simp[insT]
 | o::r=>by have:=v0a t r;rw[insT];split;simpa using this;split<;>simp
def okT (n L U:Nat)(D:Int)(t:Tm):Prop:=t.ks.length=n/\J0w t.ks=true/\t.ks.sum<=D/\canV t.v/\luQ L U (qV t.v)
theorem okT.up {n L U U':Nat}{D:Int}{t:Tm}(h:okT n L U D t)(hu:U<=U'):okT n L U' D t:=⟨h.1,h.2.1,h.2.2.1,h.2.2.2.1,h.2.2.2.2.up hu⟩
theorem G3c {n L U:Nat}{D:Int}{t:Tm}{O:List Tm}(ht:okT n L U D t)(hO: ∀o∈O,okT n L U D o): ∀x∈insT t O,okT n L (U+1) D x:=fun x hx=>by rcases G1r hx with rfl | h | ⟨o,h1,rfl⟩;exact ht.up (by omega);exact(hO x h).up (by omega);obtain⟨a1,a2,a3,a4,a5⟩:=hO o h1;exact⟨a1,a2,a3,G0s a4 ht.2.2.2.1,by show luQ L (U+1) (qV (V0x o.v t.v));rw[U0z];exact Q1l a5 ht.2.2.2.2⟩
theorem w1q {n L:Nat}{D:Int} : ∀(ts acc:List Tm) (U:Nat),(∀t∈ts,okT n L U D t)->(∀t∈acc,okT n L U D t)->Y0w (acc.map Tm.ks)->
 (∀t∈gatT ts acc,okT n L (U+ts.length) D t)/\Y0w ((gatT ts acc).map Tm.ks)/\(gatT ts acc).length<=acc.length+ts.length
 | [],acc,U,_,h2,h3=>⟨h2,h3,Nat.le_refl _⟩
 | t::r,acc,U,h1,h2,h3=>by have h4:=G3c (h1 t (by simp)) h2;have h5:=Y1m (h1 t (by simp)).1 (fun o ho=>(h2 o ho).1) h3;obtain⟨a1,a2,a3⟩:=w1q r (insT t acc) (U+1) (fun x hx=>(h1 x (by simp[hx])).up (by omega)) h4 h5;have h6:=v0a t acc;rw[gatT];refine⟨fun x hx=> ?_,a2,by simp only[List.length_cons];omega⟩;have:=a1 x hx;rw[List.length_cons,show U+(r.length+1)=U+1+r.length from by omega];exact this
theorem x1f (t:Tm): ∀(ts acc:List Tm),gatT (ts++ [t]) acc=insT t (gatT ts acc)
 | [],acc=>rfl
 | x::r,acc=>by show gatT (r++ [t]) (insT x acc)=insT t (gatT r (insT x acc));exact x1f t r _
def monT (t:Tm):Mn:=⟨(numV t.v).1,t.ks⟩
theorem G1t {n L U:Nat}{D:Int}(hb:L+U+1<=4096): ∀(ts:List Tm) (acc:List Mn),(∀t∈ts,okT n L U D t)->W0x ts acc=(acc++(ts.filter (fun t=>decide (K0t t.v≠0))).map monT,0)
 | [],acc,_=>by simp[W0x]
 | t::r,acc,h=>by obtain⟨a1,a2,a3,a4,a5⟩:=h t (by simp);have ih:=fun acc=>G1t hb r acc fun t ht=>h t (by simp[ht]);rw[W0x];by_cases c:K0t t.v=0;rw[if_pos c,ih,List.filter_cons_of_neg (by simp[c])];rw[if_neg c,if_neg (by rw[w0r a4 a5 hb];decide),ih,List.filter_cons_of_pos (by simp[c]),List.map_cons,List.append_assoc];rfl
def okMn (n L U:Nat)(D:Int)(m:Mn):Prop:=m.ks.length=n/\J0w m.ks=true/\m.ks.sum<=D/\Q0q m.c=true/\m.c.w.length≠0/\luQ L U (qN m.c)
theorem K3l {x:Nm}(h:x.w.length=0):qN x=0:=by have e:x.w= []:=List.eq_nil_of_length_eq_zero h;rw[<-K0n];refine Z1w ?_;show valW x.w=0;rw[e];rfl
theorem H2s {n L U:Nat}{D:Int}{t:Tm}(hb:L+U+1<=4096)(h:okT n L U D t)(hs:K0t t.v≠0):okMn n L U D (monT t):=by obtain⟨a1,a2,a3,a4,a5⟩:=h;have h0:=w0r a4 a5 hb;obtain⟨v1,v2⟩:=K0z a4 h0;refine⟨a1,a2,a3,J0i (H0r a4),fun e=>hs ?_,?_⟩;have e1:=K3l e;have e2:qV t.v=0:=(by rw[<-v2];exact e1);have p1:=Q2p t.v;have p2:=Q2q t.v;have p3:=Q2r t.v;rw[e2] at p1 p2 p3;have:=p2.2 Rat.le_refl;have:=p3.2 Rat.le_refl;omega;show luQ L U (qN (numV t.v).1);rw[v2];exact a5
theorem q1n {p:List Mn}{n:Nat}{L U:Nat}{D:Int}(hn:1<=n)(hn4:n<=4)(hl:p.length<=24)(hp: ∀m∈p,okMn n L U D m)(hf:Y0w (p.map Mn.ks)):X0a p n=true:=by
 refine(Z0v p n).2 ⟨⟨by omega,by omega,hl⟩,fun i hi=>(V0s p n i).2 ?_⟩;have hg: ∀j,j<p.length->okMn n L U D (p.getD j default):=fun j hj=>by rw[show p.getD j default=p[j] by simp[q_a,hj]];exact hp _ (List.getElem_mem hj)
 obtain⟨a1,a2,a3,a4,a5,a6⟩:=hg i hi;refine⟨(G0e _ _).2 ⟨by omega,a2,a4⟩,a5,?_⟩;by_cases h0:i=0;exact .inl h0;refine .inr ?_;have:=List.pairwise_iff_getElem.1 hf (i-1) i (by simp;omega) (by simpa using hi) (by omega);simpa[q_a,hi,(by omega:i-1<p.length)] using this
theorem V2p {n L U:Nat}{D:Int}{ts:List Tm}(hb:L+U+ts.length+1<=4096)(hn:1<=n)(hn4:n<=4)(hl:ts.length<=24)(h: ∀t∈ts,okT n L U D t):
 (W0x (gatT ts []) []).2=0/\X0a (W0x (gatT ts []) []).1 n=true/\(∀m∈(W0x (gatT ts []) []).1,okMn n L (U+ts.length) D m)/\(W0x (gatT ts []) []).1.length<=ts.length:=by
 obtain⟨g1,g2,g3⟩:=w1q ts [] U h (fun t ht=>by cases ht) List.Pairwise.nil;rw[G1t (n:=n) (L:=L) (U:=U+ts.length) (D:=D) (by omega) _ _ g1];have hfl:((gatT ts []).filter (fun t=>decide (K0t t.v≠0))).length<=ts.length:=by have:=List.length_filter_le (fun t:Tm=>decide (K0t t.v≠0)) (gatT ts []);simp only[List.length_nil] at g3;omega
 have hm: ∀m∈((gatT ts []).filter (fun t=>decide (K0t t.v≠0))).map monT,okMn n L (U+ts.length) D m:=fun m hm=>by obtain⟨t,ht,rfl⟩:=List.mem_map.1 hm;obtain⟨t1,t2⟩:=List.mem_filter.1 ht;exact H2s (by omega) (g1 t t1) (q_b t2)
 refine⟨rfl,?_,by simpa using hm,by simpa using hfl⟩;rw[List.nil_append];refine q1n hn hn4 (by simp only[List.length_map];omega) hm ?_;rw[List.map_map];have:Y0w (((gatT ts []).filter (fun t=>decide (K0t t.v≠0))).map Tm.ks):=by unfold Y0w at g2⊢;rw[List.pairwise_map] at g2⊢;exact g2.filter _
 exact this
def w1t (p:Nat)(x:Rat):Prop:= ∃m e:Int,x=qM m e/\m.natAbs<=2^p
theorem v2y (v:Vl)(p:Nat)(h: ¬Q0j v.m<=p): ∃k:Int,qV (Z0z v p false)=qM (k*2^(Q0j v.m-p)) v.e/\k*2^(Q0j v.m-p)<=X0i v/\(∀j:Int,j*2^(Q0j v.m-p)<=X0i v->j<=k)/\k.natAbs<=2^p:=by
 unfold Z0z;rw[if_neg h,z0n,j0g];have hb:=Z0g v.m;have hbp:2^Q0j v.m=2^p*2^(Q0j v.m-p):=(by rw[<-Nat.pow_add];congr 1;omega);generalize Q0j v.m-p=d at*
 have hD:=Nat.two_pow_pos d;have h1:=Nat.div_add_mod v.m (2^d);have h2:=Nat.mod_lt v.m hD;have hq:v.m/2^d<2^p:=by rw[Nat.div_lt_iff_lt_mul hD,<-hbp];exact hb
 have hcast:((2^d:Nat):Int)=(2:Int)^d:=(by simp);have hD':(0:Int)<(2:Int)^d:=(by rw[<-hcast];exact_mod_cast hD);unfold X0i;cases hn:v.neg;refine⟨((v.m/2^d:Nat):Int),?_,?_,fun j hj=> ?_,by rw[Int.natAbs_natCast];exact Nat.le_of_lt hq⟩;rw[if_neg (by simp),if_neg (by simp),Nat.add_zero,Int.natCast_mul,hcast];rw[if_neg (by simp),<-hcast,<-Int.natCast_mul];have:=Nat.div_mul_le_self v.m (2^d);omega;rw[if_neg (by simp)] at hj;by_cases hj0:j<0;have:(0:Int)<=((v.m/2^d:Nat):Int):=Int.natCast_nonneg _;omega;obtain⟨n,rfl⟩:=Int.eq_ofNat_of_zero_le (by omega:0<=j);rw[<-hcast,<-Int.natCast_mul] at hj;have hj':n*2^d<=v.m:=(by exact_mod_cast hj);have:=(Nat.le_div_iff_mul_le hD).2 hj'
 exact_mod_cast this
 generalize hc':(if v.m % 2^d≠0/\false≠true then 1 else 0)=c;have hc:(v.m % 2^d≠0/\c=1)\/(v.m % 2^d=0/\c=0):=by by_cases h3:v.m % 2^d=0;rw[if_neg (by simp[h3])] at hc';exact .inr ⟨h3,hc'.symm⟩;rw[if_pos ⟨h3,by simp⟩] at hc';exact .inl ⟨h3,hc'.symm⟩
 refine⟨-((v.m/2^d+c:Nat):Int),?_,?_,fun j hj=> ?_,by rw[Int.natAbs_neg];simp only[Int.natAbs_natCast];omega⟩;rw[if_pos rfl];congr 1;rw[Int.neg_mul,<-hcast,<-Int.natCast_mul];rw[if_pos rfl,Int.neg_mul,<-hcast,<-Int.natCast_mul];have:v.m<=(v.m/2^d+c)*2^d:=by rw[Nat.mul_comm] at h1;rw[Nat.add_mul];rcases hc with ⟨a,rfl⟩ | ⟨a,rfl⟩<;>omega
 omega;rw[if_pos rfl] at hj;by_cases hj0:0<j;have:0<j*(2:Int)^d:=Int.mul_pos hj0 hD';omega;obtain⟨n,hn'⟩:=Int.eq_ofNat_of_zero_le (by omega:0<= -j);obtain rfl:j= -(n:Int):=(by omega);rw[Int.neg_mul,<-hcast,<-Int.natCast_mul] at hj;have hj':v.m<=n*2^d:=(by omega);have:v.m/2^d+c<=n:=by
  rcases hc with ⟨a,rfl⟩ | ⟨a,rfl⟩;have:v.m/2^d<n:=by refine Nat.lt_of_not_le fun hle=> ?_;have:=Nat.mul_le_mul_right (2^d) hle;rw[Nat.mul_comm] at h1;omega
  omega;have:=Nat.div_le_div_right (c:=2^d) hj';rw[Nat.mul_div_cancel _ hD] at this;omega
 omega
theorem w1s (v:Vl)(p:Nat):w1t p (qV (Z0z v p false)):=by by_cases h:Q0j v.m<=p;unfold Z0z;rw[if_pos h];refine⟨X0i v,v.e,rfl,?_⟩;rw[j0m];exact Nat.le_of_lt (q_e (Z0g v.m) (Nat.pow_le_pow_right (by decide) h));obtain⟨k,h1,h2,h3,h4⟩:=v2y v p h;exact⟨k,v.e+((Q0j v.m-p:Nat):Int),by rw[h1,H0c],h4⟩
theorem K2e (v:Vl)(p:Nat):qV (Z0z v p true)= -qV (Z0z (V0r v) p false):=by
 by_cases h0:v.m=0;have e:V0r v=v:=(by unfold V0r;rw[if_pos h0]);have hb:Q0j v.m<=p:=(by rw[h0,J0l];omega);rw[e];unfold Z0z;rw[if_pos hb,if_pos hb,Z1w h0];rfl;have e1:(V0r v).m=v.m:=X1v v;have e2:(V0r v).e=v.e:=X1w v;have e3:(V0r v).neg= !v.neg:=(by unfold V0r;rw[if_neg h0]);unfold Z0z;rw[e1,e2,e3];split;rw[H0m];grind;rw[z0n,z0n];have ec:(if v.m % 2^(Q0j v.m-p)≠0/\false≠ !v.neg then 1 else 0)=(if v.m % 2^(Q0j v.m-p)≠0/\true≠v.neg then 1 else 0):=by cases v.neg<;>simp
 rw[ec];generalize v.m/2^(Q0j v.m-p)+(if v.m % 2^(Q0j v.m-p)≠0/\true≠v.neg then 1 else 0)=M;rw[<-z1a];congr 1;cases v.neg<;>simp
theorem Z3u {lo hi:Vl}(h1:canV lo)(h2:canV hi)(h:(U0j lo hi).2=0):qN (U0j lo hi).1.lo=qV lo/\qN (U0j lo hi).1.hi=qV hi:=by unfold U0j at h⊢;split;rename_i hh;exact⟨(K0z h1 hh.1).2,(K0z h2 hh.2).2⟩;rename_i hh;rw[if_neg hh] at h;cases h
def sumK (ks:List Int)(i:Nat):Nat:=(ks.take i).sum.toNat
def j1k (m:Mn)(j:Nat)(X:Nat->Rat)(i:Nat):Rat:=((m.ks.getD j 0:Int):Rat)*J2n ⟨m.c,decK m.ks j⟩ X i
def sumR (f:Nat->Rat):Nat->Rat
 | 0=>0
 | i+1=>sumR f i+f i
theorem U0o {f g:Nat->Rat} : ∀ {n:Nat},(∀j,j<n->f j=g j)->sumR f n=sumR g n
 | 0,_=>rfl
 | n+1,h=>by rw[sumR,sumR,U0o (fun j hj=>h j (by omega)),h n (by omega)]
theorem x2u (ks:List Int)(j i:Nat)(hj:j<ks.length):(decK ks j).getD i 0=if j=i then ks.getD i 0-1 else ks.getD i 0:=by unfold decK;by_cases h:j=i;subst h;rw[if_pos rfl,Q0m _ _ _ _ hj];rw[if_neg h,Q0i _ _ _ _ _ h]
def W2b (p:List Mn)(j:Nat)(X:Nat->Rat)(n:Nat):Nat->Rat
 | 0=>0
 | i+1=>W2b p j X n i+j1k (p.getD i default) j X n
def v1p (ks:List Int)(X:Nat->Rat):Nat->Rat
 | 0=>1
 | i+1=>v1p ks X i*powQ (X i) (ks.getD i 0).toNat
theorem y0s (m:Mn)(X:Nat->Rat): ∀i,J2n m X i=qN m.c*v1p m.ks X i
 | 0=>by show qN m.c=qN m.c*1;rw[Rat.mul_one]
 | i+1=>by rw[J2n,y0s m X i,v1p,Rat.mul_assoc]
def sumT (X:Nat->Rat)(n:Nat):List Tm->Rat
 | []=>0
 | t::r=>qV t.v*v1p t.ks X n+sumT X n r
def valS (X:Nat->Rat)(n:Nat):List Mn->Rat
 | []=>0
 | m::r=>J2n m X n+valS X n r
def Q1t (k:Nat)(X:Nat->Rat)(n:Nat):List Mn->Rat
 | []=>0
 | m::r=>j1k m k X n+Q1t k X n r
theorem Q2i (X:Nat->Rat)(n:Nat): ∀(p q:List Mn),valS X n (p++q)=valS X n p+valS X n q
 | [],q=>by rw[List.nil_append,valS];grind
 | m::r,q=>by rw[List.cons_append,valS,valS,Q2i X n r q];grind
theorem j1i (k:Nat)(X:Nat->Rat)(n:Nat): ∀(p q:List Mn),Q1t k X n (p++q)=Q1t k X n p+Q1t k X n q
 | [],q=>by rw[List.nil_append,Q1t];grind
 | m::r,q=>by rw[List.cons_append,Q1t,Q1t,j1i k X n r q];grind
theorem W1q (a:List Mn)(i:Nat)(h:i<a.length):a.take (i+1)=a.take i++ [a.getD i default]:=by rw[List.take_add_one,List.getElem?_eq_getElem h];simp[q_a,h]
theorem H1v (p:List Mn)(X:Nat->Rat)(n:Nat): ∀i,i<=p.length->valQ p X n i=valS X n (p.take i)
 | 0,_=>rfl
 | i+1,h=>by rw[W1q p i h,Q2i,valQ,H1v p X n i (by omega),valS,valS];grind
theorem j3c (p:List Mn)(X:Nat->Rat)(n:Nat):valQ p X n p.length=valS X n p:=by rw[H1v p X n _ (Nat.le_refl _),List.take_length]
theorem Y1y (p:List Mn)(k:Nat)(X:Nat->Rat)(n:Nat): ∀i,i<=p.length->W2b p k X n i=Q1t k X n (p.take i)
 | 0,_=>rfl
 | i+1,h=>by rw[W1q p i h,j1i,W2b,Y1y p k X n i (by omega),Q1t,Q1t];grind
theorem H3j (p:List Mn)(k:Nat)(X:Nat->Rat)(n:Nat):W2b p k X n p.length=Q1t k X n p:=by rw[Y1y p k X n _ (Nat.le_refl _),List.take_length]
theorem Y3g {v:Vl}(h:K0t v=0):qV v=0:=Z1w (y0u h)
theorem H1u {n L U:Nat}{D:Int}(hb:L+U+1<=4096)(X:Nat->Rat)(N:Nat): ∀(ts:List Tm),(∀t∈ts,okT n L U D t)->valS X N ((ts.filter (fun t=>decide (K0t t.v≠0))).map monT)=sumT X N ts
 | [],_=>rfl
 | t::r,h=>by have ih:=H1u hb X N r fun x hx=>h x (by simp[hx]);obtain⟨a1,a2,a3,a4,a5⟩:=h t (by simp);by_cases c:K0t t.v=0;rw[List.filter_cons_of_neg (by simp[c]),ih,sumT,Y3g c,Rat.zero_mul,Rat.zero_add];rw[List.filter_cons_of_pos (by simp[c]),List.map_cons,valS,ih,sumT,y0s];show qN (numV t.v).1*v1p t.ks X N+_=_;rw[(K0z a4 (w0r a4 a5 hb)).2]
theorem X1y {k:Nat}(X:Nat->Rat)(N:Nat): ∀(p:List Mn),(∀m∈p,0<=m.ks.getD k 0)->sumT X N (X0h k p)=Q1t k X N p
 | [],_=>rfl
 | m::r,h=>by
  have ih:=X1y (k:=k) X N r fun x hx=>h x (by simp[hx]);have h0:=h m (by simp);rw[X0h,Q1t];by_cases c:m.ks.getD k 0=0;rw[if_pos c,ih];have:j1k m k X N=0:=by unfold j1k;rw[c,Rat.intCast_zero,Rat.zero_mul]
  rw[this,Rat.zero_add]
  . rw[if_neg c,sumT,ih];congr 1;show qV (byV (ofN m.c) (oddV false (m.ks.getD k 0).toNat 0))*v1p (decK m.ks k) X N=_;rw[x0e,K0n,j0j];unfold j1k;rw[y0s];show _=_*(qN m.c*v1p (decK m.ks k) X N);have hc:(((m.ks.getD k 0).toNat:Nat):Rat)=((m.ks.getD k 0:Int):Rat):=by
     have:(((m.ks.getD k 0).toNat:Int))=m.ks.getD k 0:=Int.toNat_of_nonneg h0
     conv=>rhs;rw[<-this]
     rfl
    rw[hc];grind
theorem Y2t {ks:List Int}{k:Nat}(hk:k<ks.length):(decK ks k).sum=ks.sum-1:=by
 unfold decK
 induction ks generalizing k with
 | nil=>simp at hk
 | cons x r ih=>
  cases k with
  | zero=>simp;omega
  | succ k=>
   have:=ih (k:=k) (by simpa using hk);simp only[List.set_cons_succ,List.sum_cons,List.getD_cons_succ,this];omega
theorem W1x {ks:List Int}{k:Nat}(h:J0w ks=true)(hk:k<ks.length)(hne:ks.getD k 0≠0):J0w (decK ks k)=true:=by obtain⟨h1,h2⟩:=(J0f ks).1 h;refine(J0f _).2 ⟨fun j hj=> ?_,by rw[Y2t hk];omega⟩;rw[V0l] at hj;rw[x2u _ _ _ hk];have:=h1 j hj;split;rename_i e;subst e;have:=h1 k hk;omega;exact this
theorem q2c {k:Nat}(hk:k<=8):luQ 0 3 (k:Rat):=by
 have:=q2d (z:=(k:Int)) (n:=3) (by simp;omega) 0;have e:qM (k:Int) 0=(k:Rat):=by unfold qM;rw[J1y,Rat.mul_one];rfl
 rw[e] at this;exact this
theorem j1j {n M k:Nat}{L U:Nat}{D:Int}(hk:k<n): ∀ {p:List Mn},(∀m∈p,okMn n L U D m)-> ∀t∈X0h k p,okT n L (U+3) D t
 | [],_,t,ht=>by cases ht
 | m::r,h,t,ht=>by obtain⟨a1,a2,a3,a4,a5,a6⟩:=h m (by simp);have ih:=j1j (M:=M) hk (p:=r) fun x hx=>h x (by simp[hx]);rw[X0h] at ht;split at ht;exact ih t ht;rename_i hne;rcases List.mem_cons.1 ht with rfl | ht;have hat:=X0n a2 k (by omega);refine⟨by rw[V0l];exact a1,W1x a2 (by omega) hne,by show(decK m.ks k).sum<=D;rw[Y2t (by omega)];omega,Z1a (W0u a4) (U0l _ _ _),?_⟩;show luQ L (U+3) (qV (byV (ofN m.c) (oddV false (m.ks.getD k 0).toNat 0)));rw[x0e,K0n,j0j];exact x0j a6 (q2c (by omega));exact ih t ht
theorem X3h {n L U:Nat}{D:Int}{p:List Mn}{k:Nat}(hn1:1<=n)(hn4:n<=4)(hr:X0a p n=true)(hp: ∀m∈p,okMn n L U D m)(hk:k<n)(hb:L+U+4<=4096):
 (W0z p k n).2=0/\X0a (W0z p k n).1 n=true/\(W0z p k n).1.length<=p.length/\(∀m∈(W0z p k n).1,okMn n L (U+3) D m)/\ ∀X,valQ (W0z p k n).1 X n (W0z p k n).1.length=W2b p k X n p.length:=by
 have hl:=((Z0v p n).1 hr).1.2.2;have hat: ∀m∈p,Q0q m.c=true/\m.c.w.length≠0/\0<=m.ks.getD k 0/\m.ks.getD k 0<=8:=fun m hm=>by obtain⟨a1,a2,a3,a4,a5,a6⟩:=hp m hm;have:=X0n a2 k (by omega);exact⟨a4,a5,this.1,this.2⟩
 have hok:=j1j (M:=0) hk hp;have e:W0z p k n=(((X0h k p).filter (fun t=>decide (K0t t.v≠0))).map monT,0):=by unfold W0z;rw[if_pos ⟨hr,by omega,by omega⟩];show G0o (k:Int).toNat p []=_;rw[Int.toNat_natCast,<-Q1o p [] hat,G1t (by omega) _ _ hok,List.nil_append]
 have hfl:((X0h k p).filter (fun t=>decide (K0t t.v≠0))).length<=p.length:=Nat.le_trans (List.length_filter_le _ _) (z0g k p);have hm: ∀m∈((X0h k p).filter (fun t=>decide (K0t t.v≠0))).map monT,okMn n L (U+3) D m:=fun m hm=>by obtain⟨t,ht,rfl⟩:=List.mem_map.1 hm;obtain⟨t1,t2⟩:=List.mem_filter.1 ht;exact H2s (by omega) (hok t t1) (q_b t2)
 have hff:Y0w ((((X0h k p).filter (fun t=>decide (K0t t.v≠0))).map monT).map Mn.ks):=by
  rw[List.map_map];have h1:=x0q (i:=k) (x0a hr);have:Y0w (((X0h k p).filter (fun t=>decide (K0t t.v≠0))).map Tm.ks):=by unfold Y0w at h1⊢;rw[List.pairwise_map] at h1⊢;exact h1.filter _
  exact this
 rw[e];refine⟨rfl,q1n hn1 hn4 (by rw[List.length_map];omega) hm hff,by rw[List.length_map];exact hfl,hm,fun X=> ?_⟩;rw[j3c,H3j,H1u (by omega) X n _ hok,X1y X n p fun m hm=>(hat m hm).2.2.1]
end Go.Pv
end
