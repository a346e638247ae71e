/- Parts of the walk: M43, M44, M45, N49, N50, N51, N52, N53, N54, N55, N56, N57, M46, N58, N59. -/
import Derived.Test.YtldalepagmhnmaaGreatDoorZBD
import Derived.Test.YtldalepagmhnmaaGreatDoorZAR
set_option linter.unusedVariables false
set_option linter.unusedSimpArgs false
section
namespace Go.Pv
def powV (v:Vl):Nat->Vl
 | 0=>oddV false 1 0
 | k+1=>byV (powV v k) v
def powQ (q:Rat):Nat->Rat
 | 0=>1
 | k+1=>powQ q k*q
def Y4s (a:Ivl)(k:Nat):Vl:=
 if 0<k/\k % 2=0/\hasI a default=true then⟨false,0,0⟩ else if q0a (powV (ofN a.lo) k) (powV (ofN a.hi) k)>0 then powV (ofN a.hi) k else powV (ofN a.lo) k
def Y4t (a:Ivl)(k:Nat):Vl:=if q0a (powV (ofN a.lo) k) (powV (ofN a.hi) k)>0 then powV (ofN a.lo) k else powV (ofN a.hi) k
def powI (a:Ivl)(k p:Int):Ivl×Int:=
 if Q0o a=true/\0<=k/\k<=8/\Z0m p=true then U0a (Z0w (Y4s a k.toNat) p.toNat false) (Z0w (Y4t a k.toNat) p.toNat true) else(default,1)
theorem Y3u (x:Nm):sgnN x<0<->qN x<0:=by rw[k0k,U2t,<-K0f x.exp];exact qM_lt.symm
theorem v1j (x:Nm):0<sgnN x<->0<qN x:=by
 have h1:sgnN x<=0<->qN x<=0:=by rw[k0k,U2u,<-K0f x.exp];exact qM_le.symm
 rw[<-Rat.not_le,<-h1];omega
def z0j (m:Mn)(x:Nat->Rat):Nat->Rat
 | 0=>qN m.c
 | i+1=>z0j m x i*powQ (x i) (m.ks.getD i 0).toNat
def valQ (p:List Mn)(x:Nat->Rat)(n:Nat):Nat->Rat
 | 0=>0
 | i+1=>valQ p x n i+z0j (p.getD i default) x n
def w1d (m:Mn)(b:List Ivl)(p:Int):Nat->Ivl×Int
 | 0=>(⟨m.c,m.c⟩,0)
 | i+1=>if (w1d m b p i).2≠0 then(default,(w1d m b p i).2) else if m.ks.getD i 0=0 then w1d m b p i
  else if (powI (b.getD i default) (m.ks.getD i 0) p).2≠0 then(default,(powI (b.getD i default) (m.ks.getD i 0) p).2)
  else opI 2 (w1d m b p i).1 (powI (b.getD i default) (m.ks.getD i 0) p).1 p
def k0b (q:List Mn)(b:List Ivl)(p:Int):Nat->Ivl×Int
 | 0=>(default,0)
 | i+1=>if (k0b q b p i).2≠0 then(default,(k0b q b p i).2) else if (w1d (q.getD i default) b p b.length).2≠0 then(default,(w1d (q.getD i default) b p b.length).2)
  else opI 0 (k0b q b p i).1 (w1d (q.getD i default) b p b.length).1 p
def Z2f (q:List Mn)(b:List Ivl)(p:Int):Ivl×Int:=if X0v q b.length=true/\b.all Q0o=true/\Z0m p=true then k0b q b p q.length else(default,1)
theorem G1h (k:Nat)(a b:Ivl)(p:Int)(h:(opI k a b p).2≠0):(opI k a b p).1=default:=by unfold opI at h⊢;split;rename_i c;rw[if_pos c] at h;unfold U0a at h⊢;split;rename_i d;rw[if_pos d] at h;exact absurd rfl h;rfl;rfl
theorem y2o (l:List Int)(t:Tag):NoG (.sl t (encZ l)):=by refine .sl _ _ fun i j hi hj=> ?_;rw[K0m] at hi;rw[K0n l i hi] at hj⊢;have:j=0:=(by simp[PV.cells] at hj;omega);subst this;exact .sc _
theorem U3u (off:Nat)(T:List Int)(k:Nat)(h:k<T.length):(List.replicate off PV.junk++encZ T).getD (off+k) .junk= .sc (.int .i64 (T.getD k 0)):=by rw[q_a,List.getElem?_append_right (by simp),List.length_replicate,Nat.add_sub_cancel_left,<-q_a];exact K0n T k h
theorem H2q (off:Nat)(T:List Int)(k:Nat)(c:Int)(h:k<T.length):over (List.replicate off PV.junk++encZ T) (off+k) [.sc (.int .i64 c)]=List.replicate off PV.junk++encZ (T.set k c):=by unfold over;have e:encZ (T.set k c)=(encZ T).set k (.sc (.int .i64 c)):=(by unfold encZ;rw[List.map_set]);rw[e,show List.replicate off PV.junk++(encZ T).set k (.sc (.int .i64 c))=(List.replicate off PV.junk++encZ T).set (off+k) (.sc (.int .i64 c)) from by rw[List.set_append_right _ _ (by simp),List.length_replicate,Nat.add_sub_cancel_left]];rw[List.set_eq_take_append_cons_drop,if_pos (by simp[encZ];omega)];simp
theorem U3v (off:Nat)(T:List Int):((List.replicate off PV.junk++encZ T).drop off).take T.length=encZ T:=by rw[List.drop_append_of_le_length (by simp),List.drop_eq_nil_of_le (by simp),List.nil_append,List.take_of_length_le (by rw[K0m];exact Nat.le_refl _)]
def intN (n:Nat):Nm:=(mkX false [UInt64.ofNat n] 0).1
def decK (ks:List Int)(i:Nat):List Int:=ks.set i (ks.getD i 0-1)
def G0j (i:Nat):List Mn->List Mn->List Mn×Int
 | [],acc=>(acc,0)
 | m::r,acc=>if m.ks.getD i 0=0 then G0j i r acc else if (strN 2 m.c (intN (m.ks.getD i 0).toNat)).2≠0 then([],(strN 2 m.c (intN (m.ks.getD i 0).toNat)).2)
  else G0j i r (acc++ [⟨(strN 2 m.c (intN (m.ks.getD i 0).toNat)).1,decK m.ks i⟩])
def G0i (p:List Mn)(i n:Int):List Mn×Int:=if X0v p n=true/\0<=i/\i<n then G0j i.toNat p [] else([],1)
theorem W2l (a:List Mn)(i:Nat)(h:i<a.length):a.drop i=a.getD i default::a.drop (i+1):=by rw[List.drop_eq_getElem_cons h];simp[q_a,h]
theorem W2q {p:List Mn}{i j:Nat}(h:j<p.length)(acc:List Mn):G0j i (p.drop j) acc=if (p.getD j default).ks.getD i 0=0 then G0j i (p.drop (j+1)) acc else if (strN 2 (p.getD j default).c (intN ((p.getD j default).ks.getD i 0).toNat)).2≠0 then([],(strN 2 (p.getD j default).c (intN ((p.getD j default).ks.getD i 0).toNat)).2)
 else G0j i (p.drop (j+1)) (acc++ [⟨(strN 2 (p.getD j default).c (intN ((p.getD j default).ks.getD i 0).toNat)).1,decK (p.getD j default).ks i⟩]):=by
 rw[W2l p j h,G0j]
theorem j2b {p:List Mn}{i:Nat}(acc:List Mn):G0j i (p.drop p.length) acc=(acc,0):=by rw[List.drop_length,G0j]
theorem Q1b : ∀(a b c:List Int),a.length=b.length->b.length=c.length->ordK a b=1->ordK b c=1->ordK a c=1
 | [],_,_,_,_,h,_=>by simp[ordK] at h
 | x::a,[],_,h1,_,_,_=>by simp at h1
 | x::a,y::b,[],_,h2,_,_=>by simp at h2
 | x::a,y::b,z::c,h1,h2,h3,h4=>by rw[ordK] at h3 h4⊢;have ih:=Q1b a b c (by simpa using h1) (by simpa using h2);by_cases c1:x>y;by_cases c2:y>z;rw[if_pos (by omega)];rw[if_neg c2] at h4;by_cases c3:y<z;rw[if_pos c3] at h4;omega;rw[if_pos (by omega)];rw[if_neg c1] at h3;by_cases c2:x<y;rw[if_pos c2] at h3;omega;rw[if_neg c2] at h3;by_cases c3:y>z;rw[if_pos (by omega)];rw[if_neg c3] at h4;by_cases c4:y<z;rw[if_pos c4] at h4;omega;rw[if_neg c4] at h4;rw[if_neg (by omega),if_neg (by omega)];exact ih h3 h4
theorem U1d (x:Int)(a:List Int):decK (x::a) 0=(x-1)::a:=rfl
theorem U1c (x:Int)(a:List Int)(i:Nat):decK (x::a) (i+1)=x::decK a i:=rfl
theorem G1g : ∀(a b:List Int) (i:Nat),ordK (decK a i) (decK b i)=ordK a b
 | [],b,i=>by cases b<;>rfl
 | x::a,[],i=>by cases i<;>rfl
 | x::a,y::b,0=>by rw[U1d,U1d,ordK,ordK];by_cases c1:x>y;rw[if_pos (by omega),if_pos c1];rw[if_neg (by omega),if_neg c1];by_cases c2:x<y;rw[if_pos (by omega),if_pos c2];rw[if_neg (by omega),if_neg c2]
 | x::a,y::b,i+1=>by rw[U1c,U1c,ordK,ordK,G1g a b i]
theorem G0k (ks:List Int)(i:Nat):(decK ks i).length=ks.length:=by unfold decK;rw[List.length_set]
def G0d :List (List Int)->Prop:=List.Pairwise fun a b=>ordK a b=1
theorem Z1c {p:List Mn}{n:Int}(h:X0v p n=true):G0d (p.map Mn.ks):=by
 have hl: ∀i,i<p.length->(((p.getD i default).ks.length:Int)=n):=fun i hi=>(U0o h hi).1;have hs: ∀d i,i+d+1<p.length->ordK (p.getD i default).ks (p.getD (i+d+1) default).ks=1:=by
  intro d
  induction d with
  | zero=>
   intro i hi;have:=((U0s _ _ _).1 (((X0g p n).1 h).2 (i+1) hi)).2.2;rcases this with e | e;omega;exact e
  | succ d ih=>
   intro i hi;have h1:=ih i (by omega);have h2:=((U0s _ _ _).1 (((X0g p n).1 h).2 (i+(d+1)+1) hi)).2.2;have a1:=hl i (by omega);have a2:=hl (i+d+1) (by omega);have a3:=hl (i+(d+1)+1) hi;rcases h2 with e | e;omega;rw[show i+(d+1)+1-1=i+d+1 from by omega] at e;exact Q1b _ _ _ (by omega) (by omega) h1 e
 refine List.pairwise_iff_getElem.2 fun i j hi hj hij=> ?_;simp only[List.length_map] at hi hj;have:=hs (j-i-1) i (by omega);rw[show i+(j-i-1)+1=j from by omega] at this;simpa[q_a,hi,hj] using this
def W0o (i:Nat):List Mn->List Tm
 | []=> []
 | m::r=>if m.ks.getD i 0=0 then W0o i r else⟨byV (ofN m.c) (oddV false (m.ks.getD i 0).toNat 0),decK m.ks i⟩::W0o i r
theorem Q1r {i:Nat}{t:Tm} : ∀ {p:List Mn},t∈W0o i p-> ∃m∈p,t.ks=decK m.ks i
 | [],h=>by cases h
 | m::r,h=>by rw[W0o] at h;split at h;obtain⟨m',h1,h2⟩:=Q1r h;exact⟨m',by simp[h1],h2⟩;rcases List.mem_cons.1 h with rfl | h;exact⟨m,by simp,rfl⟩;obtain⟨m',h1,h2⟩:=Q1r h;exact⟨m',by simp[h1],h2⟩
theorem Z1l {i:Nat} : ∀ {p:List Mn},G0d (p.map Mn.ks)->G0d ((W0o i p).map Tm.ks)
 | [],_=>List.Pairwise.nil
 | m::r,h=>by obtain⟨h1,h2⟩:=List.pairwise_cons.1 h;have ih:=Z1l (i:=i) h2;rw[W0o];split;exact ih;refine List.pairwise_cons.2 ⟨fun k hk=> ?_,ih⟩;obtain⟨t,ht,rfl⟩:=List.mem_map.1 hk;obtain⟨m',hm',e⟩:=Q1r ht;rw[e];show ordK (decK m.ks i) (decK m'.ks i)=1;rw[G1g];exact h1 _ (List.mem_map.2 ⟨m',hm',rfl⟩)
theorem w0s (i:Nat): ∀p:List Mn,(W0o i p).length<=p.length
 | []=>Nat.le_refl _
 | m::r=>by have:=w0s i r;rw[W0o];split<;>simp only[List.length_cons]<;>omega
def H0p :List Tm->List Mn->List Mn×Int
 | [],acc=>(acc,0)
 | t::r,acc=>if K0p t.v=0 then H0p r acc else if (numV t.v).2≠0 then([],2) else H0p r (acc++ [⟨(numV t.v).1,t.ks⟩])
theorem X2f {k:Nat}(hk:k<=8):Q0n (intN k)=true/\ofN (intN k)=oddV false k 0:=by have hr:Q0n (intN k)=true:=X0p (G0p (X1n ⟨false,0,[UInt64.ofNat k]⟩));refine⟨hr,?_⟩;have key: ∀k:Fin 9,ofN (intN k.val)=oddV false k.val 0:=(by decide+kernel);exact key ⟨k,by omega⟩
theorem k3o {x:Nm}(h:Q0n x=true)(hw:x.w.length≠0):qN x≠0:=fun e=>by
 have h1:=Y3u x;have h2:=v1j x;rw[e] at h1 h2;have:sgnN x=0:=by have a1: ¬sgnN x<0:=fun c=>absurd (h1.1 c) (by decide);have a2: ¬0<sgnN x:=fun c=>absurd (h2.1 c) (by decide);omega
 have h3:=(v2y h).1 (by rw[ownN,if_pos h];exact this);exact hw h3
theorem Y1o {i:Nat} : ∀(p:List Mn) (acc:List Mn),(∀m∈p,Q0n m.c=true/\m.c.w.length≠0/\0<=m.ks.getD i 0/\m.ks.getD i 0<=8)->H0p (W0o i p) acc=G0j i p acc
 | [],_,_=>rfl
 | m::r,acc,h=>by
  obtain⟨h1,h2,h3,h4⟩:=h m (by simp);have ih:=fun acc=>Y1o (i:=i) r acc fun m hm=>h m (by simp[hm]);rw[W0o,G0j];by_cases c:m.ks.getD i 0=0;rw[if_pos c,if_pos c];exact ih acc;rw[if_neg c,if_neg c,H0p];obtain⟨i1,i2⟩:=X2f (k:=(m.ks.getD i 0).toNat) (by omega);have hs:strN 2 m.c (intN (m.ks.getD i 0).toNat)=numV (byV (ofN m.c) (oddV false (m.ks.getD i 0).toNat 0)):=by rw[strN,if_pos ⟨h1,i1⟩,i2];rfl
  have hne:K0p (byV (ofN m.c) (oddV false (m.ks.getD i 0).toNat 0))≠0:=fun e=>by have hz:=Z1t (y0n e);rw[z0z,K0i,j0d] at hz;rcases Rat.mul_eq_zero.1 hz with e1 | e1;exact k3o h1 h2 e1;have:(m.ks.getD i 0).toNat≠0:=(by omega);exact this (by exact_mod_cast e1)
  rw[if_neg hne,hs];rcases G1k (byV (ofN m.c) (oddV false (m.ks.getD i 0).toNat 0)) with e | e;rw[if_neg (by rw[e];decide),if_neg (by rw[e];decide)];exact ih _;rw[e,if_pos (by decide),if_pos (by decide)]
set_option maxRecDepth 100000
open Go.Proofs
theorem x1c {x:Nm}(h:Q0n x=true):luQ 65536 69632 (qN x):=by have:=x1d (y1z h);rw[K0i] at this;exact this
def W0w (f:List (List Mn))(b:List Ivl)(p:Int):List Ivl×Int:=if W0c f=true/\b.length=f.length then tabF (fun i=>Z2f (f.getD i []) b p) 0 f.length [] else([],1)
theorem X3x (l:List Int)(st:Q0e)(hl:l.length<=100000000000):PCalls Tryz.prog 219 [.sl .no (encZ l)] st (fun r st'=>r= .sl (.fresh 1) (encZ l)/\st'=st):=by refine Q0b (some 1) Tryz.func219 rfl fun E=>Q0a ?_;simp-dsimp only[go_sem];intro b hb;cases b;simp-dsimp only[go_sem];omega;have:l= []:=(by have:=hb rfl;simpa[encZ] using this);subst this;simp-dsimp only[go_sem]
theorem X3w (l:List Int)(st:Q0e)(hl:l.length<=100000000000)(h0:0<l.length):PCalls Tryz.prog 219 [.sl .no (encZ l)] st (fun r st'=> ∃off,r= .ms true st.length off l.length/\st'=st++ [List.replicate off PV.junk++encZ l]):=by have:=PCalls.owned (P:=Tryz.prog) (f:=219) (args:= [.sl .no (encZ l)]) (es:=encZ l) (by rw[K0m];exact h0) (fun j hj=>⟨_,K0n l j (by rw[K0m] at hj;exact hj)⟩) (fun p hp=>by simp at hp;subst hp;exact y2o l _) (X3x l [] hl) st;rw[K0m] at this;exact this
set_option maxHeartbeats 2000000 in
theorem z1k (p:List Mn)(i n:Int)(st:Q0e)(hp:wP p):PCalls Tryz.prog 151 [.sl .no (Z0p p),.sc (.int .i64 i),.sc (.int .i64 n)] st (fun r st'=>r= .tup [.sl .no (Z0p (G0i p i n).1),.sc (.int .i64 (G0i p i n).2)]/\ ∃e,st'=st++List.replicate e []):=by
 refine Q0b none Tryz.func151 rfl fun E=>Q0a ?_;have bad: ¬(X0v p n=true/\0<=i/\i<n)->G0i p i n=([],1):=fun h=>if_neg h;simp-dsimp only[go_sem];refine(k0o p n _ hp).mono ?_;rintro r st ⟨rfl,rfl⟩;cases r1:X0v p n with
 | false=>
  have hv:=bad (by rintro⟨h,_⟩;rw[r1] at h;cases h);simp-dsimp only[go_sem];rw[hv];exact⟨rfl,0,by simp⟩
 | true=>
  simp-dsimp only[go_sem];refine gkF (fun g1=> ?_) (fun g1=> ?_)
  . have g1':=q_c g1;simp-dsimp only[go_sem,g1];refine ck (fun g2=> ?_) (fun g2=> ?_);have hv:=bad (by rintro⟨_,_,h⟩;have:=q_b g2;omega);simp-dsimp only[go_sem];rw[hv];exact⟨rfl,0,by simp⟩
    . have g2':=q_c g2;obtain⟨k,rfl⟩: ∃k:Nat,i=k:=⟨i.toNat,by omega⟩;have hv:G0i p k n=G0j k p []:=(by rw[G0i,if_pos ⟨r1,by omega,by omega⟩,Int.toNat_natCast]);rw[hv];clear hv bad;have h4:=((X0g _ _).1 r1).1;simp-dsimp only[go_sem];refine Z0j 8 4 ?_;simp-dsimp only[go_sem];refine Q0u [false,true,false,false,false,false,false,false,true,false,false,false,false,false,false,false,false,false,false,false,false,false,false,false,false,false,false,true,true,true] 0 1
       (fun c s=> ∃(j:Nat) (o:List Mn) (e:Nat),c=p.length-j/\j<=p.length/\o.length<=j/\G0j k p []=G0j k (p.drop j) o/\
        s=⟨[.junk,.sc (.int .i64 k),.junk,.junk,.junk,.junk,.junk,.junk,.sl (.own 0) (Z0p o),.junk,.junk,.junk,.junk,.junk,.junk,.junk,.junk,.junk,.junk,.junk,.junk,.junk,.junk,.junk,.junk,.junk,.junk,.sl .no (Z0p p),.sc (.int .i64 p.length),.sc (.int .i64 (j:Nat))]++List.replicate 42 .junk,[],[(o.length,4)],st++List.replicate e []⟩) p.length ?_ ?_
      simp-dsimp only[go_sem];exact⟨0,[],0,by omega,by omega,by simp,by rw[List.drop_zero],by simp[x2n]⟩
      . rintro c s ⟨j,o,e,rfl,hj,ho,hr,rfl⟩;generalize hS:st++List.replicate e []=S;refine Q0g (Q0a ?_);simp-dsimp only[go_sem];refine Q0g (Q0a ?_);simp-dsimp only[go_sem];refine ck (fun h'=> ?_) (fun h'=> ?_)
        . have hlt:j<p.length:=by have:=q_b h';omega
          have e1:=Y0p p j hlt;have e3:=V0g j (by omega);obtain⟨k1,k2,k3⟩:=U0o r1 hlt;rw[W2q hlt] at hr;generalize hm:p.getD j default=m at*
          have hkl:k<m.ks.length:=(by omega);have f1:=K0n m.ks k hkl;have hk:=J0f k2 k hkl;simp-dsimp only[go_sem];refine Q0g (Z0v (Q0g (Q0a ?_)));simp-dsimp only[go_sem,e1];refine⟨by omega,?_⟩;refine Q0g (Q0a ?_);simp-dsimp only[go_sem,f1];refine⟨by omega,?_⟩;refine ck (fun h2=> ?_) (fun h2=> ?_);have h2':=W1f h2;rw[if_pos h2'] at hr;simp-dsimp only[go_sem];refine Q0a ?_;simp-dsimp only[go_sem,e3];exact⟨p.length-(j+1),by omega,j+1,o,e,rfl,by omega,by omega,hr,by rw[<-hS]⟩
          . have h2':=Q2i h2;rw[if_neg h2'] at hr;obtain⟨x,hx⟩: ∃x:Nat,m.ks.getD k 0=x:=⟨(m.ks.getD k 0).toNat,by omega⟩;rw[hx] at f1;rw[hx,Int.toNat_natCast] at hr;have wi:wN (intN x):=v1g (K0b (X0p (G0p (X1n ⟨false,0,[UInt64.ofNat x]⟩))));have wc:wN m.c:=v1g (K0b k3);simp-dsimp only[go_sem];refine H0a [false,true,false,false,false,false,false,false,true,false,true,true,true,false,false,false,false,false,false,false,false,false,false,false,false,false,false,true,true,true] 2 1
             (fun s=>s=⟨[.junk,.sc (.int .i64 k),.junk,.junk,.junk,.junk,.junk,.junk,.sl (.own 0) (Z0p o),.junk,.lp 0 0,.lp 1 0,.sc (.int .i64 (strN 2 m.c (intN x)).2),.junk,.junk,.junk,.junk,.junk,.junk,.junk,.junk,.junk,.junk,.junk,.junk,.junk,.junk,.sl .no (Z0p p),.sc (.int .i64 p.length),.sc (.int .i64 (j:Nat))]++List.replicate 42 .junk,[q0g m,encN (strN 2 m.c (intN x)).1],[(o.length,4)],S⟩) ?_ ?_
            . simp-dsimp only[go_sem];refine Q0p Z0n 72 (.step 0 [] (.step 1 [] (.step 2 [] (.step 3 [] (.step 4 [] (.step 5 [] (.step 6 [] (.alt (.step 7 [1] (.alt (.step 8 [3] (.step 9 [] (.step 10 [] (.step 11 [] (.step 12 [1,3,6] (.step 13 [] (.step 14 [] (.done)))))))) (.step 12 [1,3,6] (.step 8 [3] (.step 9 [] (.step 10 [] (.step 11 [] (.step 13 [] (.step 14 [] (.done)))))))))) (.step 12 [1,3,6] (.step 7 [1] (.step 8 [3] (.step 9 [] (.step 10 [] (.step 11 [] (.step 13 [] (.step 14 [] (.done))))))))))))))))) (by decide+kernel) (by simp) ?_;simp-dsimp only[go_sem,f1];refine⟨by omega,And.intro ?_ ?_⟩
              . refine(w0c x _ (by omega)).mono ?_;rintro r st' ⟨rfl,rfl⟩;simp-dsimp only[go_sem];refine And.intro ?_ ?_
                all_goals
                 refine(Z2v m.c (intN x) _ wc wi).mono ?_;rintro r st' ⟨rfl,rfl⟩;simp-dsimp only[go_sem]
              refine(w0c x _ (by omega)).mono ?_;rintro r st' ⟨rfl,rfl⟩;simp-dsimp only[go_sem];refine(Z2v m.c (intN x) _ wc wi).mono ?_;rintro r st' ⟨rfl,rfl⟩;simp-dsimp only[go_sem]
            . rintro s rfl;refine Q0g (Q0a ?_);simp-dsimp only[go_sem];refine ck (fun h3=> ?_) (fun h3=> ?_);have hne:=z0b h3;rw[if_pos hne] at hr;rw[hr];simp-dsimp only[go_sem];exact⟨e,hS.symm⟩
              . have he:=z0m h3;rw[if_neg (fun hh=>hh he)] at hr;simp-dsimp only[go_sem];generalize (strN 2 m.c (intN x)).1=y at*
                have hml:m.ks.length<=100000000000:=(by omega);refine H0a [false,true,false,false,false,false,false,false,true,false,false,false,false,true,false,false,false,false,false,false,false,false,false,false,false,false,false,true,true,true] 3 1
                 (fun s=> ∃off,s=⟨[.junk,.sc (.int .i64 k),.junk,.junk,.junk,.junk,.junk,.junk,.sl (.own 0) (Z0p o),.junk,.junk,.junk,.junk,.lp 2 0,.junk,.junk,.junk,.junk,.junk,.junk,.junk,.junk,.junk,.junk,.junk,.junk,.junk,.sl .no (Z0p p),.sc (.int .i64 p.length),.sc (.int .i64 (j:Nat))]++List.replicate 42 .junk,[q0g m,encN y,[.sc (.bool y.neg),.sc (.int .i64 y.exp),.sl .no (encW y.w),.ms true S.length off m.ks.length]],[(o.length,4)],S++ [List.replicate off PV.junk++encZ m.ks]⟩) ?_ ?_
                . simp-dsimp only[go_sem];refine Q0p Z0n 72 (.step 0 [] (.step 1 [] (.step 2 [] (.alt (.step 3 [0] (.step 4 [] (.step 5 [0,2] (.step 6 [] (.done))))) (.step 5 [0,2] (.step 3 [0] (.step 4 [] (.step 6 [] (.done))))))))) (by decide+kernel) (by simp) ?_;simp-dsimp only[go_sem];refine And.intro ?_ ?_
                  all_goals
                   refine(X3w m.ks _ hml (by omega)).mono ?_;rintro r st' ⟨off,rfl,rfl⟩;simp-dsimp only[go_sem];exact⟨off,rfl⟩
                rintro s ⟨off,rfl⟩;have gst:(S++ [List.replicate off PV.junk++encZ m.ks]).getD S.length []=List.replicate off PV.junk++encZ m.ks:=(by simp[q_a]);have g2:=U3u off m.ks k hkl;rw[hx] at g2;have x6:IntKind.i64.wrap ((x:Int)-1)=(x:Int)-1:=Q0j _ (by omega) (by omega);have o1:=H2q off m.ks k ((x:Int)-1) hkl;have sst:(S++ [List.replicate off PV.junk++encZ m.ks]).set S.length (List.replicate off PV.junk++encZ (m.ks.set k ((x:Int)-1)))=S++ [List.replicate off PV.junk++encZ (decK m.ks k)]:=by rw[List.set_append_right _ _ (Nat.le_refl _),decK,hx];simp
                have r0:(List.replicate off PV.junk).length=off:=List.length_replicate;refine Q0g (Q0a ?_);simp-dsimp only[go_sem,gst,g2,x6,o1,sst];rw[r0];refine⟨by omega,by omega,by omega,by omega,?_⟩;have hdl:(decK m.ks k).length=m.ks.length:=(by unfold decK;rw[List.length_set]);have gst2:(S++ [List.replicate off PV.junk++encZ (decK m.ks k)]).getD S.length []=List.replicate off PV.junk++encZ (decK m.ks k):=(by simp[q_a]);have sst2:(S++ [List.replicate off PV.junk++encZ (decK m.ks k)]).set S.length []=S++ [[]]:=by rw[List.set_append_right _ _ (Nat.le_refl _)];simp
                have hcut:=U3v off (decK m.ks k);rw[hdl] at hcut;have hms:PV.frzG S.length (List.replicate off PV.junk++encZ (decK m.ks k)) (.ms true S.length off m.ks.length)= .sl .no (encZ (decK m.ks k)):=(by rw[G3z (by rw[List.length_append,K0m,hdl,r0];exact Nat.le_refl _),hcut]);refine v1r S.length (by simp) ?_ ?_ ?_;intro q hq;have hq':q∈List.replicate off PV.junk++encZ (decK m.ks k):=(by rw[<-gst2];exact hq);rcases List.mem_append.1 hq' with hq' | hq';rw[List.eq_of_mem_replicate hq'];rfl;simp[encZ] at hq';obtain⟨c,_,rfl⟩:=hq';rfl;intro e0;have h2:(List.replicate off PV.junk++encZ (decK m.ks k)).length=0:=by have e':(S++ [List.replicate off PV.junk++encZ (decK m.ks k)]).getD S.length []= []:=e0;rw[gst2] at e';rw[e'];rfl
                rw[List.length_append,K0m,hdl] at h2;omega;simp-dsimp only[go_sem,gst2,sst2,hms];refine Q0a ?_;simp-dsimp only[go_sem];refine⟨⟨by omega,by omega⟩,Q0a ?_⟩;simp-dsimp only[go_sem,e3];refine⟨p.length-(j+1),by omega,j+1,o++ [⟨y,decK m.ks k⟩],e+1,rfl,by omega,by simp;omega,hr,?_⟩;have hS2:S++ [[]]=st++List.replicate (e+1) []:=(by rw[<-hS,List.append_assoc,<-List.replicate_succ']);rw[hS2];simp[Z0p,q0g]
        have hge:j=p.length:=by have:=q_c h';omega
        subst hge;rw[j2b] at hr;rw[hr];simp-dsimp only[go_sem];refine J0q [false,false,false,false,false,false,false,false,true] (Q0a ?_);simp-dsimp only[go_sem];exact⟨e,hS.symm⟩
  have hv:=bad (by rintro⟨_,h,_⟩;have:=q_b g1;omega);simp-dsimp only[go_sem,g1];rw[hv];exact⟨rfl,0,by simp⟩
theorem V2k (n:Nat)(m:Mn): ∀j,j<(q0g m).length->Bnd n ((q0g m).getD j .junk):=fun j hj=>by
 have hj':j<4:=hj;have hw:Bnd n (.sl .no (encW m.c.w)):= .sl _ _ 1 (fun i hi=>by rw[X0i] at hi;rw[Z0e _ i hi];rfl) fun i j hi hj=>by rw[X0i] at hi;rw[Z0e _ i hi];have:j=0:=(by omega);subst this;exact .sc _
 have hz:Bnd n (.sl .no (encZ m.ks)):= .sl _ _ 1 (fun i hi=>by rw[K0m] at hi;rw[K0n _ i hi];rfl) fun i j hi hj=>by rw[K0m] at hi;rw[K0n _ i hi];have:j=0:=(by omega);subst this;exact .sc _
 match j,hj' with
 | 0,_=>exact .sc _
 | 1,_=>exact .sc _
 | 2,_=>exact hw
 | 3,_=>exact hz
theorem j2y (n:Nat)(p:List Mn)(t:Tag):Bnd n (.sl t (Z0p p)):= .sl _ _ 4 (y1d p) fun i j hi hj=>by rw[Z1j] at hi;rw[Y0p p i hi];exact V2k n _ j hj
theorem J3g {n:Nat}{a b:PV}(ha:Bnd n a)(hb:Bnd n b):Bnd n (.tup [a,b]):= .tup _ fun j hj=>by
 have hj':j<2:=hj
 match j,hj' with
 | 0,_=>exact ha
 | 1,_=>exact hb
theorem V2c (p:List Mn)(i n:Int)(st:Q0e)(hp:wP p):PCalls Tryz.prog 151 [.sl .no (Z0p p),.sc (.int .i64 i),.sc (.int .i64 n)] st (fun r st'=>r= .tup [.sl .no (Z0p (G0i p i n).1),.sc (.int .i64 (G0i p i n).2)]/\st'=st):=by refine PCalls.drop ((z1k p i n st hp).mono ?_);rintro r st' ⟨rfl,e,rfl⟩;exact⟨J3g (j2y _ _ _) (.sc _),_,rfl,rfl,rfl⟩
def jacG (f:List (List Mn))(i j:Nat):List Mn×Int:=G0i (f.getD i []) (j:Nat) f.length
def jacF (f:List (List Mn)):List (List (List Mn))×Int:=if W0c f=true then tabF (fun i=>tabF (fun j=>jacG f i j) 0 f.length []) 0 f.length [] else([],1)
set_option maxHeartbeats 2000000 in
theorem W2e (f:List (List Mn))(st:Q0e)(hf:wF f):PCalls Tryz.prog 72 [.sl .no (Z0z f)] st (fun r st'=>r= .tup [.sl .no (V0h (jacF f).1),.sc (.int .i64 (jacF f).2)]/\st'=st):=by
 have hfl:=hf.1;refine Q0b none Tryz.func72 rfl fun E=>Q0a ?_;simp-dsimp only[go_sem];refine(Z1h f _ hf).mono ?_;rintro r st ⟨rfl,rfl⟩;cases r1:W0c f with
 | false=>
  have hv:jacF f=([],1):=(by rw[jacF,if_neg (by rw[r1];decide)]);simp-dsimp only[go_sem];rw[hv];rfl
 | true=>
  have h4:=((W0v f).1 r1).1;have hv:jacF f=tabF (fun i=>tabF (fun j=>jacG f i j) 0 f.length []) 0 f.length []:=(by rw[jacF,if_pos r1]);rw[hv];clear hv;generalize hT:tabF (fun i=>tabF (fun j=>jacG f i j) 0 f.length []) 0 f.length []=T;simp-dsimp only[go_sem];refine Z0j 5 1 ?_;simp-dsimp only[go_sem];refine Q0d [true,false,false,false,true,true,false,false,false,false,false,false,false,false,false,true,true] 0 1
   (fun k s=> ∃(i:Nat) (o:List (List (List Mn))),k=f.length-i/\i<=f.length/\o.length=i/\T=tabF (fun i=>tabF (fun j=>jacG f i j) 0 f.length []) i (f.length-i) o/\
    s=⟨[.sl .no (Z0z f),.junk,.junk,.junk,.sc (.int .i64 0),.sl (.own 0) (V0h o),.junk,.junk,.junk,.junk,.junk,.junk,.junk,.junk,.junk,.sc (.int .i64 f.length),.sc (.int .i64 (i:Nat))]++List.replicate 35 .junk,[],[(o.length,1)],st⟩) f.length ?_ ?_
  simp-dsimp only[go_sem];exact⟨0,[],by omega,by omega,rfl,hT.symm,rfl⟩;rintro k s ⟨i,o,rfl,hi,ho,hr,rfl⟩;simp-dsimp only[go_sem];refine ck (fun h'=> ?_) (fun h'=> ?_);have hlt:i<f.length:=(by have:=q_b h';omega);have e1:=x0l f i hlt;have e3:=V0g i (by omega);have e4:=W0h (fun i=>tabF (fun j=>jacG f i j) 0 f.length []) hlt o;simp-dsimp only[go_sem];refine Z0j 7 1 ?_;simp-dsimp only[go_sem];refine Q0d [true,false,false,false,true,true,true,true,false,false,false,false,false,false,false,true,true,false,false,false,true,true] 0 2
   (fun k s=> ∃(j:Nat) (r:List (List Mn)),k=f.length-j/\j<=f.length/\r.length=j/\tabF (fun j=>jacG f i j) 0 f.length []=tabF (fun j=>jacG f i j) j (f.length-j) r/\
    s=⟨[.sl .no (Z0z f),.junk,.junk,.junk,.sc (.int .i64 0),.sl (.own 0) (V0h o),.sc (.int .i64 (i:Nat)),.sl (.own 1) (Z0z r),.junk,.junk,.junk,.junk,.junk,.junk,.junk,.sc (.int .i64 f.length),.sc (.int .i64 (i:Nat)),.junk,.junk,.junk,.sc (.int .i64 f.length),.sc (.int .i64 (j:Nat))]++List.replicate 30 .junk,[],[(o.length,1),(r.length,1)],st⟩) f.length ?_ ?_
  simp-dsimp only[go_sem];exact⟨0,[],by omega,by omega,rfl,rfl,rfl⟩;rintro k s ⟨j,r,rfl,hj,hrl,hrr,rfl⟩;simp-dsimp only[go_sem];refine ck (fun h''=> ?_) (fun h''=> ?_);have hlt2:j<f.length:=(by have:=q_b h'';omega);have f3:=V0g j (by omega);have f4:=W0h (fun j=>jacG f i j) hlt2 r;simp-dsimp only[go_sem,e1];refine⟨by omega,?_⟩;refine(V2c (f.getD i []) j f.length _ (hf.2 i hlt)).mono ?_;rintro rr st ⟨rfl,rfl⟩;simp-dsimp only[go_sem];refine ck (fun h5=> ?_) (fun h5=> ?_);have hne:(jacG f i j).2≠0:=z0b h5;have q1:tabF (fun j=>jacG f i j) 0 f.length []=([],(jacG f i j).2):=(by rw[hrr,f4,if_pos hne]);have hTT:T=([],(jacG f i j).2):=(by rw[hr,e4,if_pos (by rw[q1];exact hne),q1]);subst hTT;simp-dsimp only[go_sem];refine Q0a ?_;simp-dsimp only[go_sem,h5]
  try rfl
  have he:(jacG f i j).2=0:=z0m h5;simp-dsimp only[go_sem,f3];refine⟨⟨by omega,by omega⟩,f.length-(j+1),by omega,j+1,r++ [(jacG f i j).1],rfl,by omega,by simp[hrl],?_,?_⟩;rw[hrr,f4,if_neg (fun hh=>hh he)];simp[Z0z,jacG];have hge:j=f.length:=(by have:=q_c h'';omega);have q1:tabF (fun j=>jacG f i j) 0 f.length []=(r,0):=(by rw[hrr,hge];exact Y0x _ f.length r);simp-dsimp only[go_sem];refine Q0a ?_;simp-dsimp only[go_sem];refine⟨⟨by omega,by omega⟩,Q0a ?_⟩;simp-dsimp only[go_sem,e3];refine⟨f.length-(i+1),by omega,i+1,o++ [r],rfl,by omega,by simp[ho],?_,?_⟩;rw[hr,e4,q1,if_neg (by simp)];simp;have hge:i=f.length:=(by have:=q_c h';omega);have z0:((0:Int) !=0)=false:=rfl;simp-dsimp only[go_sem];refine Q0a ?_;simp-dsimp only[go_sem,z0];rw[hr,hge,Y0x]
theorem Y1y (a:List Tm)(i:Nat)(h:i<a.length):a.drop i=a.getD i default::a.drop (i+1):=by rw[List.drop_eq_getElem_cons h];simp[q_a,h]
theorem J2y (a:List Tm)(i:Nat)(h:i<a.length):a.take (i+1)=a.take i++ [a.getD i default]:=by rw[List.take_add_one,List.getElem?_eq_getElem h];simp[q_a,h]
theorem j3i {p:List Mn} :wP p<->p.length<=100000000000/\ ∀m∈p,wMn m:=by unfold wP;constructor;rintro⟨h1,h2⟩;refine⟨h1,fun m hm=> ?_⟩;obtain⟨i,hi,e⟩:=List.mem_iff_getElem.1 hm;have:=h2 i hi;rwa [show p.getD i default=m by simp[q_a,hi,e]] at this;rintro⟨h1,h2⟩;refine⟨h1,fun i hi=> ?_⟩;rw[show p.getD i default=p[i] by simp[q_a,hi]];exact h2 _ (List.getElem_mem hi)
theorem j3l {f:List (List Mn)} :wF f<->f.length<=100000000000/\ ∀p∈f,wP p:=by unfold wF;constructor;rintro⟨h1,h2⟩;refine⟨h1,fun m hm=> ?_⟩;obtain⟨i,hi,e⟩:=List.mem_iff_getElem.1 hm;have:=h2 i hi;rwa [show f.getD i []=m by simp[q_a,hi,e]] at this;rintro⟨h1,h2⟩;refine⟨h1,fun i hi=> ?_⟩;rw[show f.getD i []=f[i] by simp[q_a,hi]];exact h2 _ (List.getElem_mem hi)
theorem Y3q (k:Nat)(a b:Nm):wN (strN k a b).1:=by unfold strN;split;rename_i h;exact v1g (K0b (X0p (G0p (H1n k (V0j h.1) (V0j h.2)))));exact v1g (K0b (show Q0n default=true by decide))
theorem q3b {ks:List Int}{i:Nat}(hr:K0d ks=true)(hl:ks.length<=100000000000)(hi:i<ks.length):wK (decK ks i):=by refine⟨by rw[G0k];omega,fun z hz=> ?_⟩;rw[G0k] at hz;have h1:=J0f hr z hz;unfold decK;by_cases c:z=i;subst c;rw[show(ks.set z (ks.getD z 0-1)).getD z 0=ks.getD z 0-1 by simp[q_a,hz]];omega;rw[show(ks.set i (ks.getD i 0-1)).getD z 0=ks.getD z 0 by simp[q_a,List.getElem?_set_ne (Ne.symm c)]];omega
theorem H1h {i:Nat} : ∀(p acc:List Mn),(∀m∈p,wK (decK m.ks i))->(∀m∈acc,wMn m)->(G0j i p acc).1.length<=acc.length+p.length/\ ∀m∈(G0j i p acc).1,wMn m
 | [],acc,_,h=>⟨by simp[G0j],h⟩
 | m::r,acc,hp,h=>by rw[G0j];split;obtain⟨a1,a2⟩:=H1h (i:=i) r acc (fun m hm=>hp m (by simp[hm])) h;exact⟨by simp only[List.length_cons];omega,a2⟩;split;exact⟨by simp,fun m hm=>by cases hm⟩;obtain⟨a1,a2⟩:=H1h (i:=i) r (acc++ [⟨(strN 2 m.c (intN (m.ks.getD i 0).toNat)).1,decK m.ks i⟩]) (fun m hm=>hp m (by simp[hm])) (fun q hq=>by rcases List.mem_append.1 hq with hq | hq;exact h q hq;simp at hq;subst hq;exact⟨Y3q _ _ _,hp m (by simp)⟩);exact⟨by simp only[List.length_append,List.length_cons,List.length_nil] at a1;simp only[List.length_cons];omega,a2⟩
theorem X3i (p:List Mn)(i n:Int):wP (G0i p i n).1:=by rw[j3i];unfold G0i;split;rename_i h;obtain⟨h1,h2,h3⟩:=h;have h4:=((X0g _ _).1 h1).1;obtain⟨a1,a2⟩:=H1h (i:=i.toNat) p [] (fun m hm=>by obtain⟨q,hq,e⟩:=List.mem_iff_getElem.1 hm;obtain⟨k1,k2,k3⟩:=U0o h1 hq;rw[show p.getD q default=m by simp[q_a,hq,e]] at k1 k2;exact q3b k2 (by omega) (by omega)) (fun m hm=>by cases hm);exact⟨by have:=a1;rw[List.length_nil] at this;omega,a2⟩;exact⟨by simp,fun m hm=>by cases hm⟩
theorem G3n (f:List (List Mn))(hf:f.length<=100000000000):(jacF f).1.length<=100000000000/\ ∀g∈(jacF f).1,wF g:=by unfold jacF;split;refine⟨?_,?_⟩;have:=x0u (G:=fun i=>tabF (fun j=>jacG f i j) 0 f.length []) f.length 0 [];simp only[List.length_nil] at this;omega;refine G0v wF f.length 0 [] (fun i _ _=> ?_) (fun x hx=>by cases hx);rw[j3l];refine⟨?_,G0v wP f.length 0 [] (fun j _ _=>X3i _ _ _) (fun x hx=>by cases hx)⟩;have:=x0u (G:=fun j=>jacG f i j) f.length 0 [];simp only[List.length_nil] at this;omega;exact⟨by simp,fun g hg=>by cases hg⟩
end Go.Pv
end
