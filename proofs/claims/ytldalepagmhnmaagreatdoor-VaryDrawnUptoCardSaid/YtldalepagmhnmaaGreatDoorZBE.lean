/- Parts of the walk: M43, M44, M45, N49, N50, N51, N52, M47, M48, M49, M50, M51. -/
import Derived.Test.YtldalepagmhnmaaGreatDoorZBD
import Derived.Test.YtldalepagmhnmaaGreatDoorZAR
set_option linter.unusedVariables false
set_option linter.unusedSimpArgs false
section
namespace Go.Pv
def powV (v:Vl):Nat->Vl
 | 0=>oddV false 1 0
 | k+1=>byV (powV v k) v
def X4l (a:Ivl)(k:Nat):Vl:=
 if 0<k/\k % 2=0/\hasI a default=true then⟨false,0,0⟩ else if G0h (powV (ofN a.lo) k) (powV (ofN a.hi) k)>0 then powV (ofN a.hi) k else powV (ofN a.lo) k
def X4m (a:Ivl)(k:Nat):Vl:=if G0h (powV (ofN a.lo) k) (powV (ofN a.hi) k)>0 then powV (ofN a.lo) k else powV (ofN a.hi) k
def powI (a:Ivl)(k p:Int):Ivl×Int:=
 if Q0m a=true/\0<=k/\k<=8/\Z0q p=true then Y0i (Z0e (X4l a k.toNat) p.toNat false) (Z0e (X4m a k.toNat) p.toNat true) else(default,1)
theorem J3t (x:Nm):sgnN x<0<->qN x<0:=by rw[k0o,V2v,<-W0j x.exp];exact qM_lt.symm
theorem j1q (x:Nm):0<sgnN x<->0<qN x:=by
 have h1:sgnN x<=0<->qN x<=0:=by rw[k0o,V2w,<-W0j x.exp];exact qM_le.symm
 rw[<-Rat.not_le,<-h1];omega
def k1i (m:Mn)(b:List Ivl)(p:Int):Nat->Ivl×Int
 | 0=>(⟨m.c,m.c⟩,0)
 | i+1=>if (k1i m b p i).2≠0 then(default,(k1i m b p i).2) else if m.ks.getD i 0=0 then k1i m b p i
  else if (powI (b.getD i default) (m.ks.getD i 0) p).2≠0 then(default,(powI (b.getD i default) (m.ks.getD i 0) p).2)
  else opI 2 (k1i m b p i).1 (powI (b.getD i default) (m.ks.getD i 0) p).1 p
def k0c (q:List Mn)(b:List Ivl)(p:Int):Nat->Ivl×Int
 | 0=>(default,0)
 | i+1=>if (k0c q b p i).2≠0 then(default,(k0c q b p i).2) else if (k1i (q.getD i default) b p b.length).2≠0 then(default,(k1i (q.getD i default) b p b.length).2)
  else opI 0 (k0c q b p i).1 (k1i (q.getD i default) b p b.length).1 p
def w1t (q:List Mn)(b:List Ivl)(p:Int):Ivl×Int:=if Z0z q b.length=true/\b.all Q0m=true/\Z0q p=true then k0c q b p q.length else(default,1)
theorem J1q (k:Nat)(a b:Ivl)(p:Int)(h:(opI k a b p).2≠0):(opI k a b p).1=default:=by unfold opI at h⊢;split;rename_i c;rw[if_pos c] at h;unfold Y0i at h⊢;split;rename_i d;rw[if_pos d] at h;exact absurd rfl h;rfl;rfl
theorem k2s (l:List Int)(t:Tag):NoG (.sl t (encZ l)):=by refine .sl _ _ fun i j hi hj=> ?_;rw[K0v] at hi;rw[K0g l i hi] at hj⊢;have:j=0:=(by simp[PV.cells] at hj;omega);subst this;exact .sc _
theorem K3s (off:Nat)(T:List Int)(k:Nat)(h:k<T.length):(List.replicate off PV.junk++encZ T).getD (off+k) .junk= .sc (.int .i64 (T.getD k 0)):=by rw[q_a,List.getElem?_append_right (by simp),List.length_replicate,Nat.add_sub_cancel_left,<-q_a];exact K0g T k h
theorem Y2s (off:Nat)(T:List Int)(k:Nat)(c:Int)(h:k<T.length):over (List.replicate off PV.junk++encZ T) (off+k) [.sc (.int .i64 c)]=List.replicate off PV.junk++encZ (T.set k c):=by unfold over;have e:encZ (T.set k c)=(encZ T).set k (.sc (.int .i64 c)):=(by unfold encZ;rw[List.map_set]);rw[e,show List.replicate off PV.junk++(encZ T).set k (.sc (.int .i64 c))=(List.replicate off PV.junk++encZ T).set (off+k) (.sc (.int .i64 c)) from by rw[List.set_append_right _ _ (by simp),List.length_replicate,Nat.add_sub_cancel_left]];rw[List.set_eq_take_append_cons_drop,if_pos (by simp[encZ];omega)];simp
theorem K3t (off:Nat)(T:List Int):((List.replicate off PV.junk++encZ T).drop off).take T.length=encZ T:=by rw[List.drop_append_of_le_length (by simp),List.drop_eq_nil_of_le (by simp),List.nil_append,List.take_of_length_le (by rw[K0v];exact Nat.le_refl _)]
def intN (n:Nat):Nm:=(mkX false [UInt64.ofNat n] 0).1
def decK (ks:List Int)(i:Nat):List Int:=ks.set i (ks.getD i 0-1)
def H0a (i:Nat):List Mn->List Mn->List Mn×Int
 | [],acc=>(acc,0)
 | m::r,acc=>if m.ks.getD i 0=0 then H0a i r acc else if (strN 2 m.c (intN (m.ks.getD i 0).toNat)).2≠0 then([],(strN 2 m.c (intN (m.ks.getD i 0).toNat)).2)
  else H0a i r (acc++ [⟨(strN 2 m.c (intN (m.ks.getD i 0).toNat)).1,decK m.ks i⟩])
def z0j (p:List Mn)(i n:Int):List Mn×Int:=if Z0z p n=true/\0<=i/\i<n then H0a i.toNat p [] else([],1)
theorem Y1m (a:List Mn)(i:Nat)(h:i<a.length):a.drop i=a.getD i default::a.drop (i+1):=by rw[List.drop_eq_getElem_cons h];simp[q_a,h]
theorem K2a {p:List Mn}{i j:Nat}(h:j<p.length)(acc:List Mn):H0a i (p.drop j) acc=if (p.getD j default).ks.getD i 0=0 then H0a i (p.drop (j+1)) acc else if (strN 2 (p.getD j default).c (intN ((p.getD j default).ks.getD i 0).toNat)).2≠0 then([],(strN 2 (p.getD j default).c (intN ((p.getD j default).ks.getD i 0).toNat)).2)
 else H0a i (p.drop (j+1)) (acc++ [⟨(strN 2 (p.getD j default).c (intN ((p.getD j default).ks.getD i 0).toNat)).1,decK (p.getD j default).ks i⟩]):=by
 rw[Y1m p j h,H0a]
theorem H2w {p:List Mn}{i:Nat}(acc:List Mn):H0a i (p.drop p.length) acc=(acc,0):=by rw[List.drop_length,H0a]
theorem Q1d : ∀(a b c:List Int),a.length=b.length->b.length=c.length->ordK a b=1->ordK b c=1->ordK a c=1
 | [],_,_,_,_,h,_=>by simp[ordK] at h
 | x::a,[],_,h1,_,_,_=>by simp at h1
 | x::a,y::b,[],_,h2,_,_=>by simp at h2
 | x::a,y::b,z::c,h1,h2,h3,h4=>by rw[ordK] at h3 h4⊢;have ih:=Q1d a b c (by simpa using h1) (by simpa using h2);by_cases c1:x>y;by_cases c2:y>z;rw[if_pos (by omega)];rw[if_neg c2] at h4;by_cases c3:y<z;rw[if_pos c3] at h4;omega;rw[if_pos (by omega)];rw[if_neg c1] at h3;by_cases c2:x<y;rw[if_pos c2] at h3;omega;rw[if_neg c2] at h3;by_cases c3:y>z;rw[if_pos (by omega)];rw[if_neg c3] at h4;by_cases c4:y<z;rw[if_pos c4] at h4;omega;rw[if_neg c4] at h4;rw[if_neg (by omega),if_neg (by omega)];exact ih h3 h4
theorem Y1q (x:Int)(a:List Int):decK (x::a) 0=(x-1)::a:=rfl
theorem Y1p (x:Int)(a:List Int)(i:Nat):decK (x::a) (i+1)=x::decK a i:=rfl
theorem U1z : ∀(a b:List Int) (i:Nat),ordK (decK a i) (decK b i)=ordK a b
 | [],b,i=>by cases b<;>rfl
 | x::a,[],i=>by cases i<;>rfl
 | x::a,y::b,0=>by rw[Y1q,Y1q,ordK,ordK];by_cases c1:x>y;rw[if_pos (by omega),if_pos c1];rw[if_neg (by omega),if_neg c1];by_cases c2:x<y;rw[if_pos (by omega),if_pos c2];rw[if_neg (by omega),if_neg c2]
 | x::a,y::b,i+1=>by rw[Y1p,Y1p,ordK,ordK,U1z a b i]
theorem W0o (ks:List Int)(i:Nat):(decK ks i).length=ks.length:=by unfold decK;rw[List.length_set]
def H0j :List (List Int)->Prop:=List.Pairwise fun a b=>ordK a b=1
theorem Q1w {p:List Mn}{n:Int}(h:Z0z p n=true):H0j (p.map Mn.ks):=by
 have hl: ∀i,i<p.length->(((p.getD i default).ks.length:Int)=n):=fun i hi=>(K0s h hi).1;have hs: ∀d i,i+d+1<p.length->ordK (p.getD i default).ks (p.getD (i+d+1) default).ks=1:=by
  intro d
  induction d with
  | zero=>
   intro i hi;have:=((V0x _ _ _).1 (((X0e p n).1 h).2 (i+1) hi)).2.2;rcases this with e | e;omega;exact e
  | succ d ih=>
   intro i hi;have h1:=ih i (by omega);have h2:=((V0x _ _ _).1 (((X0e p n).1 h).2 (i+(d+1)+1) hi)).2.2;have a1:=hl i (by omega);have a2:=hl (i+d+1) (by omega);have a3:=hl (i+(d+1)+1) hi;rcases h2 with e | e;omega;rw[show i+(d+1)+1-1=i+d+1 from by omega] at e;exact Q1d _ _ _ (by omega) (by omega) h1 e
 refine List.pairwise_iff_getElem.2 fun i j hi hj hij=> ?_;simp only[List.length_map] at hi hj;have:=hs (j-i-1) i (by omega);rw[show i+(j-i-1)+1=j from by omega] at this;simpa[q_a,hi,hj] using this
def J0y (i:Nat):List Mn->List Tm
 | []=> []
 | m::r=>if m.ks.getD i 0=0 then J0y i r else⟨byV (ofN m.c) (oddV false (m.ks.getD i 0).toNat 0),decK m.ks i⟩::J0y i r
theorem Q1m {i:Nat}{t:Tm} : ∀ {p:List Mn},t∈J0y i p-> ∃m∈p,t.ks=decK m.ks i
 | [],h=>by cases h
 | m::r,h=>by rw[J0y] at h;split at h;obtain⟨m',h1,h2⟩:=Q1m h;exact⟨m',by simp[h1],h2⟩;rcases List.mem_cons.1 h with rfl | h;exact⟨m,by simp,rfl⟩;obtain⟨m',h1,h2⟩:=Q1m h;exact⟨m',by simp[h1],h2⟩
theorem Z1e {i:Nat} : ∀ {p:List Mn},H0j (p.map Mn.ks)->H0j ((J0y i p).map Tm.ks)
 | [],_=>List.Pairwise.nil
 | m::r,h=>by obtain⟨h1,h2⟩:=List.pairwise_cons.1 h;have ih:=Z1e (i:=i) h2;rw[J0y];split;exact ih;refine List.pairwise_cons.2 ⟨fun k hk=> ?_,ih⟩;obtain⟨t,ht,rfl⟩:=List.mem_map.1 hk;obtain⟨m',hm',e⟩:=Q1m ht;rw[e];show ordK (decK m.ks i) (decK m'.ks i)=1;rw[U1z];exact h1 _ (List.mem_map.2 ⟨m',hm',rfl⟩)
theorem y0a (i:Nat): ∀p:List Mn,(J0y i p).length<=p.length
 | []=>Nat.le_refl _
 | m::r=>by have:=y0a i r;rw[J0y];split<;>simp only[List.length_cons]<;>omega
def Y0g :List Tm->List Mn->List Mn×Int
 | [],acc=>(acc,0)
 | t::r,acc=>if J0c t.v=0 then Y0g r acc else if (numV t.v).2≠0 then([],2) else Y0g r (acc++ [⟨(numV t.v).1,t.ks⟩])
theorem y1t {k:Nat}(hk:k<=8):Q0r (intN k)=true/\ofN (intN k)=oddV false k 0:=by have hr:Q0r (intN k)=true:=K0a (z0c (X1k ⟨false,0,[UInt64.ofNat k]⟩));refine⟨hr,?_⟩;have key: ∀k:Fin 9,ofN (intN k.val)=oddV false k.val 0:=(by decide+kernel);exact key ⟨k,by omega⟩
theorem H3x {x:Nm}(h:Q0r x=true)(hw:x.w.length≠0):qN x≠0:=fun e=>by
 have h1:=J3t x;have h2:=j1q x;rw[e] at h1 h2;have:sgnN x=0:=by have a1: ¬sgnN x<0:=fun c=>absurd (h1.1 c) (by decide);have a2: ¬0<sgnN x:=fun c=>absurd (h2.1 c) (by decide);omega
 have h3:=(x2w h).1 (by rw[ownN,if_pos h];exact this);exact hw h3
theorem W1z {i:Nat} : ∀(p:List Mn) (acc:List Mn),(∀m∈p,Q0r m.c=true/\m.c.w.length≠0/\0<=m.ks.getD i 0/\m.ks.getD i 0<=8)->Y0g (J0y i p) acc=H0a i p acc
 | [],_,_=>rfl
 | m::r,acc,h=>by
  obtain⟨h1,h2,h3,h4⟩:=h m (by simp);have ih:=fun acc=>W1z (i:=i) r acc fun m hm=>h m (by simp[hm]);rw[J0y,H0a];by_cases c:m.ks.getD i 0=0;rw[if_pos c,if_pos c];exact ih acc;rw[if_neg c,if_neg c,Y0g];obtain⟨i1,i2⟩:=y1t (k:=(m.ks.getD i 0).toNat) (by omega);have hs:strN 2 m.c (intN (m.ks.getD i 0).toNat)=numV (byV (ofN m.c) (oddV false (m.ks.getD i 0).toNat 0)):=by rw[strN,if_pos ⟨h1,i1⟩,i2];rfl
  have hne:J0c (byV (ofN m.c) (oddV false (m.ks.getD i 0).toNat 0))≠0:=fun e=>by have hz:=V1p (Z2v e);rw[J1f,U0n,j2s] at hz;rcases Rat.mul_eq_zero.1 hz with e1 | e1;exact H3x h1 h2 e1;have:(m.ks.getD i 0).toNat≠0:=(by omega);exact this (by exact_mod_cast e1)
  rw[if_neg hne,hs];rcases G1a (byV (ofN m.c) (oddV false (m.ks.getD i 0).toNat 0)) with e | e;rw[if_neg (by rw[e];decide),if_neg (by rw[e];decide)];exact ih _;rw[e,if_pos (by decide),if_pos (by decide)]
set_option maxRecDepth 100000
open Go.Proofs
def Y0n (f:List (List Mn))(b:List Ivl)(p:Int):List Ivl×Int:=if K0m f=true/\b.length=f.length then tabF (fun i=>w1t (f.getD i []) b p) 0 f.length [] else([],1)
def insT (t:Tm):List Tm->List Tm
 | []=> [t]
 | o::r=>if ordK o.ks t.ks>0 then o::insT t r else if ordK o.ks t.ks=0 then⟨U0i o.v t.v,o.ks⟩::r else t::o::r
def gatT :List Tm->List Tm->List Tm
 | [],acc=>acc
 | t::r,acc=>gatT r (insT t acc)
theorem G1h (t:Tm): ∀(k:Nat) (O:List Tm),k<=O.length->(∀q,q<k->ordK (O.getD q default).ks t.ks>0)->insT t O=O.take k++insT t (O.drop k)
 | 0,O,_,_=>by simp
 | k+1,[],h,_=>by simp at h
 | k+1,o::r,h,h1=>by have h0:ordK o.ks t.ks>0:=h1 0 (by omega);rw[insT,if_pos h0,G1h t k r (by simpa using h) (fun q hq=>h1 (q+1) (by omega))];simp
theorem w2e {t:Tm}{O:List Tm}(h: ∀q,q<O.length->ordK (O.getD q default).ks t.ks>0):insT t O=O++ [t]:=by rw[G1h t O.length O (Nat.le_refl _) h,List.take_length,List.drop_length,insT]
theorem G2i {t:Tm}{O:List Tm}{k:Nat}(hk:k<O.length)(h: ∀q,q<k->ordK (O.getD q default).ks t.ks>0)(h0:ordK (O.getD k default).ks t.ks=0):
 insT t O=O.set k ⟨U0i (O.getD k default).v t.v,(O.getD k default).ks⟩:=by
 rw[G1h t k O (by omega) h,show O.drop k=O.getD k default::O.drop (k+1) from by rw[List.drop_eq_getElem_cons hk];simp[q_a,hk],insT,if_neg (by omega),if_pos h0,List.set_eq_take_append_cons_drop,if_pos hk]
theorem G2j {t:Tm}{O:List Tm}{k:Nat}(hk:k<O.length)(h: ∀q,q<k->ordK (O.getD q default).ks t.ks>0)(h0: ¬ordK (O.getD k default).ks t.ks>0)(h1:ordK (O.getD k default).ks t.ks≠0):
 insT t O=O.take k++t::O.drop k:=by
 rw[G1h t k O (by omega) h,show O.drop k=O.getD k default::O.drop (k+1) from by rw[List.drop_eq_getElem_cons hk];simp[q_a,hk],insT,if_neg h0,if_neg h1]
theorem G1g {t x:Tm} : ∀ {O:List Tm},x∈insT t O->x=t\/x∈O\/ ∃o∈O,x=⟨U0i o.v t.v,o.ks⟩
 | [],h=>by rw[insT] at h;exact .inl (List.mem_singleton.1 h)
 | o::r,h=>by rw[insT] at h;split at h;rcases List.mem_cons.1 h with rfl | h;exact .inr (.inl (by simp));rcases G1g h with h | h | ⟨o',h1,h2⟩;exact .inl h;exact .inr (.inl (by simp[h]));exact .inr (.inr ⟨o',by simp[h1],h2⟩);split at h;rcases List.mem_cons.1 h with h | h;exact .inr (.inr ⟨o,by simp,h⟩);exact .inr (.inl (by simp[h]));rcases List.mem_cons.1 h with h | h;exact .inl h;exact .inr (.inl h)
theorem V3p {t x:Tm}{O:List Tm}(h:x∈insT t O):x.ks=t.ks\/ ∃o∈O,x.ks=o.ks:=by rcases G1g h with h | h | ⟨o',h1,h2⟩;exact .inl (by rw[h]);exact .inr ⟨x,h,rfl⟩;exact .inr ⟨o',h1,by rw[h2]⟩
theorem q1s : ∀(a b:List Int),a.length=b.length->ordK a b= -ordK b a
 | [],[],_=>rfl
 | x::a,y::b,h=>by rw[ordK,ordK,q1s a b (by simpa using h)];by_cases h1:x>y;rw[if_pos h1,if_neg (by omega),if_pos (by omega)];rfl;rw[if_neg h1];by_cases h2:x<y;rw[if_pos h2,if_pos (by omega)];rw[if_neg h2,if_neg (by omega),if_neg (by omega)]
theorem W1y {t:Tm}{n:Nat}(ht:t.ks.length=n): ∀ {O:List Tm},(∀o∈O,o.ks.length=n)->H0j (O.map Tm.ks)->H0j ((insT t O).map Tm.ks)
 | [],_,_=>List.pairwise_singleton _ _
 | o::r,hl,h=>by
  obtain⟨h1,h2⟩:=List.pairwise_cons.1 h;have lo:o.ks.length=n:=hl o (by simp);have ih:=W1y ht (O:=r) (fun x hx=>hl x (by simp[hx])) h2;rw[insT];split;rename_i hg;have hg1:ordK o.ks t.ks=1:=by rcases Z1z o.ks t.ks with e | e | e<;>omega
  refine List.pairwise_cons.2 ⟨fun k hk=> ?_,ih⟩;obtain⟨x,hx,rfl⟩:=List.mem_map.1 hk;rcases V3p hx with e | ⟨o',e1,e2⟩;rw[e];exact hg1;rw[e2];exact h1 _ (List.mem_map.2 ⟨o',e1,rfl⟩);split;exact List.pairwise_cons.2 ⟨h1,h2⟩;rename_i hg h0;have hg1:ordK t.ks o.ks=1:=by rw[q1s _ _ (by rw[ht,lo])];rcases Z1z o.ks t.ks with e | e | e<;>omega
  refine List.pairwise_cons.2 ⟨fun k hk=> ?_,h⟩;rcases List.mem_cons.1 hk with rfl | hk;exact hg1;obtain⟨x,hx,rfl⟩:=List.mem_map.1 hk;exact Q1d _ _ _ (by rw[ht,lo]) (by rw[lo,hl x (by simp[hx])]) hg1 (h1 _ (List.mem_map.2 ⟨x,hx,rfl⟩))
theorem k0z (t:Tm): ∀(O:List Tm),(insT t O).length<=O.length+1
 | []=>by simp[insT]
 | o::r=>by have:=k0z t r;rw[insT];split;simpa using this;split<;>simp
def okT (n L U:Nat)(D:Int)(t:Tm):Prop:=t.ks.length=n/\Y0a t.ks=true/\t.ks.sum<=D/\canV t.v/\luQ L U (qV t.v)
theorem okT.up {n L U U':Nat}{D:Int}{t:Tm}(h:okT n L U D t)(hu:U<=U'):okT n L U' D t:=⟨h.1,h.2.1,h.2.2.1,h.2.2.2.1,h.2.2.2.2.up hu⟩
theorem V3o {n L U:Nat}{D:Int}{t:Tm}{O:List Tm}(ht:okT n L U D t)(hO: ∀o∈O,okT n L U D o): ∀x∈insT t O,okT n L (U+1) D x:=fun x hx=>by rcases G1g hx with rfl | h | ⟨o,h1,rfl⟩;exact ht.up (by omega);exact(hO x h).up (by omega);obtain⟨a1,a2,a3,a4,a5⟩:=hO o h1;exact⟨a1,a2,a3,x0r a4 ht.2.2.2.1,by show luQ L (U+1) (qV (U0i o.v t.v));rw[k0s];exact V3h a5 ht.2.2.2.2⟩
theorem k1y {n L:Nat}{D:Int} : ∀(ts acc:List Tm) (U:Nat),(∀t∈ts,okT n L U D t)->(∀t∈acc,okT n L U D t)->H0j (acc.map Tm.ks)->
 (∀t∈gatT ts acc,okT n L (U+ts.length) D t)/\H0j ((gatT ts acc).map Tm.ks)/\(gatT ts acc).length<=acc.length+ts.length
 | [],acc,U,_,h2,h3=>⟨h2,h3,Nat.le_refl _⟩
 | t::r,acc,U,h1,h2,h3=>by have h4:=V3o (h1 t (by simp)) h2;have h5:=W1y (h1 t (by simp)).1 (fun o ho=>(h2 o ho).1) h3;obtain⟨a1,a2,a3⟩:=k1y r (insT t acc) (U+1) (fun x hx=>(h1 x (by simp[hx])).up (by omega)) h4 h5;have h6:=k0z t acc;rw[gatT];refine⟨fun x hx=> ?_,a2,by simp only[List.length_cons];omega⟩;have:=a1 x hx;rw[List.length_cons,show U+(r.length+1)=U+1+r.length from by omega];exact this
theorem z1c (t:Tm): ∀(ts acc:List Tm),gatT (ts++ [t]) acc=insT t (gatT ts acc)
 | [],acc=>rfl
 | x::r,acc=>by show gatT (r++ [t]) (insT x acc)=insT t (gatT r (insT x acc));exact z1c t r _
def monT (t:Tm):Mn:=⟨(numV t.v).1,t.ks⟩
theorem y1x {n L U:Nat}{D:Int}(hb:L+U+1<=4096): ∀(ts:List Tm) (acc:List Mn),(∀t∈ts,okT n L U D t)->Y0g ts acc=(acc++(ts.filter (fun t=>decide (J0c t.v≠0))).map monT,0)
 | [],acc,_=>by simp[Y0g]
 | t::r,acc,h=>by obtain⟨a1,a2,a3,a4,a5⟩:=h t (by simp);have ih:=fun acc=>y1x hb r acc fun t ht=>h t (by simp[ht]);rw[Y0g];by_cases c:J0c t.v=0;rw[if_pos c,ih,List.filter_cons_of_neg (by simp[c])];rw[if_neg c,if_neg (by rw[y1o a4 a5 hb];decide),ih,List.filter_cons_of_pos (by simp[c]),List.map_cons,List.append_assoc];rfl
def okMn (n L U:Nat)(D:Int)(m:Mn):Prop:=m.ks.length=n/\Y0a m.ks=true/\m.ks.sum<=D/\Q0r m.c=true/\m.c.w.length≠0/\luQ L U (qN m.c)
theorem Z3g {x:Nm}(h:x.w.length=0):qN x=0:=by have e:x.w= []:=List.eq_nil_of_length_eq_zero h;rw[<-U0n];refine V1p ?_;show valW x.w=0;rw[e];rfl
theorem V3e {n L U:Nat}{D:Int}{t:Tm}(hb:L+U+1<=4096)(h:okT n L U D t)(hs:J0c t.v≠0):okMn n L U D (monT t):=by obtain⟨a1,a2,a3,a4,a5⟩:=h;have h0:=y1o a4 a5 hb;obtain⟨v1,v2⟩:=q0w a4 h0;refine⟨a1,a2,a3,K0a (z0c a4),fun e=>hs ?_,?_⟩;have e1:=Z3g e;have e2:qV t.v=0:=(by rw[<-v2];exact e1);have p1:=w1n t.v;have p2:=U1k t.v;have p3:=w1o t.v;rw[e2] at p1 p2 p3;have:=p2.2 Rat.le_refl;have:=p3.2 Rat.le_refl;omega;show luQ L U (qN (numV t.v).1);rw[v2];exact a5
theorem W2f {p:List Mn}{n:Nat}{L U:Nat}{D:Int}(hn:1<=n)(hn4:n<=4)(hl:p.length<=24)(hp: ∀m∈p,okMn n L U D m)(hf:H0j (p.map Mn.ks)):Z0z p n=true:=by
 refine(X0e p n).2 ⟨⟨by omega,by omega,hl⟩,fun i hi=>(V0x p n i).2 ?_⟩;have hg: ∀j,j<p.length->okMn n L U D (p.getD j default):=fun j hj=>by rw[show p.getD j default=p[j] by simp[q_a,hj]];exact hp _ (List.getElem_mem hj)
 obtain⟨a1,a2,a3,a4,a5,a6⟩:=hg i hi;refine⟨(G0l _ _).2 ⟨by omega,a2,a4⟩,a5,?_⟩;by_cases h0:i=0;exact .inl h0;refine .inr ?_;have:=List.pairwise_iff_getElem.1 hf (i-1) i (by simp;omega) (by simpa using hi) (by omega);simpa[q_a,hi,(by omega:i-1<p.length)] using this
theorem J2n {n L U:Nat}{D:Int}{ts:List Tm}(hb:L+U+ts.length+1<=4096)(hn:1<=n)(hn4:n<=4)(hl:ts.length<=24)(h: ∀t∈ts,okT n L U D t):
 (Y0g (gatT ts []) []).2=0/\Z0z (Y0g (gatT ts []) []).1 n=true/\(∀m∈(Y0g (gatT ts []) []).1,okMn n L (U+ts.length) D m)/\(Y0g (gatT ts []) []).1.length<=ts.length:=by
 obtain⟨g1,g2,g3⟩:=k1y ts [] U h (fun t ht=>by cases ht) List.Pairwise.nil;rw[y1x (n:=n) (L:=L) (U:=U+ts.length) (D:=D) (by omega) _ _ g1];have hfl:((gatT ts []).filter (fun t=>decide (J0c t.v≠0))).length<=ts.length:=by have:=List.length_filter_le (fun t:Tm=>decide (J0c t.v≠0)) (gatT ts []);simp only[List.length_nil] at g3;omega
 have hm: ∀m∈((gatT ts []).filter (fun t=>decide (J0c t.v≠0))).map monT,okMn n L (U+ts.length) D m:=fun m hm=>by obtain⟨t,ht,rfl⟩:=List.mem_map.1 hm;obtain⟨t1,t2⟩:=List.mem_filter.1 ht;exact V3e (by omega) (g1 t t1) (q_b t2)
 refine⟨rfl,?_,by simpa using hm,by simpa using hfl⟩;rw[List.nil_append];refine W2f hn hn4 (by simp only[List.length_map];omega) hm ?_;rw[List.map_map];have:H0j (((gatT ts []).filter (fun t=>decide (J0c t.v≠0))).map Tm.ks):=by unfold H0j at g2⊢;rw[List.pairwise_map] at g2⊢;exact g2.filter _
 exact this
def v1b (p:Nat)(x:Rat):Prop:= ∃m e:Int,x=qM m e/\m.natAbs<=2^p
theorem j2e (v:Vl)(p:Nat)(h: ¬Q0g v.m<=p): ∃k:Int,qV (Z0e v p false)=qM (k*2^(Q0g v.m-p)) v.e/\k*2^(Q0g v.m-p)<=X0u v/\(∀j:Int,j*2^(Q0g v.m-p)<=X0u v->j<=k)/\k.natAbs<=2^p:=by
 unfold Z0e;rw[if_neg h,k0d,y0v];have hb:=Z0b v.m;have hbp:2^Q0g v.m=2^p*2^(Q0g v.m-p):=(by rw[<-Nat.pow_add];congr 1;omega);generalize Q0g v.m-p=d at*
 have hD:=Nat.two_pow_pos d;have h1:=Nat.div_add_mod v.m (2^d);have h2:=Nat.mod_lt v.m hD;have hq:v.m/2^d<2^p:=by rw[Nat.div_lt_iff_lt_mul hD,<-hbp];exact hb
 have hcast:((2^d:Nat):Int)=(2:Int)^d:=(by simp);have hD':(0:Int)<(2:Int)^d:=(by rw[<-hcast];exact_mod_cast hD);unfold X0u;cases hn:v.neg;refine⟨((v.m/2^d:Nat):Int),?_,?_,fun j hj=> ?_,by rw[Int.natAbs_natCast];exact Nat.le_of_lt hq⟩;rw[if_neg (by simp),if_neg (by simp),Nat.add_zero,Int.natCast_mul,hcast];rw[if_neg (by simp),<-hcast,<-Int.natCast_mul];have:=Nat.div_mul_le_self v.m (2^d);omega;rw[if_neg (by simp)] at hj;by_cases hj0:j<0;have:(0:Int)<=((v.m/2^d:Nat):Int):=Int.natCast_nonneg _;omega;obtain⟨n,rfl⟩:=Int.eq_ofNat_of_zero_le (by omega:0<=j);rw[<-hcast,<-Int.natCast_mul] at hj;have hj':n*2^d<=v.m:=(by exact_mod_cast hj);have:=(Nat.le_div_iff_mul_le hD).2 hj'
 exact_mod_cast this
 generalize hc':(if v.m % 2^d≠0/\false≠true then 1 else 0)=c;have hc:(v.m % 2^d≠0/\c=1)\/(v.m % 2^d=0/\c=0):=by by_cases h3:v.m % 2^d=0;rw[if_neg (by simp[h3])] at hc';exact .inr ⟨h3,hc'.symm⟩;rw[if_pos ⟨h3,by simp⟩] at hc';exact .inl ⟨h3,hc'.symm⟩
 refine⟨-((v.m/2^d+c:Nat):Int),?_,?_,fun j hj=> ?_,by rw[Int.natAbs_neg];simp only[Int.natAbs_natCast];omega⟩;rw[if_pos rfl];congr 1;rw[Int.neg_mul,<-hcast,<-Int.natCast_mul];rw[if_pos rfl,Int.neg_mul,<-hcast,<-Int.natCast_mul];have:v.m<=(v.m/2^d+c)*2^d:=by rw[Nat.mul_comm] at h1;rw[Nat.add_mul];rcases hc with ⟨a,rfl⟩ | ⟨a,rfl⟩<;>omega
 omega;rw[if_pos rfl] at hj;by_cases hj0:0<j;have:0<j*(2:Int)^d:=Int.mul_pos hj0 hD';omega;obtain⟨n,hn'⟩:=Int.eq_ofNat_of_zero_le (by omega:0<= -j);obtain rfl:j= -(n:Int):=(by omega);rw[Int.neg_mul,<-hcast,<-Int.natCast_mul] at hj;have hj':v.m<=n*2^d:=(by omega);have:v.m/2^d+c<=n:=by
  rcases hc with ⟨a,rfl⟩ | ⟨a,rfl⟩;have:v.m/2^d<n:=by refine Nat.lt_of_not_le fun hle=> ?_;have:=Nat.mul_le_mul_right (2^d) hle;rw[Nat.mul_comm] at h1;omega
  omega;have:=Nat.div_le_div_right (c:=2^d) hj';rw[Nat.mul_div_cancel _ hD] at this;omega
 omega
theorem G2u (v:Vl)(p:Nat):v1b p (qV (Z0e v p false)):=by by_cases h:Q0g v.m<=p;unfold Z0e;rw[if_pos h];refine⟨X0u v,v.e,rfl,?_⟩;rw[w0s];exact Nat.le_of_lt (q_e (Z0b v.m) (Nat.pow_le_pow_right (by decide) h));obtain⟨k,h1,h2,h3,h4⟩:=j2e v p h;exact⟨k,v.e+((Q0g v.m-p:Nat):Int),by rw[h1,k0e],h4⟩
theorem X2a (v:Vl)(p:Nat):qV (Z0e v p true)= -qV (Z0e (V0g v) p false):=by
 by_cases h0:v.m=0;have e:V0g v=v:=(by unfold V0g;rw[if_pos h0]);have hb:Q0g v.m<=p:=(by rw[h0,X0n];omega);rw[e];unfold Z0e;rw[if_pos hb,if_pos hb,V1p h0];rfl;have e1:(V0g v).m=v.m:=y0p v;have e2:(V0g v).e=v.e:=y0q v;have e3:(V0g v).neg= !v.neg:=(by unfold V0g;rw[if_neg h0]);unfold Z0e;rw[e1,e2,e3];split;rw[H0q];grind;rw[k0d,k0d];have ec:(if v.m % 2^(Q0g v.m-p)≠0/\false≠ !v.neg then 1 else 0)=(if v.m % 2^(Q0g v.m-p)≠0/\true≠v.neg then 1 else 0):=by cases v.neg<;>simp
 rw[ec];generalize v.m/2^(Q0g v.m-p)+(if v.m % 2^(Q0g v.m-p)≠0/\true≠v.neg then 1 else 0)=M;rw[<-w1v];congr 1;cases v.neg<;>simp
theorem w2z {lo hi:Vl}(h1:canV lo)(h2:canV hi)(h:(Y0i lo hi).2=0):qN (Y0i lo hi).1.lo=qV lo/\qN (Y0i lo hi).1.hi=qV hi:=by unfold Y0i at h⊢;split;rename_i hh;exact⟨(q0w h1 hh.1).2,(q0w h2 hh.2).2⟩;rename_i hh;rw[if_neg hh] at h;cases h
theorem H2x (ks:List Int)(j i:Nat)(hj:j<ks.length):(decK ks j).getD i 0=if j=i then ks.getD i 0-1 else ks.getD i 0:=by unfold decK;by_cases h:j=i;subst h;rw[if_pos rfl,Q0s _ _ _ _ hj];rw[if_neg h,Q0l _ _ _ _ _ h]
theorem J3n {ks:List Int}{k:Nat}(hk:k<ks.length):(decK ks k).sum=ks.sum-1:=by
 unfold decK
 induction ks generalizing k with
 | nil=>simp at hk
 | cons x r ih=>
  cases k with
  | zero=>simp;omega
  | succ k=>
   have:=ih (k:=k) (by simpa using hk);simp only[List.set_cons_succ,List.sum_cons,List.getD_cons_succ,this];omega
theorem X2f {ks:List Int}{k:Nat}(h:Y0a ks=true)(hk:k<ks.length)(hne:ks.getD k 0≠0):Y0a (decK ks k)=true:=by obtain⟨h1,h2⟩:=(J0v ks).1 h;refine(J0v _).2 ⟨fun j hj=> ?_,by rw[J3n hk];omega⟩;rw[W0o] at hj;rw[H2x _ _ _ hk];have:=h1 j hj;split;rename_i e;subst e;have:=h1 k hk;omega;exact this
end Go.Pv
end
