/- Parts of the walk: M47, M48, M49, M50. -/
import Derived.Test.YthichlfphjbadaaGreatZBE
import Derived.Test.YthichlfphjbadaaGreatZAR
import Derived.Test.YthichlfphjbadaaGreatZN
set_option linter.unusedVariables false
set_option linter.unusedSimpArgs false
section
/-The document's gather,for terms in any order:what comes of small terms is a right polynomial. No program in it. -/
namespace Go.Pv
def insT (t:Tm):List Tm→List Tm
 | []=> [t]
 | o::r=>if ordK o.ks t.ks>0 then o::insT t r else if ordK o.ks t.ks=0 then⟨J0l o.v t.v,o.ks⟩::r else t::o::r
def gatT :List Tm→List Tm→List Tm
 | [],acc=>acc
 | t::r,acc=>gatT r (insT t acc)
theorem H1m (t:Tm): ∀(k:Nat) (O:List Tm),k≤O.length→(∀q,q<k→ordK (O.getD q default).ks t.ks>0)→insT t O=O.take k++insT t (O.drop k)
 | 0,O,_,_=>by simp
 | k+1,[],h,_=>by simp at h
 | k+1,o::r,h,h1=>by
  have h0:ordK o.ks t.ks>0:=h1 0 (by omega)
  rw [insT,if_pos h0,H1m t k r (by simpa using h) (fun q hq=>h1 (q+1) (by omega))]
  simp
theorem v2p {t:Tm} {O:List Tm} (h: ∀q,q<O.length→ordK (O.getD q default).ks t.ks>0):insT t O=O++ [t]:=by
 rw [H1m t O.length O (Nat.le_refl _) h,List.take_length,List.drop_length,insT]
theorem G2u {t:Tm} {O:List Tm} {k:Nat} (hk:k<O.length) (h: ∀q,q<k→ordK (O.getD q default).ks t.ks>0) (h0:ordK (O.getD k default).ks t.ks=0):
 insT t O=O.set k ⟨J0l (O.getD k default).v t.v,(O.getD k default).ks⟩:=by
 rw [H1m t k O (by omega) h,show O.drop k=O.getD k default::O.drop (k+1) from by rw [List.drop_eq_getElem_cons hk];simp [List.getD_eq_getElem?_getD,hk],insT,if_neg (by omega),if_pos h0,List.set_eq_take_append_cons_drop,if_pos hk]
theorem G2v {t:Tm} {O:List Tm} {k:Nat} (hk:k<O.length) (h: ∀q,q<k→ordK (O.getD q default).ks t.ks>0) (h0: ¬ordK (O.getD k default).ks t.ks>0) (h1:ordK (O.getD k default).ks t.ks≠0):
 insT t O=O.take k++t::O.drop k:=by
 rw [H1m t k O (by omega) h,show O.drop k=O.getD k default::O.drop (k+1) from by rw [List.drop_eq_getElem_cons hk];simp [List.getD_eq_getElem?_getD,hk],insT,if_neg h0,if_neg h1]
theorem H1l {t x:Tm} : ∀ {O:List Tm},x∈insT t O→x=t∨x∈O∨ ∃o∈O,x=⟨J0l o.v t.v,o.ks⟩
 | [],h=>by rw [insT] at h;exact .inl (List.mem_singleton.1 h)
 | o::r,h=>by
  rw [insT] at h
  split at h
  · rcases List.mem_cons.1 h with rfl | h
    · exact .inr (.inl (by simp))
    · rcases H1l h with h | h | ⟨o',h1,h2⟩
      · exact .inl h
      · exact .inr (.inl (by simp [h]))
      · exact .inr (.inr ⟨o',by simp [h1],h2⟩)
  · split at h
    · rcases List.mem_cons.1 h with h | h
      · exact .inr (.inr ⟨o,by simp,h⟩)
      · exact .inr (.inl (by simp [h]))
    · rcases List.mem_cons.1 h with h | h
      · exact .inl h
      · exact .inr (.inl h)
theorem V3a {t x:Tm} {O:List Tm} (h:x∈insT t O):x.ks=t.ks∨ ∃o∈O,x.ks=o.ks:=by
 rcases H1l h with h | h | ⟨o',h1,h2⟩
 · exact .inl (by rw [h])
 · exact .inr ⟨x,h,rfl⟩
 · exact .inr ⟨o',h1,by rw [h2]⟩
theorem x1q : ∀(a b:List Int),a.length=b.length→ordK a b= -ordK b a
 | [],[],_=>rfl
 | x::a,y::b,h=>by
  rw [ordK,ordK,x1q a b (by simpa using h)]
  by_cases h1:x>y
  · rw [if_pos h1,if_neg (by omega),if_pos (by omega)];rfl
  · rw [if_neg h1]
    by_cases h2:x<y
    · rw [if_pos h2,if_pos (by omega)]
    · rw [if_neg h2,if_neg (by omega),if_neg (by omega)]
theorem U1a {t:Tm} {n:Nat} (ht:t.ks.length=n): ∀ {O:List Tm},(∀o∈O,o.ks.length=n)→K1x (O.map Tm.ks)→K1x ((insT t O).map Tm.ks)
 | [],_,_=>List.pairwise_singleton _ _
 | o::r,hl,h=>by
  obtain⟨h1,h2⟩:=List.pairwise_cons.1 h
  have lo:o.ks.length=n:=hl o (by simp)
  have ih:=U1a ht (O:=r) (fun x hx=>hl x (by simp [hx])) h2
  rw [insT]
  split
  · rename_i hg
    have hg1:ordK o.ks t.ks=1:=by rcases H1c o.ks t.ks with e | e | e<;>omega
    refine List.pairwise_cons.2 ⟨fun k hk=> ?_,ih⟩
    obtain⟨x,hx,rfl⟩:=List.mem_map.1 hk
    rcases V3a hx with e | ⟨o',e1,e2⟩
    · rw [e];exact hg1
    · rw [e2];exact h1 _ (List.mem_map.2 ⟨o',e1,rfl⟩)
  · split
    · exact List.pairwise_cons.2 ⟨h1,h2⟩
    · rename_i hg h0
      have hg1:ordK t.ks o.ks=1:=by
       rw [x1q _ _ (by rw [ht,lo])]
       rcases H1c o.ks t.ks with e | e | e<;>omega
      refine List.pairwise_cons.2 ⟨fun k hk=> ?_,h⟩
      rcases List.mem_cons.1 hk with rfl | hk
      · exact hg1
      · obtain⟨x,hx,rfl⟩:=List.mem_map.1 hk
        exact Y1q _ _ _ (by rw [ht,lo]) (by rw [lo,hl x (by simp [hx])]) hg1 (h1 _ (List.mem_map.2 ⟨x,hx,rfl⟩))
theorem k0n (t:Tm): ∀(O:List Tm),(insT t O).length≤O.length+1
 | []=>by simp [insT]
 | o::r=>by
  have:=k0n t r
  rw [insT];split
  · simpa using this
  · split<;>simp
def okT (n L U:Nat) (D:Int) (t:Tm):Prop:=t.ks.length=n∧U0h t.ks=true∧t.ks.sum≤D∧canV t.v∧luQ L U (qV t.v)
theorem okT.up {n L U U':Nat} {D:Int} {t:Tm} (h:okT n L U D t) (hu:U≤U'):okT n L U' D t:=⟨h.1,h.2.1,h.2.2.1,h.2.2.2.1,h.2.2.2.2.up hu⟩
theorem K3z {n L U:Nat} {D:Int} {t:Tm} {O:List Tm} (ht:okT n L U D t) (hO: ∀o∈O,okT n L U D o): ∀x∈insT t O,okT n L (U+1) D x:=fun x hx=>by
 rcases H1l hx with rfl | h | ⟨o,h1,rfl⟩
 · exact ht.up (by omega)
 · exact(hO x h).up (by omega)
 · obtain⟨a1,a2,a3,a4,a5⟩:=hO o h1
   exact⟨a1,a2,a3,K0w a4 ht.2.2.2.1,by show luQ L (U+1) (qV (J0l o.v t.v));rw [V0e];exact q0m a5 ht.2.2.2.2⟩
theorem w1j {n L:Nat} {D:Int} : ∀(ts acc:List Tm) (U:Nat),(∀t∈ts,okT n L U D t)→(∀t∈acc,okT n L U D t)→K1x (acc.map Tm.ks)→
 (∀t∈gatT ts acc,okT n L (U+ts.length) D t)∧K1x ((gatT ts acc).map Tm.ks)∧(gatT ts acc).length≤acc.length+ts.length
 | [],acc,U,_,h2,h3=>⟨h2,h3,Nat.le_refl _⟩
 | t::r,acc,U,h1,h2,h3=>by
  have h4:=K3z (h1 t (by simp)) h2
  have h5:=U1a (h1 t (by simp)).1 (fun o ho=>(h2 o ho).1) h3
  obtain⟨a1,a2,a3⟩:=w1j r (insT t acc) (U+1) (fun x hx=>(h1 x (by simp [hx])).up (by omega)) h4 h5
  have h6:=k0n t acc
  rw [gatT]
  refine⟨fun x hx=> ?_,a2,by simp only [List.length_cons];omega⟩
  have:=a1 x hx
  rw [List.length_cons,show U+(r.length+1)=U+1+r.length from by omega]
  exact this
theorem j1c (t:Tm): ∀(ts acc:List Tm),gatT (ts++ [t]) acc=insT t (gatT ts acc)
 | [],acc=>rfl
 | x::r,acc=>by
  show gatT (r++ [t]) (insT x acc)=insT t (gatT r (insT x acc))
  exact j1c t r _
def monT (t:Tm):Mn:=⟨(numV t.v).1,t.ks⟩
theorem Z2m {n L U:Nat} {D:Int} (hb:L+U+1≤4096): ∀(ts:List Tm) (acc:List Mn),(∀t∈ts,okT n L U D t)→q0n ts acc=(acc++(ts.filter (fun t=>decide (W0t t.v≠0))).map monT,0)
 | [],acc,_=>by simp [q0n]
 | t::r,acc,h=>by
  obtain⟨a1,a2,a3,a4,a5⟩:=h t (by simp)
  have ih:=fun acc=>Z2m hb r acc fun t ht=>h t (by simp [ht])
  rw [q0n]
  by_cases c:W0t t.v=0
  · rw [if_pos c,ih,List.filter_cons_of_neg (by simp [c])]
  · rw [if_neg c,if_neg (by rw [U0o a4 a5 hb];decide),ih,List.filter_cons_of_pos (by simp [c]),List.map_cons,List.append_assoc]
    rfl
def okMn (n L U:Nat) (D:Int) (m:Mn):Prop:=m.ks.length=n∧U0h m.ks=true∧m.ks.sum≤D∧Q0f m.c=true∧m.c.w.length≠0∧luQ L U (qN m.c)
theorem Q3e {x:Nm} (h:x.w.length=0):qN x=0:=by
 have e:x.w= []:=List.eq_nil_of_length_eq_zero h
 rw [←X0k]
 refine y0y ?_
 show valW x.w=0
 rw [e];rfl
theorem K3l {n L U:Nat} {D:Int} {t:Tm} (hb:L+U+1≤4096) (h:okT n L U D t) (hs:W0t t.v≠0):okMn n L U D (monT t):=by
 obtain⟨a1,a2,a3,a4,a5⟩:=h
 have h0:=U0o a4 a5 hb
 obtain⟨v1,v2⟩:=J0f a4 h0
 refine⟨a1,a2,a3,J0n (Q1n a4),fun e=>hs ?_,?_⟩
 · have e1:=Q3e e
   have e2:qV t.v=0:=by rw [←v2];exact e1
   have p1:=y1o t.v
   have p2:=y1p t.v
   have p3:=y1q t.v
   rw [e2] at p1 p2 p3
   have:=p2.2 Rat.le_refl
   have:=p3.2 Rat.le_refl
   omega
 · show luQ L U (qN (numV t.v).1)
   rw [v2];exact a5
theorem Y2i {p:List Mn} {n:Nat} {L U:Nat} {D:Int} (hn:1≤n) (hn4:n≤4) (hl:p.length≤24) (hp: ∀m∈p,okMn n L U D m) (hf:K1x (p.map Mn.ks)):V0r p n=true:=by
 refine(x0u p n).2 ⟨⟨by omega,by omega,hl⟩,fun i hi=>(K1d p n i).2 ?_⟩
 have hg: ∀j,j<p.length→okMn n L U D (p.getD j default):=fun j hj=>by
  rw [show p.getD j default=p[j] by simp [List.getD_eq_getElem?_getD,hj]]
  exact hp _ (List.getElem_mem hj)
 obtain⟨a1,a2,a3,a4,a5,a6⟩:=hg i hi
 refine⟨(x1s _ _).2 ⟨by omega,a2,a4⟩,a5,?_⟩
 by_cases h0:i=0
 · exact .inl h0
 · refine .inr ?_
   have:=List.pairwise_iff_getElem.1 hf (i-1) i (by simp;omega) (by simpa using hi) (by omega)
   simpa [List.getD_eq_getElem?_getD,hi,(by omega:i-1<p.length)] using this
theorem K2o {n L U:Nat} {D:Int} {ts:List Tm} (hb:L+U+ts.length+1≤4096) (hn:1≤n) (hn4:n≤4) (hl:ts.length≤24) (h: ∀t∈ts,okT n L U D t):
 (q0n (gatT ts []) []).2=0∧V0r (q0n (gatT ts []) []).1 n=true∧(∀m∈(q0n (gatT ts []) []).1,okMn n L (U+ts.length) D m)∧(q0n (gatT ts []) []).1.length≤ts.length:=by
 obtain⟨g1,g2,g3⟩:=w1j ts [] U h (fun t ht=>by cases ht) List.Pairwise.nil
 rw [Z2m (n:=n) (L:=L) (U:=U+ts.length) (D:=D) (by omega) _ _ g1]
 have hfl:((gatT ts []).filter (fun t=>decide (W0t t.v≠0))).length≤ts.length:=by
  have:=List.length_filter_le (fun t:Tm=>decide (W0t t.v≠0)) (gatT ts [])
  simp only [List.length_nil] at g3;omega
 have hm: ∀m∈((gatT ts []).filter (fun t=>decide (W0t t.v≠0))).map monT,okMn n L (U+ts.length) D m:=fun m hm=>by
  obtain⟨t,ht,rfl⟩:=List.mem_map.1 hm
  obtain⟨t1,t2⟩:=List.mem_filter.1 ht
  exact K3l (by omega) (g1 t t1) (of_decide_eq_true t2)
 refine⟨rfl,?_,by simpa using hm,by simpa using hfl⟩
 rw [List.nil_append]
 refine Y2i hn hn4 (by simp only [List.length_map];omega) hm ?_
 rw [List.map_map]
 have:K1x (((gatT ts []).filter (fun t=>decide (W0t t.v≠0))).map Tm.ks):=by
  unfold K1x at g2⊢
  rw [List.pairwise_map] at g2⊢
  exact g2.filter _
 exact this
end Go.Pv
end
section
/-Rounding to p bits is the greatest value of p bits that is not above,so it keeps the order. No program in it. -/
namespace Go.Pv
def V3m (p:Nat) (x:Rat):Prop:= ∃m e:Int,x=qM m e∧m.natAbs≤2^p
theorem y1u (v:Vl) (p:Nat) (h: ¬Q0l v.m≤p): ∃k:Int,qV (Z0k v p false)=qM (k*2^(Q0l v.m-p)) v.e∧k*2^(Q0l v.m-p)≤Z0w v∧(∀j:Int,j*2^(Q0l v.m-p)≤Z0w v→j≤k)∧k.natAbs≤2^p:=by
 unfold Z0k
 rw [if_neg h,w0a,x0t]
 have hb:=X0g v.m
 have hbp:2^Q0l v.m=2^p*2^(Q0l v.m-p):=by rw [←Nat.pow_add];congr 1;omega
 generalize Q0l v.m-p=d at*
 have hD:=Nat.two_pow_pos d
 have h1:=Nat.div_add_mod v.m (2^d)
 have h2:=Nat.mod_lt v.m hD
 have hq:v.m/2^d<2^p:=by
  rw [Nat.div_lt_iff_lt_mul hD,←hbp];exact hb
 have hcast:((2^d:Nat):Int)=(2:Int)^d:=by simp
 have hD':(0:Int)<(2:Int)^d:=by rw [←hcast];exact_mod_cast hD
 unfold Z0w
 cases hn:v.neg
 · refine⟨((v.m/2^d:Nat):Int),?_,?_,fun j hj=> ?_,by rw [Int.natAbs_natCast];exact Nat.le_of_lt hq⟩
   · rw [if_neg (by simp),if_neg (by simp),Nat.add_zero,Int.natCast_mul,hcast]
   · rw [if_neg (by simp),←hcast,←Int.natCast_mul]
     have:=Nat.div_mul_le_self v.m (2^d)
     omega
   · rw [if_neg (by simp)] at hj
     by_cases hj0:j<0
     · have:(0:Int)≤((v.m/2^d:Nat):Int):=Int.natCast_nonneg _
       omega
     · obtain⟨n,rfl⟩:=Int.eq_ofNat_of_zero_le (by omega:0≤j)
       rw [←hcast,←Int.natCast_mul] at hj
       have hj':n*2^d≤v.m:=by exact_mod_cast hj
       have:=(Nat.le_div_iff_mul_le hD).2 hj'
       exact_mod_cast this
 · generalize hc':(if v.m % 2^d≠0∧false≠true then 1 else 0)=c
   have hc:(v.m % 2^d≠0∧c=1)∨(v.m % 2^d=0∧c=0):=by
    by_cases h3:v.m % 2^d=0
    · rw [if_neg (by simp [h3])] at hc';exact .inr ⟨h3,hc'.symm⟩
    · rw [if_pos ⟨h3,by simp⟩] at hc';exact .inl ⟨h3,hc'.symm⟩
   refine⟨-((v.m/2^d+c:Nat):Int),?_,?_,fun j hj=> ?_,by rw [Int.natAbs_neg];simp only [Int.natAbs_natCast];omega⟩
   · rw [if_pos rfl];congr 1;rw [Int.neg_mul,←hcast,←Int.natCast_mul]
   · rw [if_pos rfl,Int.neg_mul,←hcast,←Int.natCast_mul]
     have:v.m≤(v.m/2^d+c)*2^d:=by
      rw [Nat.mul_comm] at h1
      rw [Nat.add_mul]
      rcases hc with ⟨a,rfl⟩ | ⟨a,rfl⟩<;>omega
     omega
   · rw [if_pos rfl] at hj
     by_cases hj0:0<j
     · have:0<j*(2:Int)^d:=Int.mul_pos hj0 hD'
       omega
     · obtain⟨n,hn'⟩:=Int.eq_ofNat_of_zero_le (by omega:0≤ -j)
       obtain rfl:j= -(n:Int):=by omega
       rw [Int.neg_mul,←hcast,←Int.natCast_mul] at hj
       have hj':v.m≤n*2^d:=by omega
       have:v.m/2^d+c≤n:=by
        rcases hc with ⟨a,rfl⟩ | ⟨a,rfl⟩
        · have:v.m/2^d<n:=by
           refine Nat.lt_of_not_le fun hle=> ?_
           have:=Nat.mul_le_mul_right (2^d) hle
           rw [Nat.mul_comm] at h1
           omega
          omega
        · have:=Nat.div_le_div_right (c:=2^d) hj'
          rw [Nat.mul_div_cancel _ hD] at this
          omega
       omega
theorem V3l (v:Vl) (p:Nat):V3m p (qV (Z0k v p false)):=by
 by_cases h:Q0l v.m≤p
 · unfold Z0k
   rw [if_pos h]
   refine⟨Z0w v,v.e,rfl,?_⟩
   rw [j0c]
   exact Nat.le_of_lt (Nat.lt_of_lt_of_le (X0g v.m) (Nat.pow_le_pow_right (by decide) h))
 · obtain⟨k,h1,h2,h3,h4⟩:=y1u v p h
   exact⟨k,v.e+((Q0l v.m-p:Nat):Int),by rw [h1,W0v],h4⟩
theorem W1x {v:Vl} {p:Nat} (hp:1≤p) {x:Rat} (hx:V3m p x) (hle:x≤qV v):x≤qV (Z0k v p false):=by
 by_cases h:Q0l v.m≤p
 · unfold Z0k;rw [if_pos h];exact hle
 · obtain⟨k,h1,h2,h3,h4⟩:=y1u v p h
   rw [h1]
   obtain⟨m,e,rfl,hm⟩:=hx
   have h0:v.m≠0:=fun e=>by rw [e,K0y] at h;omega
   have hlow:=w0c h0
   obtain⟨d,hd⟩: ∃d,Q0l v.m-p=d:=⟨_,rfl⟩
   rw [hd] at h1 h2 h3⊢
   have hd1:1≤d:=by omega
   have hlow':2^(p-1)*2^d≤v.m:=by rw [←Nat.pow_add];exact Nat.le_trans (Nat.pow_le_pow_right (by decide) (by omega)) hlow
   have hcast:((2^(p-1):Nat):Int)=(2:Int)^(p-1):=by simp
   have hcd:((2^d:Nat):Int)=(2:Int)^d:=by simp
   unfold qV at hle
   by_cases he:v.e+d≤e
   · have e1:qM m e=qM (m*2^(e-(v.e+d)).toNat*2^d) v.e:=by
      rw [W0v,W0v];congr 1;omega
     rw [e1,qM_le] at hle⊢
     have:=h3 _ hle
     exact Int.mul_le_mul_of_nonneg_right this (Int.le_of_lt (by rw [←hcd];exact_mod_cast Nat.two_pow_pos d))
   · -- |x| is at most 2^(p-1) units
     have hb: ∀s:Int,s.natAbs≤2^p→qM s e≤qM ((2:Int)^(p-1)*2^d) v.e:=fun s hs=>by
      have e2:(2:Int)^(p-1)*2^d=2^p*2^(d-1):=by rw [←Int.pow_add,←Int.pow_add];congr 1;omega
      rw [e2,W0v]
      have e3:qM ((2:Int)^p) (v.e+((d-1:Nat):Int))=qM ((2:Int)^p*2^(v.e+((d-1:Nat):Int)-e).toNat) e:=by
       rw [W0v];congr 1;omega
      rw [e3,qM_le]
      have hc2:((2^p:Nat):Int)=(2:Int)^p:=by simp
      have hpos:(1:Int)≤2^(v.e+((d-1:Nat):Int)-e).toNat:=by
       have:0<2^(v.e+((d-1:Nat):Int)-e).toNat:=Nat.two_pow_pos _
       exact_mod_cast this
      have hs':s≤2^p:=by rw [←hc2];omega
      have hp0:(0:Int)≤2^p:=by rw [←hc2];exact Int.natCast_nonneg _
      calc s≤2^p:=hs'
       _=2^p*1:=(Int.mul_one _).symm
       _≤_:=Int.mul_le_mul_of_nonneg_left hpos hp0
     unfold Z0w at h2 h3 hle
     cases hn:v.neg
     · rw [hn,if_neg (by simp)] at h3
       refine Rat.le_trans (hb m hm) ?_
       rw [qM_le]
       have:=h3 ((2:Int)^(p-1)) (by rw [←hcast,←hcd,←Int.natCast_mul];exact_mod_cast hlow')
       exact Int.mul_le_mul_of_nonneg_right this (Int.le_of_lt (by rw [←hcd];exact_mod_cast Nat.two_pow_pos d))
     · rw [hn,if_pos rfl] at h3 hle
       have hx2:=hb (-m) (by rw [Int.natAbs_neg];exact hm)
       rw [J1u] at hx2
       have hx3:qM (-((2:Int)^(p-1)*2^d)) v.e≤qM (-(v.m:Int)) v.e:=by rw [J1u ((2:Int)^(p-1)*2^d)];grind
       have:=h3 (-((2:Int)^(p-1))) (by rw [Int.neg_mul];exact qM_le.1 hx3)
       refine Rat.le_trans hle ?_
       rw [qM_le]
       have h5: -(v.m:Int)≤ -((2:Int)^(p-1))*2^d:=by
        rw [Int.neg_mul,←hcast,←hcd,←Int.natCast_mul]
        have:((2^(p-1)*2^d:Nat):Int)≤(v.m:Int):=by exact_mod_cast hlow'
        omega
       exact Int.le_trans h5 (Int.mul_le_mul_of_nonneg_right this (Int.le_of_lt (by rw [←hcd];exact_mod_cast Nat.two_pow_pos d)))
theorem X1y {v w:Vl} {p:Nat} (hp:1≤p) (h:qV v≤qV w):qV (Z0k v p false)≤qV (Z0k w p false):=
 W1x hp (V3l v p) (Rat.le_trans (Y0n v p) h)
theorem y0l (v:Vl) (p:Nat):qV (Z0k v p true)= -qV (Z0k (V0m v) p false):=by
 by_cases h0:v.m=0
 · have e:V0m v=v:=by unfold V0m;rw [if_pos h0]
   have hb:Q0l v.m≤p:=by rw [h0,K0y];omega
   rw [e]
   unfold Z0k
   rw [if_pos hb,if_pos hb,y0y h0];rfl
 · have e1:(V0m v).m=v.m:=X1n v
   have e2:(V0m v).e=v.e:=X1o v
   have e3:(V0m v).neg= !v.neg:=by unfold V0m;rw [if_neg h0]
   unfold Z0k
   rw [e1,e2,e3]
   split
   · rw [U0b];grind
   · rw [w0a,w0a]
     have ec:(if v.m % 2^(Q0l v.m-p)≠0∧false≠ !v.neg then 1 else 0)=(if v.m % 2^(Q0l v.m-p)≠0∧true≠v.neg then 1 else 0):=by
      cases v.neg<;>simp
     rw [ec]
     generalize v.m/2^(Q0l v.m-p)+(if v.m % 2^(Q0l v.m-p)≠0∧true≠v.neg then 1 else 0)=M
     rw [←J1u]
     congr 1
     cases v.neg<;>simp
theorem V1x {v w:Vl} {p:Nat} (hp:1≤p) (h:qV v≤qV w):qV (Z0k v p true)≤qV (Z0k w p true):=by
 rw [y0l,y0l]
 have:=X1y (v:=V0m w) (w:=V0m v) (p:=p) hp (by rw [U0b,U0b];grind)
 grind
end Go.Pv
end
section
/-Interval operations keep inclusion;powers and ranges have what they should;of small ones there is no error. No program in it. -/
namespace Go.Pv
def subI (a b:Ivl):Prop:=qN b.lo≤qN a.lo∧qN a.hi≤qN b.hi
theorem G2x {a b:Ivl} (ha:Q0n a=true) (hb:Q0n b=true):inI a b=true↔subI a b:=by
 rw [V3b]
 constructor
 · rintro⟨_,_,h1,h2⟩;exact⟨cmpN_ge.1 h1,cmpN_ge.1 h2⟩
 · rintro⟨h1,h2⟩;exact⟨ha,hb,cmpN_ge.2 h1,cmpN_ge.2 h2⟩
theorem q0k {a:Ivl} (h:Q0n a=true):memI (qN a.lo) a:=⟨Rat.le_refl,z0l h⟩
theorem K1i {a:Ivl} (h:Q0n a=true):memI (qN a.hi) a:=⟨z0l h,Rat.le_refl⟩
theorem X4j (k:Nat) {a b:Ivl} (ha:Q0n a=true) (hb:Q0n b=true): ∃X U,memI X a∧memI U b∧qV (loV k (ofN a.lo) (ofN a.hi) (ofN b.lo) (ofN b.hi))=exQ k X U:=by
 have a1:=q0k ha
 have a2:=K1i ha
 have b1:=q0k hb
 have b2:=K1i hb
 unfold loV exQ
 split
 · exact⟨_,_,a1,b1,by rw [V0e];rfl⟩
 · split
   · exact⟨_,_,a1,b2,by rw [U0c];rfl⟩
   · rcases j0d (ofN a.lo) (ofN a.hi) (ofN b.lo) (ofN b.hi) with h | h | h | h
     · exact⟨_,_,a1,b1,by rw [h,j0l];rfl⟩
     · exact⟨_,_,a1,b2,by rw [h,j0l];rfl⟩
     · exact⟨_,_,a2,b1,by rw [h,j0l];rfl⟩
     · exact⟨_,_,a2,b2,by rw [h,j0l];rfl⟩
theorem X4t (k:Nat) {a b:Ivl} (ha:Q0n a=true) (hb:Q0n b=true): ∃X U,memI X a∧memI U b∧qV (hiV k (ofN a.lo) (ofN a.hi) (ofN b.lo) (ofN b.hi))=exQ k X U:=by
 have a1:=q0k ha
 have a2:=K1i ha
 have b1:=q0k hb
 have b2:=K1i hb
 unfold hiV exQ
 split
 · exact⟨_,_,a2,b2,by rw [V0e];rfl⟩
 · split
   · exact⟨_,_,a2,b1,by rw [U0c];rfl⟩
   · rcases U1b (ofN a.lo) (ofN a.hi) (ofN b.lo) (ofN b.hi) with h | h | h | h
     · exact⟨_,_,a1,b1,by rw [h];rfl⟩
     · exact⟨_,_,a1,b2,by rw [h];rfl⟩
     · exact⟨_,_,a2,b1,by rw [h];rfl⟩
     · exact⟨_,_,a2,b2,by rw [h];rfl⟩
theorem Z2p {lo hi:Vl} (h1:canV lo) (h2:canV hi) (h:(j0n lo hi).2=0):qN (j0n lo hi).1.lo=qV lo∧qN (j0n lo hi).1.hi=qV hi:=by
 unfold j0n at h⊢
 split
 · rename_i hh
   exact⟨(J0f h1 hh.1).2,(J0f h2 hh.2).2⟩
 · rename_i hh;rw [if_neg hh] at h;cases h
theorem Z1s {k:Nat} {a b:Ivl} {p:Int} (h:(opI k a b p).2=0):Q0n a=true∧Q0n b=true∧Z0t p=true:=by
 unfold opI at h
 split at h
 · assumption
 · cases h
theorem Q2s {k:Nat} {a b:Ivl} {p:Int} (h:(opI k a b p).2=0):qN (opI k a b p).1.lo=qV (Z0k (loV k (ofN a.lo) (ofN a.hi) (ofN b.lo) (ofN b.hi)) p.toNat false)∧qN (opI k a b p).1.hi=qV (Z0k (hiV k (ofN a.lo) (ofN a.hi) (ofN b.lo) (ofN b.hi)) p.toNat true):=by
 have hr:=Z1s h
 have ca:=canI hr.1
 have cb:=canI hr.2.1
 unfold opI at h⊢
 rw [if_pos hr] at h⊢
 exact Z2p (Z0c (V1h k ca.1 ca.2 cb.1 cb.2) _ _) (Z0c (V1i k ca.1 ca.2 cb.1 cb.2) _ _) h
theorem q0e {x y:Rat} (h0:0≤x) (h:x≤y): ∀k,0≤powQ x k∧powQ x k≤powQ y k
 | 0=>⟨by show(0:Rat)≤1;decide,Rat.le_refl⟩
 | k+1=>by
  obtain⟨a1,a2⟩:=q0e h0 h k
  refine⟨J0d a1 h0,?_⟩
  show powQ x k*x≤powQ y k*y
  have p1:=J0d (a:=powQ y k-powQ x k) (b:=x) (by grind) h0
  have p2:=J0d (a:=powQ y k) (b:=y-x) (by grind) (by grind)
  grind
theorem q0f (x:Rat): ∀k,powQ (-x) k=if k % 2=0 then powQ x k else-powQ x k
 | 0=>rfl
 | k+1=>by
  rw [powQ,powQ,q0f x k]
  by_cases h:k % 2=0
  · rw [if_pos h,if_neg (by omega)];grind
  · rw [if_neg h,if_pos (by omega)];grind
theorem Q2j {k:Nat} (hk:k % 2=1) {x y:Rat} (h:x≤y):powQ x k≤powQ y k:=by
 by_cases hx:0≤x
 · exact(q0e hx h k).2
 · have nx:=q0f x k
   rw [if_neg (by omega)] at nx
   by_cases hy:0≤y
   · have a1:=(q0e (x:= -x) (y:= -x) (by grind) Rat.le_refl k).1
     have a2:=(q0e hy Rat.le_refl k).1
     rw [nx] at a1;grind
   · have ny:=q0f y k
     rw [if_neg (by omega)] at ny
     have a1:=(q0e (x:= -y) (y:= -x) (by grind) (by grind) k).2
     rw [nx,ny] at a1;grind
theorem x1f {k:Nat} (hk:k % 2=0) {x y X:Rat} (h1:x≤X) (h2:X≤y):powQ X k≤powQ x k∨powQ X k≤powQ y k:=by
 by_cases hX:0≤X
 · exact .inr (q0e hX h2 k).2
 · have e1:=q0f X k
   have e2:=q0f x k
   rw [if_pos hk] at e1 e2
   have:=(q0e (x:= -X) (y:= -x) (by grind) (by grind) k).2
   rw [e1,e2] at this
   exact .inl this
theorem x1g {k:Nat} (hk:k % 2=0) {x y X:Rat} (h1:x≤X) (h2:X≤y) (h0: ¬(x≤0∧0≤y)):powQ x k≤powQ X k∨powQ y k≤powQ X k:=by
 by_cases hx:0≤x
 · exact .inl (q0e hx h1 k).2
 · have e1:=q0f X k
   have e2:=q0f y k
   rw [if_pos hk] at e1 e2
   have:=(q0e (x:= -y) (y:= -X) (by grind) (by grind) k).2
   rw [e1,e2] at this
   exact .inr this
theorem v1l (a:Ivl) (k:Nat): ∃X,(X=qN a.lo∨X=qN a.hi)∧qV (if V0z (powV (ofN a.lo) k) (powV (ofN a.hi) k)>0 then powV (ofN a.hi) k else powV (ofN a.lo) k)=powQ X k∧powQ X k≤powQ (qN a.lo) k∧powQ X k≤powQ (qN a.hi) k:=by
 have hg:=x1p (powV (ofN a.lo) k) (powV (ofN a.hi) k)
 rw [v0z,v0z,X0k,X0k] at hg
 split
 · rename_i h
   have:=hg.1 h
   exact⟨_,.inr rfl,by rw [v0z,X0k],by grind,Rat.le_refl⟩
 · rename_i h
   have: ¬powQ (qN a.hi) k<powQ (qN a.lo) k:=fun e=>h (hg.2 e)
   exact⟨_,.inl rfl,by rw [v0z,X0k],Rat.le_refl,by grind⟩
theorem v1m (a:Ivl) (k:Nat): ∃X,(X=qN a.lo∨X=qN a.hi)∧qV (J1x a k)=powQ X k∧powQ (qN a.lo) k≤powQ X k∧powQ (qN a.hi) k≤powQ X k:=by
 have hg:=x1p (powV (ofN a.lo) k) (powV (ofN a.hi) k)
 rw [v0z,v0z,X0k,X0k] at hg
 unfold J1x
 split
 · rename_i h
   have:=hg.1 h
   exact⟨_,.inl rfl,by rw [v0z,X0k],Rat.le_refl,by grind⟩
 · rename_i h
   have: ¬powQ (qN a.hi) k<powQ (qN a.lo) k:=fun e=>h (hg.2 e)
   exact⟨_,.inr rfl,by rw [v0z,X0k],by grind,Rat.le_refl⟩
theorem G2d {a:Ivl} (h:Q0n a=true) {X:Rat} (hX:X=qN a.lo∨X=qN a.hi):memI X a:=by
 rcases hX with rfl | rfl
 · exact q0k h
 · exact K1i h
theorem Q2l {a:Ivl} (h:Q0n a=true) (k:Nat) {X:Rat} (hX:memI X a):powQ X k≤qV (J1x a k):=by
 obtain⟨Y,_,e,m1,m2⟩:=v1m a k
 rw [e]
 by_cases hk:k % 2=0
 · rcases x1f hk hX.1 hX.2 with c | c
   · exact Rat.le_trans c m1
   · exact Rat.le_trans c m2
 · exact Rat.le_trans (Q2j (by omega) hX.2) m2
theorem j2x {a:Ivl} (h:Q0n a=true) (k:Nat): ∃X,memI X a∧qV (J1x a k)=powQ X k:=by
 obtain⟨Y,h1,e,_,_⟩:=v1m a k
 exact⟨Y,G2d h h1,e⟩
theorem Q2k {a:Ivl} (h:Q0n a=true) (k:Nat) {X:Rat} (hX:memI X a):qV (Z1g a k)≤powQ X k:=by
 have hz:=K1o h
 unfold Z1g
 split
 · rename_i hc
   rw [show qV ⟨false,0,0⟩=0 from y0y rfl]
   obtain⟨m,hm⟩: ∃m,k=2*m:=⟨k/2,by omega⟩
   rw [hm];exact x1h X m
 · rename_i hc
   obtain⟨Y,_,e,m1,m2⟩:=v1l a k
   rw [e]
   by_cases h0:k=0
   · subst h0;exact Rat.le_refl
   by_cases hk:k % 2=0
   · have hnz: ¬(qN a.lo≤0∧0≤qN a.hi):=fun e=>hc ⟨by omega,hk,hz.2 e⟩
     rcases x1g hk hX.1 hX.2 hnz with c | c
     · exact Rat.le_trans m1 c
     · exact Rat.le_trans m2 c
   · exact Rat.le_trans m1 (Q2j (by omega) hX.1)
theorem j2u {a:Ivl} (h:Q0n a=true) (k:Nat): ∃X,memI X a∧qV (Z1g a k)=powQ X k:=by
 have hz:=K1o h
 unfold Z1g
 split
 · rename_i hc
   obtain⟨z1,z2⟩:=hz.1 hc.2.2
   exact⟨0,⟨z1,z2⟩,by rw [U2g k hc.1];exact y0y rfl⟩
 · obtain⟨Y,h1,e,_,_⟩:=v1l a k
   exact⟨Y,G2d h h1,e⟩
theorem x1i {a:Ivl} {k p:Int} (h:(powI a k p).2=0):Q0n a=true∧0≤k∧k≤8∧Z0t p=true:=by
 unfold powI at h
 split at h
 · assumption
 · cases h
theorem U2h {a:Ivl} {k p:Int} (h:(powI a k p).2=0):qN (powI a k p).1.lo=qV (Z0k (Z1g a k.toNat) p.toNat false)∧qN (powI a k p).1.hi=qV (Z0k (J1x a k.toNat) p.toNat true):=by
 have hr:=x1i h
 unfold powI at h⊢
 rw [if_pos hr] at h⊢
 exact Z2p (Z0c (Q1l hr.1 _) _ _) (Z0c (Q1m hr.1 _) _ _) h
theorem J2t (a:Ivl) (k p:Int):Q0n (powI a k p).1=true:=by
 unfold powI
 split
 · rename_i hr
   refine k0t (Z0c (Q1l hr.1 _) _ _) (Z0c (Q1m hr.1 _) _ _) ?_
   have h1:=Q2k hr.1 k.toNat (q0k hr.1)
   have h2:=Q2l hr.1 k.toNat (q0k hr.1)
   have h3:=Y0n (Z1g a k.toNat) p.toNat
   have h4:=H0l (J1x a k.toNat) p.toNat
   grind
 · decide
theorem j2t {L U:Nat} {a:Ivl} (ha:luI L U a) (k:Nat):luQ (L*k) (U*k) (qV (Z1g a k)):=by
 have h1:=K1k ha.2.1 k
 have h2:=K1k ha.2.2 k
 unfold Z1g
 split
 · rw [show qV ⟨false,0,0⟩=0 from y0y rfl];exact q0l _ _
 · obtain⟨Y,hY,e,_,_⟩:=v1l a k
   rw [e]
   rcases hY with rfl | rfl
   · exact h1
   · exact h2
theorem j2w {L U:Nat} {a:Ivl} (ha:luI L U a) (k:Nat):luQ (L*k) (U*k) (qV (J1x a k)):=by
 obtain⟨Y,hY,e,_,_⟩:=v1m a k
 rw [e]
 rcases hY with rfl | rfl
 · exact K1k ha.2.1 k
 · exact K1k ha.2.2 k
theorem J3v {L U:Nat} {a:Ivl} {k p:Int} (ha:luI L U a) (h0:0≤k) (h8:k≤8) (hp:Z0t p=true) (hb:L*k.toNat+U*k.toNat+2≤4096):(powI a k p).2=0∧luI (L*k.toNat) (U*k.toNat+1) (powI a k p).1:=by
 have pp:=V0i hp
 have c1:=Q1l ha.1 k.toNat
 have c2:=Q1m ha.1 k.toNat
 have hr:=J2t a k p
 unfold powI at hr⊢
 rw [if_pos ⟨ha.1,h0,h8,hp⟩] at hr⊢
 refine H1s (Z0c c1 _ _) (Z0c c2 _ _) (W0k c1 (j2t ha _) _ pp _) (W0k c2 (j2w ha _) _ pp _) (by omega) ?_
 have h1:=Q2k ha.1 k.toNat (q0k ha.1)
 have h2:=Q2l ha.1 k.toNat (q0k ha.1)
 have h3:=Y0n (Z1g a k.toNat) p.toNat
 have h4:=H0l (J1x a k.toNat) p.toNat
 grind
theorem Y1p {m:Mn} {b:List Ivl} {p:Int} {i:Nat} (h:(Y0w m b p (i+1)).2=0):(Y0w m b p i).2=0:=by
 rw [Y0w] at h
 split at h
 · rename_i c;exact absurd h c
 · rename_i c;exact Classical.not_not.1 c
theorem J2w {m:Mn} {b:List Ivl} {p:Int} {i:Nat} (h:(Y0w m b p (i+1)).2=0):(m.ks.getD i 0=0∧Y0w m b p (i+1)=Y0w m b p i)∨
 (m.ks.getD i 0≠0∧(powI (b.getD i default) (m.ks.getD i 0) p).2=0∧Y0w m b p (i+1)=opI 2 (Y0w m b p i).1 (powI (b.getD i default) (m.ks.getD i 0) p).1 p):=by
 have h0:=Y1p h
 rw [Y0w] at h⊢
 rw [if_neg (by rw [h0];decide)] at h⊢
 by_cases c:m.ks.getD i 0=0
 · rw [if_pos c];exact .inl ⟨c,rfl⟩
 · rw [if_neg c] at h⊢
   split at h
   · rename_i d;exact absurd h d
   · rename_i d
     rw [if_neg d]
     exact .inr ⟨c,Classical.not_not.1 d,rfl⟩
def sumK (ks:List Int) (i:Nat):Nat:=(ks.take i).sum.toNat
theorem Q2p {m:Mn} {b:List Ivl} {p:Int} {Lc Uc L U:Nat} (hp:Z0t p=true) (hm:Q0f m.c=true∧luQ Lc Uc (qN m.c)) (hk:U0h m.ks=true) (hbd:Lc+Uc+8*L+8*U+20≤4096):
 ∀i,i≤4→i≤m.ks.length→(∀j,j<i→luI L U (b.getD j default))→(Y0w m b p i).2=0∧luI (Lc+L*sumK m.ks i) (Uc+U*sumK m.ks i+2*i) (Y0w m b p i).1
 | 0,_,_,_=>⟨rfl,(show luI Lc Uc ⟨m.c,m.c⟩ from⟨k0j hm.1,hm.2,hm.2⟩).mono (by omega) (by omega)⟩
 | i+1,h4,hi,hb=>by
  obtain⟨e1,e2⟩:=Q2p hp hm hk hbd i (by omega) (by omega) fun j hj=>hb j (by omega)
  have hs:=V0s hk (i+1) hi
  have hs0:=V0s hk i (by omega)
  have hat:=U0t hk i (by omega)
  have hst:=x0n m.ks i (by omega)
  have hsum:sumK m.ks (i+1)=sumK m.ks i+(m.ks.getD i 0).toNat:=by unfold sumK;omega
  have hs8:sumK m.ks (i+1)≤8:=by unfold sumK;omega
  rw [Y0w,if_neg (by rw [e1];decide)]
  by_cases c:m.ks.getD i 0=0
  · rw [if_pos c]
    refine⟨e1,e2.mono ?_ ?_⟩
    · rw [hsum,c];exact Nat.le_refl _
    · rw [hsum,c,show(0:Int).toNat=0 from rfl,Nat.add_zero];omega
  · rw [if_neg c]
    have hL8:L*(sumK m.ks i+(m.ks.getD i 0).toNat)≤L*8:=Nat.mul_le_mul_left _ (by omega)
    have hU8:U*(sumK m.ks i+(m.ks.getD i 0).toNat)≤U*8:=Nat.mul_le_mul_left _ (by omega)
    rw [Nat.mul_add] at hL8 hU8
    obtain⟨p1,p2⟩:=J3v (hb i (by omega)) hat.1 hat.2 hp (by omega)
    rw [if_neg (by rw [p1];decide)]
    obtain⟨o1,o2⟩:=U2u e2 p2 hp (by omega)
    refine⟨o1,o2.mono ?_ ?_⟩
    · rw [hsum,Nat.mul_add];omega
    · rw [hsum,Nat.mul_add];omega
theorem v1i {q:List Mn} {b:List Ivl} {p:Int} {i:Nat} (h:(J0c q b p (i+1)).2=0):(J0c q b p i).2=0∧(Y0w (q.getD i default) b p b.length).2=0∧J0c q b p (i+1)=opI 0 (J0c q b p i).1 (Y0w (q.getD i default) b p b.length).1 p:=by
 rw [J0c] at h⊢
 split at h
 · rename_i c;exact absurd h c
 · rename_i c
   rw [if_neg c]
   split at h
   · rename_i d;exact absurd h d
   · rename_i d
     rw [if_neg d]
     exact⟨Classical.not_not.1 c,Classical.not_not.1 d,rfl⟩
theorem z1x {q:List Mn} {b:List Ivl} {p:Int} {Lc Uc L U:Nat} (hp:Z0t p=true) (hq: ∀j,j<q.length→Q0f (q.getD j default).c=true∧luQ Lc Uc (qN (q.getD j default).c)∧U0h (q.getD j default).ks=true∧(q.getD j default).ks.length=b.length)
 (hb4:b.length≤4) (hb: ∀j,j<b.length→luI L U (b.getD j default)) (hql:q.length≤24) (hbd:Lc+Uc+8*L+8*U+80≤4096):
 ∀i,i≤q.length→(J0c q b p i).2=0∧luI (Lc+L*8) (Uc+U*8+8+2*i) (J0c q b p i).1
 | 0,_=>⟨rfl,v2b _ _⟩
 | i+1,hi=>by
  obtain⟨e1,e2⟩:=z1x hp hq hb4 hb hql hbd i (by omega)
  obtain⟨q1,q2,q3,q4⟩:=hq i (by omega)
  obtain⟨o1,o2⟩:=Q2p (b:=b) hp ⟨q1,q2⟩ q3 (by omega) b.length hb4 (by omega) hb
  have hs:=V0s q3 b.length (by omega)
  have hs8:sumK (q.getD i default).ks b.length≤8:=by unfold sumK;omega
  have hL8:L*sumK (q.getD i default).ks b.length≤L*8:=Nat.mul_le_mul_left _ hs8
  have hU8:U*sumK (q.getD i default).ks b.length≤U*8:=Nat.mul_le_mul_left _ hs8
  have o3:luI (Lc+L*8) (Uc+U*8+8+2*i) (Y0w (q.getD i default) b p b.length).1:=o2.mono (by omega) (by omega)
  rw [J0c,if_neg (by rw [e1];decide),if_neg (by rw [o1];decide)]
  obtain⟨a1,a2⟩:=U2v (k:=0) (by omega) e2 o3 hp (by omega)
  exact⟨a1,a2.mono (by omega) (by omega)⟩
end Go.Pv
end
section
/-Values of small polynomials;along a line a polynomial of degree two changes as its derivatives at the middle say. No program in it. -/
namespace Go.Pv
def j3c (m:Mn) (j:Nat) (X:Nat→Rat) (i:Nat):Rat:=((m.ks.getD j 0:Int):Rat)*X3t ⟨m.c,decK m.ks j⟩ X i
def sumR (f:Nat→Rat):Nat→Rat
 | 0=>0
 | i+1=>sumR f i+f i
def K4m (p:List Mn) (j:Nat) (X:Nat→Rat) (n:Nat):Nat→Rat
 | 0=>0
 | i+1=>K4m p j X n i+j3c (p.getD i default) j X n
end Go.Pv
end
