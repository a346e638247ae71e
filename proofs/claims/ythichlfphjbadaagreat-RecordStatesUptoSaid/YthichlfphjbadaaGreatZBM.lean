/- Parts of the walk: M47, M48, M49, M50. -/
import Derived.Test.YthichlfphjbadaaGreatZBE
import Derived.Test.YthichlfphjbadaaGreatZAR
import Derived.Test.YthichlfphjbadaaGreatZN
set_option linter.unusedVariables false
set_option linter.unusedSimpArgs false
section
/-The document's gather,for terms in any order:what comes of small terms is a right polynomial. No program in it. -/
namespace Go.Pv
def insT (t:Tm):List Tm→List Tm
 | []=> [t]
 | o::r=>if ordK o.ks t.ks>0 then o::insT t r else if ordK o.ks t.ks=0 then⟨J0p o.v t.v,o.ks⟩::r else t::o::r
def gatT :List Tm→List Tm→List Tm
 | [],acc=>acc
 | t::r,acc=>gatT r (insT t acc)
theorem U1w (t:Tm): ∀(k:Nat) (O:List Tm),k≤O.length→(∀q,q<k→ordK (O.getD q default).ks t.ks>0)→insT t O=O.take k++insT t (O.drop k)
 | 0,O,_,_=>by simp
 | k+1,[],h,_=>by simp at h
 | k+1,o::r,h,h1=>by
  have h0:ordK o.ks t.ks>0:=h1 0 (by omega)
  rw [insT,if_pos h0,U1w t k r (by simpa using h) (fun q hq=>h1 (q+1) (by omega))]
  simp
theorem j2c {t:Tm} {O:List Tm} (h: ∀q,q<O.length→ordK (O.getD q default).ks t.ks>0):insT t O=O++ [t]:=by
 rw [U1w t O.length O (Nat.le_refl _) h,List.take_length,List.drop_length,insT]
theorem Y2r {t:Tm} {O:List Tm} {k:Nat} (hk:k<O.length) (h: ∀q,q<k→ordK (O.getD q default).ks t.ks>0) (h0:ordK (O.getD k default).ks t.ks=0):
 insT t O=O.set k ⟨J0p (O.getD k default).v t.v,(O.getD k default).ks⟩:=by
 rw [U1w t k O (by omega) h,show O.drop k=O.getD k default::O.drop (k+1) from by rw [List.drop_eq_getElem_cons hk];simp [List.getD_eq_getElem?_getD,hk],insT,if_neg (by omega),if_pos h0,List.set_eq_take_append_cons_drop,if_pos hk]
theorem Y2s {t:Tm} {O:List Tm} {k:Nat} (hk:k<O.length) (h: ∀q,q<k→ordK (O.getD q default).ks t.ks>0) (h0: ¬ordK (O.getD k default).ks t.ks>0) (h1:ordK (O.getD k default).ks t.ks≠0):
 insT t O=O.take k++t::O.drop k:=by
 rw [U1w t k O (by omega) h,show O.drop k=O.getD k default::O.drop (k+1) from by rw [List.drop_eq_getElem_cons hk];simp [List.getD_eq_getElem?_getD,hk],insT,if_neg h0,if_neg h1]
theorem U1v {t x:Tm} : ∀ {O:List Tm},x∈insT t O→x=t∨x∈O∨ ∃o∈O,x=⟨J0p o.v t.v,o.ks⟩
 | [],h=>by rw [insT] at h;exact .inl (List.mem_singleton.1 h)
 | o::r,h=>by
  rw [insT] at h
  split at h
  · rcases List.mem_cons.1 h with rfl | h
    · exact .inr (.inl (by simp))
    · rcases U1v h with h | h | ⟨o',h1,h2⟩
      · exact .inl h
      · exact .inr (.inl (by simp [h]))
      · exact .inr (.inr ⟨o',by simp [h1],h2⟩)
  · split at h
    · rcases List.mem_cons.1 h with h | h
      · exact .inr (.inr ⟨o,by simp,h⟩)
      · exact .inr (.inl (by simp [h]))
    · rcases List.mem_cons.1 h with h | h
      · exact .inl h
      · exact .inr (.inl h)
theorem X3q {t x:Tm} {O:List Tm} (h:x∈insT t O):x.ks=t.ks∨ ∃o∈O,x.ks=o.ks:=by
 rcases U1v h with h | h | ⟨o',h1,h2⟩
 · exact .inl (by rw [h])
 · exact .inr ⟨x,h,rfl⟩
 · exact .inr ⟨o',h1,by rw [h2]⟩
theorem q1v : ∀(a b:List Int),a.length=b.length→ordK a b= -ordK b a
 | [],[],_=>rfl
 | x::a,y::b,h=>by
  rw [ordK,ordK,q1v a b (by simpa using h)]
  by_cases h1:x>y
  · rw [if_pos h1,if_neg (by omega),if_pos (by omega)];rfl
  · rw [if_neg h1]
    by_cases h2:x<y
    · rw [if_pos h2,if_pos (by omega)]
    · rw [if_neg h2,if_neg (by omega),if_neg (by omega)]
theorem W1l {t:Tm} {n:Nat} (ht:t.ks.length=n): ∀ {O:List Tm},(∀o∈O,o.ks.length=n)→J1n (O.map Tm.ks)→J1n ((insT t O).map Tm.ks)
 | [],_,_=>List.pairwise_singleton _ _
 | o::r,hl,h=>by
  obtain⟨h1,h2⟩:=List.pairwise_cons.1 h
  have lo:o.ks.length=n:=hl o (by simp)
  have ih:=W1l ht (O:=r) (fun x hx=>hl x (by simp [hx])) h2
  rw [insT]
  split
  · rename_i hg
    have hg1:ordK o.ks t.ks=1:=by rcases U1l o.ks t.ks with e | e | e<;>omega
    refine List.pairwise_cons.2 ⟨fun k hk=> ?_,ih⟩
    obtain⟨x,hx,rfl⟩:=List.mem_map.1 hk
    rcases X3q hx with e | ⟨o',e1,e2⟩
    · rw [e];exact hg1
    · rw [e2];exact h1 _ (List.mem_map.2 ⟨o',e1,rfl⟩)
  · split
    · exact List.pairwise_cons.2 ⟨h1,h2⟩
    · rename_i hg h0
      have hg1:ordK t.ks o.ks=1:=by
       rw [q1v _ _ (by rw [ht,lo])]
       rcases U1l o.ks t.ks with e | e | e<;>omega
      refine List.pairwise_cons.2 ⟨fun k hk=> ?_,h⟩
      rcases List.mem_cons.1 hk with rfl | hk
      · exact hg1
      · obtain⟨x,hx,rfl⟩:=List.mem_map.1 hk
        exact W1b _ _ _ (by rw [ht,lo]) (by rw [lo,hl x (by simp [hx])]) hg1 (h1 _ (List.mem_map.2 ⟨x,hx,rfl⟩))
theorem j0s (t:Tm): ∀(O:List Tm),(insT t O).length≤O.length+1
 | []=>by simp [insT]
 | o::r=>by
  have:=j0s t r
  rw [insT];split
  · simpa using this
  · split<;>simp
def okT (n L U:Nat) (D:Int) (t:Tm):Prop:=t.ks.length=n∧Y0y t.ks=true∧t.ks.sum≤D∧canV t.v∧luQ L U (qV t.v)
theorem okT.up {n L U U':Nat} {D:Int} {t:Tm} (h:okT n L U D t) (hu:U≤U'):okT n L U' D t:=⟨h.1,h.2.1,h.2.2.1,h.2.2.2.1,h.2.2.2.2.up hu⟩
theorem X3p {n L U:Nat} {D:Int} {t:Tm} {O:List Tm} (ht:okT n L U D t) (hO: ∀o∈O,okT n L U D o): ∀x∈insT t O,okT n L (U+1) D x:=fun x hx=>by
 rcases U1v hx with rfl | h | ⟨o,h1,rfl⟩
 · exact ht.up (by omega)
 · exact(hO x h).up (by omega)
 · obtain⟨a1,a2,a3,a4,a5⟩:=hO o h1
   exact⟨a1,a2,a3,K0r a4 ht.2.2.2.1,by show luQ L (U+1) (qV (J0p o.v t.v));rw [K0z];exact H0v a5 ht.2.2.2.2⟩
theorem k1l {n L:Nat} {D:Int} : ∀(ts acc:List Tm) (U:Nat),(∀t∈ts,okT n L U D t)→(∀t∈acc,okT n L U D t)→J1n (acc.map Tm.ks)→
 (∀t∈gatT ts acc,okT n L (U+ts.length) D t)∧J1n ((gatT ts acc).map Tm.ks)∧(gatT ts acc).length≤acc.length+ts.length
 | [],acc,U,_,h2,h3=>⟨h2,h3,Nat.le_refl _⟩
 | t::r,acc,U,h1,h2,h3=>by
  have h4:=X3p (h1 t (by simp)) h2
  have h5:=W1l (h1 t (by simp)).1 (fun o ho=>(h2 o ho).1) h3
  obtain⟨a1,a2,a3⟩:=k1l r (insT t acc) (U+1) (fun x hx=>(h1 x (by simp [hx])).up (by omega)) h4 h5
  have h6:=j0s t acc
  rw [gatT]
  refine⟨fun x hx=> ?_,a2,by simp only [List.length_cons];omega⟩
  have:=a1 x hx
  rw [List.length_cons,show U+(r.length+1)=U+1+r.length from by omega]
  exact this
theorem z1i (t:Tm): ∀(ts acc:List Tm),gatT (ts++ [t]) acc=insT t (gatT ts acc)
 | [],acc=>rfl
 | x::r,acc=>by
  show gatT (r++ [t]) (insT x acc)=insT t (gatT r (insT x acc))
  exact z1i t r _
def monT (t:Tm):Mn:=⟨(numV t.v).1,t.ks⟩
theorem y1m {n L U:Nat} {D:Int} (hb:L+U+1≤4096): ∀(ts:List Tm) (acc:List Mn),(∀t∈ts,okT n L U D t)→H0w ts acc=(acc++(ts.filter (fun t=>decide (W0j t.v≠0))).map monT,0)
 | [],acc,_=>by simp [H0w]
 | t::r,acc,h=>by
  obtain⟨a1,a2,a3,a4,a5⟩:=h t (by simp)
  have ih:=fun acc=>y1m hb r acc fun t ht=>h t (by simp [ht])
  rw [H0w]
  by_cases c:W0j t.v=0
  · rw [if_pos c,ih,List.filter_cons_of_neg (by simp [c])]
  · rw [if_neg c,if_neg (by rw [U0f a4 a5 hb];decide),ih,List.filter_cons_of_pos (by simp [c]),List.map_cons,List.append_assoc]
    rfl
def okMn (n L U:Nat) (D:Int) (m:Mn):Prop:=m.ks.length=n∧Y0y m.ks=true∧m.ks.sum≤D∧Q0f m.c=true∧m.c.w.length≠0∧luQ L U (qN m.c)
theorem v2t {x:Nm} (h:x.w.length=0):qN x=0:=by
 have e:x.w= []:=List.eq_nil_of_length_eq_zero h
 rw [←X0g]
 refine w0s ?_
 show valW x.w=0
 rw [e];rfl
theorem X3b {n L U:Nat} {D:Int} {t:Tm} (hb:L+U+1≤4096) (h:okT n L U D t) (hs:W0j t.v≠0):okMn n L U D (monT t):=by
 obtain⟨a1,a2,a3,a4,a5⟩:=h
 have h0:=U0f a4 a5 hb
 obtain⟨v1,v2⟩:=J0f a4 h0
 refine⟨a1,a2,a3,J0k (y0g a4),fun e=>hs ?_,?_⟩
 · have e1:=v2t e
   have e2:qV t.v=0:=by rw [←v2];exact e1
   have p1:=v1q t.v
   have p2:=v1r t.v
   have p3:=v1s t.v
   rw [e2] at p1 p2 p3
   have:=p2.2 Rat.le_refl
   have:=p3.2 Rat.le_refl
   omega
 · show luQ L U (qN (numV t.v).1)
   rw [v2];exact a5
theorem V2a {p:List Mn} {n:Nat} {L U:Nat} {D:Int} (hn:1≤n) (hn4:n≤4) (hl:p.length≤24) (hp: ∀m∈p,okMn n L U D m) (hf:J1n (p.map Mn.ks)):V0k p n=true:=by
 refine(x0e p n).2 ⟨⟨by omega,by omega,hl⟩,fun i hi=>(X1s p n i).2 ?_⟩
 have hg: ∀j,j<p.length→okMn n L U D (p.getD j default):=fun j hj=>by
  rw [show p.getD j default=p[j] by simp [List.getD_eq_getElem?_getD,hj]]
  exact hp _ (List.getElem_mem hj)
 obtain⟨a1,a2,a3,a4,a5,a6⟩:=hg i hi
 refine⟨(q1z _ _).2 ⟨by omega,a2,a4⟩,a5,?_⟩
 by_cases h0:i=0
 · exact .inl h0
 · refine .inr ?_
   have:=List.pairwise_iff_getElem.1 hf (i-1) i (by simp;omega) (by simpa using hi) (by omega)
   simpa [List.getD_eq_getElem?_getD,hi,(by omega:i-1<p.length)] using this
theorem X2n {n L U:Nat} {D:Int} {ts:List Tm} (hb:L+U+ts.length+1≤4096) (hn:1≤n) (hn4:n≤4) (hl:ts.length≤24) (h: ∀t∈ts,okT n L U D t):
 (H0w (gatT ts []) []).2=0∧V0k (H0w (gatT ts []) []).1 n=true∧(∀m∈(H0w (gatT ts []) []).1,okMn n L (U+ts.length) D m)∧(H0w (gatT ts []) []).1.length≤ts.length:=by
 obtain⟨g1,g2,g3⟩:=k1l ts [] U h (fun t ht=>by cases ht) List.Pairwise.nil
 rw [y1m (n:=n) (L:=L) (U:=U+ts.length) (D:=D) (by omega) _ _ g1]
 have hfl:((gatT ts []).filter (fun t=>decide (W0j t.v≠0))).length≤ts.length:=by
  have:=List.length_filter_le (fun t:Tm=>decide (W0j t.v≠0)) (gatT ts [])
  simp only [List.length_nil] at g3;omega
 have hm: ∀m∈((gatT ts []).filter (fun t=>decide (W0j t.v≠0))).map monT,okMn n L (U+ts.length) D m:=fun m hm=>by
  obtain⟨t,ht,rfl⟩:=List.mem_map.1 hm
  obtain⟨t1,t2⟩:=List.mem_filter.1 ht
  exact X3b (by omega) (g1 t t1) (of_decide_eq_true t2)
 refine⟨rfl,?_,by simpa using hm,by simpa using hfl⟩
 rw [List.nil_append]
 refine V2a hn hn4 (by simp only [List.length_map];omega) hm ?_
 rw [List.map_map]
 have:J1n (((gatT ts []).filter (fun t=>decide (W0j t.v≠0))).map Tm.ks):=by
  unfold J1n at g2⊢
  rw [List.pairwise_map] at g2⊢
  exact g2.filter _
 exact this
end Go.Pv
end
section
/-Rounding to p bits is the greatest value of p bits that is not above,so it keeps the order. No program in it. -/
namespace Go.Pv
def J3c (p:Nat) (x:Rat):Prop:= ∃m e:Int,x=qM m e∧m.natAbs≤2^p
theorem v1u (v:Vl) (p:Nat) (h: ¬Q0j v.m≤p): ∃k:Int,qV (Z0h v p false)=qM (k*2^(Q0j v.m-p)) v.e∧k*2^(Q0j v.m-p)≤Z0x v∧(∀j:Int,j*2^(Q0j v.m-p)≤Z0x v→j≤k)∧k.natAbs≤2^p:=by
 unfold Z0h
 rw [if_neg h,v0d,x0d]
 have hb:=X0b v.m
 have hbp:2^Q0j v.m=2^p*2^(Q0j v.m-p):=by rw [←Nat.pow_add];congr 1;omega
 generalize Q0j v.m-p=d at*
 have hD:=Nat.two_pow_pos d
 have h1:=Nat.div_add_mod v.m (2^d)
 have h2:=Nat.mod_lt v.m hD
 have hq:v.m/2^d<2^p:=by
  rw [Nat.div_lt_iff_lt_mul hD,←hbp];exact hb
 have hcast:((2^d:Nat):Int)=(2:Int)^d:=by simp
 have hD':(0:Int)<(2:Int)^d:=by rw [←hcast];exact_mod_cast hD
 unfold Z0x
 cases hn:v.neg
 · refine⟨((v.m/2^d:Nat):Int),?_,?_,fun j hj=> ?_,by rw [Int.natAbs_natCast];exact Nat.le_of_lt hq⟩
   · rw [if_neg (by simp),if_neg (by simp),Nat.add_zero,Int.natCast_mul,hcast]
   · rw [if_neg (by simp),←hcast,←Int.natCast_mul]
     have:=Nat.div_mul_le_self v.m (2^d)
     omega
   · rw [if_neg (by simp)] at hj
     by_cases hj0:j<0
     · have:(0:Int)≤((v.m/2^d:Nat):Int):=Int.natCast_nonneg _
       omega
     · obtain⟨n,rfl⟩:=Int.eq_ofNat_of_zero_le (by omega:0≤j)
       rw [←hcast,←Int.natCast_mul] at hj
       have hj':n*2^d≤v.m:=by exact_mod_cast hj
       have:=(Nat.le_div_iff_mul_le hD).2 hj'
       exact_mod_cast this
 · generalize hc':(if v.m % 2^d≠0∧false≠true then 1 else 0)=c
   have hc:(v.m % 2^d≠0∧c=1)∨(v.m % 2^d=0∧c=0):=by
    by_cases h3:v.m % 2^d=0
    · rw [if_neg (by simp [h3])] at hc';exact .inr ⟨h3,hc'.symm⟩
    · rw [if_pos ⟨h3,by simp⟩] at hc';exact .inl ⟨h3,hc'.symm⟩
   refine⟨-((v.m/2^d+c:Nat):Int),?_,?_,fun j hj=> ?_,by rw [Int.natAbs_neg];simp only [Int.natAbs_natCast];omega⟩
   · rw [if_pos rfl];congr 1;rw [Int.neg_mul,←hcast,←Int.natCast_mul]
   · rw [if_pos rfl,Int.neg_mul,←hcast,←Int.natCast_mul]
     have:v.m≤(v.m/2^d+c)*2^d:=by
      rw [Nat.mul_comm] at h1
      rw [Nat.add_mul]
      rcases hc with ⟨a,rfl⟩ | ⟨a,rfl⟩<;>omega
     omega
   · rw [if_pos rfl] at hj
     by_cases hj0:0<j
     · have:0<j*(2:Int)^d:=Int.mul_pos hj0 hD'
       omega
     · obtain⟨n,hn'⟩:=Int.eq_ofNat_of_zero_le (by omega:0≤ -j)
       obtain rfl:j= -(n:Int):=by omega
       rw [Int.neg_mul,←hcast,←Int.natCast_mul] at hj
       have hj':v.m≤n*2^d:=by omega
       have:v.m/2^d+c≤n:=by
        rcases hc with ⟨a,rfl⟩ | ⟨a,rfl⟩
        · have:v.m/2^d<n:=by
           refine Nat.lt_of_not_le fun hle=> ?_
           have:=Nat.mul_le_mul_right (2^d) hle
           rw [Nat.mul_comm] at h1
           omega
          omega
        · have:=Nat.div_le_div_right (c:=2^d) hj'
          rw [Nat.mul_div_cancel _ hD] at this
          omega
       omega
theorem J3b (v:Vl) (p:Nat):J3c p (qV (Z0h v p false)):=by
 by_cases h:Q0j v.m≤p
 · unfold Z0h
   rw [if_pos h]
   refine⟨Z0x v,v.e,rfl,?_⟩
   rw [x0j]
   exact Nat.le_of_lt (Nat.lt_of_lt_of_le (X0b v.m) (Nat.pow_le_pow_right (by decide) h))
 · obtain⟨k,h1,h2,h3,h4⟩:=v1u v p h
   exact⟨k,v.e+((Q0j v.m-p:Nat):Int),by rw [h1,W0m],h4⟩
theorem V1i {v:Vl} {p:Nat} (hp:1≤p) {x:Rat} (hx:J3c p x) (hle:x≤qV v):x≤qV (Z0h v p false):=by
 by_cases h:Q0j v.m≤p
 · unfold Z0h;rw [if_pos h];exact hle
 · obtain⟨k,h1,h2,h3,h4⟩:=v1u v p h
   rw [h1]
   obtain⟨m,e,rfl,hm⟩:=hx
   have h0:v.m≠0:=fun e=>by rw [e,K0t] at h;omega
   have hlow:=v0f h0
   obtain⟨d,hd⟩: ∃d,Q0j v.m-p=d:=⟨_,rfl⟩
   rw [hd] at h1 h2 h3⊢
   have hd1:1≤d:=by omega
   have hlow':2^(p-1)*2^d≤v.m:=by rw [←Nat.pow_add];exact Nat.le_trans (Nat.pow_le_pow_right (by decide) (by omega)) hlow
   have hcast:((2^(p-1):Nat):Int)=(2:Int)^(p-1):=by simp
   have hcd:((2^d:Nat):Int)=(2:Int)^d:=by simp
   unfold qV at hle
   by_cases he:v.e+d≤e
   · have e1:qM m e=qM (m*2^(e-(v.e+d)).toNat*2^d) v.e:=by
      rw [W0m,W0m];congr 1;omega
     rw [e1,qM_le] at hle⊢
     have:=h3 _ hle
     exact Int.mul_le_mul_of_nonneg_right this (Int.le_of_lt (by rw [←hcd];exact_mod_cast Nat.two_pow_pos d))
   · -- |x| is at most 2^(p-1) units
     have hb: ∀s:Int,s.natAbs≤2^p→qM s e≤qM ((2:Int)^(p-1)*2^d) v.e:=fun s hs=>by
      have e2:(2:Int)^(p-1)*2^d=2^p*2^(d-1):=by rw [←Int.pow_add,←Int.pow_add];congr 1;omega
      rw [e2,W0m]
      have e3:qM ((2:Int)^p) (v.e+((d-1:Nat):Int))=qM ((2:Int)^p*2^(v.e+((d-1:Nat):Int)-e).toNat) e:=by
       rw [W0m];congr 1;omega
      rw [e3,qM_le]
      have hc2:((2^p:Nat):Int)=(2:Int)^p:=by simp
      have hpos:(1:Int)≤2^(v.e+((d-1:Nat):Int)-e).toNat:=by
       have:0<2^(v.e+((d-1:Nat):Int)-e).toNat:=Nat.two_pow_pos _
       exact_mod_cast this
      have hs':s≤2^p:=by rw [←hc2];omega
      have hp0:(0:Int)≤2^p:=by rw [←hc2];exact Int.natCast_nonneg _
      calc s≤2^p:=hs'
       _=2^p*1:=(Int.mul_one _).symm
       _≤_:=Int.mul_le_mul_of_nonneg_left hpos hp0
     unfold Z0x at h2 h3 hle
     cases hn:v.neg
     · rw [hn,if_neg (by simp)] at h3
       refine Rat.le_trans (hb m hm) ?_
       rw [qM_le]
       have:=h3 ((2:Int)^(p-1)) (by rw [←hcast,←hcd,←Int.natCast_mul];exact_mod_cast hlow')
       exact Int.mul_le_mul_of_nonneg_right this (Int.le_of_lt (by rw [←hcd];exact_mod_cast Nat.two_pow_pos d))
     · rw [hn,if_pos rfl] at h3 hle
       have hx2:=hb (-m) (by rw [Int.natAbs_neg];exact hm)
       rw [X1h] at hx2
       have hx3:qM (-((2:Int)^(p-1)*2^d)) v.e≤qM (-(v.m:Int)) v.e:=by rw [X1h ((2:Int)^(p-1)*2^d)];grind
       have:=h3 (-((2:Int)^(p-1))) (by rw [Int.neg_mul];exact qM_le.1 hx3)
       refine Rat.le_trans hle ?_
       rw [qM_le]
       have h5: -(v.m:Int)≤ -((2:Int)^(p-1))*2^d:=by
        rw [Int.neg_mul,←hcast,←hcd,←Int.natCast_mul]
        have:((2^(p-1)*2^d:Nat):Int)≤(v.m:Int):=by exact_mod_cast hlow'
        omega
       exact Int.le_trans h5 (Int.mul_le_mul_of_nonneg_right this (Int.le_of_lt (by rw [←hcd];exact_mod_cast Nat.two_pow_pos d)))
theorem Z1p {v w:Vl} {p:Nat} (hp:1≤p) (h:qV v≤qV w):qV (Z0h v p false)≤qV (Z0h w p false):=
 V1i hp (J3b v p) (Rat.le_trans (Y0e v p) h)
theorem w0f (v:Vl) (p:Nat):qV (Z0h v p true)= -qV (Z0h (V0f v) p false):=by
 by_cases h0:v.m=0
 · have e:V0f v=v:=by unfold V0f;rw [if_pos h0]
   have hb:Q0j v.m≤p:=by rw [h0,K0t];omega
   rw [e]
   unfold Z0h
   rw [if_pos hb,if_pos hb,w0s h0];rfl
 · have e1:(V0f v).m=v.m:=Z1g v
   have e2:(V0f v).e=v.e:=Z1h v
   have e3:(V0f v).neg= !v.neg:=by unfold V0f;rw [if_neg h0]
   unfold Z0h
   rw [e1,e2,e3]
   split
   · rw [Y0s];grind
   · rw [v0d,v0d]
     have ec:(if v.m % 2^(Q0j v.m-p)≠0∧false≠ !v.neg then 1 else 0)=(if v.m % 2^(Q0j v.m-p)≠0∧true≠v.neg then 1 else 0):=by
      cases v.neg<;>simp
     rw [ec]
     generalize v.m/2^(Q0j v.m-p)+(if v.m % 2^(Q0j v.m-p)≠0∧true≠v.neg then 1 else 0)=M
     rw [←X1h]
     congr 1
     cases v.neg<;>simp
theorem K1j {v w:Vl} {p:Nat} (hp:1≤p) (h:qV v≤qV w):qV (Z0h v p true)≤qV (Z0h w p true):=by
 rw [w0f,w0f]
 have:=Z1p (v:=V0f w) (w:=V0f v) (p:=p) hp (by rw [Y0s,Y0s];grind)
 grind
end Go.Pv
end
section
/-Interval operations keep inclusion;powers and ranges have what they should;of small ones there is no error. No program in it. -/
namespace Go.Pv
def subI (a b:Ivl):Prop:=qN b.lo≤qN a.lo∧qN a.hi≤qN b.hi
theorem Y2u {a b:Ivl} (ha:Q0l a=true) (hb:Q0l b=true):inI a b=true↔subI a b:=by
 rw [X3r]
 constructor
 · rintro⟨_,_,h1,h2⟩;exact⟨cmpN_ge.1 h1,cmpN_ge.1 h2⟩
 · rintro⟨h1,h2⟩;exact⟨ha,hb,cmpN_ge.2 h1,cmpN_ge.2 h2⟩
theorem H0t {a:Ivl} (h:Q0l a=true):memI (qN a.lo) a:=⟨Rat.le_refl,q0t h⟩
theorem X1y {a:Ivl} (h:Q0l a=true):memI (qN a.hi) a:=⟨q0t h,Rat.le_refl⟩
theorem Q4b (k:Nat) {a b:Ivl} (ha:Q0l a=true) (hb:Q0l b=true): ∃X U,memI X a∧memI U b∧qV (loV k (ofN a.lo) (ofN a.hi) (ofN b.lo) (ofN b.hi))=exQ k X U:=by
 have a1:=H0t ha
 have a2:=X1y ha
 have b1:=H0t hb
 have b2:=X1y hb
 unfold loV exQ
 split
 · exact⟨_,_,a1,b1,by rw [K0z];rfl⟩
 · split
   · exact⟨_,_,a1,b2,by rw [Y0t];rfl⟩
   · rcases x0k (ofN a.lo) (ofN a.hi) (ofN b.lo) (ofN b.hi) with h | h | h | h
     · exact⟨_,_,a1,b1,by rw [h,x0v];rfl⟩
     · exact⟨_,_,a1,b2,by rw [h,x0v];rfl⟩
     · exact⟨_,_,a2,b1,by rw [h,x0v];rfl⟩
     · exact⟨_,_,a2,b2,by rw [h,x0v];rfl⟩
theorem Q4l (k:Nat) {a b:Ivl} (ha:Q0l a=true) (hb:Q0l b=true): ∃X U,memI X a∧memI U b∧qV (hiV k (ofN a.lo) (ofN a.hi) (ofN b.lo) (ofN b.hi))=exQ k X U:=by
 have a1:=H0t ha
 have a2:=X1y ha
 have b1:=H0t hb
 have b2:=X1y hb
 unfold hiV exQ
 split
 · exact⟨_,_,a2,b2,by rw [K0z];rfl⟩
 · split
   · exact⟨_,_,a2,b1,by rw [Y0t];rfl⟩
   · rcases W1m (ofN a.lo) (ofN a.hi) (ofN b.lo) (ofN b.hi) with h | h | h | h
     · exact⟨_,_,a1,b1,by rw [h];rfl⟩
     · exact⟨_,_,a1,b2,by rw [h];rfl⟩
     · exact⟨_,_,a2,b1,by rw [h];rfl⟩
     · exact⟨_,_,a2,b2,by rw [h];rfl⟩
theorem y1q {lo hi:Vl} (h1:canV lo) (h2:canV hi) (h:(x0x lo hi).2=0):qN (x0x lo hi).1.lo=qV lo∧qN (x0x lo hi).1.hi=qV hi:=by
 unfold x0x at h⊢
 split
 · rename_i hh
   exact⟨(J0f h1 hh.1).2,(J0f h2 hh.2).2⟩
 · rename_i hh;rw [if_neg hh] at h;cases h
theorem Q1o {k:Nat} {a b:Ivl} {p:Int} (h:(opI k a b p).2=0):Q0l a=true∧Q0l b=true∧Z0q p=true:=by
 unfold opI at h
 split at h
 · assumption
 · cases h
theorem w1r {k:Nat} {a b:Ivl} {p:Int} (h:(opI k a b p).2=0):qN (opI k a b p).1.lo=qV (Z0h (loV k (ofN a.lo) (ofN a.hi) (ofN b.lo) (ofN b.hi)) p.toNat false)∧qN (opI k a b p).1.hi=qV (Z0h (hiV k (ofN a.lo) (ofN a.hi) (ofN b.lo) (ofN b.hi)) p.toNat true):=by
 have hr:=Q1o h
 have ca:=canI hr.1
 have cb:=canI hr.2.1
 unfold opI at h⊢
 rw [if_pos hr] at h⊢
 exact y1q (Z0a (J1u k ca.1 ca.2 cb.1 cb.2) _ _) (Z0a (J1v k ca.1 ca.2 cb.1 cb.2) _ _) h
theorem H0o {x y:Rat} (h0:0≤x) (h:x≤y): ∀k,0≤powQ x k∧powQ x k≤powQ y k
 | 0=>⟨by show(0:Rat)≤1;decide,Rat.le_refl⟩
 | k+1=>by
  obtain⟨a1,a2⟩:=H0o h0 h k
  refine⟨J0b a1 h0,?_⟩
  show powQ x k*x≤powQ y k*y
  have p1:=J0b (a:=powQ y k-powQ x k) (b:=x) (by grind) h0
  have p2:=J0b (a:=powQ y k) (b:=y-x) (by grind) (by grind)
  grind
theorem H0p (x:Rat): ∀k,powQ (-x) k=if k % 2=0 then powQ x k else-powQ x k
 | 0=>rfl
 | k+1=>by
  rw [powQ,powQ,H0p x k]
  by_cases h:k % 2=0
  · rw [if_pos h,if_neg (by omega)];grind
  · rw [if_neg h,if_pos (by omega)];grind
theorem w1i {k:Nat} (hk:k % 2=1) {x y:Rat} (h:x≤y):powQ x k≤powQ y k:=by
 by_cases hx:0≤x
 · exact(H0o hx h k).2
 · have nx:=H0p x k
   rw [if_neg (by omega)] at nx
   by_cases hy:0≤y
   · have a1:=(H0o (x:= -x) (y:= -x) (by grind) Rat.le_refl k).1
     have a2:=(H0o hy Rat.le_refl k).1
     rw [nx] at a1;grind
   · have ny:=H0p y k
     rw [if_neg (by omega)] at ny
     have a1:=(H0o (x:= -y) (y:= -x) (by grind) (by grind) k).2
     rw [nx,ny] at a1;grind
theorem q1k {k:Nat} (hk:k % 2=0) {x y X:Rat} (h1:x≤X) (h2:X≤y):powQ X k≤powQ x k∨powQ X k≤powQ y k:=by
 by_cases hX:0≤X
 · exact .inr (H0o hX h2 k).2
 · have e1:=H0p X k
   have e2:=H0p x k
   rw [if_pos hk] at e1 e2
   have:=(H0o (x:= -X) (y:= -x) (by grind) (by grind) k).2
   rw [e1,e2] at this
   exact .inl this
theorem q1l {k:Nat} (hk:k % 2=0) {x y X:Rat} (h1:x≤X) (h2:X≤y) (h0: ¬(x≤0∧0≤y)):powQ x k≤powQ X k∨powQ y k≤powQ X k:=by
 by_cases hx:0≤x
 · exact .inl (H0o hx h1 k).2
 · have e1:=H0p X k
   have e2:=H0p y k
   rw [if_pos hk] at e1 e2
   have:=(H0o (x:= -y) (y:= -X) (by grind) (by grind) k).2
   rw [e1,e2] at this
   exact .inr this
theorem j1m (a:Ivl) (k:Nat): ∃X,(X=qN a.lo∨X=qN a.hi)∧qV (if V0p (powV (ofN a.lo) k) (powV (ofN a.hi) k)>0 then powV (ofN a.hi) k else powV (ofN a.lo) k)=powQ X k∧powQ X k≤powQ (qN a.lo) k∧powQ X k≤powQ (qN a.hi) k:=by
 have hg:=q1u (powV (ofN a.lo) k) (powV (ofN a.hi) k)
 rw [v0c,v0c,X0g,X0g] at hg
 split
 · rename_i h
   have:=hg.1 h
   exact⟨_,.inr rfl,by rw [v0c,X0g],by grind,Rat.le_refl⟩
 · rename_i h
   have: ¬powQ (qN a.hi) k<powQ (qN a.lo) k:=fun e=>h (hg.2 e)
   exact⟨_,.inl rfl,by rw [v0c,X0g],Rat.le_refl,by grind⟩
theorem j1n (a:Ivl) (k:Nat): ∃X,(X=qN a.lo∨X=qN a.hi)∧qV (X1k a k)=powQ X k∧powQ (qN a.lo) k≤powQ X k∧powQ (qN a.hi) k≤powQ X k:=by
 have hg:=q1u (powV (ofN a.lo) k) (powV (ofN a.hi) k)
 rw [v0c,v0c,X0g,X0g] at hg
 unfold X1k
 split
 · rename_i h
   have:=hg.1 h
   exact⟨_,.inl rfl,by rw [v0c,X0g],Rat.le_refl,by grind⟩
 · rename_i h
   have: ¬powQ (qN a.hi) k<powQ (qN a.lo) k:=fun e=>h (hg.2 e)
   exact⟨_,.inr rfl,by rw [v0c,X0g],by grind,Rat.le_refl⟩
theorem W2w {a:Ivl} (h:Q0l a=true) {X:Rat} (hX:X=qN a.lo∨X=qN a.hi):memI X a:=by
 rcases hX with rfl | rfl
 · exact H0t h
 · exact X1y h
theorem w1k {a:Ivl} (h:Q0l a=true) (k:Nat) {X:Rat} (hX:memI X a):powQ X k≤qV (X1k a k):=by
 obtain⟨Y,_,e,m1,m2⟩:=j1n a k
 rw [e]
 by_cases hk:k % 2=0
 · rcases q1k hk hX.1 hX.2 with c | c
   · exact Rat.le_trans c m1
   · exact Rat.le_trans c m2
 · exact Rat.le_trans (w1i (by omega) hX.2) m2
theorem z2l {a:Ivl} (h:Q0l a=true) (k:Nat): ∃X,memI X a∧qV (X1k a k)=powQ X k:=by
 obtain⟨Y,h1,e,_,_⟩:=j1n a k
 exact⟨Y,W2w h h1,e⟩
theorem w1j {a:Ivl} (h:Q0l a=true) (k:Nat) {X:Rat} (hX:memI X a):qV (Q1f a k)≤powQ X k:=by
 have hz:=J1d h
 unfold Q1f
 split
 · rename_i hc
   rw [show qV ⟨false,0,0⟩=0 from w0s rfl]
   obtain⟨m,hm⟩: ∃m,k=2*m:=⟨k/2,by omega⟩
   rw [hm];exact q1m X m
 · rename_i hc
   obtain⟨Y,_,e,m1,m2⟩:=j1m a k
   rw [e]
   by_cases h0:k=0
   · subst h0;exact Rat.le_refl
   by_cases hk:k % 2=0
   · have hnz: ¬(qN a.lo≤0∧0≤qN a.hi):=fun e=>hc ⟨by omega,hk,hz.2 e⟩
     rcases q1l hk hX.1 hX.2 hnz with c | c
     · exact Rat.le_trans m1 c
     · exact Rat.le_trans m2 c
   · exact Rat.le_trans m1 (w1i (by omega) hX.1)
theorem z2i {a:Ivl} (h:Q0l a=true) (k:Nat): ∃X,memI X a∧qV (Q1f a k)=powQ X k:=by
 have hz:=J1d h
 unfold Q1f
 split
 · rename_i hc
   obtain⟨z1,z2⟩:=hz.1 hc.2.2
   exact⟨0,⟨z1,z2⟩,by rw [V2y k hc.1];exact w0s rfl⟩
 · obtain⟨Y,h1,e,_,_⟩:=j1m a k
   exact⟨Y,W2w h h1,e⟩
theorem q1n {a:Ivl} {k p:Int} (h:(powI a k p).2=0):Q0l a=true∧0≤k∧k≤8∧Z0q p=true:=by
 unfold powI at h
 split at h
 · assumption
 · cases h
theorem V2z {a:Ivl} {k p:Int} (h:(powI a k p).2=0):qN (powI a k p).1.lo=qV (Z0h (Q1f a k.toNat) p.toNat false)∧qN (powI a k p).1.hi=qV (Z0h (X1k a k.toNat) p.toNat true):=by
 have hr:=q1n h
 unfold powI at h⊢
 rw [if_pos hr] at h⊢
 exact y1q (Z0a (y0e hr.1 _) _ _) (Z0a (y0f hr.1 _) _ _) h
theorem Z2q (a:Ivl) (k p:Int):Q0l (powI a k p).1=true:=by
 unfold powI
 split
 · rename_i hr
   refine j0x (Z0a (y0e hr.1 _) _ _) (Z0a (y0f hr.1 _) _ _) ?_
   have h1:=w1j hr.1 k.toNat (H0t hr.1)
   have h2:=w1k hr.1 k.toNat (H0t hr.1)
   have h3:=Y0e (Q1f a k.toNat) p.toNat
   have h4:=G0x (X1k a k.toNat) p.toNat
   grind
 · decide
theorem z2h {L U:Nat} {a:Ivl} (ha:luI L U a) (k:Nat):luQ (L*k) (U*k) (qV (Q1f a k)):=by
 have h1:=J1a ha.2.1 k
 have h2:=J1a ha.2.2 k
 unfold Q1f
 split
 · rw [show qV ⟨false,0,0⟩=0 from w0s rfl];exact H0u _ _
 · obtain⟨Y,hY,e,_,_⟩:=j1m a k
   rw [e]
   rcases hY with rfl | rfl
   · exact h1
   · exact h2
theorem z2k {L U:Nat} {a:Ivl} (ha:luI L U a) (k:Nat):luQ (L*k) (U*k) (qV (X1k a k)):=by
 obtain⟨Y,hY,e,_,_⟩:=j1n a k
 rw [e]
 rcases hY with rfl | rfl
 · exact J1a ha.2.1 k
 · exact J1a ha.2.2 k
theorem Z3k {L U:Nat} {a:Ivl} {k p:Int} (ha:luI L U a) (h0:0≤k) (h8:k≤8) (hp:Z0q p=true) (hb:L*k.toNat+U*k.toNat+2≤4096):(powI a k p).2=0∧luI (L*k.toNat) (U*k.toNat+1) (powI a k p).1:=by
 have pp:=V0c hp
 have c1:=y0e ha.1 k.toNat
 have c2:=y0f ha.1 k.toNat
 have hr:=Z2q a k p
 unfold powI at hr⊢
 rw [if_pos ⟨ha.1,h0,h8,hp⟩] at hr⊢
 refine G1b (Z0a c1 _ _) (Z0a c2 _ _) (W0a c1 (z2h ha _) _ pp _) (W0a c2 (z2k ha _) _ pp _) (by omega) ?_
 have h1:=w1j ha.1 k.toNat (H0t ha.1)
 have h2:=w1k ha.1 k.toNat (H0t ha.1)
 have h3:=Y0e (Q1f a k.toNat) p.toNat
 have h4:=G0x (X1k a k.toNat) p.toNat
 grind
theorem W1a {m:Mn} {b:List Ivl} {p:Int} {i:Nat} (h:(Y0m m b p (i+1)).2=0):(Y0m m b p i).2=0:=by
 rw [Y0m] at h
 split at h
 · rename_i c;exact absurd h c
 · rename_i c;exact Classical.not_not.1 c
theorem Z2u {m:Mn} {b:List Ivl} {p:Int} {i:Nat} (h:(Y0m m b p (i+1)).2=0):(m.ks.getD i 0=0∧Y0m m b p (i+1)=Y0m m b p i)∨
 (m.ks.getD i 0≠0∧(powI (b.getD i default) (m.ks.getD i 0) p).2=0∧Y0m m b p (i+1)=opI 2 (Y0m m b p i).1 (powI (b.getD i default) (m.ks.getD i 0) p).1 p):=by
 have h0:=W1a h
 rw [Y0m] at h⊢
 rw [if_neg (by rw [h0];decide)] at h⊢
 by_cases c:m.ks.getD i 0=0
 · rw [if_pos c];exact .inl ⟨c,rfl⟩
 · rw [if_neg c] at h⊢
   split at h
   · rename_i d;exact absurd h d
   · rename_i d
     rw [if_neg d]
     exact .inr ⟨c,Classical.not_not.1 d,rfl⟩
def sumK (ks:List Int) (i:Nat):Nat:=(ks.take i).sum.toNat
theorem w1o {m:Mn} {b:List Ivl} {p:Int} {Lc Uc L U:Nat} (hp:Z0q p=true) (hm:Q0f m.c=true∧luQ Lc Uc (qN m.c)) (hk:Y0y m.ks=true) (hbd:Lc+Uc+8*L+8*U+20≤4096):
 ∀i,i≤4→i≤m.ks.length→(∀j,j<i→luI L U (b.getD j default))→(Y0m m b p i).2=0∧luI (Lc+L*sumK m.ks i) (Uc+U*sumK m.ks i+2*i) (Y0m m b p i).1
 | 0,_,_,_=>⟨rfl,(show luI Lc Uc ⟨m.c,m.c⟩ from⟨X1l hm.1,hm.2,hm.2⟩).mono (by omega) (by omega)⟩
 | i+1,h4,hi,hb=>by
  obtain⟨e1,e2⟩:=w1o hp hm hk hbd i (by omega) (by omega) fun j hj=>hb j (by omega)
  have hs:=V0l hk (i+1) hi
  have hs0:=V0l hk i (by omega)
  have hat:=U0l hk i (by omega)
  have hst:=z0x m.ks i (by omega)
  have hsum:sumK m.ks (i+1)=sumK m.ks i+(m.ks.getD i 0).toNat:=by unfold sumK;omega
  have hs8:sumK m.ks (i+1)≤8:=by unfold sumK;omega
  rw [Y0m,if_neg (by rw [e1];decide)]
  by_cases c:m.ks.getD i 0=0
  · rw [if_pos c]
    refine⟨e1,e2.mono ?_ ?_⟩
    · rw [hsum,c];exact Nat.le_refl _
    · rw [hsum,c,show(0:Int).toNat=0 from rfl,Nat.add_zero];omega
  · rw [if_neg c]
    have hL8:L*(sumK m.ks i+(m.ks.getD i 0).toNat)≤L*8:=Nat.mul_le_mul_left _ (by omega)
    have hU8:U*(sumK m.ks i+(m.ks.getD i 0).toNat)≤U*8:=Nat.mul_le_mul_left _ (by omega)
    rw [Nat.mul_add] at hL8 hU8
    obtain⟨p1,p2⟩:=Z3k (hb i (by omega)) hat.1 hat.2 hp (by omega)
    rw [if_neg (by rw [p1];decide)]
    obtain⟨o1,o2⟩:=W2l e2 p2 hp (by omega)
    refine⟨o1,o2.mono ?_ ?_⟩
    · rw [hsum,Nat.mul_add];omega
    · rw [hsum,Nat.mul_add];omega
theorem j1j {q:List Mn} {b:List Ivl} {p:Int} {i:Nat} (h:(J0a q b p (i+1)).2=0):(J0a q b p i).2=0∧(Y0m (q.getD i default) b p b.length).2=0∧J0a q b p (i+1)=opI 0 (J0a q b p i).1 (Y0m (q.getD i default) b p b.length).1 p:=by
 rw [J0a] at h⊢
 split at h
 · rename_i c;exact absurd h c
 · rename_i c
   rw [if_neg c]
   split at h
   · rename_i d;exact absurd h d
   · rename_i d
     rw [if_neg d]
     exact⟨Classical.not_not.1 c,Classical.not_not.1 d,rfl⟩
theorem q1c {q:List Mn} {b:List Ivl} {p:Int} {Lc Uc L U:Nat} (hp:Z0q p=true) (hq: ∀j,j<q.length→Q0f (q.getD j default).c=true∧luQ Lc Uc (qN (q.getD j default).c)∧Y0y (q.getD j default).ks=true∧(q.getD j default).ks.length=b.length)
 (hb4:b.length≤4) (hb: ∀j,j<b.length→luI L U (b.getD j default)) (hql:q.length≤24) (hbd:Lc+Uc+8*L+8*U+80≤4096):
 ∀i,i≤q.length→(J0a q b p i).2=0∧luI (Lc+L*8) (Uc+U*8+8+2*i) (J0a q b p i).1
 | 0,_=>⟨rfl,x2p _ _⟩
 | i+1,hi=>by
  obtain⟨e1,e2⟩:=q1c hp hq hb4 hb hql hbd i (by omega)
  obtain⟨q1,q2,q3,q4⟩:=hq i (by omega)
  obtain⟨o1,o2⟩:=w1o (b:=b) hp ⟨q1,q2⟩ q3 (by omega) b.length hb4 (by omega) hb
  have hs:=V0l q3 b.length (by omega)
  have hs8:sumK (q.getD i default).ks b.length≤8:=by unfold sumK;omega
  have hL8:L*sumK (q.getD i default).ks b.length≤L*8:=Nat.mul_le_mul_left _ hs8
  have hU8:U*sumK (q.getD i default).ks b.length≤U*8:=Nat.mul_le_mul_left _ hs8
  have o3:luI (Lc+L*8) (Uc+U*8+8+2*i) (Y0m (q.getD i default) b p b.length).1:=o2.mono (by omega) (by omega)
  rw [J0a,if_neg (by rw [e1];decide),if_neg (by rw [o1];decide)]
  obtain⟨a1,a2⟩:=W2m (k:=0) (by omega) e2 o3 hp (by omega)
  exact⟨a1,a2.mono (by omega) (by omega)⟩
end Go.Pv
end
section
/-Values of small polynomials;along a line a polynomial of degree two changes as its derivatives at the middle say. No program in it. -/
namespace Go.Pv
def q3s (m:Mn) (j:Nat) (X:Nat→Rat) (i:Nat):Rat:=((m.ks.getD j 0:Int):Rat)*Q3k ⟨m.c,decK m.ks j⟩ X i
def sumR (f:Nat→Rat):Nat→Rat
 | 0=>0
 | i+1=>sumR f i+f i
def X4d (p:List Mn) (j:Nat) (X:Nat→Rat) (n:Nat):Nat→Rat
 | 0=>0
 | i+1=>X4d p j X n i+q3s (p.getD i default) j X n
end Go.Pv
end
