/- Parts of the walk: M65, M66, N108. -/
import Derived.Test.YtagacielooaapaaGreatDoorZCB
import Derived.Test.YtagacielooaapaaGreatDoorZCC
import Derived.Test.YtagacielooaapaaGreatDoorZBM
import Derived.Test.YtagacielooaapaaGreatDoorZBV
import Derived.Test.YtagacielooaapaaGreatDoorZBN
import Derived.Test.YtagacielooaapaaGreatDoorZCE
set_option linter.unusedVariables false
set_option linter.unusedSimpArgs false
section
/-Quotients rounded:the greatest value of p bits that is not above the quotient,the least that is not below it. No program in it. -/
namespace Go.Pv
theorem k2n {N B:Nat} (hB:0<B) (j:Int):2*j≤((2*(N/B)+(if N % B=0 then 0 else 1):Nat):Int)↔j*B≤(N:Int):=by
 have h3:j≤((N/B:Nat):Int)↔j*B≤(N:Int):=by
  rw [Int.natCast_ediv]
  exact Int.le_ediv_iff_mul_le (by omega)
 rw [←h3]
 generalize N/B=F
 split<;>omega
theorem k2m {N B:Nat} (hB:0<B) (j:Int):2*j≤ -((2*(N/B)+(if N % B=0 then 0 else 1):Nat):Int)↔j*B≤ -(N:Int):=by
 have h1:=Nat.div_add_mod N B
 have h2:=Nat.mod_lt N hB
 generalize N/B=F at*
 generalize N % B=r at*
 have hB':(0:Int)<B:=by exact_mod_cast hB
 have h1':(B:Int)*F+r=N:=by exact_mod_cast h1
 have h2':(r:Int)<B:=by exact_mod_cast h2
 clear h1 h2
 have up: ∀i:Int,i≤j→i*B≤j*B:=fun i hi=>Int.mul_le_mul_of_nonneg_right hi (Int.le_of_lt hB')
 have dn: ∀i:Int,j≤i→j*B≤i*B:=fun i hi=>Int.mul_le_mul_of_nonneg_right hi (Int.le_of_lt hB')
 have e0: -(F:Int)*B= -((B:Int)*F):=by rw [Int.neg_mul,Int.mul_comm]
 have e1:(-(F:Int)-1)*B= -((B:Int)*F)-B:=by rw [Int.sub_mul,e0,Int.one_mul]
 have e2:(-(F:Int)+1)*B= -((B:Int)*F)+B:=by rw [Int.add_mul,e0,Int.one_mul]
 generalize (B:Int)*F=Z at*
 have u0:=up (-(F:Int))
 have u2:=up (-(F:Int)+1)
 have d0:=dn (-(F:Int))
 have d1:=dn (-(F:Int)-1)
 rw [e0] at u0 d0
 rw [e1] at d1
 rw [e2] at u2
 generalize j*(B:Int)=W at*
 clear up dn e0 e1 e2
 split
 · constructor
   · intro h;have:=d0 (by omega);omega
   · intro h
     refine Int.not_lt.1 fun hn=> ?_
     have:=u2 (by omega);omega
 · constructor
   · intro h;have:=d1 (by omega);omega
   · intro h
     refine Int.not_lt.1 fun hn=> ?_
     have:=u0 (by omega);omega
theorem W3v {p:Nat} {x:Rat} (h:Y1f p x) (g:Int):(∃j:Int,x=qM j g)∨(qM (-((2^p:Nat):Int)) g≤x∧x≤qM ((2^p:Nat):Int) g):=by
 obtain⟨m,e,rfl,hm⟩:=h
 by_cases he:g≤e
 · exact .inl ⟨_,v1z m e g he⟩
 · right
   have hpos:(1:Int)≤2^(g-e).toNat:=by
    have:0<2^(g-e).toNat:=Nat.two_pow_pos _
    exact_mod_cast this
   rw [v1z _ g e (by omega),v1z _ g e (by omega),qM_le,qM_le,Int.neg_mul]
   generalize 2^p=P at*
   have h1:(P:Int)≤P*2^(g-e).toNat:=by
    calc (P:Int)=P*1:=(Int.mul_one _).symm
     _≤_:=Int.mul_le_mul_of_nonneg_left hpos (Int.natCast_nonneg _)
   generalize (P:Int)*2^(g-e).toNat=Z at*
   omega
theorem v2z {A B p:Nat} (hA:A≠0):2^(p+1)*B≤A*2^J0y A B p:=by
 have h1:=z0a hA
 have h2:=Nat.le_of_lt (Q0z B)
 have h0:1≤Q0f A:=by unfold Q0f;rw [if_neg hA];omega
 unfold J0y
 calc 2^(p+1)*B≤2^(p+1)*2^Q0f B:=Nat.mul_le_mul_left _ h2
  _=2^(p+1+Q0f B):=by rw [←Nat.pow_add]
  _≤2^((Q0f A-1)+(p+2+Q0f B-Q0f A)):=Nat.pow_le_pow_right (by decide) (by omega)
  _=2^(Q0f A-1)*2^(p+2+Q0f B-Q0f A):=Nat.pow_add ..
  _≤A*2^(p+2+Q0f B-Q0f A):=Nat.mul_le_mul_right _ h1
theorem Z2c {a b:Vl} {p:Nat} (hb:b.neg=false) (hB:0<b.m) {x:Rat} (hx:Y1f p x):x≤qV (ratV a b p)↔x*qV b≤qV a:=by
 have hqb:qV b=qM (b.m:Int) b.e:=by unfold qV X0b;rw [hb];rfl
 have hb0:0<qV b:=by
  rw [hqb,←K0b b.e,qM_lt];omega
 by_cases hA:a.m=0
 · have e1:qV (ratV a b p)=0:=by unfold ratV;rw [if_pos hA];exact K0b 0
   rw [e1,w0m hA]
   constructor
   · intro h;have:=Rat.mul_le_mul_of_nonneg_right h (Rat.le_of_lt hb0);rwa [Rat.zero_mul] at this
   · intro h;exact Rat.le_of_mul_le_mul_right (by rwa [Rat.zero_mul]) hb0
 · obtain⟨t,ht⟩: ∃t,J0y a.m b.m p=t:=⟨_,rfl⟩
   have big:=v2z (B:=b.m) (p:=p) hA
   rw [ht] at big
   have hv:qV (ratV a b p)=qM (if a.neg=true then -((2*(a.m*2^t/b.m)+(if a.m*2^t % b.m=0 then 0 else 1):Nat):Int) else((2*(a.m*2^t/b.m)+(if a.m*2^t % b.m=0 then 0 else 1):Nat):Int)) (a.e-b.e-(t:Int)-1):=by
    unfold ratV Y0n
    rw [if_neg hA,x0b,hb,ht,Bool.bne_false]
   have ha:qV a=qM (if a.neg=true then -((a.m*2^t:Nat):Int) else((a.m*2^t:Nat):Int)) (a.e-(t:Int)):=by
    have e1:(if a.neg=true then -((a.m*2^t:Nat):Int) else((a.m*2^t:Nat):Int))=X0b a*2^t:=by
     unfold X0b;cases a.neg<;>simp [Int.neg_mul]
    rw [e1,W0h]
    unfold qV;congr 1;omega
   rw [hqb] at hb0
   rw [hv,ha,hqb]
   generalize a.m*2^t=N at*
   have hg: ∀j:Int,qM j (a.e-b.e-(t:Int))*qM (b.m:Int) b.e=qM (j*b.m) (a.e-(t:Int)):=fun j=>by rw [←Z2e];congr 1;omega
   have hg2: ∀j:Int,qM j (a.e-b.e-(t:Int))=qM (2*j) (a.e-b.e-(t:Int)-1):=fun j=>by
    rw [Int.mul_comm,show(2:Int)=2^1 from rfl,W0h];congr 1;omega
   rcases W3v hx (a.e-b.e-(t:Int)) with ⟨j,rfl⟩ | ⟨l1,l2⟩
   · rw [hg,hg2,qM_le,qM_le]
     cases a.neg
     · exact k2n hB j
     · exact k2m hB j
   · have hF:2^(p+1)≤N/b.m:=(Nat.le_div_iff_mul_le hB).2 big
     have hP:=Nat.two_pow_pos p
     rw [Nat.pow_succ] at hF big
     generalize 2^p=P at*
     have big2:2*((P:Int)*b.m)≤N:=by
      have:P*2*b.m≤N:=big
      have e:P*2*b.m=2*(P*b.m):=by rw [Nat.mul_comm P 2,Nat.mul_assoc]
      rw [e] at this
      exact_mod_cast this
     have hPB:(0:Int)<(P:Int)*b.m:=by
      have:=Nat.mul_pos hP hB
      exact_mod_cast this
     cases hn:a.neg
     · rw [if_neg Bool.false_ne_true,if_neg Bool.false_ne_true]
       refine⟨fun _=> ?_,fun _=> ?_⟩
       · refine Rat.le_trans (Rat.mul_le_mul_of_nonneg_right l2 (Rat.le_of_lt hb0)) ?_
         rw [hg,qM_le];omega
       · refine Rat.le_trans l2 ?_
         rw [hg2,qM_le];omega
     · rw [if_pos rfl,if_pos rfl]
       constructor
       · intro h;exfalso
         have:=Rat.le_trans l1 h
         rw [hg2,qM_le] at this
         omega
       · intro h;exfalso
         have:=Rat.le_trans (Rat.mul_le_mul_of_nonneg_right l1 (Rat.le_of_lt hb0)) h
         rw [hg,qM_le,Int.neg_mul] at this
         omega
theorem j2p (a:Vl) {b:Vl} (p:Nat) (hb:b.neg=false):qV (ratV (J0x a) b p)= -qV (ratV a b p):=by
 by_cases h0:a.m=0
 · have e:J0x a=a:=by unfold J0x;rw [if_pos h0]
   have e1:qV (ratV a b p)=0:=by unfold ratV;rw [if_pos h0];exact K0b 0
   rw [e,e1];rfl
 · have e3:(J0x a).neg= !a.neg:=by unfold J0x;rw [if_neg h0]
   unfold ratV
   rw [y0x,y0y,e3,if_neg h0,if_neg h0,x0b,x0b,←w0n,hb]
   congr 1
   cases a.neg<;>simp
theorem q1b {p:Nat} {x:Rat} (hx:Y1f p x):Y1f p (-x):=by
 obtain⟨m,e,rfl,h⟩:=hx
 exact⟨-m,e,(w0n _ _).symm,by rw [Int.natAbs_neg];exact h⟩
theorem U2r {a b:Vl} {p:Nat} (hb:b.neg=false) (hB:0<b.m) {x:Rat} (hx:Y1f p x):qV (ratV a b p)≤x↔qV a≤x*qV b:=by
 have:=Z2c (a:=J0x a) hb hB (q1b hx)
 rw [j2p a p hb,W0p,Rat.neg_mul] at this
 constructor
 · intro h;have:=this.1 (by grind);grind
 · intro h;have:=this.2 (by grind);grind
theorem q2z (v:Vl) (p:Nat):Y1f p (qV (Q0r v p true)):=by rw [q0c];exact q1b (q1c _ _)
theorem v1q {v:Vl} {p:Nat} (hp:1≤p) {x:Rat} (hx:Y1f p x) (hle:qV v≤x):qV (Q0r v p true)≤x:=by
 have:=j0k (v:=J0x v) hp (q1b hx) (by rw [W0p];grind)
 rw [q0c];grind
theorem j1w {a:Ivl} {c:Nm} {p:Int} (h:(divI a c p).2=0):Q0i a=true∧Z0b p=true:=by
 unfold divI at h
 split at h
 · assumption
 · cases h
theorem j1x {a:Ivl} {c:Nm} {p:Int} (h:(divI a c p).2=0):qN (divI a c p).1.lo=qV (Q0r (ratV (ofN a.lo) (ofN c) p.toNat) p.toNat false)∧qN (divI a c p).1.hi=qV (Q0r (ratV (ofN a.hi) (ofN c) p.toNat) p.toNat true):=by
 have hr:=j1w h
 unfold divI at h⊢
 rw [if_pos hr] at h⊢
 exact q1e (Z0j (j0r _ _ _) _ _) (Z0j (j0r _ _ _) _ _) h
theorem y2w {a a':Ivl} {c:Nm} {p:Int} (hc:c.neg=false) (h0:0<valW c.w) (h:(divI a c p).2=0) (h':(divI a' c p).2=0) (hs:subI a a'):subI (divI a c p).1 (divI a' c p).1:=by
 have pp:=K0i (j1w h).2
 obtain⟨e1,e2⟩:=j1x h
 obtain⟨d1,d2⟩:=j1x h'
 have f1:=q1c (ratV (ofN a'.lo) (ofN c) p.toNat) p.toNat
 have f2:=q2z (ratV (ofN a'.hi) (ofN c) p.toNat) p.toNat
 have r1:=(Z2c (a:=ofN a'.lo) (b:=ofN c) hc h0 f1).1 (Y0m _ _)
 have r2:=(U2r (a:=ofN a'.hi) (b:=ofN c) hc h0 f2).1 (G0d _ _)
 refine⟨?_,?_⟩
 · rw [e1,d1]
   exact j0k pp f1 ((Z2c (a:=ofN a.lo) (b:=ofN c) hc h0 f1).2 (Rat.le_trans r1 (by rw [Z0w,Z0w];exact hs.1)))
 · rw [e2,d2]
   exact v1q pp f2 ((U2r (a:=ofN a.hi) (b:=ofN c) hc h0 f2).2 (Rat.le_trans (by rw [Z0w,Z0w];exact hs.2) r2))
theorem Z3u : ∀n,n<12→0<n→(ptW n).neg=false∧0<valW (ptW n).w∧0≤(ptW n).exp∧(ptW n).exp+(Q0f (valW (ptW n).w):Int)≤4:=by decide+kernel
theorem Z3q {L U:Nat} {a b:Vl} {p:Nat} (ha:canV a) (h:luQ L U (qV a)) (hb:b.neg=false) (hB:0<b.m) (he:0≤b.e) (he':b.e+(Q0f b.m:Int)≤4):luQ (L+p+8) (U+2) (qV (ratV a b p)):=by
 by_cases hA:a.m=0
 · have e1:qV (ratV a b p)=0:=by unfold ratV;rw [if_pos hA];exact K0b 0
   rw [e1];exact z0h _ _
 · rcases H1h ha h with h1 | ⟨h1,h2⟩
   · exact absurd h1 hA
   · obtain⟨t,ht⟩: ∃t,J0y a.m b.m p=t:=⟨_,rfl⟩
     have htl:t≤p+2+Q0f b.m:=by rw [←ht];unfold J0y;omega
     have hv:qV (ratV a b p)=qM (if a.neg=true then -((Y0n a.m b.m p:Nat):Int) else((Y0n a.m b.m p:Nat):Int)) (a.e-b.e-(t:Int)-1):=by
      unfold ratV
      rw [if_neg hA,x0b,hb,ht,Bool.bne_false]
     have hq:Y0n a.m b.m p≤2^(2+Q0f a.m+t):=by
      unfold Y0n
      rw [ht]
      have h3:a.m*2^t/b.m≤a.m*2^t:=Nat.div_le_self _ _
      have h4:1≤a.m*2^t:=Nat.mul_pos (by omega) (Nat.two_pow_pos t)
      have h5:a.m*2^t≤2^Q0f a.m*2^t:=Nat.mul_le_mul_right _ (Nat.le_of_lt (Q0z a.m))
      rw [Nat.pow_add,Nat.pow_add,Nat.mul_assoc]
      generalize a.m*2^t=N at*
      generalize 2^Q0f a.m*2^t=M at*
      split<;>omega
     rw [hv]
     refine⟨(if a.neg=true then -((Y0n a.m b.m p:Nat):Int) else((Y0n a.m b.m p:Nat):Int))*2^(a.e-b.e-(t:Int)-1+((L+p+8:Nat):Int)).toNat,?_,?_⟩
     · rw [W0h];congr 1;omega
     · have e3:((if a.neg=true then -((Y0n a.m b.m p:Nat):Int) else((Y0n a.m b.m p:Nat):Int))*2^(a.e-b.e-(t:Int)-1+((L+p+8:Nat):Int)).toNat).natAbs=Y0n a.m b.m p*2^(a.e-b.e-(t:Int)-1+((L+p+8:Nat):Int)).toNat:=by
        rw [Int.natAbs_mul,Int.natAbs_pow]
        generalize Y0n a.m b.m p=M
        split
        · rw [Int.natAbs_neg];rfl
        · rfl
       rw [e3]
       calc Y0n a.m b.m p*2^(a.e-b.e-(t:Int)-1+((L+p+8:Nat):Int)).toNat≤2^(2+Q0f a.m+t)*2^(a.e-b.e-(t:Int)-1+((L+p+8:Nat):Int)).toNat:=Nat.mul_le_mul_right _ hq
        _=2^(2+Q0f a.m+t+(a.e-b.e-(t:Int)-1+((L+p+8:Nat):Int)).toNat):=(Nat.pow_add ..).symm
        _≤_:=Nat.pow_le_pow_right (by decide) (by omega)
theorem Y3q {L U n:Nat} {a:Ivl} {p:Int} (ha:luI L U a) (hn:0<n) (hn2:n<12) (hp:Z0b p=true) (hbd:L+U+p.toNat+12≤4096):(divI a (ptW n) p).2=0∧luI (L+p.toNat+8) (U+3) (divI a (ptW n) p).1:=by
 obtain⟨c1,c2,c3,c4⟩:=Z3u n hn2 hn
 have pp:=K0i hp
 have ca:=canI ha.1
 have l1:luQ (L+p.toNat+8) (U+2) (qV (ratV (ofN a.lo) (ofN (ptW n)) p.toNat)):=Z3q ca.1 ha.2.1 c1 c2 c3 c4
 have l2:luQ (L+p.toNat+8) (U+2) (qV (ratV (ofN a.hi) (ofN (ptW n)) p.toNat)):=Z3q ca.2 ha.2.2 c1 c2 c3 c4
 have r1:=(Z2c (a:=ofN a.lo) (b:=ofN (ptW n)) c1 c2 (q1c (ratV (ofN a.lo) (ofN (ptW n)) p.toNat) p.toNat)).1 (Y0m _ _)
 have r2:=(U2r (a:=ofN a.hi) (b:=ofN (ptW n)) c1 c2 (q2z (ratV (ofN a.hi) (ofN (ptW n)) p.toNat) p.toNat)).1 (G0d _ _)
 have hq:0<qV (ofN (ptW n)):=by rw [Z0w];exact(G2j n hn2 hn).2.1
 have hle:qV (ofN a.lo)≤qV (ofN a.hi):=G0e ha.1
 unfold divI
 rw [if_pos ⟨ha.1,hp⟩]
 exact J1d (Z0j (j0r _ _ _) _ _) (Z0j (j0r _ _ _) _ _) (V0o (j0r _ _ _) l1 _ pp _) (V0o (j0r _ _ _) l2 _ pp _) (by omega) (Rat.le_of_mul_le_mul_right (Rat.le_trans r1 (Rat.le_trans hle r2)) hq)
end Go.Pv
end
section
/-Coefficients of a solution:of parts of the boxes they are parts,and of small boxes nothing fails. No program in it. -/
namespace Go.Pv
theorem k1f {p:Int} : ∀(l:List ((Ivl×Ivl)×(Ivl×Ivl))) (sm:Bool) (s s':Ivl),(∀x∈l,subI x.1.1 x.2.1∧subI x.1.2 x.2.2)→subI s s'→
 (H0v p (l.map (·.1)) sm s).2=0→(H0v p (l.map (·.2)) sm s').2=0→subI (H0v p (l.map (·.1)) sm s).1 (H0v p (l.map (·.2)) sm s').1
 | [],sm,s,s',_,h0,_,_=>h0
 | x::l,sm,s,s',hs,h0,h,h'=>by
  have hx:=hs x (List.mem_cons_self ..)
  have ih:=fun sm s s'=>k1f (p:=p) l sm s s' (fun y hy=>hs y (List.mem_cons_of_mem _ hy))
  simp only [List.map_cons] at h h'⊢
  rw [U0z] at h h'⊢
  rw [U0z]
  by_cases c:(opI 2 x.1.1 x.1.2 p).2=0
  · by_cases c':(opI 2 x.2.1 x.2.2 p).2=0
    · rw [if_pos c] at h⊢
      rw [if_pos c'] at h'⊢
      have h2:=w1o c c' hx.1 hx.2
      cases sm with
      | false=>
       rw [if_neg (by decide)] at h h'
       rw [if_neg (by decide),if_neg (by decide)]
       exact ih true _ _ h2 h h'
      | true=>
       rw [if_pos rfl] at h h'
       rw [if_pos rfl,if_pos rfl]
       by_cases d:(opI 0 s (opI 2 x.1.1 x.1.2 p).1 p).2=0
       · by_cases d':(opI 0 s' (opI 2 x.2.1 x.2.2 p).1 p).2=0
         · rw [if_pos d] at h⊢
           rw [if_pos d'] at h'⊢
           exact ih true _ _ (w1o d d' h0 h2) h h'
         · rw [if_neg d'] at h';exact absurd h' d'
       · rw [if_neg d] at h;exact absurd h d
    · rw [if_neg c'] at h';exact absurd h' c'
  · rw [if_neg c] at h;exact absurd h c
theorem J2a {p:Int} {L U:Nat} (hp:Z0b p=true): ∀(l:List (Ivl×Ivl)) (sm:Bool) (s:Ivl) (U0:Nat),(∀x∈l,∃L1 U1 L2 U2,luI L1 U1 x.1∧luI L2 U2 x.2∧L1+L2≤L∧U1+U2+1≤U)→U≤U0→luI L U0 s→L+U0+2*l.length+3≤4096→
 (H0v p l sm s).2=0∧luI L (U0+2*l.length) (H0v p l sm s).1
 | [],sm,s,U0,_,_,hs,_=>⟨rfl,hs⟩
 | x::l,sm,s,U0,h,hU,hs,hb=>by
  obtain⟨L1,U1,L2,U2,a1,a2,a3,a4⟩:=h x (List.mem_cons_self ..)
  simp only [List.length_cons] at hb⊢
  obtain⟨c,d⟩:=w1p a1 a2 hp (by omega)
  have d':=d.mono a3 (show U1+U2+1≤U0 by omega)
  have ih:=fun s U0=>J2a hp l true s U0 (fun y hy=>h y (List.mem_cons_of_mem _ hy))
  rw [U0z,if_pos c]
  cases sm with
  | false=>
   rw [if_neg (by decide)]
   obtain⟨e1,e2⟩:=ih _ U0 hU d' (by omega)
   exact⟨e1,e2.mono (Nat.le_refl _) (by omega)⟩
  | true=>
   rw [if_pos rfl]
   obtain⟨f1,f2⟩:=Z2u (k:=0) (by decide) hs d' hp (by omega)
   rw [if_pos f1]
   obtain⟨e1,e2⟩:=ih _ (U0+2) (by omega) f2 (by omega)
   exact⟨e1,e2.mono (Nat.le_refl _) (by omega)⟩
def subL (k:Nat) (a b:List Ivl):Prop:= ∀j,j≤k→subI (a.getD j default) (b.getD j default)
def grI (a u s r k:Nat) (l:List Ivl):Prop:=k<l.length∧ ∀j,j≤k→luI (a*j+s) (u*j+r) (l.getD j default)
theorem U1z {a b:List Ivl} {k:Nat} {p:Int} (h:(J0o a b k p).2=0):J0o a b k p=H0v p (U0l a b k) false default:=by
 unfold J0o at h⊢
 split
 · rfl
 · rename_i c;rw [if_neg c] at h;cases h
theorem z2x {a b a' b':List Ivl} {k:Nat} {p:Int} (h:(J0o a b k p).2=0) (h':(J0o a' b' k p).2=0) (ha:subL k a a') (hb:subL k b b'):subI (J0o a b k p).1 (J0o a' b' k p).1:=by
 have n1:=U1z h
 have n2:=U1z h'
 rw [n1] at h⊢
 rw [n2] at h'⊢
 have e1:U0l a b k=((List.range (k+1)).map fun i=>((a.getD i default,b.getD (k-i) default),(a'.getD i default,b'.getD (k-i) default))).map (·.1):=by
  unfold U0l;rw [List.map_map];rfl
 have e2:U0l a' b' k=((List.range (k+1)).map fun i=>((a.getD i default,b.getD (k-i) default),(a'.getD i default,b'.getD (k-i) default))).map (·.2):=by
  unfold U0l;rw [List.map_map];rfl
 rw [e1] at h⊢
 rw [e2] at h'⊢
 refine k1f _ false _ _ (fun x hx=> ?_) (J1o _) h h'
 obtain⟨i,hi,rfl⟩:=List.mem_map.1 hx
 have:=List.mem_range.1 hi
 exact⟨ha i (by omega),hb (k-i) (by omega)⟩
theorem y2z {a u s r s' r' k:Nat} {l l':List Ivl} {p:Int} (hp:Z0b p=true) (h:grI a u s r k l) (h':grI a u s' r' k l') (hb:a*k+(s+s')+(u*k+(r+r'+1))+2*k+5≤4096):
 (J0o l l' k p).2=0∧luI (a*k+(s+s')) (u*k+(r+r'+2*k+3)) (J0o l l' k p).1:=by
 have u1:K0d l k=true:=J1c h.1 fun j hj=>(h.2 j hj).1
 have u2:K0d l' k=true:=J1c h'.1 fun j hj=>(h'.2 j hj).1
 unfold J0o
 rw [if_pos ⟨hp,u1,u2⟩]
 have hl:(U0l l l' k).length=k+1:=by simp [U0l]
 have key:=J2a (L:=a*k+(s+s')) (U:=u*k+(r+r'+1)) hp (U0l l l' k) false default (u*k+(r+r'+1)) (fun x hx=> ?_) (Nat.le_refl _) (X1z _ _) (by rw [hl];omega)
 · refine⟨key.1,key.2.mono (Nat.le_refl _) ?_⟩
   rw [hl];omega
 · obtain⟨i,hi,rfl⟩:=List.mem_map.1 hx
   have hi:=List.mem_range.1 hi
   refine⟨_,_,_,_,h.2 i (by omega),h'.2 (k-i) (by omega),?_,?_⟩
   · have:a*i+a*(k-i)=a*k:=by rw [←Nat.mul_add];congr 1;omega
     omega
   · have:u*i+u*(k-i)=u*k:=by rw [←Nat.mul_add];congr 1;omega
     omega
theorem grI.low {a u s r k j:Nat} {l:List Ivl} (h:grI a u s r k l) (hj:j≤k):grI a u s r j l:=⟨by have:=h.1;omega,fun i hi=>h.2 i (by omega)⟩
theorem K2a {a b a' b':List Ivl} {k:Nat} {p:Int} (h:(W0e a b k p).2=0) (h':(W0e a' b' k p).2=0) (ha:subL k a a') (hb:subL k b b'):subL k (W0e a b k p).1 (W0e a' b' k p).1:=by
 obtain⟨x1,x2,x3⟩:=K0r h
 obtain⟨y1,y2,y3⟩:=K0r h'
 intro j hj
 show subI ((tabF (fun j=>J0o a b j p) 0 (k+1) []).1.getD j default) ((tabF (fun j=>J0o a' b' j p) 0 (k+1) []).1.getD j default)
 rw [x3 j (by omega),y3 j (by omega)]
 exact z2x (x2 j (by omega)) (y2 j (by omega)) (fun i hi=>ha i (by omega)) (fun i hi=>hb i (by omega))
theorem Y2j {a u s r s' r' k K:Nat} {l l':List Ivl} {p:Int} (hp:Z0b p=true) (h:grI a u s r k l) (h':grI a u s' r' k l') (hk:k≤K) (hb:a*k+(s+s')+(u*k+(r+r'+1))+2*k+5≤4096):
 (W0e l l' k p).2=0∧grI a u (s+s') (r+r'+2*K+3) k (W0e l l' k p).1:=by
 have mono: ∀j,j≤k→a*j≤a*k∧u*j≤u*k:=fun j hj=>⟨Nat.mul_le_mul_left _ hj,Nat.mul_le_mul_left _ hj⟩
 have key: ∀j,j≤k→_:=fun j hj=>y2z hp (h.low hj) (h'.low hj) (by have:=mono j hj;omega)
 have h0:(tabF (fun j=>J0o l l' j p) 0 (k+1) []).2=0:=H0f _ _ _ fun j _ hj=>(key j (by omega)).1
 obtain⟨x1,x2,x3⟩:=K0r h0
 refine⟨h0,by unfold W0e;omega,fun j hj=> ?_⟩
 show luI _ _ ((tabF (fun j=>J0o l l' j p) 0 (k+1) []).1.getD j default)
 rw [x3 j (by omega)]
 exact(key j hj).2.mono (Nat.le_refl _) (by omega)
theorem x1i {s s' x x':List Ivl} {k:Nat} {p:Int} (hs:subL k s s') (hx:subL k x x'): ∀n,(J0i s x k p n).2=0→(J0i s' x' k p n).2=0→subL k (J0i s x k p n).1 (J0i s' x' k p n).1
 | 0,_,_=>hs
 | n+1,h,h'=>by
  rw [J0i] at h h'⊢
  rw [J0i]
  by_cases c:(J0i s x k p n).2=0
  · by_cases c':(J0i s' x' k p n).2=0
    · rw [if_neg (by rw [c];decide)] at h⊢
      rw [if_neg (by rw [c'];decide)] at h'⊢
      exact K2a h h' (x1i hs hx n c c') hx
    · rw [if_pos c'] at h';exact absurd h' c'
  · rw [if_pos c] at h;exact absurd h c
theorem Z2q {a u s r s1 r1 k K N:Nat} {l x:List Ivl} {p:Int} (hp:Z0b p=true) (hl:grI a u s r k l) (hx:grI a u s1 r1 k x) (hk:k≤K) (hb:a*k+(s+N*s1)+(u*k+(r+N*(r1+2*K+3)))+2*k+5≤4096):
 ∀n,n≤N→(J0i l x k p n).2=0∧grI a u (s+n*s1) (r+n*(r1+2*K+3)) k (J0i l x k p n).1
 | 0,_=>⟨rfl,by rw [Nat.zero_mul,Nat.zero_mul];exact hl⟩
 | n+1,hn=>by
  obtain⟨e1,e2⟩:=Z2q hp hl hx hk hb n (by omega)
  rw [J0i,if_neg (by rw [e1];decide)]
  have m1:(n+1)*s1≤N*s1:=Nat.mul_le_mul_right _ hn
  have m2:(n+1)*(r1+2*K+3)≤N*(r1+2*K+3):=Nat.mul_le_mul_right _ hn
  have q1:(n+1)*s1=n*s1+s1:=Nat.succ_mul _ _
  have q2:(n+1)*(r1+2*K+3)=n*(r1+2*K+3)+(r1+2*K+3):=Nat.succ_mul _ _
  obtain⟨f1,f2⟩:=Y2j hp e2 hx hk (by omega)
  refine⟨f1,?_⟩
  rw [show s+(n+1)*s1=s+n*s1+s1 by omega,show r+(n+1)*(r1+2*K+3)=r+n*(r1+2*K+3)+r1+2*K+3 by omega]
  exact f2
def subX (k:Nat) (xs ys:List (List Ivl)):Prop:=xs.length=ys.length∧ ∀i,i<xs.length→subL k (xs.getD i []) (ys.getD i [])
theorem x1h {m:Mn} {xs ys:List (List Ivl)} {k:Nat} {p:Int} (hs:subX k xs ys): ∀i,i≤xs.length→(Z0v m xs k p i).2=0→(Z0v m ys k p i).2=0→subL k (Z0v m xs k p i).1 (Z0v m ys k p i).1
 | 0,_,_,_=>fun j _=>J1o _
 | i+1,hi,h,h'=>by
  rw [Z0v] at h h'⊢
  rw [Z0v]
  by_cases c:(Z0v m xs k p i).2=0
  · by_cases c':(Z0v m ys k p i).2=0
    · rw [if_neg (by rw [c];decide)] at h⊢
      rw [if_neg (by rw [c'];decide)] at h'⊢
      exact x1i (x1h hs i (by omega) c c') (hs.2 i (by omega)) _ h h'
    · rw [if_pos c'] at h';exact absurd h' c'
  · rw [if_pos c] at h;exact absurd h c
theorem V3n {a u Lc Uc k:Nat} {c:Nm} (hr:Q0j c=true) (hc:luQ Lc Uc (qN c)):grI a u Lc Uc k (numS c k):=by
 refine⟨by simp [numS],fun j hj=> ?_⟩
 cases j with
 | zero=>
  show luI _ _ (⟨c,c⟩:Ivl)
  exact(show luI Lc Uc ⟨c,c⟩ from⟨G0f hr,hc,hc⟩).mono (by omega) (by omega)
 | succ j=>
  have:(numS c k).getD (j+1) default=default:=by
   show(List.replicate k (default:Ivl)).getD j default=default
   simp [List.getD_eq_getElem?_getD,(by omega:j<k)]
  rw [this]
  exact X1z _ _
theorem Z2p {m:Mn} {xs:List (List Ivl)} {p:Int} {a u Lc Uc s1 r1 k K D:Nat} (hp:Z0b p=true) (hm:Q0j m.c=true∧luQ Lc Uc (qN m.c)) (hr:V0g m.ks=true) (hD:m.ks.sum≤D) (hlen:m.ks.length=xs.length) (hx: ∀i,i<xs.length→grI a u s1 r1 k (xs.getD i [])) (hk:k≤K)
 (hb:a*k+(Lc+D*s1)+(u*k+(Uc+D*(r1+2*K+3)))+2*k+5≤4096):
 ∀i,i≤xs.length→(Z0v m xs k p i).2=0∧grI a u (Lc+sumK m.ks i*s1) (Uc+sumK m.ks i*(r1+2*K+3)) k (Z0v m xs k p i).1
 | 0,_=>⟨rfl,by
  have e:sumK m.ks 0=0:=by simp [sumK]
  rw [e,Nat.zero_mul,Nat.zero_mul];exact V3n hm.1 hm.2⟩
 | i+1,hi=>by
  obtain⟨e1,e2⟩:=Z2p hp hm hr hD hlen hx hk hb i (by omega)
  have hs:=K0l hr (i+1) (by omega)
  have hs0:=K0l hr i (by omega)
  have hat:=V0j hr i (by omega)
  have hst:=U0i m.ks i (by omega)
  have hsum:sumK m.ks (i+1)=sumK m.ks i+(m.ks.getD i 0).toNat:=by unfold sumK;omega
  have hle:(sumK m.ks (i+1):Int)≤D:=v1n hr hD (by omega)
  have hle':sumK m.ks (i+1)≤D:=by omega
  rw [Z0v,if_neg (by rw [e1];decide),hsum]
  rw [hsum] at hle'
  generalize (m.ks.getD i 0).toNat=n at*
  generalize sumK m.ks i=t at*
  have m1:(t+n)*s1≤D*s1:=Nat.mul_le_mul_right _ hle'
  have m2:(t+n)*(r1+2*K+3)≤D*(r1+2*K+3):=Nat.mul_le_mul_right _ hle'
  rw [Nat.add_mul] at m1 m2
  obtain⟨f1,f2⟩:=Z2q hp e2 (hx i (by omega)) hk (N:=n) (by omega) n (Nat.le_refl _)
  refine⟨f1,?_⟩
  rw [Nat.add_mul,Nat.add_mul,←Nat.add_assoc,←Nat.add_assoc]
  exact f2
theorem G2w {q:List Mn} {xs ys:List (List Ivl)} {k:Nat} {p:Int} (hs:subX k xs ys): ∀i,i≤q.length→(ofS q xs k p i).2=0→(ofS q ys k p i).2=0→subI (ofS q xs k p i).1 (ofS q ys k p i).1
 | 0,_,_,_=>J1o _
 | i+1,hi,h,h'=>by
  by_cases c:(ofS q xs k p i).2=0
  · by_cases c':(ofS q ys k p i).2=0
    · have n1: ¬(ofS q xs k p i).2≠0:=fun x=>x c
      have n2: ¬(ofS q ys k p i).2≠0:=fun x=>x c'
      rw [ofS,if_neg n1] at h
      rw [ofS,if_neg n2] at h'
      by_cases d:(Z0v (q.getD i default) xs k p xs.length).2=0
      · by_cases d':(Z0v (q.getD i default) ys k p ys.length).2=0
        · have m1: ¬(Z0v (q.getD i default) xs k p xs.length).2≠0:=fun x=>x d
          have m2: ¬(Z0v (q.getD i default) ys k p ys.length).2≠0:=fun x=>x d'
          rw [if_neg m1] at h
          rw [if_neg m2] at h'
          have e1:ofS q xs k p (i+1)=opI 0 (ofS q xs k p i).1 ((Z0v (q.getD i default) xs k p xs.length).1.getD k default) p:=by rw [ofS,if_neg n1,if_neg m1]
          have e2:ofS q ys k p (i+1)=opI 0 (ofS q ys k p i).1 ((Z0v (q.getD i default) ys k p ys.length).1.getD k default) p:=by rw [ofS,if_neg n2,if_neg m2]
          rw [e1,e2]
          refine w1o h h' (G2w hs i (by omega) c c') ?_
          have hl:=hs.1
          rw [←hl] at d'⊢
          exact x1h hs xs.length (Nat.le_refl _) d d' k (Nat.le_refl _)
        · rw [if_pos d'] at h';exact absurd h' d'
      · rw [if_pos d] at h;exact absurd h d
    · rw [ofS,if_pos c'] at h';exact absurd h' c'
  · rw [ofS,if_pos c] at h;exact absurd h c
theorem Z3y {q:List Mn} {xs:List (List Ivl)} {p:Int} {a u Lc Uc s1 r1 k K D:Nat} (hp:Z0b p=true)
 (hq: ∀j,j<q.length→Q0j (q.getD j default).c=true∧luQ Lc Uc (qN (q.getD j default).c)∧V0g (q.getD j default).ks=true∧(q.getD j default).ks.sum≤D∧(q.getD j default).ks.length=xs.length)
 (hx: ∀i,i<xs.length→grI a u s1 r1 k (xs.getD i [])) (hk:k≤K) (hb:a*k+(Lc+D*s1)+(u*k+(Uc+D*(r1+2*K+3)))+2*k+2*q.length+5≤4096):
 ∀i,i≤q.length→(ofS q xs k p i).2=0∧luI (a*k+(Lc+D*s1)) (u*k+(Uc+D*(r1+2*K+3))+2*i) (ofS q xs k p i).1
 | 0,_=>⟨rfl,X1z _ _⟩
 | i+1,hi=>by
  obtain⟨e1,e2⟩:=Z3y hp hq hx hk hb i (by omega)
  obtain⟨q1,q2,q3,q4,q5⟩:=hq i (by omega)
  obtain⟨f1,f2⟩:=Z2p hp ⟨q1,q2⟩ q3 q4 q5 hx hk (by omega) xs.length (Nat.le_refl _)
  have hle:(sumK (q.getD i default).ks xs.length:Int)≤D:=v1n q3 q4 (by omega)
  have hle':sumK (q.getD i default).ks xs.length≤D:=by omega
  have m1:sumK (q.getD i default).ks xs.length*s1≤D*s1:=Nat.mul_le_mul_right _ hle'
  have m2:sumK (q.getD i default).ks xs.length*(r1+2*K+3)≤D*(r1+2*K+3):=Nat.mul_le_mul_right _ hle'
  have f3:=(f2.2 k (Nat.le_refl _)).mono (L':=a*k+(Lc+D*s1)) (U':=u*k+(Uc+D*(r1+2*K+3))+2*i) (by omega) (by omega)
  rw [ofS,if_neg (by rw [e1];decide),if_neg (by rw [f1];decide)]
  obtain⟨g1,g2⟩:=Z2u (k:=0) (by decide) e2 f3 hp (by omega)
  exact⟨g1,g2.mono (Nat.le_refl _) (by omega)⟩
theorem Y1v {q:List Mn} {xs:List (List Ivl)} {k p:Int} (h:(V0h q xs k p).2=0):j0z k p=true∧V0h q xs k p=ofS q xs k.toNat p q.length:=by
 unfold V0h at h⊢
 split
 · rename_i c;exact⟨c.1,rfl⟩
 · rename_i c;rw [if_neg c] at h;cases h
theorem H2d {f:List (List Mn)} {xs ys:List (List Ivl)} {k:Nat} {p:Int} {i:Nat} (hs:subX k xs ys) (h:(Y0b f xs k p i).2=0) (h':(Y0b f ys k p i).2=0):subI (Y0b f xs k p i).1 (Y0b f ys k p i).1:=by
 unfold Y0b at h h'⊢
 by_cases c:(V0h (f.getD i []) xs k p).2=0
 · by_cases c':(V0h (f.getD i []) ys k p).2=0
   · rw [if_neg (by rw [c];decide)] at h⊢
     rw [if_neg (by rw [c'];decide)] at h'⊢
     obtain⟨v,e⟩:=Y1v c
     obtain⟨_,e'⟩:=Y1v c'
     have hk:k≤10:=by
      unfold j0z at v
      simp only [Bool.and_eq_true,decide_eq_true_eq] at v
      omega
     obtain⟨c1,c2,_⟩:=Z3u (k+1) (by omega) (by omega)
     refine y2w c1 c2 h h' ?_
     rw [e] at c⊢
     rw [e'] at c'⊢
     rw [Int.toNat_natCast] at*
     exact G2w hs _ (Nat.le_refl _) c c'
   · rw [if_pos c'] at h';exact absurd h' c'
 · rw [if_pos c] at h;exact absurd h c
theorem j1g {f:List (List Mn)} {x y:List Ivl} {p:Int} (hx:x.length=f.length) (hy:y.length=f.length) (wx: ∀a∈x,wI a) (wy: ∀a∈y,wI a) (hs: ∀i,i<f.length→subI (x.getD i default) (y.getD i default)):
 ∀k,(Z0a f x p k).2=0→(Z0a f y p k).2=0→subX k (Z0a f x p k).1 (Z0a f y p k).1
 | 0,_,_=>by
  refine⟨by simp [Z0a,hx,hy],fun i hi j hj=> ?_⟩
  have hi':i<f.length:=by simpa [Z0a,hx] using hi
  obtain rfl:j=0:=by omega
  have e1:(Z0a f x p 0).1.getD i []= [x.getD i default]:=by simp [Z0a,List.getD_eq_getElem?_getD,(by omega:i<x.length)]
  have e2:(Z0a f y p 0).1.getD i []= [y.getD i default]:=by simp [Z0a,List.getD_eq_getElem?_getD,(by omega:i<y.length)]
  rw [e1,e2]
  exact hs i hi'
 | k+1,h,h'=>by
  by_cases c:(Z0a f x p k).2=0
  · by_cases c':(Z0a f y p k).2=0
    · have ih:=j1g hx hy wx wy hs k c c'
      obtain⟨a1,a2⟩:=H0l hx wx k c
      obtain⟨b1,b2⟩:=H0l hy wy k c'
      rw [Z0a,if_neg (by rw [c];decide)] at h⊢
      rw [Z0a,if_neg (by rw [c'];decide)] at h'
      rw [Z0a,if_neg (show¬(Z0a f y p k).2≠0 by rw [c'];decide)]
      by_cases d:(W1u f (Z0a f x p k).1 k p).2=0
      · by_cases d':(W1u f (Z0a f y p k).1 k p).2=0
        · rw [if_neg (by rw [d];decide),if_neg (by rw [d'];decide)]
          obtain⟨g1,g2,g3⟩:=K0r d
          obtain⟨k1,k2,k3⟩:=K0r d'
          refine⟨by rw [X0i,X0i,a1,b1,hx,hy],fun i hi=> ?_⟩
          have hi':i<f.length:=by rw [X0i,a1] at hi;omega
          show subL _ ((K0a _ _ _).getD i []) ((K0a _ _ _).getD i [])
          rw [G0b _ _ i (by omega),G0b _ _ i (by omega),if_pos hi',if_pos hi']
          obtain⟨l1,_⟩:=a2 i (by omega)
          obtain⟨l2,_⟩:=b2 i (by omega)
          intro j hj
          by_cases hjk:j≤k
          · rw [Q0q _ _ _ _ (by omega),Q0q _ _ _ _ (by omega)]
            exact ih.2 i (by omega) j hjk
          · obtain rfl:j=k+1:=by omega
            rw [Q0t _ _ _ _ (by omega),Q0t _ _ _ _ (by omega),l1,l2,Nat.sub_self]
            show subI ((tabF (Y0b f (Z0a f x p k).1 k p) 0 f.length []).1.getD i default) ((tabF (Y0b f (Z0a f y p k).1 k p) 0 f.length []).1.getD i default)
            rw [g3 i hi',k3 i hi']
            exact H2d ih (g2 i hi') (k2 i hi')
        · rw [if_pos d'] at h';exact absurd h' d'
      · rw [if_pos d] at h;exact absurd h d
    · rw [Z0a,if_pos c'] at h';exact absurd h' c'
  · rw [Z0a,if_pos c] at h;exact absurd h c
theorem X2u {f:List (List Mn)} {x:List Ivl} {p:Int} {n M:Nat} (hf:okField n M 3 f) (hM:M≤3) (hn1:1≤n) (hn4:n≤4) (hl:x.length=n) (hx: ∀j,j<n→luI 62 105 (x.getD j default)) (hp:Z0b p=true):
 ∀k,k≤5→(Z0a f x p k).2=0∧ ∀i,i<n→grI 400 280 62 105 k ((Z0a f x p k).1.getD i [])
 | 0,_=>by
  refine⟨rfl,fun i hi=> ?_⟩
  have e1:(Z0a f x p 0).1.getD i []= [x.getD i default]:=by simp [Z0a,List.getD_eq_getElem?_getD,(by omega:i<x.length)]
  rw [e1]
  refine⟨by simp,fun j hj=> ?_⟩
  obtain rfl:j=0:=by omega
  exact hx i hi
 | k+1,hk=>by
  obtain⟨c,hg⟩:=X2u hf hM hn1 hn4 hl hx hp k (by omega)
  have hfl:=hf.1
  have wx: ∀a∈x,wI a:=fun a ha=>by
   obtain⟨i,hi,rfl⟩:=List.mem_iff_getElem.1 ha
   have:=(hx i (by omega)).1
   rw [show x.getD i default=x[i] by simp [List.getD_eq_getElem?_getD,hi]] at this
   exact z1m this
  obtain⟨a1,a2⟩:=H0l (f:=f) (p:=p) (by omega) wx k c
  have hpp:p.toNat≤256:=by
   unfold Z0b at hp
   simp only [Bool.and_eq_true,decide_eq_true_eq] at hp
   omega
  have key: ∀i,i<n→(Y0b f (Z0a f x p k).1 k p i).2=0∧luI (400*(k+1)+62) (280*(k+1)+105) (Y0b f (Z0a f x p k).1 k p i).1:=fun i hi=>by
   have okP:=hf.at (i:=i) (by omega)
   have hql:(f.getD i []).length≤M:=okP.2.1
   have hk4:k≤4:=by omega
   have m1:400*k≤400*4:=Nat.mul_le_mul_left _ hk4
   have m2:280*k≤280*4:=Nat.mul_le_mul_left _ hk4
   obtain⟨o1,o2⟩:=Z3y (q:=f.getD i []) (xs:=(Z0a f x p k).1) (p:=p) (a:=400) (u:=280) (Lc:=12) (Uc:=18+M) (s1:=62) (r1:=105) (k:=k) (K:=4) (D:=3) hp
    (fun j hj=>by
     obtain⟨z1,z2,z3,z4,z5,z6⟩:=okP.at hj
     exact⟨z4,z6,z2,z3,by omega⟩)
    (fun j hj=>hg j (by omega)) hk4 (by omega) _ (Nat.le_refl _)
   have hser:V0h (f.getD i []) (Z0a f x p k).1 k p=ofS (f.getD i []) (Z0a f x p k).1 k p (f.getD i []).length:=by
    unfold V0h
    rw [Int.toNat_natCast,if_pos]
    refine⟨?_,?_,?_⟩
    · unfold j0z;rw [hp];simp;omega
    · rw [a1,hl];exact okP.1
    · rw [List.all_eq_true]
      intro r hr
      obtain⟨j,hj,rfl⟩:=List.mem_iff_getElem.1 hr
      have g:=hg j (by omega)
      rw [show(Z0a f x p k).1.getD j []=(Z0a f x p k).1[j] by simp [List.getD_eq_getElem?_getD,hj]] at g
      exact J1c g.1 fun t ht=>(g.2 t ht).1
   unfold Y0b
   rw [hser,if_neg (by rw [o1];decide)]
   obtain⟨d1,d2⟩:=Y3q (n:=k+1) o2 (by omega) (by omega) hp (by omega)
   exact⟨d1,d2.mono (by omega) (by omega)⟩
  have d:(W1u f (Z0a f x p k).1 k p).2=0:=H0f _ _ _ fun j _ hj=>(key j (by omega)).1
  obtain⟨g1,g2,g3⟩:=K0r d
  rw [Z0a,if_neg (by rw [c];decide),if_neg (by rw [d];decide)]
  refine⟨rfl,fun i hi=> ?_⟩
  show grI _ _ _ _ _ ((K0a _ _ _).getD i [])
  rw [G0b _ _ i (by omega),if_pos (by omega)]
  obtain⟨l1,_⟩:=a2 i (by omega)
  refine⟨by rw [List.length_append,l1];simp,fun j hj=> ?_⟩
  by_cases hjk:j≤k
  · rw [Q0q _ _ _ _ (by omega)]
    exact(hg i hi).2 j hjk
  · obtain rfl:j=k+1:=by omega
    rw [Q0t _ _ _ _ (by omega),l1,Nat.sub_self]
    show luI _ _ ((tabF (Y0b f (Z0a f x p k).1 k p) 0 f.length []).1.getD i default)
    rw [g3 i (by omega)]
    exact(key i hi).2
end Go.Pv
end
section
/-Layer 15:FlowLess. -/
set_option maxRecDepth 100000
namespace Go.Pv
open Go.Proofs
theorem V1l {f:List (List Mn)} {x:List Ivl} {p:Int} {n k:Nat} (hf:okField n 3 3 f) (hn1:1≤n) (hn4:n≤4) (hl:x.length=n) (hx: ∀j,j<n→luI 62 105 (x.getD j default)) (hp:Z0b p=true) (hk:k≤5):
 W0r f x k p=Z0a f x p k∧(W0r f x k p).2=0∧(W0r f x k p).1.length=n∧ ∀i,i<n→((W0r f x k p).1.getD i []).length=k+1∧(∀y∈(W0r f x k p).1.getD i [],wI y)∧ ∀j,j≤k→Q0i (((W0r f x k p).1.getD i []).getD j default)=true:=by
 have hfl:=hf.1
 have rx:rightB x=true:=V0k (fun j hj=>(hx j (by omega)).1) (by omega) (by omega)
 have rf:=hf.right hn1 hn4
 have e:W0r f x k p=Z0a f x p k:=by
  unfold W0r
  rw [if_pos ⟨rf,rx,by omega,by omega,by omega,hp⟩,Int.toNat_natCast]
 have wx: ∀a∈x,wI a:=fun a ha=>by
  obtain⟨i,hi,rfl⟩:=List.mem_iff_getElem.1 ha
  have:=(hx i (by omega)).1
  rw [show x.getD i default=x[i] by simp [List.getD_eq_getElem?_getD,hi]] at this
  exact z1m this
 obtain⟨s0,s1⟩:=X2u hf (by omega) hn1 hn4 hl hx hp k hk
 obtain⟨a1,a2⟩:=H0l (f:=f) (p:=p) (by omega) wx k s0
 rw [e]
 exact⟨rfl,s0,by omega,fun i hi=>⟨(a2 i (by omega)).1,(a2 i (by omega)).2,fun j hj=>((s1 i hi).2 j hj).1⟩⟩
set_option maxHeartbeats 4000000 in
theorem W2e (l:List UInt64):PCalls Tryz.prog 8 [.sl .no (encW l)] [] (fun r st'=>r= .sc (.bool true)):=by
 refine Q0b none Tryz.func8 rfl fun E=>Q0a ?_
 simp -dsimp only [go_sem]
 refine(V1a _).mono ?_
 rintro r st ⟨rfl,rfl⟩
 simp -dsimp only [go_sem]
 refine(X2x l _).mono ?_
 rintro r st ⟨rfl,rfl⟩
 simp -dsimp only [go_sem]
 refine(G0u l 0 0 3 [dk l 0] rfl (by omega) (by omega) (by omega)).mono ?_
 rintro r st ⟨rfl,rfl⟩
 have hk:=W1x l 0 (n:=3) (by omega)
 have x1:IntKind.i64.wrap (1+((nx l 0 3:Nat):Int))=((1+nx l 0 3:Nat):Int):=by rw [Q0h _ (by omega) (by omega)];omega
 simp -dsimp only [go_sem,x1]
 generalize hn:1+nx l 0 3=n
 refine(V1y l 1 0 n 3 3 [dk l 1] rfl (by omega) (by omega) (by omega) (by omega) (by omega)).mono ?_
 rintro r st ⟨f,j1,hf,hj1,hj2,rfl,rfl⟩
 simp -dsimp only [go_sem]
 refine(J1q l j1 0 n [dk l j1] rfl (by omega) (by omega)).mono ?_
 rintro r st ⟨x,j2,hxl,hx,hj3,hj4,rfl,rfl⟩
 simp -dsimp only [go_sem]
 refine(G0u l j2 0 6 [dk l j2] rfl (by omega) (by omega) (by omega)).mono ?_
 rintro r st ⟨rfl,rfl⟩
 have ho:=W1x l j2 (n:=6) (by omega)
 generalize nx l j2 6=o at ho⊢
 simp -dsimp only [go_sem]
 refine(Z3v l (j2+1) 0 [dk l (j2+1)] rfl (by omega)).mono ?_
 rintro r st ⟨p,j4,hp1,hp2,hj7,hj8,rfl,rfl⟩
 have wf:=hf.wF (by omega) (by omega)
 have wx:=Z3k hxl (by omega) hx
 have hpp:Z0b (p:Int)=true:=by unfold Z0b;simp;omega
 have hx2: ∀j,j<n→luI 62 105 (x.getD j default):=fun j hj=>(q3r (hx j (by omega))).mono (by omega) (by omega)
 obtain⟨a0,a1,a2,a3⟩:=V1l (k:=o) hf (by omega) (by omega) hxl hx2 hpp (by omega)
 simp -dsimp only [go_sem]
 refine(y0b f x o p _ wf wx).mono ?_
 rintro r st ⟨rfl,rfl⟩
 simp -dsimp only [go_sem]
 refine(V2h l j4 0 x [dk l j4] rfl (by omega) (by omega) hx).mono ?_
 rintro r st ⟨y,hyl,hy,rfl,rfl⟩
 have hy2: ∀j,j<n→luI 62 105 (y.getD j default):=fun j hj=>(hy j (by omega)).1
 have wy:wB y:=⟨by omega,fun j hj=>U0g (hy j (by omega)).1.1⟩
 obtain⟨b0,b1,b2,b3⟩:=V1l (k:=o) hf (by omega) (by omega) (by omega) hy2 hpp (by omega)
 simp -dsimp only [go_sem]
 refine(y0b f y o p _ wf wy).mono ?_
 rintro r st ⟨rfl,rfl⟩
 have hsub:subX o (W0r f y o p).1 (W0r f x o p).1:=by
  rw [a0] at a1⊢
  rw [b0] at b1⊢
  have hfl:=hf.1
  refine j1g (by omega) (by omega) (fun a ha=> ?_) (fun a ha=> ?_) (fun i hi=>(H1s (hy i (by omega)).1.1 (hx i (by omega)).1).1 (hy i (by omega)).2) o b1 a1
  · obtain⟨i,hi,rfl⟩:=List.mem_iff_getElem.1 ha
    have:=wy.2 i hi
    rwa [show y.getD i default=y[i] by simp [List.getD_eq_getElem?_getD,hi]] at this
  · obtain⟨i,hi,rfl⟩:=List.mem_iff_getElem.1 ha
    have:=wx.2 i hi
    rwa [show x.getD i default=x[i] by simp [List.getD_eq_getElem?_getD,hi]] at this
 clear a0 b0
 generalize W0r f x o p=A at a1 a2 a3 hsub⊢
 generalize W0r f y o p=B at b1 b2 b3 hsub⊢
 have z1:(A.2 !=0)=false:=by rw [a1];rfl
 have z2:(B.2 !=0)=false:=by rw [b1];rfl
 have z3:((A.1.length:Int) !=(n:Int))=false:=by rw [a2];simp
 have z4:((B.1.length:Int) !=(n:Int))=false:=by rw [b2];simp
 simp -dsimp only [go_sem,z1,z2,z3,z4]
 have wo:IntKind.i64.wrap ((o:Int)+1)=((o+1:Nat):Int):=by rw [Q0h _ (by omega) (by omega)];omega
 refine Q0e [false,false,false,false,true,false,false,true,false,true,false,true,false,true] 0 0 (fun m s=> ∃i,i≤n∧m=n-i∧
  s=⟨[.junk,.junk,.junk,.junk,.sc (.int .i64 (n:Nat)),.junk,.junk,.sc (.int .i64 (o:Nat)),.junk,.sl .no (encM A.1),.junk,.sl .no (encM B.1),.junk,.sc (.int .i64 (i:Nat))]++List.replicate 98 .junk,[],[],[dk l (j4+2*x.length)]⟩) n ?_ ?_
 · simp -dsimp only [go_sem]
   exact⟨0,by omega,by omega,rfl⟩
 · rintro m s ⟨i,hi,rfl,rfl⟩
   simp -dsimp only [go_sem]
   refine ck (fun h'=> ?_) (fun h'=> ?_)
   · have hlt:i<n:=by have:=of_decide_eq_true h';omega
     have e1:=V0t A.1 i (by omega)
     have e2:=V0t B.1 i (by omega)
     obtain⟨c1,c2,c3⟩:=a3 i hlt
     obtain⟨d1,d2,d3⟩:=b3 i hlt
     have hs:=hsub.2 i (by omega)
     have e3:IntKind.i64.wrap ((i:Int)+1)=((i+1:Nat):Int):=by rw [Q0h _ (by omega) (by omega)];omega
     generalize A.1.getD i []=X at e1 c1 c2 c3 hs
     generalize B.1.getD i []=Y at e2 d1 d2 d3 hs
     have z5:((X.length:Int) !=((o+1:Nat):Int))=false:=by rw [c1];simp
     have z6:((Y.length:Int) !=((o+1:Nat):Int))=false:=by rw [d1];simp
     simp -dsimp only [go_sem,e1,e2,wo,z5,z6]
     refine⟨by omega,by omega,?_⟩
     refine Q0e [false,false,false,false,true,false,false,true,false,true,false,true,false,true,true] 0 0 (fun m s=> ∃k,k≤o+1∧m=o+1-k∧
      s=⟨[.junk,.junk,.junk,.junk,.sc (.int .i64 (n:Nat)),.junk,.junk,.sc (.int .i64 (o:Nat)),.junk,.sl .no (encM A.1),.junk,.sl .no (encM B.1),.junk,.sc (.int .i64 (i:Nat)),.sc (.int .i64 (k:Nat))]++List.replicate 97 .junk,[],[],[dk l (j4+2*x.length)]⟩) (o+1) ?_ ?_
     · simp -dsimp only [go_sem]
       exact⟨0,by omega,by omega,rfl⟩
     · rintro m s ⟨k,hk2,rfl,rfl⟩
       simp -dsimp only [go_sem]
       refine ck (fun h3=> ?_) (fun h3=> ?_)
       · have hkl:k≤o:=by have:=of_decide_eq_true h3;omega
         have f1:=Z0m X k (by omega)
         have f2:=Z0m Y k (by omega)
         have e4:IntKind.i64.wrap ((k:Int)+1)=((k+1:Nat):Int):=by rw [Q0h _ (by omega) (by omega)];omega
         have w1:=c2 _ (Q0s X k default (by omega))
         have w2:=d2 _ (Q0s Y k default (by omega))
         have hin:inI (Y.getD k default) (X.getD k default)=true:=(H1s (d3 k hkl) (c3 k hkl)).2 (hs k hkl)
         simp -dsimp only [go_sem]
         refine Q0l Z0k 112 (.step 0 [] (.step 1 [] (.step 2 [] (.step 3 [] (.step 4 [] (.step 5 [] (.step 6 [] (.step 7 [] (.step 8 [] (.step 9 [] (.step 10 [] (.step 11 [] (.step 12 [] (.step 13 [] (.step 14 [] (.step 15 [] (.done))))))))))))))))) (by decide+kernel) (by simp) ?_
         simp -dsimp only [go_sem,e1,e2,f1,f2]
         refine⟨⟨by omega,by omega⟩,⟨by omega,by omega⟩,⟨by omega,by omega⟩,⟨by omega,by omega⟩,?_⟩
         refine(x3i _ _ _ w2 w1).mono ?_
         rintro r st ⟨rfl,rfl⟩
         simp -dsimp only [go_sem,hin,e4]
         exact⟨o+1-(k+1),by omega,k+1,by omega,rfl,rfl⟩
       · simp -dsimp only [go_sem]
         refine Q0a ?_
         simp -dsimp only [go_sem,e3]
         exact⟨n-(i+1),by omega,i+1,by omega,rfl,rfl⟩
   · simp -dsimp only [go_sem]
     refine Q0a ?_
     simp -dsimp only [go_sem]
end Go.Pv
end
