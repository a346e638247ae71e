/- Parts of the walk: M89. -/
import Derived.Test.YtofoadghajnglaaGreatDoorZFF
import Derived.Test.YtofoadghajnglaaGreatDoorZAR
set_option linter.unusedVariables false
set_option linter.unusedSimpArgs false
section
/-Of small matrices:what is answered,by the matrix,does not fail and has the matrix of ones. No program in it. -/
namespace Go.Pv
def bdR (n S:Nat) (l:List Nm):Prop:= ∀j,j<n→luQ S S (qN (l.getD j default))
def bdQ (n S:Nat) (a:List (List Nm)):Prop:= ∀i,i<n→bdR n S (a.getD i [])
theorem bdR.mono {n S T:Nat} {l:List Nm} (h:bdR n S l) (hl:S≤T):bdR n T l:=fun j hj=>(h j hj).mono hl hl
theorem bdQ.mono {n S T:Nat} {a:List (List Nm)} (h:bdQ n S a) (hl:S≤T):bdQ n T a:=fun i hi=>(h i hi).mono hl
theorem Q2e {n S S':Nat} {m:Nm} {p:Int} {row other:List Nm} (hl:row.length=n) (hm:luQ S S (qN m)) (hr:bdR n S row) (ho:bdR n S' other) (hok:q0i m p row other=true):bdR n (S+S'+4) (q0w m p row other):=by
 intro j hj
 unfold q0i at hok
 rw [List.all_eq_true] at hok
 have h0:=hok j (List.mem_range.2 (by omega))
 have h1:(Q1n (row.getD j default) m (other.getD j default) p).2=0:=by simpa using h0
 unfold q0w
 rw [v0m _ _ _ (by omega)]
 unfold Q1n at h1⊢
 split at h1
 · rename_i hc;exact absurd h1 hc
 rename_i hc
 rw [if_neg hc]
 have hc':(Q0s 2 m (other.getD j default) p false).2=0:=Classical.byContradiction fun e=>hc e
 have b1:=H0k hc' (by rw [exQ2];exact q0v hm (ho j hj))
 refine(H0k h1 (L:=S+S') (U:=S+S'+2) ?_).mono (by omega) (by omega)
 rw [exQ1]
 exact H0t ((hr j hj).mono (by omega) (by omega)) (b1.mono (by omega) (by omega))
theorem G2r {n S:Nat} {d:Nm} {p:Int} {row:List Nm} (hl:row.length=n) (hp:Z0a p=true) (hd:Q0h d=true) (hrr: ∀c∈row,Q0h c=true) (h0:d.w≠ []) (hm:luQ S S (qN d)) (hr:bdR n S row) (hok:z0g d p row=true):bdR n (2*S+260) (divL d p row):=by
 intro j hj
 unfold z0g at hok
 rw [List.all_eq_true] at hok
 have hmem:row.getD j default∈row:=Q0r _ _ _ (by omega)
 have h1:(divN (row.getD j default) d p false).2=0:=by simpa using hok _ hmem
 have e:(divL d p row).getD j default=(divN (row.getD j default) d p false).1:=by
  unfold divL
  rw [List.getD_eq_getElem?_getD,List.getElem?_map,List.getD_eq_getElem?_getD,List.getElem?_eq_getElem (show j<row.length by omega)];rfl
 rw [e]
 exact(Q2w (hrr _ hmem) hd hp (hr j hj) hm h0 h1).mono (by omega) (by omega)
theorem v0l {a:List (List Nm)} {i:Nat} {r:List Nm} (hi:i<a.length) (k:Nat):(a.set i r).getD k []=if k=i then r else a.getD k []:=by
 rw [J0k]
 by_cases e:k=i
 · subst e;rw [if_pos ⟨rfl,hi⟩,if_pos rfl]
 · rw [if_neg fun h=>e h.1.symm,if_neg e]
def bdI (n S k i:Nat) (a:List (List Nm)):Prop:=bdR n (2*S+260) (a.getD k [])∧ ∀j,j<n→j≠k→if j<i then bdR n (3*S+270) (a.getD j []) else bdR n S (a.getD j [])
theorem bdI.next {n S k i:Nat} {a:List (List Nm)} (h:bdI n S k i a) (hk:k<n) (hn:a.length=n) (hi:i<n) (hne:i≠k) {r:List Nm} (hr:bdR n (3*S+270) r):bdI n S k (i+1) (a.set i r):=by
 refine⟨?_,fun j hj hjk=> ?_⟩
 · rw [v0l (by omega),if_neg (fun e=>hne e.symm)];exact h.1
 · rw [v0l (by omega)]
   have:=h.2 j hj hjk
   by_cases e:j=i
   · rw [if_pos (by omega),if_pos e];exact hr
   · rw [if_neg e]
     by_cases e2:j<i
     · rw [if_pos (by omega)];rwa [if_pos e2] at this
     · rw [if_neg (by omega)];rwa [if_neg e2] at this
theorem bdI.skip {n S k i:Nat} {a:List (List Nm)} (h:bdI n S k i a):bdI n S k (i+1) a:=by
 refine⟨h.1,fun j hj hjk=> ?_⟩
 have:=h.2 j hj hjk
 by_cases e:j<i
 · rw [if_pos (by omega)];rwa [if_pos e] at this
 · rw [if_neg e] at this
   split
   · exact this.mono (by omega)
   · exact this
theorem k2t {n S k i:Nat} {p:Int} {x:GJ} (hs:sqG n x) (hk:k<n) (hi:i<n) (ha:bdI n S k i x.a) (hr:bdI n S k i x.r) (he:(K1v p k i x).e=0):bdI n S k (i+1) (K1v p k i x).a∧bdI n S k (i+1) (K1v p k i x).r:=by
 unfold K1v at he⊢
 split at he
 · rename_i hc
   rw [if_pos hc]
   exact⟨ha.skip,hr.skip⟩
 rename_i hc
 rw [if_neg hc]
 split at he
 · rename_i hok
   rw [if_pos hok]
   rw [Bool.and_eq_true] at hok
   have hne:i≠k:=fun e=>hc (.inl e)
   have a1:=ha.2 i hi hne
   have r1:=hr.2 i hi hne
   rw [if_neg (Nat.lt_irrefl i)] at a1 r1
   have hm:luQ S S (qN (entQ x.a i k)):=a1 k hk
   exact⟨ha.next hk hs.1.1 hi hne ((Q2e (hs.1.row hi).1 hm a1 ha.1 hok.1).mono (by omega)),hr.next hk hs.2.1 hi hne ((Q2e (hs.2.row hi).1 hm r1 hr.1 hok.2).mono (by omega))⟩
 · exact absurd he (by show¬(2:Int)=0;decide)
theorem q1y {n S k:Nat} {p:Int} {x:GJ} (hs:sqG n x) (hk:k<n) (ha:bdI n S k 0 x.a) (hr:bdI n S k 0 x.r): ∀i,i≤n→(J0y p k x i).e=0→bdI n S k i (J0y p k x i).a∧bdI n S k i (J0y p k x i).r
 | 0,_,_=>⟨ha,hr⟩
 | i+1,hi,he=>by
  unfold J0y at he⊢
  split at he
  · rename_i h0
    rw [if_pos h0]
    obtain⟨h1,h2⟩:=q1y hs hk ha hr i (by omega) h0
    exact k2t (v0j hs hk i (by omega)) hk (by omega) h1 h2 he
  · rename_i h0;exact absurd he h0
theorem K2u {n S:Nat} {a:List (List Nm)} (hn:a.length=n) (h:bdQ n S a) {i j:Nat} (hi:i<n) (hj:j<n):bdQ n S (X0k [] a i j):=by
 intro k hk
 rw [W0d [] a (by omega) (by omega)]
 split
 · exact h i hi
 split
 · exact h j hj
 · exact h k hk
theorem Z3h {n S k:Nat} {a:List (List Nm)} (hn:a.length=n) (hk:k<n) (h:bdQ n S a) {r:List Nm} (hr:bdR n (2*S+260) r):bdI n S k 0 (a.set k r):=by
 refine⟨?_,fun j hj hjk=> ?_⟩
 · rw [v0l (by omega),if_pos rfl];exact hr
 · rw [if_neg (Nat.not_lt_zero _),v0l (by omega),if_neg hjk];exact h j hj
theorem H2t {n S k:Nat} {a:List (List Nm)} (h:bdI n S k n a):bdQ n (3*S+270) a:=by
 intro i hi
 by_cases e:i=k
 · subst e;exact h.1.mono (by omega)
 · have:=h.2 i hi e
   rw [if_pos hi] at this
   exact this
theorem k2v {n S k:Nat} {p:Int} {x:GJ} (hs:sqG n x) (hk:k<n) (hp:Z0a p=true) (ha:bdQ n S x.a) (hr:bdQ n S x.r) (he:(x0p p n k x).e=0):bdQ n (3*S+270) (x0p p n k x).a∧bdQ n (3*S+270) (x0p p n k x).r:=by
 have hpl:=X1n x.a k (n-(k+1))
 have hsp:=U1m hs hk
 have pa:bdQ n S (y0d n k x).a:=K2u hs.1.1 ha hk (by omega)
 have pr:bdQ n S (y0d n k x).r:=K2u hs.2.1 hr hk (by omega)
 have hent:entQ (y0d n k x).a k k=entQ x.a (pivN x.a k (n-(k+1))) k:=by
  unfold entQ
  show(List.getD (X0k [] x.a k (pivN x.a k (n-(k+1)))) k []).getD k default=_
  rw [W0d [] x.a (by rw [hs.1.1];exact hk) (by rw [hs.1.1];omega)]
  split
  · rename_i e;rw [←e]
  · rw [if_pos rfl]
 unfold x0p at he⊢
 split at he
 · exact absurd he (by show¬(3:Int)=0;decide)
 rename_i h0
 rw [if_neg h0]
 split at he
 · rename_i hd
   rw [if_pos hd]
   have hsd:=U1n (p:=p) hsp hk
   have hdd:bdI n S k 0 (q0z p k (y0d n k x)).a∧bdI n S k 0 (q0z p k (y0d n k x)).r:=by
    rw [q0z] at hd⊢
    split at hd
    · rename_i hok
      rw [if_pos hok]
      rw [Bool.and_eq_true] at hok
      have hdr:Q0h (entQ (y0d n k x).a k k)=true:=hsp.1.ent hk hk
      have hd0:(entQ (y0d n k x).a k k).w≠ []:=by rw [hent];exact h0
      have hdl:luQ S S (qN (entQ (y0d n k x).a k k)):=pa k hk k hk
      exact⟨Z3h hsp.1.1 hk pa (G2r (hsp.1.row hk).1 hp hdr (hsp.1.row hk).2 hd0 hdl (pa k hk) hok.1),Z3h hsp.2.1 hk pr (G2r (hsp.2.row hk).1 hp hdr (hsp.2.row hk).2 hd0 hdl (pr k hk) hok.2)⟩
    · exact absurd hd (by show¬(2:Int)=0;decide)
   obtain⟨h1,h2⟩:=q1y hsd hk hdd.1 hdd.2 n (Nat.le_refl _) he
   exact⟨H2t h1,H2t h2⟩
 · rename_i hd;exact absurd he hd
def stS :Nat→Nat
 | 0=>18
 | k+1=>3*stS k+270
theorem q1z {n:Nat} {p:Int} {x:GJ} (hs:sqG n x) (hp:Z0a p=true) (ha:bdQ n 18 x.a) (hr:bdQ n 18 x.r): ∀k,k≤n→(X0q p n x k).e=0→bdQ n (stS k) (X0q p n x k).a∧bdQ n (stS k) (X0q p n x k).r
 | 0,_,_=>⟨ha,hr⟩
 | k+1,hk,he=>by
  unfold X0q at he⊢
  split at he
  · rename_i h0
    rw [if_pos h0]
    obtain⟨h1,h2⟩:=q1z hs hp ha hr k (by omega) h0
    exact k2v (v0k hs k (by omega)) (by omega) hp h1 h2 he
  · rename_i h0;exact absurd he h0
theorem G3y : ∀k,k≤4→stS k≤12258:=by decide
theorem U1c (L:Nat):luQ L 1 1:=by
 have:=k1l (z:=1) (n:=1) (by decide) L
 rwa [show qM 1 0=1 by unfold qM;rw [w0p,Rat.mul_one];rfl] at this
theorem J3f (n:Nat):bdQ n 18 (W0i n):=by
 intro i hi j hj
 unfold W0i
 have e:(((List.range n).map fun i=>(List.range n).map fun j=>if i=j then(⟨false,0,[1]⟩:Nm) else default).getD i []).getD j default=if i=j then⟨false,0,[1]⟩ else default:=by
  have e0:((List.range n).map fun i=>(List.range n).map fun j=>if i=j then(⟨false,0,[1]⟩:Nm) else default).getD i []=(List.range n).map fun j=>if i=j then(⟨false,0,[1]⟩:Nm) else default:=by
   rw [List.getD_eq_getElem?_getD,List.getElem?_map,List.getElem?_range hi];rfl
  rw [e0]
  show((List.range n).map fun j=>if i=j then(⟨false,0,[1]⟩:Nm) else default).getD j default=_
  exact v0m _ _ _ hj
 rw [e]
 split
 · exact(show qN ⟨false,0,[1]⟩=1 from U0p)▸(U1c 18).up (by omega)
 · rw [W0y];exact U0t _ _
theorem H2w {a:List (List Nm)} {p:Int} (h:(Q0o a p).2=0) (hb:bdQ a.length 18 a):bdQ a.length 12258 (Q0o a p).1:=by
 obtain⟨h1,h2,h3,h4,h5,h6,h7,h8⟩:=z0n h
 rw [h8]
 exact(q1z (n:=a.length) (x:=⟨a,W0i a.length,0⟩) ⟨h4,j1b _⟩ h2 hb (J3f _) a.length (Nat.le_refl _) h7).2.mono (G3y _ h6)
theorem y1n {n S:Nat} {q:List (List Nm)} (hs:sqR n q) (hb:bdQ n S q) {i j:Nat} (hi:i<n) (hj:j<n):luI S S (atM (ofM q) i j):=by
 rw [X1t (by rw [hs.1];exact hi) (by rw [(hs.row hi).1];exact hj)]
 exact⟨j0d (hs.ent hi hj),hb i hi j hj,hb i hi j hj⟩
theorem J4q {n i j:Nat} (h1:1≤n) (h4:n≤4) (hi:i<n) (hj:j<n):luI 0 1 (atM (idM (n:Int)) i j):=by
 rw [(Q1d h1 h4 hi hj).2.2]
 split
 · exact⟨by decide,by rw [U0p];exact U1c 0,by rw [U0p];exact U1c 0⟩
 · exact U1d _ _
theorem z2h {a:List (List Nm)} {p:Int} (h:(Z0z a p).2=0) (hb:bdQ a.length 18 a) {i j:Nat} (hi:i<a.length) (hj:j<a.length):luI 37100 36900 (atM (Z0z a p).1 i j):=by
 obtain⟨⟨-, -, -,hp⟩, -, -,hs⟩:=Y0p h
 have hrt:=((hs i hi).2 j hj).1
 obtain⟨s1,s2,s3,s4,s5⟩:=w1i h
 obtain⟨a1,a2,a3,a4,a5,a6, -, -⟩:=z0n s1
 have hX:=H2w s1 hb
 obtain⟨d1,d2,d3,d4⟩:=j1i s4
 rw [s5] at h hrt⊢
 obtain⟨f1,f2⟩:=G0x h
 obtain⟨q1,q2⟩:=(f2 i hi).2 j hj
 rw [q2] at hrt⊢
 have hXl:(ofM (Q0o a p).1).length=a.length:=by unfold ofM;rw [List.length_map];exact a3.1
 --the rest
 have he:luQ 12276 12295 (qN (J0i (Q0o a p).1 a p).1):=by
  generalize hXX:(Q0o a p).1=X at*
  have c1:(mulM (ofM X) (ofM a) p).2=0:=by
   refine Classical.byContradiction fun hne=> ?_
   rw [J0i,if_pos hne] at s2
   exact hne s2
  have c2:(opM 1 (idM (X.length:Int)) (mulM (ofM X) (ofM a) p).1 p).2=0:=by
   refine Classical.byContradiction fun hne=> ?_
   rw [J0i,if_neg (fun e=>e c1),if_pos hne] at s2
   exact hne s2
  rw [J0i,if_neg (fun e=>e c1),if_neg (fun e=>e c2)] at s2⊢
  obtain⟨-,m1,m2⟩:=U0q c1
  obtain⟨-,o1,o2⟩:=j1w c2
  have hid:=(Q1d a5 a6 (show 0<a.length by omega) (show 0<a.length by omega)).1
  rw [a3.1] at o1 o2 s2⊢
  rw [hid] at o1 o2
  rw [hXl] at m1 m2
  refine(q1j (L:=12276) (U:=12287) (fun i j hi hj=> ?_) s2).up (by omega)
  rw [o1] at hi hj
  obtain⟨g1,g2⟩:=(o2 i hi).2 j hj
  obtain⟨w1,w2⟩:=(m2 i hi).2 j hj
  rw [g2]
  have hm:luI 12276 12285 (atM (mulM (ofM X) (ofM a) p).1 i j):=by
   rw [w2]
   exact(U1t a2 a.length (fun k hk=>⟨y1n a3 hX hi hk,y1n a4 hb hk hj⟩) w1).mono (by omega) (by omega)
  exact W2m (by omega) ((J4q a5 a6 hi hj).mono (by omega) (by omega)) hm a2 g1
 generalize hEE:(J0i (Q0o a p).1 a p).1=e at*
 have hd:luQ 12276 12300 (qN (Q0s 1 oneN e p false).1):=by
  refine(H0k d1 (U:=12296) ?_).up (by omega)
  rw [exQ1,U0p]
  exact H0t ((U1c 0).mono (by omega) (by omega)) he
 have hn:luQ 12258 12266 (qN (X0l (ofM (Q0o a p).1) p).1):=q1j (fun i j hi hj=>by
  rw [hXl] at hi hj
  exact y1n a3 hX hi hj) d2
 have hq1:luQ 24534 24562 (qN (Q0s 2 (X0l (ofM (Q0o a p).1) p).1 e p true).1):=by
  refine(H0k d3 (L:=12258+12276) (U:=12266+12295) ?_).mono (by omega) (by omega)
  rw [exQ2]
  exact q0v hn he
 have hq:luQ 37100 36850 (qN (radQ (Q0o a p).1 e p).1):=by
  rw [d4] at s4⊢
  unfold Y0r at s4⊢
  split at s4
  · exact absurd s4 (by decide)
  rename_i hw
  rw [if_neg hw]
  exact(Q2w (Z0j _ _ _ _ _) (Z0j _ _ _ _ _) a2 hq1 hd hw s4).mono (by omega) (by omega)
 have hy:luQ 12258 12258 (qN (entQ (Q0o a p).1 i j)):=hX i hi j hj
 unfold K0n at q1 hrt⊢
 split at q1
 · exact absurd q1 (by decide)
 rename_i hc
 rw [if_neg hc] at hrt⊢
 have e1:(Q0s 1 (entQ (Q0o a p).1 i j) (radQ (Q0o a p).1 e p).1 p false).2=0:=Classical.byContradiction fun h=>hc (.inl h)
 have e2:(Q0s 0 (entQ (Q0o a p).1 i j) (radQ (Q0o a p).1 e p).1 p true).2=0:=Classical.byContradiction fun h=>hc (.inr h)
 refine⟨hrt,(H0k e1 (L:=37100) (U:=36851) ?_).up (by omega),(H0k e2 (L:=37100) (U:=36851) ?_).up (by omega)⟩
 · rw [exQ1];exact H0t (hy.mono (by omega) (by omega)) hq
 · rw [exQ0];exact H0u (hy.mono (by omega) (by omega)) hq
theorem x1z {a:List (List Nm)} {p:Int} (h:(Z0z a p).2=0):rightM (Z0z a p).1=true:=by
 obtain⟨⟨-,h1,h4, -⟩,hl, -,hs⟩:=Y0p h
 refine rightM_iff.2 ⟨fun i hi=> ?_,by omega,by omega⟩
 rw [hl] at hi⊢
 refine⟨(hs i hi).1,X0z (fun j hj=> ?_) (by rw [(hs i hi).1];omega) (by rw [(hs i hi).1];omega)⟩
 rw [(hs i hi).1] at hj
 exact((hs i hi).2 j hj).1
theorem V1w {a b:Mx} {p:Int} (h:(mulM a b p).2=0):rightM (mulM a b p).1=true:=by
 obtain⟨⟨r1,r2,r3,r4⟩,m1,m2⟩:=U0q h
 have:=X0o r1
 refine rightM_iff.2 ⟨fun i hi=> ?_,by omega,by omega⟩
 rw [m1] at hi⊢
 refine⟨(m2 i hi).1,X0z (fun j hj=> ?_) (by rw [(m2 i hi).1];omega) (by rw [(m2 i hi).1];omega)⟩
 rw [(m2 i hi).1] at hj
 have:=((m2 i hi).2 j hj).2
 unfold atM at this
 rw [this]
 exact H0a _ _ _ _
theorem q3w {n:Nat} (h1:1≤n) (h4:n≤4) {m:Mx} (hr:rightM m=true) (hl:m.length=n) (h: ∀i j,i<n→j<n→memI (J0d i j) (atM m i j)):inM (idM (n:Int)) m=true:=by
 obtain⟨si,hil⟩:=y2h h1 h4
 refine q3u si.right hr (by omega) fun i j hi hj=> ?_
 rw [hil] at hi hj
 have hm:=h i j hi hj
 have hri:Q0m (atM m i j)=true:=V0d hr (by omega) (by omega)
 refine U2k (V0d si.right (by omega) (by omega)) hri ?_ ?_
 all_goals
  rw [(Q1d h1 h4 hi hj).2.2]
  unfold J0d at hm
  split
  · rename_i e
    rw [if_pos e] at hm
    rw [U0p];exact hm
  · rename_i e
    rw [if_neg e] at hm
    show memI (qN (default:Nm)) _
    rw [W0y];exact hm
theorem x1y {a:List (List Nm)} {p:Int} (h:(Z0z a p).2=0) (hb:bdQ a.length 18 a):
 ∃X Y,mulM (Z0z a p).1 (ofM a) p=(X,0)∧mulM (ofM a) (Z0z a p).1 p=(Y,0)∧inM (idM (a.length:Int)) X=true∧inM (idM (a.length:Int)) Y=true:=by
 have hbd:=fun i j hi hj=>z2h h hb (i:=i) (j:=j) hi hj
 have hrt:=x1z h
 obtain⟨⟨hsq,h1,h4,hp⟩,hl,hdet,hs⟩:=Y0p h
 have hra:=hsq.rightM h1 h4
 have hla:(ofM a).length=a.length:=by unfold ofM;rw [List.length_map]
 have hal:=fun i j hi hj=>y1n hsq hb (i:=i) (j:=j) hi hj
 have e1:=y1y hrt hra hl hla hbd hal hp (by omega) (by omega)
 have e2:=y1y hra hrt hla hl hal hbd hp (by omega) (by omega)
 refine⟨_,_,Prod.ext rfl e1,Prod.ext rfl e2,q3w h1 h4 (V1w e1) (by rw [(U0q e1).2.1,hl]) fun i j hi hj=> ?_,q3w h1 h4 (V1w e2) (by rw [(U0q e2).2.1,hla]) fun i j hi hj=> ?_⟩
 · obtain⟨-, -,m2⟩:=U0q e1
   rw [hl] at m2
   obtain⟨d1,d2⟩:=(m2 i hi).2 j hj
   rw [d2]
   have:=Z1b (X:=fun k=>cofQ a.length (fun i j=>qN (entQ a i j)) i k/detQ a.length (fun i j=>qN (entQ a i j))) (Y:=fun k=>qN (entQ a k j)) a.length d1 fun k hk=>⟨((hs i hi).2 k hk).2,by
    rw [X1t hk (by rw [(hsq.row hk).1];exact hj)];exact⟨Rat.le_refl,Rat.le_refl⟩⟩
   have hc:=v2s a.length h1 h4 (fun i j=>qN (entQ a i j)) i j hi hj
   have hz:dotQ (fun k=>cofQ a.length (fun i j=>qN (entQ a i j)) i k/detQ a.length (fun i j=>qN (entQ a i j))) (fun k=>qN (entQ a k j)) a.length=J0d i j:=by
    rw [J1y,hc];grind
   rwa [hz] at this
 · obtain⟨-, -,m2⟩:=U0q e2
   rw [hla] at m2
   obtain⟨d1,d2⟩:=(m2 i hi).2 j hj
   rw [d2]
   have:=Z1b (X:=fun k=>qN (entQ a i k)) (Y:=fun k=>cofQ a.length (fun i j=>qN (entQ a i j)) k j/detQ a.length (fun i j=>qN (entQ a i j))) a.length d1 fun k hk=>⟨by
    rw [X1t hi (by rw [(hsq.row hi).1];exact hk)];exact⟨Rat.le_refl,Rat.le_refl⟩,((hs k hk).2 j hj).2⟩
   have hc:=z1z a.length h1 h4 (fun i j=>qN (entQ a i j)) i j hi hj
   have hz:dotQ (fun k=>qN (entQ a i k)) (fun k=>cofQ a.length (fun i j=>qN (entQ a i j)) k j/detQ a.length (fun i j=>qN (entQ a i j))) a.length=J0d i j:=by
    rw [v0q] at hc⊢
    rw [J1y,hc];grind
   rwa [hz] at this
end Go.Pv
end
