/- Parts of the walk: N13, N14. -/
import Derived.Test.YtofoadghajnglaaGreatDoorZAB
import Derived.Test.YtofoadghajnglaaGreatDoorZY
import Derived.Test.YtofoadghajnglaaGreatDoorZH
import Derived.Test.YtofoadghajnglaaGreatDoorZL
import Derived.Test.YtofoadghajnglaaGreatDoorZP
set_option linter.unusedVariables false
set_option linter.unusedSimpArgs false
section
/-iv.Has,Make,Meet,valid,outward,Add,Sub,Wide,Mid,Mul. -/
set_option maxRecDepth 100000
namespace Go.Pv
open Go.Proofs
theorem y2s (a:Ivl) (x:Nm) (st:Q0f) (ha:wI a) (hx:wN x):PCalls Tryz.prog 57 [.agg (encI a),.agg (encN x)] st (fun r st'=>r= .sc (.bool (hasI a x))∧st'=st):=by
 refine Q0b none Tryz.func57 rfl fun E=>Q0a ?_
 unfold hasI
 simp -dsimp only [go_sem]
 refine(G0u a _ ha).mono ?_
 rintro r st ⟨rfl,rfl⟩
 cases r1:Q0v a with
 | false=>simp -dsimp only [go_sem];try rfl
 | true=>
  simp -dsimp only [go_sem]
  refine(X0j x _ (by unfold wN at hx;omega)).mono ?_
  rintro r st ⟨rfl,rfl⟩
  cases r2:Q0h x with
  | false=>simp -dsimp only [go_sem];try rfl
  | true=>
   have s1:=Z0k (Q0w r1).1
   have s2:=Z0k (Q0w r1).2.1
   have s3:=Z0k r2
   simp -dsimp only [go_sem]
   refine(w0w a.lo x _ s1 s3).mono ?_
   rintro r st ⟨rfl,rfl⟩
   cases c1:decide (cmpN a.lo x≤0) with
   | false=>simp -dsimp only [go_sem,c1];try rfl
   | true=>
    simp -dsimp only [go_sem,c1]
    refine(w0w x a.hi _ s3 s2).mono ?_
    rintro r st ⟨rfl,rfl⟩
    simp -dsimp only [go_sem,c1]
    try rfl
theorem H2z (lo hi:Nm) (st:Q0f) (h1:wN lo) (h2:wN hi):PCalls Tryz.prog 69 [.agg (encN lo),.agg (encN hi)] st (fun r st'=>r= .tup [.agg (encI (J2y lo hi).1),.sc (.int .i64 (J2y lo hi).2)]∧st'=st):=by
 refine Q0b none Tryz.func69 rfl fun E=>Q0a ?_
 unfold J2y
 simp -dsimp only [go_sem]
 refine(G0u ⟨lo,hi⟩ _ ⟨h1,h2⟩).mono ?_
 rintro r st ⟨rfl,rfl⟩
 cases r1:Q0v ⟨lo,hi⟩ with
 | false=>
  rw [if_neg (by simp)]
  simp -dsimp only [go_sem];try rfl
 | true=>
  rw [if_pos rfl]
  simp -dsimp only [go_sem]
  refine(V3w lo hi _ h1 h2).mono ?_
  rintro r st ⟨rfl,rfl⟩
  simp -dsimp only [go_sem]
theorem X1c (a b:Ivl) (p:Int) (st:Q0f) (ha:wI a) (hb:wI b):PCalls Tryz.prog 212 [.agg (encI a),.agg (encI b),.sc (.int .i64 p)] st (fun r st'=>r= .sc (.bool (Q0v a&&Q0v b&&Z0n p))∧st'=st):=by
 refine Q0b none Tryz.func212 rfl fun E=>Q0a ?_
 simp -dsimp only [go_sem]
 refine(G0u a _ ha).mono ?_
 rintro r st ⟨rfl,rfl⟩
 cases r1:Q0v a with
 | false=>simp -dsimp only [go_sem];try rfl
 | true=>
  simp -dsimp only [go_sem]
  refine(G0u b _ hb).mono ?_
  rintro r st ⟨rfl,rfl⟩
  cases r2:Q0v b with
  | false=>simp -dsimp only [go_sem];try rfl
  | true=>
   simp -dsimp only [go_sem]
   refine(Y0l p _).mono ?_
   rintro r st ⟨rfl,rfl⟩
   simp -dsimp only [go_sem]
   try rfl
theorem k1y (v:Vl):(numV v).2=0∨numV v=(default,2):=by
 unfold numV
 split
 · exact .inl rfl
 · split
   · exact .inr rfl
   · exact .inl rfl
theorem Z1t (lo hi:Nm) (p:Nat) (st:Q0f) (hl:bd 1000000 1000000 lo) (hh:bd 1000000 1000000 hi) (hp0:0<p) (hp:p≤1000000000):PCalls Tryz.prog 216 [.agg (encN lo),.agg (encN hi),.sc (.int .i64 p)] st
 (fun r st'=>r= .tup [.agg (encI (j0m (Z0f (ofX lo) p false) (Z0f (ofX hi) p true)).1),.sc (.int .i64 (j0m (Z0f (ofX lo) p false) (Z0f (ofX hi) p true)).2)]∧st'=st):=by
 refine Q0b none Tryz.func216 rfl fun E=>Q0a ?_
 unfold j0m
 simp -dsimp only [go_sem]
 refine(z0r lo p false _ hl hp0 hp).mono ?_
 rintro r st ⟨rfl,rfl⟩
 simp -dsimp only [go_sem]
 refine ck (fun h=> ?_) (fun h=> ?_)
 · have hne:=q0c h
   simp -dsimp only [go_sem]
   rw [if_neg (fun hh=>hne hh.1)]
   rcases k1y (Z0f (ofX lo) p false) with e | e
   · exact absurd e hne
   · rw [e];rfl
 · have he:=x0f h
   simp -dsimp only [go_sem]
   refine(z0r hi p true _ hh hp0 hp).mono ?_
   rintro r st ⟨rfl,rfl⟩
   simp -dsimp only [go_sem]
   refine ck (fun h=> ?_) (fun h=> ?_)
   · have hne:=q0c h
     simp -dsimp only [go_sem]
     rw [if_neg (fun hh=>hne hh.2)]
     rcases k1y (Z0f (ofX hi) p true) with e | e
     · exact absurd e hne
     · rw [e];rfl
   · have he2:=x0f h
     simp -dsimp only [go_sem]
     rw [if_pos ⟨he,he2⟩]
     try rfl
theorem y2t (a b:Ivl) (p:Int) (st:Q0f) (ha:wI a) (hb:wI b):PCalls Tryz.prog 148 [.agg (encI a),.agg (encI b),.sc (.int .i64 p)] st (fun r st'=>r= .tup [.agg (encI (opI 0 a b p).1),.sc (.int .i64 (opI 0 a b p).2)]∧st'=st):=by
 refine Q0b none Tryz.func148 rfl fun E=>Q0a ?_
 simp -dsimp only [go_sem]
 refine(X1c a b p _ ha hb).mono ?_
 rintro r st ⟨rfl,rfl⟩
 simp -dsimp only [go_sem]
 refine ck (fun h=> ?_) (fun h=> ?_)
 · simp -dsimp only [go_sem]
   rw [opI,if_neg (fun hh=>by simp [hh.1,hh.2.1,hh.2.2] at h)];rfl
 · have hv:Q0v a=true∧Q0v b=true∧Z0n p=true:=by simpa [and_assoc] using h
   obtain⟨r1,r2,r3⟩:=hv
   obtain⟨q,rfl,q1,q2,q3⟩:=J0z r3
   obtain⟨a1,a2,_⟩:=Q0w r1
   obtain⟨b1,b2,_⟩:=Q0w r2
   simp -dsimp only [go_sem]
   refine Q0j Z0g 28 (.step 0 [] (.step 1 [] (.step 2 [] (.step 3 [] (.step 5 [] (.step 6 [] (.step 7 [] (.step 8 [] (.step 10 [] (.step 4 [6,8] (.step 9 [] (.step 11 [] (.step 12 [] (.step 13 [] (.step 14 [] (.step 15 [] (.done))))))))))))))))) (by decide+kernel) (by simp) ?_
   simp -dsimp only [go_sem]
   refine(Q3h a.lo b.lo a1 b1 _).mono ?_
   rintro r st ⟨y,y1,y2,rfl,rfl⟩
   simp -dsimp only [go_sem]
   refine(Q3h a.hi b.hi a2 b2 _).mono ?_
   rintro r st ⟨z,z1,z2,rfl,rfl⟩
   simp -dsimp only [go_sem]
   refine(Z1t y z q _ y1 z1 (by omega) (by omega)).mono ?_
   rintro r st ⟨rfl,rfl⟩
   have ca:=canI r1
   have cb:=canI r2
   have e1:ofX y=loV 0 (ofN a.lo) (ofN a.hi) (ofN b.lo) (ofN b.hi):=Z1v (Y1i 0 ca.1 ca.2 cb.1 cb.2) (by rw [y2,exQ0,loV0,w0j];rfl)
   have e2:ofX z=hiV 0 (ofN a.lo) (ofN a.hi) (ofN b.lo) (ofN b.hi):=Z1v (Y1k 0 ca.1 ca.2 cb.1 cb.2) (by rw [z2,exQ0,hiV0,w0j];rfl)
   simp -dsimp only [go_sem]
   rw [opI,if_pos ⟨r1,r2,r3⟩,e1,e2,q3]
theorem y2p (a b:Ivl) (p:Int) (st:Q0f) (ha:wI a) (hb:wI b):PCalls Tryz.prog 198 [.agg (encI a),.agg (encI b),.sc (.int .i64 p)] st (fun r st'=>r= .tup [.agg (encI (opI 1 a b p).1),.sc (.int .i64 (opI 1 a b p).2)]∧st'=st):=by
 refine Q0b none Tryz.func198 rfl fun E=>Q0a ?_
 simp -dsimp only [go_sem]
 refine(X1c a b p _ ha hb).mono ?_
 rintro r st ⟨rfl,rfl⟩
 simp -dsimp only [go_sem]
 refine ck (fun h=> ?_) (fun h=> ?_)
 · simp -dsimp only [go_sem]
   rw [opI,if_neg (fun hh=>by simp [hh.1,hh.2.1,hh.2.2] at h)];rfl
 · have hv:Q0v a=true∧Q0v b=true∧Z0n p=true:=by simpa [and_assoc] using h
   obtain⟨r1,r2,r3⟩:=hv
   obtain⟨q,rfl,q1,q2,q3⟩:=J0z r3
   obtain⟨a1,a2,_⟩:=Q0w r1
   obtain⟨b1,b2,_⟩:=Q0w r2
   simp -dsimp only [go_sem]
   refine Q0j Z0g 28 (.step 0 [] (.step 1 [] (.step 2 [] (.step 3 [] (.step 5 [] (.step 6 [] (.step 7 [] (.step 8 [] (.step 10 [] (.step 4 [6,8] (.step 9 [] (.step 11 [] (.step 12 [] (.step 13 [] (.step 14 [] (.step 15 [] (.done))))))))))))))))) (by decide+kernel) (by simp) ?_
   simp -dsimp only [go_sem]
   refine(Q3g a.lo b.hi a1 b2 _).mono ?_
   rintro r st ⟨y,y1,y2,rfl,rfl⟩
   simp -dsimp only [go_sem]
   refine(Q3g a.hi b.lo a2 b1 _).mono ?_
   rintro r st ⟨z,z1,z2,rfl,rfl⟩
   simp -dsimp only [go_sem]
   refine(Z1t y z q _ y1 z1 (by omega) (by omega)).mono ?_
   rintro r st ⟨rfl,rfl⟩
   have ca:=canI r1
   have cb:=canI r2
   have e1:ofX y=loV 1 (ofN a.lo) (ofN a.hi) (ofN b.lo) (ofN b.hi):=Z1v (Y1i 1 ca.1 ca.2 cb.1 cb.2) (by rw [y2,exQ1,loV1,x0v];rfl)
   have e2:ofX z=hiV 1 (ofN a.lo) (ofN a.hi) (ofN b.lo) (ofN b.hi):=Z1v (Y1k 1 ca.1 ca.2 cb.1 cb.2) (by rw [z2,exQ1,hiV1,x0v];rfl)
   simp -dsimp only [go_sem]
   rw [opI,if_pos ⟨r1,r2,r3⟩,e1,e2,q3]
theorem W1t (x a b:Nm) (i j:Nat) (st:Q0f) (hij:i≠j) (hi:st.getD i []=encN a) (hj:st.getD j []=encN b) (hx:sm x) (ha:sm a) (hb:sm b):
 PCalls Tryz.prog 213 ([.agg (encN x)]++ [.gp i 0,.gp j 0]) st (fun r st'=>r= .tup []∧st'=(st.set i (encN (J0k a x))).set j (encN (X0s b x))):=by
 refine Q0b none Tryz.func213 rfl fun E=>Q0a ?_
 unfold encN at hi hj
 simp -dsimp only [go_sem]
 refine Q0j Z0g 10 (.step 0 [] (.step 1 [] (.step 3 [] (.step 4 [] (.step 2 [3,4] (.step 5 [] (.step 6 [] (.step 7 [] (.done))))))))) (by decide+kernel) (by simp) ?_
 simp -dsimp only [go_sem,hi,hj]
 refine(y2n a x _ ha hx).mono ?_
 rintro r st ⟨rfl,rfl⟩
 simp -dsimp only [go_sem,hi,hj]
 refine(K1y b x _ hb hx).mono ?_
 rintro r st ⟨rfl,rfl⟩
 simp -dsimp only [go_sem,hi,hj]
 rw [Q0q _ _ _ _ _ hij,hj]
 exact⟨⟨by simp,by simp⟩,rfl⟩
theorem v1v (n:Nat) (x:Nm):Bnd n (.agg (encN x)):=by
 refine .agg _ fun j hj=> ?_
 match j,hj with
 | 0,_=>exact .sc _
 | 1,_=>exact .sc _
 | 2,_=>
  refine .sl _ _ 1 (fun i hi=> ?_) (fun i j hi hj=> ?_)
  · rw [Z0m] at hi;rw [Z0e x.w i hi];rfl
  · rw [Z0m] at hi;rw [Z0e x.w i hi]
    have:j=0:=by omega
    subst this;exact .sc _
theorem z2z (n:Nat) (x:Ivl): ∀j,j<(encI x).length→Bnd n ((encI x).getD j .junk):=fun j hj=>by
 have h1:=v1v n x.lo
 have h2:=v1v n x.hi
 cases h1 with
 | agg _ h1=>
  cases h2 with
  | agg _ h2=>
   match j,hj with
   | 0,_=>exact h1 0 (show _<3 by omega)
   | 1,_=>exact h1 1 (show _<3 by omega)
   | 2,_=>exact h1 2 (show _<3 by omega)
   | 3,_=>exact h2 0 (show _<3 by omega)
   | 4,_=>exact h2 1 (show _<3 by omega)
   | 5,_=>exact h2 2 (show _<3 by omega)
theorem q1a (n:Nat) (x:Ivl) (e:Int):Bnd n (.tup [.agg (encI x),.sc (.int .i64 e)]):=by
 refine .tup _ fun j hj=> ?_
 match j,hj with
 | 0,_=>exact .agg _ (z2z n x)
 | 1,_=>exact .sc _
theorem j1s (st:Q0f) (l h:List PV):(st++ [l]++ [h]).getD st.length []=l:=by
 rw [List.append_assoc,List.getD_eq_getElem?_getD,List.getElem?_append_right (Nat.le_refl _)];simp
theorem j1t (st:Q0f) (l h:List PV):(st++ [l]++ [h]).getD (st.length+1) []=h:=by
 rw [List.append_assoc,List.getD_eq_getElem?_getD,List.getElem?_append_right (by omega)];simp
theorem q1t (st:Q0f) (l h l' h':List PV):((st++ [l]++ [h]).set st.length l').set (st.length+1) h'=st++ [l']++ [h']:=by
 rw [List.append_assoc,List.set_append_right _ _ (Nat.le_refl _),List.set_append_right _ _ (by omega)];simp
theorem U1f {n k:Nat} {x:Nm} (h:bd n k x) (h1:n≤1000000) (h2:k≤1000000000):sm x:=⟨by have:=h.1;omega,by have:=h.2.1;omega,by have:=h.2.2;omega⟩
theorem X1b {n k:Nat} {a b:Nm} (ha:bd n k a) (hb:bd n k b):bd n k (J0k a b):=K2f ha hb
theorem X1m {n k:Nat} {a b:Nm} (ha:bd n k a) (hb:bd n k b):bd n k (X0s a b):=X1l ha hb
theorem y2r (a b:Ivl) (p:Int) (st:Q0f) (ha:wI a) (hb:wI b):PCalls Tryz.prog 147 [.agg (encI a),.agg (encI b),.sc (.int .i64 p)] st (fun r st'=>r= .tup [.agg (encI (opI 2 a b p).1),.sc (.int .i64 (opI 2 a b p).2)]∧st'=st):=by
 refine PCalls.drop ?_
 refine Q0b none Tryz.func147 rfl fun E=>Q0m (Q0a ?_)
 simp -dsimp only [go_sem]
 refine Q0m (Q0a ?_)
 simp -dsimp only [go_sem]
 refine(X1c a b p _ ha hb).mono ?_
 rintro r st ⟨rfl,rfl⟩
 simp -dsimp only [go_sem]
 refine ck (fun h=> ?_) (fun h=> ?_)
 · simp -dsimp only [go_sem]
   refine⟨q1a _ default 1,[],(List.append_nil _).symm,?_⟩
   rw [opI,if_neg (fun hh=>by simp [hh.1,hh.2.1,hh.2.2] at h)];rfl
 · have hv:Q0v a=true∧Q0v b=true∧Z0n p=true:=by simpa [and_assoc] using h
   obtain⟨r1,r2,r3⟩:=hv
   obtain⟨q,rfl,q1,q2,q3⟩:=J0z r3
   obtain⟨a1,a2,_⟩:=Q0w r1
   obtain⟨b1,b2,_⟩:=Q0w r2
   simp -dsimp only [go_sem]
   refine Q0m (Q0a ?_)
   simp -dsimp only [go_sem]
   refine(X1t a.lo b.lo 64 65536 64 65536 _ (Z0z a1) (Z0z b1) (by omega) (by omega) (by omega) (by omega)).mono ?_
   rintro r st ⟨y1,y1b,y1q,rfl,rfl⟩
   simp -dsimp only [go_sem]
   refine Q0m (Q0a ?_)
   simp -dsimp only [go_sem]
   refine H0h 3 (by simp [go_sem]) (by simp) ?_
   simp -dsimp only [go_sem]
   refine H0h 4 (by simp [go_sem]) (by simp) (Q0a ?_)
   simp -dsimp only [go_sem]
   have s1:=U1f y1b (by omega) (by omega)
   refine(X1t a.lo b.hi 64 65536 64 65536 _ (Z0z a1) (Z0z b2) (by omega) (by omega) (by omega) (by omega)).mono ?_
   rintro r st2 ⟨y2,y2b,y2q,rfl,rfl⟩
   have s2:=U1f y2b (by omega) (by omega)
   simp -dsimp only [go_sem]
   refine(W1t y2 y1 y1 st.length (st.length+1) _ (by omega) (j1s _ _ _) (j1t _ _ _) s2 s1 s1).mono ?_
   rintro r st3 ⟨rfl,rfl⟩
   rw [q1t]
   have l2:=X1b y1b y2b
   have g2:=X1m y1b y2b
   have l2s:=U1f l2 (by omega) (by omega)
   have g2s:=U1f g2 (by omega) (by omega)
   simp -dsimp only [go_sem]
   refine(X1t a.hi b.lo 64 65536 64 65536 _ (Z0z a2) (Z0z b1) (by omega) (by omega) (by omega) (by omega)).mono ?_
   rintro r st3 ⟨y3,y3b,y3q,rfl,rfl⟩
   have s3:=U1f y3b (by omega) (by omega)
   simp -dsimp only [go_sem]
   refine(W1t y3 (J0k y1 y2) (X0s y1 y2) st.length (st.length+1) _ (by omega) (j1s _ _ _) (j1t _ _ _) s3 l2s g2s).mono ?_
   rintro r st4 ⟨rfl,rfl⟩
   rw [q1t]
   have l3:=X1b l2 y3b
   have g3:=X1m g2 y3b
   have l3s:=U1f l3 (by omega) (by omega)
   have g3s:=U1f g3 (by omega) (by omega)
   simp -dsimp only [go_sem]
   refine(X1t a.hi b.hi 64 65536 64 65536 _ (Z0z a2) (Z0z b2) (by omega) (by omega) (by omega) (by omega)).mono ?_
   rintro r st4 ⟨y4,y4b,y4q,rfl,rfl⟩
   have s4:=U1f y4b (by omega) (by omega)
   simp -dsimp only [go_sem]
   refine(W1t y4 (J0k (J0k y1 y2) y3) (X0s (X0s y1 y2) y3) st.length (st.length+1) _ (by omega) (j1s _ _ _) (j1t _ _ _) s4 l3s g3s).mono ?_
   rintro r st5 ⟨rfl,rfl⟩
   rw [q1t]
   have l4:=X1b l3 y4b
   have g4:=X1m g3 y4b
   have e1:=Q2h r1 r2 y1q y2q y3q y4q
   have e2:=W1z r1 r2 y1q y2q y3q y4q
   generalize J0k (J0k (J0k y1 y2) y3) y4=L at*
   generalize X0s (X0s (X0s y1 y2) y3) y4=H at*
   have hL:=j1s st (encN L) (encN H)
   have hH:=j1t st (encN L) (encN H)
   unfold encN at hL hH⊢
   simp -dsimp only [go_sem,hL,hH]
   refine(Z1t L H q _ (l4.mono (by omega) (by omega)) (g4.mono (by omega) (by omega)) (by omega) (by omega)).mono ?_
   rintro r st6 ⟨rfl,rfl⟩
   have hm:opI 2 a b q=j0m (Z0f (ofX L) q false) (Z0f (ofX H) q true):=by rw [opI,if_pos ⟨r1,r2,r3⟩,e1,e2,q3]
   rw [hm]
   simp -dsimp only [go_sem,hL,hH]
   exact⟨q1a _ _ _,_,List.append_assoc _ _ _⟩
end Go.Pv
end
