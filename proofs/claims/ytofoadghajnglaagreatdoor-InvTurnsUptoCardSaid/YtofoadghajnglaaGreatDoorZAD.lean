/- Parts of the walk: N13, N14. -/
import Derived.Test.YtofoadghajnglaaGreatDoorZAB
import Derived.Test.YtofoadghajnglaaGreatDoorZY
import Derived.Test.YtofoadghajnglaaGreatDoorZH
import Derived.Test.YtofoadghajnglaaGreatDoorZK
import Derived.Test.YtofoadghajnglaaGreatDoorZP
set_option linter.unusedVariables false
set_option linter.unusedSimpArgs false
section
/-iv.Has,Make,Meet,valid,outward,Add,Sub,Wide,Mid,Mul. -/
set_option maxRecDepth 100000
namespace Go.Pv
open Go.Proofs
theorem K3g (a:Ivl) (x:Nm) (st:Q0d) (ha:wI a) (hx:wN x):PCalls Tryz.prog 57 [.agg (encI a),.agg (encN x)] st (fun r st'=>r= .sc (.bool (hasI a x))∧st'=st):=by
 refine Q0b none Tryz.func57 rfl fun E=>Q0a ?_
 unfold hasI
 simp -dsimp only [go_sem]
 refine(W0u a _ ha).mono ?_
 rintro r st ⟨rfl,rfl⟩
 cases r1:Q0m a with
 | false=>simp -dsimp only [go_sem];try rfl
 | true=>
  simp -dsimp only [go_sem]
  refine(X0p x _ (by unfold wN at hx;omega)).mono ?_
  rintro r st ⟨rfl,rfl⟩
  cases r2:Q0h x with
  | false=>simp -dsimp only [go_sem];try rfl
  | true=>
   have s1:=Z0f (Q0y r1).1
   have s2:=Z0f (Q0y r1).2.1
   have s3:=Z0f r2
   simp -dsimp only [go_sem]
   refine(z0d a.lo x _ s1 s3).mono ?_
   rintro r st ⟨rfl,rfl⟩
   cases c1:decide (cmpN a.lo x≤0) with
   | false=>simp -dsimp only [go_sem,c1];try rfl
   | true=>
    simp -dsimp only [go_sem,c1]
    refine(z0d x a.hi _ s3 s2).mono ?_
    rintro r st ⟨rfl,rfl⟩
    simp -dsimp only [go_sem,c1]
    try rfl
theorem k2h (lo hi:Nm) (st:Q0d) (h1:wN lo) (h2:wN hi):PCalls Tryz.prog 69 [.agg (encN lo),.agg (encN hi)] st (fun r st'=>r= .tup [.agg (encI (Y2r lo hi).1),.sc (.int .i64 (Y2r lo hi).2)]∧st'=st):=by
 refine Q0b none Tryz.func69 rfl fun E=>Q0a ?_
 unfold Y2r
 simp -dsimp only [go_sem]
 refine(W0u ⟨lo,hi⟩ _ ⟨h1,h2⟩).mono ?_
 rintro r st ⟨rfl,rfl⟩
 cases r1:Q0m ⟨lo,hi⟩ with
 | false=>
  rw [if_neg (by simp)]
  simp -dsimp only [go_sem];try rfl
 | true=>
  rw [if_pos rfl]
  simp -dsimp only [go_sem]
  refine(q3a lo hi _ h1 h2).mono ?_
  rintro r st ⟨rfl,rfl⟩
  simp -dsimp only [go_sem]
theorem J1g (a b:Ivl) (p:Int) (st:Q0d) (ha:wI a) (hb:wI b):PCalls Tryz.prog 212 [.agg (encI a),.agg (encI b),.sc (.int .i64 p)] st (fun r st'=>r= .sc (.bool (Q0m a&&Q0m b&&Z0a p))∧st'=st):=by
 refine Q0b none Tryz.func212 rfl fun E=>Q0a ?_
 simp -dsimp only [go_sem]
 refine(W0u a _ ha).mono ?_
 rintro r st ⟨rfl,rfl⟩
 cases r1:Q0m a with
 | false=>simp -dsimp only [go_sem];try rfl
 | true=>
  simp -dsimp only [go_sem]
  refine(W0u b _ hb).mono ?_
  rintro r st ⟨rfl,rfl⟩
  cases r2:Q0m b with
  | false=>simp -dsimp only [go_sem];try rfl
  | true=>
   simp -dsimp only [go_sem]
   refine(Y0m p _).mono ?_
   rintro r st ⟨rfl,rfl⟩
   simp -dsimp only [go_sem]
   try rfl
theorem y1r (v:Vl):(numV v).2=0∨numV v=(default,2):=by
 unfold numV
 split
 · exact .inl rfl
 · split
   · exact .inr rfl
   · exact .inl rfl
theorem X1r (lo hi:Nm) (p:Nat) (st:Q0d) (hl:bd 1000000 1000000 lo) (hh:bd 1000000 1000000 hi) (hp0:0<p) (hp:p≤1000000000):PCalls Tryz.prog 216 [.agg (encN lo),.agg (encN hi),.sc (.int .i64 p)] st
 (fun r st'=>r= .tup [.agg (encI (Y0j (Z0b (ofX lo) p false) (Z0b (ofX hi) p true)).1),.sc (.int .i64 (Y0j (Z0b (ofX lo) p false) (Z0b (ofX hi) p true)).2)]∧st'=st):=by
 refine Q0b none Tryz.func216 rfl fun E=>Q0a ?_
 unfold Y0j
 simp -dsimp only [go_sem]
 refine(z0z lo p false _ hl hp0 hp).mono ?_
 rintro r st ⟨rfl,rfl⟩
 simp -dsimp only [go_sem]
 refine ck (fun h=> ?_) (fun h=> ?_)
 · have hne:=K1z h
   simp -dsimp only [go_sem]
   rw [if_neg (fun hh=>hne hh.1)]
   rcases y1r (Z0b (ofX lo) p false) with e | e
   · exact absurd e hne
   · rw [e];rfl
 · have he:=G1h h
   simp -dsimp only [go_sem]
   refine(z0z hi p true _ hh hp0 hp).mono ?_
   rintro r st ⟨rfl,rfl⟩
   simp -dsimp only [go_sem]
   refine ck (fun h=> ?_) (fun h=> ?_)
   · have hne:=K1z h
     simp -dsimp only [go_sem]
     rw [if_neg (fun hh=>hne hh.2)]
     rcases y1r (Z0b (ofX hi) p true) with e | e
     · exact absurd e hne
     · rw [e];rfl
   · have he2:=G1h h
     simp -dsimp only [go_sem]
     rw [if_pos ⟨he,he2⟩]
     try rfl
theorem K3h (a b:Ivl) (p:Int) (st:Q0d) (ha:wI a) (hb:wI b):PCalls Tryz.prog 148 [.agg (encI a),.agg (encI b),.sc (.int .i64 p)] st (fun r st'=>r= .tup [.agg (encI (opI 0 a b p).1),.sc (.int .i64 (opI 0 a b p).2)]∧st'=st):=by
 refine Q0b none Tryz.func148 rfl fun E=>Q0a ?_
 simp -dsimp only [go_sem]
 refine(J1g a b p _ ha hb).mono ?_
 rintro r st ⟨rfl,rfl⟩
 simp -dsimp only [go_sem]
 refine ck (fun h=> ?_) (fun h=> ?_)
 · simp -dsimp only [go_sem]
   rw [opI,if_neg (fun hh=>by simp [hh.1,hh.2.1,hh.2.2] at h)];rfl
 · have hv:Q0m a=true∧Q0m b=true∧Z0a p=true:=by simpa [and_assoc] using h
   obtain⟨r1,r2,r3⟩:=hv
   obtain⟨q,rfl,q1,q2,q3⟩:=q0t r3
   obtain⟨a1,a2,_⟩:=Q0y r1
   obtain⟨b1,b2,_⟩:=Q0y r2
   simp -dsimp only [go_sem]
   refine Q0p Z0y 28 (.step 0 [] (.step 1 [] (.step 2 [] (.step 3 [] (.step 5 [] (.step 6 [] (.step 7 [] (.step 8 [] (.step 10 [] (.step 4 [6,8] (.step 9 [] (.step 11 [] (.step 12 [] (.step 13 [] (.step 14 [] (.step 15 [] (.done))))))))))))))))) (by decide+kernel) (by simp) ?_
   simp -dsimp only [go_sem]
   refine(K3z a.lo b.lo a1 b1 _).mono ?_
   rintro r st ⟨y,y1,y2,rfl,rfl⟩
   simp -dsimp only [go_sem]
   refine(K3z a.hi b.hi a2 b2 _).mono ?_
   rintro r st ⟨z,z1,z2,rfl,rfl⟩
   simp -dsimp only [go_sem]
   refine(X1r y z q _ y1 z1 (by omega) (by omega)).mono ?_
   rintro r st ⟨rfl,rfl⟩
   have ca:=canI r1
   have cb:=canI r2
   have e1:ofX y=loV 0 (ofN a.lo) (ofN a.hi) (ofN b.lo) (ofN b.hi):=X1s (U0b 0 ca.1 ca.2 cb.1 cb.2) (by rw [y2,exQ0,loV0,V0k];rfl)
   have e2:ofX z=hiV 0 (ofN a.lo) (ofN a.hi) (ofN b.lo) (ofN b.hi):=X1s (U0d 0 ca.1 ca.2 cb.1 cb.2) (by rw [z2,exQ0,hiV0,V0k];rfl)
   simp -dsimp only [go_sem]
   rw [opI,if_pos ⟨r1,r2,r3⟩,e1,e2,q3]
theorem K3e (a b:Ivl) (p:Int) (st:Q0d) (ha:wI a) (hb:wI b):PCalls Tryz.prog 198 [.agg (encI a),.agg (encI b),.sc (.int .i64 p)] st (fun r st'=>r= .tup [.agg (encI (opI 1 a b p).1),.sc (.int .i64 (opI 1 a b p).2)]∧st'=st):=by
 refine Q0b none Tryz.func198 rfl fun E=>Q0a ?_
 simp -dsimp only [go_sem]
 refine(J1g a b p _ ha hb).mono ?_
 rintro r st ⟨rfl,rfl⟩
 simp -dsimp only [go_sem]
 refine ck (fun h=> ?_) (fun h=> ?_)
 · simp -dsimp only [go_sem]
   rw [opI,if_neg (fun hh=>by simp [hh.1,hh.2.1,hh.2.2] at h)];rfl
 · have hv:Q0m a=true∧Q0m b=true∧Z0a p=true:=by simpa [and_assoc] using h
   obtain⟨r1,r2,r3⟩:=hv
   obtain⟨q,rfl,q1,q2,q3⟩:=q0t r3
   obtain⟨a1,a2,_⟩:=Q0y r1
   obtain⟨b1,b2,_⟩:=Q0y r2
   simp -dsimp only [go_sem]
   refine Q0p Z0y 28 (.step 0 [] (.step 1 [] (.step 2 [] (.step 3 [] (.step 5 [] (.step 6 [] (.step 7 [] (.step 8 [] (.step 10 [] (.step 4 [6,8] (.step 9 [] (.step 11 [] (.step 12 [] (.step 13 [] (.step 14 [] (.step 15 [] (.done))))))))))))))))) (by decide+kernel) (by simp) ?_
   simp -dsimp only [go_sem]
   refine(K3y a.lo b.hi a1 b2 _).mono ?_
   rintro r st ⟨y,y1,y2,rfl,rfl⟩
   simp -dsimp only [go_sem]
   refine(K3y a.hi b.lo a2 b1 _).mono ?_
   rintro r st ⟨z,z1,z2,rfl,rfl⟩
   simp -dsimp only [go_sem]
   refine(X1r y z q _ y1 z1 (by omega) (by omega)).mono ?_
   rintro r st ⟨rfl,rfl⟩
   have ca:=canI r1
   have cb:=canI r2
   have e1:ofX y=loV 1 (ofN a.lo) (ofN a.hi) (ofN b.lo) (ofN b.hi):=X1s (U0b 1 ca.1 ca.2 cb.1 cb.2) (by rw [y2,exQ1,loV1,K0y];rfl)
   have e2:ofX z=hiV 1 (ofN a.lo) (ofN a.hi) (ofN b.lo) (ofN b.hi):=X1s (U0d 1 ca.1 ca.2 cb.1 cb.2) (by rw [z2,exQ1,hiV1,K0y];rfl)
   simp -dsimp only [go_sem]
   rw [opI,if_pos ⟨r1,r2,r3⟩,e1,e2,q3]
theorem U1f (x a b:Nm) (i j:Nat) (st:Q0d) (hij:i≠j) (hi:st.getD i []=encN a) (hj:st.getD j []=encN b) (hx:sm x) (ha:sm a) (hb:sm b):
 PCalls Tryz.prog 213 ([.agg (encN x)]++ [.gp i 0,.gp j 0]) st (fun r st'=>r= .tup []∧st'=(st.set i (encN (Z0t a x))).set j (encN (Z0r b x))):=by
 refine Q0b none Tryz.func213 rfl fun E=>Q0a ?_
 unfold encN at hi hj
 simp -dsimp only [go_sem]
 refine Q0p Z0y 10 (.step 0 [] (.step 1 [] (.step 3 [] (.step 4 [] (.step 2 [3,4] (.step 5 [] (.step 6 [] (.step 7 [] (.done))))))))) (by decide+kernel) (by simp) ?_
 simp -dsimp only [go_sem,hi,hj]
 refine(K3d a x _ ha hx).mono ?_
 rintro r st ⟨rfl,rfl⟩
 simp -dsimp only [go_sem,hi,hj]
 refine(W1j b x _ hb hx).mono ?_
 rintro r st ⟨rfl,rfl⟩
 simp -dsimp only [go_sem,hi,hj]
 rw [Q0q _ _ _ _ _ hij,hj]
 exact⟨⟨by simp,by simp⟩,rfl⟩
theorem Z2e (n:Nat) (x:Nm):Bnd n (.agg (encN x)):=by
 refine .agg _ fun j hj=> ?_
 match j,hj with
 | 0,_=>exact .sc _
 | 1,_=>exact .sc _
 | 2,_=>
  refine .sl _ _ 1 (fun i hi=> ?_) (fun i j hi hj=> ?_)
  · rw [Z0o] at hi;rw [Z0h x.w i hi];rfl
  · rw [Z0o] at hi;rw [Z0h x.w i hi]
    have:j=0:=by omega
    subst this;exact .sc _
theorem w2g (n:Nat) (x:Ivl): ∀j,j<(encI x).length→Bnd n ((encI x).getD j .junk):=fun j hj=>by
 have h1:=Z2e n x.lo
 have h2:=Z2e n x.hi
 cases h1 with
 | agg _ h1=>
  cases h2 with
  | agg _ h2=>
   match j,hj with
   | 0,_=>exact h1 0 (show _<3 by omega)
   | 1,_=>exact h1 1 (show _<3 by omega)
   | 2,_=>exact h1 2 (show _<3 by omega)
   | 3,_=>exact h2 0 (show _<3 by omega)
   | 4,_=>exact h2 1 (show _<3 by omega)
   | 5,_=>exact h2 2 (show _<3 by omega)
theorem x1h (n:Nat) (x:Ivl) (e:Int):Bnd n (.tup [.agg (encI x),.sc (.int .i64 e)]):=by
 refine .tup _ fun j hj=> ?_
 match j,hj with
 | 0,_=>exact .agg _ (w2g n x)
 | 1,_=>exact .sc _
theorem w1b (st:Q0d) (l h:List PV):(st++ [l]++ [h]).getD st.length []=l:=by
 rw [List.append_assoc,List.getD_eq_getElem?_getD,List.getElem?_append_right (Nat.le_refl _)];simp
theorem w1c (st:Q0d) (l h:List PV):(st++ [l]++ [h]).getD (st.length+1) []=h:=by
 rw [List.append_assoc,List.getD_eq_getElem?_getD,List.getElem?_append_right (by omega)];simp
theorem x1v (st:Q0d) (l h l' h':List PV):((st++ [l]++ [h]).set st.length l').set (st.length+1) h'=st++ [l']++ [h']:=by
 rw [List.append_assoc,List.set_append_right _ _ (Nat.le_refl _),List.set_append_right _ _ (by omega)];simp
theorem G1t {n k:Nat} {x:Nm} (h:bd n k x) (h1:n≤1000000) (h2:k≤1000000000):sm x:=⟨by have:=h.1;omega,by have:=h.2.1;omega,by have:=h.2.2;omega⟩
theorem J1e {n k:Nat} {a b:Nm} (ha:bd n k a) (hb:bd n k b):bd n k (Z0t a b):=q1t ha hb
theorem J1r {n k:Nat} {a b:Nm} (ha:bd n k a) (hb:bd n k b):bd n k (Z0r a b):=v0i ha hb
theorem K3f (a b:Ivl) (p:Int) (st:Q0d) (ha:wI a) (hb:wI b):PCalls Tryz.prog 147 [.agg (encI a),.agg (encI b),.sc (.int .i64 p)] st (fun r st'=>r= .tup [.agg (encI (opI 2 a b p).1),.sc (.int .i64 (opI 2 a b p).2)]∧st'=st):=by
 refine PCalls.drop ?_
 refine Q0b none Tryz.func147 rfl fun E=>Q0n (Q0a ?_)
 simp -dsimp only [go_sem]
 refine Q0n (Q0a ?_)
 simp -dsimp only [go_sem]
 refine(J1g a b p _ ha hb).mono ?_
 rintro r st ⟨rfl,rfl⟩
 simp -dsimp only [go_sem]
 refine ck (fun h=> ?_) (fun h=> ?_)
 · simp -dsimp only [go_sem]
   refine⟨x1h _ default 1,[],(List.append_nil _).symm,?_⟩
   rw [opI,if_neg (fun hh=>by simp [hh.1,hh.2.1,hh.2.2] at h)];rfl
 · have hv:Q0m a=true∧Q0m b=true∧Z0a p=true:=by simpa [and_assoc] using h
   obtain⟨r1,r2,r3⟩:=hv
   obtain⟨q,rfl,q1,q2,q3⟩:=q0t r3
   obtain⟨a1,a2,_⟩:=Q0y r1
   obtain⟨b1,b2,_⟩:=Q0y r2
   simp -dsimp only [go_sem]
   refine Q0n (Q0a ?_)
   simp -dsimp only [go_sem]
   refine(J1v a.lo b.lo 64 65536 64 65536 _ (X0d a1) (X0d b1) (by omega) (by omega) (by omega) (by omega)).mono ?_
   rintro r st ⟨y1,y1b,y1q,rfl,rfl⟩
   simp -dsimp only [go_sem]
   refine Q0n (Q0a ?_)
   simp -dsimp only [go_sem]
   refine x0e 3 (by simp [go_sem]) (by simp) ?_
   simp -dsimp only [go_sem]
   refine x0e 4 (by simp [go_sem]) (by simp) (Q0a ?_)
   simp -dsimp only [go_sem]
   have s1:=G1t y1b (by omega) (by omega)
   refine(J1v a.lo b.hi 64 65536 64 65536 _ (X0d a1) (X0d b2) (by omega) (by omega) (by omega) (by omega)).mono ?_
   rintro r st2 ⟨y2,y2b,y2q,rfl,rfl⟩
   have s2:=G1t y2b (by omega) (by omega)
   simp -dsimp only [go_sem]
   refine(U1f y2 y1 y1 st.length (st.length+1) _ (by omega) (w1b _ _ _) (w1c _ _ _) s2 s1 s1).mono ?_
   rintro r st3 ⟨rfl,rfl⟩
   rw [x1v]
   have l2:=J1e y1b y2b
   have g2:=J1r y1b y2b
   have l2s:=G1t l2 (by omega) (by omega)
   have g2s:=G1t g2 (by omega) (by omega)
   simp -dsimp only [go_sem]
   refine(J1v a.hi b.lo 64 65536 64 65536 _ (X0d a2) (X0d b1) (by omega) (by omega) (by omega) (by omega)).mono ?_
   rintro r st3 ⟨y3,y3b,y3q,rfl,rfl⟩
   have s3:=G1t y3b (by omega) (by omega)
   simp -dsimp only [go_sem]
   refine(U1f y3 (Z0t y1 y2) (Z0r y1 y2) st.length (st.length+1) _ (by omega) (w1b _ _ _) (w1c _ _ _) s3 l2s g2s).mono ?_
   rintro r st4 ⟨rfl,rfl⟩
   rw [x1v]
   have l3:=J1e l2 y3b
   have g3:=J1r g2 y3b
   have l3s:=G1t l3 (by omega) (by omega)
   have g3s:=G1t g3 (by omega) (by omega)
   simp -dsimp only [go_sem]
   refine(J1v a.hi b.hi 64 65536 64 65536 _ (X0d a2) (X0d b2) (by omega) (by omega) (by omega) (by omega)).mono ?_
   rintro r st4 ⟨y4,y4b,y4q,rfl,rfl⟩
   have s4:=G1t y4b (by omega) (by omega)
   simp -dsimp only [go_sem]
   refine(U1f y4 (Z0t (Z0t y1 y2) y3) (Z0r (Z0r y1 y2) y3) st.length (st.length+1) _ (by omega) (w1b _ _ _) (w1c _ _ _) s4 l3s g3s).mono ?_
   rintro r st5 ⟨rfl,rfl⟩
   rw [x1v]
   have l4:=J1e l3 y4b
   have g4:=J1r g3 y4b
   have e1:=J2o r1 r2 y1q y2q y3q y4q
   have e2:=U1p r1 r2 y1q y2q y3q y4q
   generalize Z0t (Z0t (Z0t y1 y2) y3) y4=L at*
   generalize Z0r (Z0r (Z0r y1 y2) y3) y4=H at*
   have hL:=w1b st (encN L) (encN H)
   have hH:=w1c st (encN L) (encN H)
   unfold encN at hL hH⊢
   simp -dsimp only [go_sem,hL,hH]
   refine(X1r L H q _ (l4.mono (by omega) (by omega)) (g4.mono (by omega) (by omega)) (by omega) (by omega)).mono ?_
   rintro r st6 ⟨rfl,rfl⟩
   have hm:opI 2 a b q=Y0j (Z0b (ofX L) q false) (Z0b (ofX H) q true):=by rw [opI,if_pos ⟨r1,r2,r3⟩,e1,e2,q3]
   rw [hm]
   simp -dsimp only [go_sem,hL,hH]
   exact⟨x1h _ _ _,_,List.append_assoc _ _ _⟩
end Go.Pv
end
