/- Parts of the walk: N13, N14. -/
import Derived.Test.YtofoadghajnglaaGreatDoorZAB
import Derived.Test.YtofoadghajnglaaGreatDoorZY
import Derived.Test.YtofoadghajnglaaGreatDoorZH
import Derived.Test.YtofoadghajnglaaGreatDoorZK
import Derived.Test.YtofoadghajnglaaGreatDoorZP
set_option linter.unusedVariables false
set_option linter.unusedSimpArgs false
section
/-iv.Has,Make,Meet,valid,outward,Add,Sub,Wide,Mid,Mul. -/
set_option maxRecDepth 100000
namespace Go.Pv
open Go.Proofs
theorem Q3e (a:Ivl) (x:Nm) (st:Q0f) (ha:wI a) (hx:wN x):PCalls Tryz.prog 57 [.agg (encI a),.agg (encN x)] st (fun r st'=>r= .sc (.bool (hasI a x))∧st'=st):=by
 refine Q0b none Tryz.func57 rfl fun E=>Q0a ?_
 unfold hasI
 simp -dsimp only [go_sem]
 refine(H0c a _ ha).mono ?_
 rintro r st ⟨rfl,rfl⟩
 cases r1:Q0w a with
 | false=>simp -dsimp only [go_sem];try rfl
 | true=>
  simp -dsimp only [go_sem]
  refine(X0m x _ (by unfold wN at hx;omega)).mono ?_
  rintro r st ⟨rfl,rfl⟩
  cases r2:Q0j x with
  | false=>simp -dsimp only [go_sem];try rfl
  | true=>
   have s1:=Z0j (Q0x r1).1
   have s2:=Z0j (Q0x r1).2.1
   have s3:=Z0j r2
   simp -dsimp only [go_sem]
   refine(y0f a.lo x _ s1 s3).mono ?_
   rintro r st ⟨rfl,rfl⟩
   cases c1:decide (cmpN a.lo x≤0) with
   | false=>simp -dsimp only [go_sem,c1];try rfl
   | true=>
    simp -dsimp only [go_sem,c1]
    refine(y0f x a.hi _ s3 s2).mono ?_
    rintro r st ⟨rfl,rfl⟩
    simp -dsimp only [go_sem,c1]
    try rfl
theorem q2v (lo hi:Nm) (st:Q0f) (h1:wN lo) (h2:wN hi):PCalls Tryz.prog 69 [.agg (encN lo),.agg (encN hi)] st (fun r st'=>r= .tup [.agg (encI (K2n lo hi).1),.sc (.int .i64 (K2n lo hi).2)]∧st'=st):=by
 refine Q0b none Tryz.func69 rfl fun E=>Q0a ?_
 unfold K2n
 simp -dsimp only [go_sem]
 refine(H0c ⟨lo,hi⟩ _ ⟨h1,h2⟩).mono ?_
 rintro r st ⟨rfl,rfl⟩
 cases r1:Q0w ⟨lo,hi⟩ with
 | false=>
  rw [if_neg (by simp)]
  simp -dsimp only [go_sem];try rfl
 | true=>
  rw [if_pos rfl]
  simp -dsimp only [go_sem]
  refine(V3o lo hi _ h1 h2).mono ?_
  rintro r st ⟨rfl,rfl⟩
  simp -dsimp only [go_sem]
theorem X1l (a b:Ivl) (p:Int) (st:Q0f) (ha:wI a) (hb:wI b):PCalls Tryz.prog 212 [.agg (encI a),.agg (encI b),.sc (.int .i64 p)] st (fun r st'=>r= .sc (.bool (Q0w a&&Q0w b&&Z0p p))∧st'=st):=by
 refine Q0b none Tryz.func212 rfl fun E=>Q0a ?_
 simp -dsimp only [go_sem]
 refine(H0c a _ ha).mono ?_
 rintro r st ⟨rfl,rfl⟩
 cases r1:Q0w a with
 | false=>simp -dsimp only [go_sem];try rfl
 | true=>
  simp -dsimp only [go_sem]
  refine(H0c b _ hb).mono ?_
  rintro r st ⟨rfl,rfl⟩
  cases r2:Q0w b with
  | false=>simp -dsimp only [go_sem];try rfl
  | true=>
   simp -dsimp only [go_sem]
   refine(Y0p p _).mono ?_
   rintro r st ⟨rfl,rfl⟩
   simp -dsimp only [go_sem]
   try rfl
theorem v1h (v:Vl):(numV v).2=0∨numV v=(default,2):=by
 unfold numV
 split
 · exact .inl rfl
 · split
   · exact .inr rfl
   · exact .inl rfl
theorem X1b (lo hi:Nm) (p:Nat) (st:Q0f) (hl:bd 1000000 1000000 lo) (hh:bd 1000000 1000000 hi) (hp0:0<p) (hp:p≤1000000000):PCalls Tryz.prog 216 [.agg (encN lo),.agg (encN hi),.sc (.int .i64 p)] st
 (fun r st'=>r= .tup [.agg (encI (j0q (Z0h (ofX lo) p false) (Z0h (ofX hi) p true)).1),.sc (.int .i64 (j0q (Z0h (ofX lo) p false) (Z0h (ofX hi) p true)).2)]∧st'=st):=by
 refine Q0b none Tryz.func216 rfl fun E=>Q0a ?_
 unfold j0q
 simp -dsimp only [go_sem]
 refine(x0a lo p false _ hl hp0 hp).mono ?_
 rintro r st ⟨rfl,rfl⟩
 simp -dsimp only [go_sem]
 refine ck (fun h=> ?_) (fun h=> ?_)
 · have hne:=q0k h
   simp -dsimp only [go_sem]
   rw [if_neg (fun hh=>hne hh.1)]
   rcases v1h (Z0h (ofX lo) p false) with e | e
   · exact absurd e hne
   · rw [e];rfl
 · have he:=x0m h
   simp -dsimp only [go_sem]
   refine(x0a hi p true _ hh hp0 hp).mono ?_
   rintro r st ⟨rfl,rfl⟩
   simp -dsimp only [go_sem]
   refine ck (fun h=> ?_) (fun h=> ?_)
   · have hne:=q0k h
     simp -dsimp only [go_sem]
     rw [if_neg (fun hh=>hne hh.2)]
     rcases v1h (Z0h (ofX hi) p true) with e | e
     · exact absurd e hne
     · rw [e];rfl
   · have he2:=x0m h
     simp -dsimp only [go_sem]
     rw [if_pos ⟨he,he2⟩]
     try rfl
theorem Q3f (a b:Ivl) (p:Int) (st:Q0f) (ha:wI a) (hb:wI b):PCalls Tryz.prog 148 [.agg (encI a),.agg (encI b),.sc (.int .i64 p)] st (fun r st'=>r= .tup [.agg (encI (opI 0 a b p).1),.sc (.int .i64 (opI 0 a b p).2)]∧st'=st):=by
 refine Q0b none Tryz.func148 rfl fun E=>Q0a ?_
 simp -dsimp only [go_sem]
 refine(X1l a b p _ ha hb).mono ?_
 rintro r st ⟨rfl,rfl⟩
 simp -dsimp only [go_sem]
 refine ck (fun h=> ?_) (fun h=> ?_)
 · simp -dsimp only [go_sem]
   rw [opI,if_neg (fun hh=>by simp [hh.1,hh.2.1,hh.2.2] at h)];rfl
 · have hv:Q0w a=true∧Q0w b=true∧Z0p p=true:=by simpa [and_assoc] using h
   obtain⟨r1,r2,r3⟩:=hv
   obtain⟨q,rfl,q1,q2,q3⟩:=K0e r3
   obtain⟨a1,a2,_⟩:=Q0x r1
   obtain⟨b1,b2,_⟩:=Q0x r2
   simp -dsimp only [go_sem]
   refine Q0k Z0f 28 (.step 0 [] (.step 1 [] (.step 2 [] (.step 3 [] (.step 5 [] (.step 6 [] (.step 7 [] (.step 8 [] (.step 10 [] (.step 4 [6,8] (.step 9 [] (.step 11 [] (.step 12 [] (.step 13 [] (.step 14 [] (.step 15 [] (.done))))))))))))))))) (by decide+kernel) (by simp) ?_
   simp -dsimp only [go_sem]
   refine(Q3u a.lo b.lo a1 b1 _).mono ?_
   rintro r st ⟨y,y1,y2,rfl,rfl⟩
   simp -dsimp only [go_sem]
   refine(Q3u a.hi b.hi a2 b2 _).mono ?_
   rintro r st ⟨z,z1,z2,rfl,rfl⟩
   simp -dsimp only [go_sem]
   refine(X1b y z q _ y1 z1 (by omega) (by omega)).mono ?_
   rintro r st ⟨rfl,rfl⟩
   have ca:=canI r1
   have cb:=canI r2
   have e1:ofX y=loV 0 (ofN a.lo) (ofN a.hi) (ofN b.lo) (ofN b.hi):=X1d (Y1v 0 ca.1 ca.2 cb.1 cb.2) (by rw [y2,exQ0,loV0,w0q];rfl)
   have e2:ofX z=hiV 0 (ofN a.lo) (ofN a.hi) (ofN b.lo) (ofN b.hi):=X1d (Y1x 0 ca.1 ca.2 cb.1 cb.2) (by rw [z2,exQ0,hiV0,w0q];rfl)
   simp -dsimp only [go_sem]
   rw [opI,if_pos ⟨r1,r2,r3⟩,e1,e2,q3]
theorem Q3c (a b:Ivl) (p:Int) (st:Q0f) (ha:wI a) (hb:wI b):PCalls Tryz.prog 198 [.agg (encI a),.agg (encI b),.sc (.int .i64 p)] st (fun r st'=>r= .tup [.agg (encI (opI 1 a b p).1),.sc (.int .i64 (opI 1 a b p).2)]∧st'=st):=by
 refine Q0b none Tryz.func198 rfl fun E=>Q0a ?_
 simp -dsimp only [go_sem]
 refine(X1l a b p _ ha hb).mono ?_
 rintro r st ⟨rfl,rfl⟩
 simp -dsimp only [go_sem]
 refine ck (fun h=> ?_) (fun h=> ?_)
 · simp -dsimp only [go_sem]
   rw [opI,if_neg (fun hh=>by simp [hh.1,hh.2.1,hh.2.2] at h)];rfl
 · have hv:Q0w a=true∧Q0w b=true∧Z0p p=true:=by simpa [and_assoc] using h
   obtain⟨r1,r2,r3⟩:=hv
   obtain⟨q,rfl,q1,q2,q3⟩:=K0e r3
   obtain⟨a1,a2,_⟩:=Q0x r1
   obtain⟨b1,b2,_⟩:=Q0x r2
   simp -dsimp only [go_sem]
   refine Q0k Z0f 28 (.step 0 [] (.step 1 [] (.step 2 [] (.step 3 [] (.step 5 [] (.step 6 [] (.step 7 [] (.step 8 [] (.step 10 [] (.step 4 [6,8] (.step 9 [] (.step 11 [] (.step 12 [] (.step 13 [] (.step 14 [] (.step 15 [] (.done))))))))))))))))) (by decide+kernel) (by simp) ?_
   simp -dsimp only [go_sem]
   refine(Q3t a.lo b.hi a1 b2 _).mono ?_
   rintro r st ⟨y,y1,y2,rfl,rfl⟩
   simp -dsimp only [go_sem]
   refine(Q3t a.hi b.lo a2 b1 _).mono ?_
   rintro r st ⟨z,z1,z2,rfl,rfl⟩
   simp -dsimp only [go_sem]
   refine(X1b y z q _ y1 z1 (by omega) (by omega)).mono ?_
   rintro r st ⟨rfl,rfl⟩
   have ca:=canI r1
   have cb:=canI r2
   have e1:ofX y=loV 1 (ofN a.lo) (ofN a.hi) (ofN b.lo) (ofN b.hi):=X1d (Y1v 1 ca.1 ca.2 cb.1 cb.2) (by rw [y2,exQ1,loV1,j0a];rfl)
   have e2:ofX z=hiV 1 (ofN a.lo) (ofN a.hi) (ofN b.lo) (ofN b.hi):=X1d (Y1x 1 ca.1 ca.2 cb.1 cb.2) (by rw [z2,exQ1,hiV1,j0a];rfl)
   simp -dsimp only [go_sem]
   rw [opI,if_pos ⟨r1,r2,r3⟩,e1,e2,q3]
theorem Y1e (x a b:Nm) (i j:Nat) (st:Q0f) (hij:i≠j) (hi:st.getD i []=encN a) (hj:st.getD j []=encN b) (hx:sm x) (ha:sm a) (hb:sm b):
 PCalls Tryz.prog 213 ([.agg (encN x)]++ [.gp i 0,.gp j 0]) st (fun r st'=>r= .tup []∧st'=(st.set i (encN (J0p a x))).set j (encN (X0u b x))):=by
 refine Q0b none Tryz.func213 rfl fun E=>Q0a ?_
 unfold encN at hi hj
 simp -dsimp only [go_sem]
 refine Q0k Z0f 10 (.step 0 [] (.step 1 [] (.step 3 [] (.step 4 [] (.step 2 [3,4] (.step 5 [] (.step 6 [] (.step 7 [] (.done))))))))) (by decide+kernel) (by simp) ?_
 simp -dsimp only [go_sem,hi,hj]
 refine(Q3a a x _ ha hx).mono ?_
 rintro r st ⟨rfl,rfl⟩
 simp -dsimp only [go_sem,hi,hj]
 refine(V1j b x _ hb hx).mono ?_
 rintro r st ⟨rfl,rfl⟩
 simp -dsimp only [go_sem,hi,hj]
 rw [Q0g _ _ _ _ _ hij,hj]
 exact⟨⟨by simp,by simp⟩,rfl⟩
theorem w1e (n:Nat) (x:Nm):Bnd n (.agg (encN x)):=by
 refine .agg _ fun j hj=> ?_
 match j,hj with
 | 0,_=>exact .sc _
 | 1,_=>exact .sc _
 | 2,_=>
  refine .sl _ _ 1 (fun i hi=> ?_) (fun i j hi hj=> ?_)
  · rw [Z0m] at hi;rw [Z0e x.w i hi];rfl
  · rw [Z0m] at hi;rw [Z0e x.w i hi]
    have:j=0:=by omega
    subst this;exact .sc _
theorem x2v (n:Nat) (x:Ivl): ∀j,j<(encI x).length→Bnd n ((encI x).getD j .junk):=fun j hj=>by
 have h1:=w1e n x.lo
 have h2:=w1e n x.hi
 cases h1 with
 | agg _ h1=>
  cases h2 with
  | agg _ h2=>
   match j,hj with
   | 0,_=>exact h1 0 (show _<3 by omega)
   | 1,_=>exact h1 1 (show _<3 by omega)
   | 2,_=>exact h1 2 (show _<3 by omega)
   | 3,_=>exact h2 0 (show _<3 by omega)
   | 4,_=>exact h2 1 (show _<3 by omega)
   | 5,_=>exact h2 2 (show _<3 by omega)
theorem q1s (n:Nat) (x:Ivl) (e:Int):Bnd n (.tup [.agg (encI x),.sc (.int .i64 e)]):=by
 refine .tup _ fun j hj=> ?_
 match j,hj with
 | 0,_=>exact .agg _ (x2v n x)
 | 1,_=>exact .sc _
theorem k1b (st:Q0f) (l h:List PV):(st++ [l]++ [h]).getD st.length []=l:=by
 rw [List.append_assoc,List.getD_eq_getElem?_getD,List.getElem?_append_right (Nat.le_refl _)];simp
theorem k1c (st:Q0f) (l h:List PV):(st++ [l]++ [h]).getD (st.length+1) []=h:=by
 rw [List.append_assoc,List.getD_eq_getElem?_getD,List.getElem?_append_right (by omega)];simp
theorem z1k (st:Q0f) (l h l' h':List PV):((st++ [l]++ [h]).set st.length l').set (st.length+1) h'=st++ [l']++ [h']:=by
 rw [List.append_assoc,List.set_append_right _ _ (Nat.le_refl _),List.set_append_right _ _ (by omega)];simp
theorem U1u {n k:Nat} {x:Nm} (h:bd n k x) (h1:n≤1000000) (h2:k≤1000000000):sm x:=⟨by have:=h.1;omega,by have:=h.2.1;omega,by have:=h.2.2;omega⟩
theorem X1k {n k:Nat} {a b:Nm} (ha:bd n k a) (hb:bd n k b):bd n k (J0p a b):=K2u ha hb
theorem X1w {n k:Nat} {a b:Nm} (ha:bd n k a) (hb:bd n k b):bd n k (X0u a b):=X1v ha hb
theorem Q3d (a b:Ivl) (p:Int) (st:Q0f) (ha:wI a) (hb:wI b):PCalls Tryz.prog 147 [.agg (encI a),.agg (encI b),.sc (.int .i64 p)] st (fun r st'=>r= .tup [.agg (encI (opI 2 a b p).1),.sc (.int .i64 (opI 2 a b p).2)]∧st'=st):=by
 refine PCalls.drop ?_
 refine Q0b none Tryz.func147 rfl fun E=>Q0l (Q0a ?_)
 simp -dsimp only [go_sem]
 refine Q0l (Q0a ?_)
 simp -dsimp only [go_sem]
 refine(X1l a b p _ ha hb).mono ?_
 rintro r st ⟨rfl,rfl⟩
 simp -dsimp only [go_sem]
 refine ck (fun h=> ?_) (fun h=> ?_)
 · simp -dsimp only [go_sem]
   refine⟨q1s _ default 1,[],(List.append_nil _).symm,?_⟩
   rw [opI,if_neg (fun hh=>by simp [hh.1,hh.2.1,hh.2.2] at h)];rfl
 · have hv:Q0w a=true∧Q0w b=true∧Z0p p=true:=by simpa [and_assoc] using h
   obtain⟨r1,r2,r3⟩:=hv
   obtain⟨q,rfl,q1,q2,q3⟩:=K0e r3
   obtain⟨a1,a2,_⟩:=Q0x r1
   obtain⟨b1,b2,_⟩:=Q0x r2
   simp -dsimp only [go_sem]
   refine Q0l (Q0a ?_)
   simp -dsimp only [go_sem]
   refine(J1d a.lo b.lo 64 65536 64 65536 _ (Z0z a1) (Z0z b1) (by omega) (by omega) (by omega) (by omega)).mono ?_
   rintro r st ⟨y1,y1b,y1q,rfl,rfl⟩
   simp -dsimp only [go_sem]
   refine Q0l (Q0a ?_)
   simp -dsimp only [go_sem]
   refine U0x 3 (by simp [go_sem]) (by simp) ?_
   simp -dsimp only [go_sem]
   refine U0x 4 (by simp [go_sem]) (by simp) (Q0a ?_)
   simp -dsimp only [go_sem]
   have s1:=U1u y1b (by omega) (by omega)
   refine(J1d a.lo b.hi 64 65536 64 65536 _ (Z0z a1) (Z0z b2) (by omega) (by omega) (by omega) (by omega)).mono ?_
   rintro r st2 ⟨y2,y2b,y2q,rfl,rfl⟩
   have s2:=U1u y2b (by omega) (by omega)
   simp -dsimp only [go_sem]
   refine(Y1e y2 y1 y1 st.length (st.length+1) _ (by omega) (k1b _ _ _) (k1c _ _ _) s2 s1 s1).mono ?_
   rintro r st3 ⟨rfl,rfl⟩
   rw [z1k]
   have l2:=X1k y1b y2b
   have g2:=X1w y1b y2b
   have l2s:=U1u l2 (by omega) (by omega)
   have g2s:=U1u g2 (by omega) (by omega)
   simp -dsimp only [go_sem]
   refine(J1d a.hi b.lo 64 65536 64 65536 _ (Z0z a2) (Z0z b1) (by omega) (by omega) (by omega) (by omega)).mono ?_
   rintro r st3 ⟨y3,y3b,y3q,rfl,rfl⟩
   have s3:=U1u y3b (by omega) (by omega)
   simp -dsimp only [go_sem]
   refine(Y1e y3 (J0p y1 y2) (X0u y1 y2) st.length (st.length+1) _ (by omega) (k1b _ _ _) (k1c _ _ _) s3 l2s g2s).mono ?_
   rintro r st4 ⟨rfl,rfl⟩
   rw [z1k]
   have l3:=X1k l2 y3b
   have g3:=X1w g2 y3b
   have l3s:=U1u l3 (by omega) (by omega)
   have g3s:=U1u g3 (by omega) (by omega)
   simp -dsimp only [go_sem]
   refine(J1d a.hi b.hi 64 65536 64 65536 _ (Z0z a2) (Z0z b2) (by omega) (by omega) (by omega) (by omega)).mono ?_
   rintro r st4 ⟨y4,y4b,y4q,rfl,rfl⟩
   have s4:=U1u y4b (by omega) (by omega)
   simp -dsimp only [go_sem]
   refine(Y1e y4 (J0p (J0p y1 y2) y3) (X0u (X0u y1 y2) y3) st.length (st.length+1) _ (by omega) (k1b _ _ _) (k1c _ _ _) s4 l3s g3s).mono ?_
   rintro r st5 ⟨rfl,rfl⟩
   rw [z1k]
   have l4:=X1k l3 y4b
   have g4:=X1w g3 y4b
   have e1:=Q2t r1 r2 y1q y2q y3q y4q
   have e2:=Y1k r1 r2 y1q y2q y3q y4q
   generalize J0p (J0p (J0p y1 y2) y3) y4=L at*
   generalize X0u (X0u (X0u y1 y2) y3) y4=H at*
   have hL:=k1b st (encN L) (encN H)
   have hH:=k1c st (encN L) (encN H)
   unfold encN at hL hH⊢
   simp -dsimp only [go_sem,hL,hH]
   refine(X1b L H q _ (l4.mono (by omega) (by omega)) (g4.mono (by omega) (by omega)) (by omega) (by omega)).mono ?_
   rintro r st6 ⟨rfl,rfl⟩
   have hm:opI 2 a b q=j0q (Z0h (ofX L) q false) (Z0h (ofX H) q true):=by rw [opI,if_pos ⟨r1,r2,r3⟩,e1,e2,q3]
   rw [hm]
   simp -dsimp only [go_sem,hL,hH]
   exact⟨q1s _ _ _,_,List.append_assoc _ _ _⟩
end Go.Pv
end
