/- Parts of the walk: N13, N14. -/
import Derived.Test.YtagacielooaapaaGreatDoorZAB
import Derived.Test.YtagacielooaapaaGreatDoorZY
import Derived.Test.YtagacielooaapaaGreatDoorZH
import Derived.Test.YtagacielooaapaaGreatDoorZL
import Derived.Test.YtagacielooaapaaGreatDoorZX
set_option linter.unusedVariables false
set_option linter.unusedSimpArgs false
section
/-iv.Has,Make,Meet,valid,outward,Add,Sub,Wide,Mid,Mul. -/
set_option maxRecDepth 100000
namespace Go.Pv
open Go.Proofs
theorem X2n (lo hi:Nm) (st:Q0g) (h1:wN lo) (h2:wN hi):PCalls Tryz.prog 88 [.agg (encN lo),.agg (encN hi)] st (fun r st'=>r= .tup [.agg (encI (w1w lo hi).1),.sc (.int .i64 (w1w lo hi).2)]∧st'=st):=by
 refine Q0b none Tryz.func88 rfl fun E=>Q0a ?_
 unfold w1w
 simp -dsimp only [go_sem]
 refine(Y0s ⟨lo,hi⟩ _ ⟨h1,h2⟩).mono ?_
 rintro r st ⟨rfl,rfl⟩
 cases r1:Q0i ⟨lo,hi⟩ with
 | false=>
  rw [if_neg (by simp)]
  simp -dsimp only [go_sem];try rfl
 | true=>
  rw [if_pos rfl]
  simp -dsimp only [go_sem]
  refine(z3o lo hi _ h1 h2).mono ?_
  rintro r st ⟨rfl,rfl⟩
  simp -dsimp only [go_sem]
theorem V1b (a b:Ivl) (p:Int) (st:Q0g) (ha:wI a) (hb:wI b):PCalls Tryz.prog 155 [.agg (encI a),.agg (encI b),.sc (.int .i64 p)] st (fun r st'=>r= .sc (.bool (Q0i a&&Q0i b&&Z0b p))∧st'=st):=by
 refine Q0b none Tryz.func155 rfl fun E=>Q0a ?_
 simp -dsimp only [go_sem]
 refine(Y0s a _ ha).mono ?_
 rintro r st ⟨rfl,rfl⟩
 cases r1:Q0i a with
 | false=>simp -dsimp only [go_sem];try rfl
 | true=>
  simp -dsimp only [go_sem]
  refine(Y0s b _ hb).mono ?_
  rintro r st ⟨rfl,rfl⟩
  cases r2:Q0i b with
  | false=>simp -dsimp only [go_sem];try rfl
  | true=>
   simp -dsimp only [go_sem]
   refine(q0d p _).mono ?_
   rintro r st ⟨rfl,rfl⟩
   simp -dsimp only [go_sem]
   try rfl
theorem X2a (v:Vl):(numV v).2=0∨numV v=(default,2):=by
 unfold numV
 split
 · exact .inl rfl
 · split
   · exact .inr rfl
   · exact .inl rfl
theorem x1k (lo hi:Nm) (p:Nat) (st:Q0g) (hl:bd 1000000 1000000 lo) (hh:bd 1000000 1000000 hi) (hp0:0<p) (hp:p≤1000000000):PCalls Tryz.prog 211 [.agg (encN lo),.agg (encN hi),.sc (.int .i64 p)] st
 (fun r st'=>r= .tup [.agg (encI (Y0f (Q0r (ofX lo) p false) (Q0r (ofX hi) p true)).1),.sc (.int .i64 (Y0f (Q0r (ofX lo) p false) (Q0r (ofX hi) p true)).2)]∧st'=st):=by
 refine Q0b none Tryz.func211 rfl fun E=>Q0a ?_
 unfold Y0f
 simp -dsimp only [go_sem]
 refine(Q1c lo p false _ hl hp0 hp).mono ?_
 rintro r st ⟨rfl,rfl⟩
 simp -dsimp only [go_sem]
 refine ck (fun h=> ?_) (fun h=> ?_)
 · have hne:=v0q h
   simp -dsimp only [go_sem]
   rw [if_neg (fun hh=>hne hh.1)]
   rcases X2a (Q0r (ofX lo) p false) with e | e
   · exact absurd e hne
   · rw [e];rfl
 · have he:=Z1l h
   simp -dsimp only [go_sem]
   refine(Q1c hi p true _ hh hp0 hp).mono ?_
   rintro r st ⟨rfl,rfl⟩
   simp -dsimp only [go_sem]
   refine ck (fun h=> ?_) (fun h=> ?_)
   · have hne:=v0q h
     simp -dsimp only [go_sem]
     rw [if_neg (fun hh=>hne hh.2)]
     rcases X2a (Q0r (ofX hi) p true) with e | e
     · exact absurd e hne
     · rw [e];rfl
   · have he2:=Z1l h
     simp -dsimp only [go_sem]
     rw [if_pos ⟨he,he2⟩]
     try rfl
theorem y1a (a b:Ivl) (p:Int) (st:Q0g) (ha:wI a) (hb:wI b):PCalls Tryz.prog 154 [.agg (encI a),.agg (encI b),.sc (.int .i64 p)] st (fun r st'=>r= .tup [.agg (encI (opI 0 a b p).1),.sc (.int .i64 (opI 0 a b p).2)]∧st'=st):=by
 refine Q0b none Tryz.func154 rfl fun E=>Q0a ?_
 simp -dsimp only [go_sem]
 refine(V1b a b p _ ha hb).mono ?_
 rintro r st ⟨rfl,rfl⟩
 simp -dsimp only [go_sem]
 refine ck (fun h=> ?_) (fun h=> ?_)
 · simp -dsimp only [go_sem]
   rw [opI,if_neg (fun hh=>by simp [hh.1,hh.2.1,hh.2.2] at h)];rfl
 · have hv:Q0i a=true∧Q0i b=true∧Z0b p=true:=by simpa [and_assoc] using h
   obtain⟨r1,r2,r3⟩:=hv
   obtain⟨q,rfl,q1,q2,q3⟩:=q0f r3
   obtain⟨a1,a2,_⟩:=Q0p r1
   obtain⟨b1,b2,_⟩:=Q0p r2
   simp -dsimp only [go_sem]
   refine Q0l Z0k 28 (.step 0 [] (.step 1 [] (.step 2 [] (.step 3 [] (.step 5 [] (.step 6 [] (.step 7 [] (.step 8 [] (.step 10 [] (.step 4 [6,8] (.step 9 [] (.step 11 [] (.step 12 [] (.step 13 [] (.step 14 [] (.step 15 [] (.done))))))))))))))))) (by decide+kernel) (by simp) ?_
   simp -dsimp only [go_sem]
   refine(x3z a.lo b.lo a1 b1 _).mono ?_
   rintro r st ⟨y,y1,y2,rfl,rfl⟩
   simp -dsimp only [go_sem]
   refine(x3z a.hi b.hi a2 b2 _).mono ?_
   rintro r st ⟨z,z1,z2,rfl,rfl⟩
   simp -dsimp only [go_sem]
   refine(x1k y z q _ y1 z1 (by omega) (by omega)).mono ?_
   rintro r st ⟨rfl,rfl⟩
   have ca:=canI r1
   have cb:=canI r2
   have e1:ofX y=loV 0 (ofN a.lo) (ofN a.hi) (ofN b.lo) (ofN b.hi):=Z2y (W1g 0 ca.1 ca.2 cb.1 cb.2) (by rw [y2,exQ0,loV0,V0w];rfl)
   have e2:ofX z=hiV 0 (ofN a.lo) (ofN a.hi) (ofN b.lo) (ofN b.hi):=Z2y (W1h 0 ca.1 ca.2 cb.1 cb.2) (by rw [z2,exQ0,hiV0,V0w];rfl)
   simp -dsimp only [go_sem]
   rw [opI,if_pos ⟨r1,r2,r3⟩,e1,e2,q3]
theorem H1p (x a b:Nm) (i j:Nat) (st:Q0g) (hij:i≠j) (hi:st.getD i []=encN a) (hj:st.getD j []=encN b) (hx:sm x) (ha:sm a) (hb:sm b):
 PCalls Tryz.prog 216 ([.agg (encN x)]++ [.gp i 0,.gp j 0]) st (fun r st'=>r= .tup []∧st'=(st.set i (encN (Z0r a x))).set j (encN (Z0q b x))):=by
 refine Q0b none Tryz.func216 rfl fun E=>Q0a ?_
 unfold encN at hi hj
 simp -dsimp only [go_sem]
 refine Q0l Z0k 10 (.step 0 [] (.step 1 [] (.step 3 [] (.step 4 [] (.step 2 [3,4] (.step 5 [] (.step 6 [] (.step 7 [] (.done))))))))) (by decide+kernel) (by simp) ?_
 simp -dsimp only [go_sem,hi,hj]
 refine(W3c a x _ ha hx).mono ?_
 rintro r st ⟨rfl,rfl⟩
 simp -dsimp only [go_sem,hi,hj]
 refine(V2z b x _ hb hx).mono ?_
 rintro r st ⟨rfl,rfl⟩
 simp -dsimp only [go_sem,hi,hj]
 rw [Q0y _ _ _ _ _ hij,hj]
 exact⟨⟨by simp,by simp⟩,rfl⟩
theorem J2h (n:Nat) (x:Nm):Bnd n (.agg (encN x)):=by
 refine .agg _ fun j hj=> ?_
 match j,hj with
 | 0,_=>exact .sc _
 | 1,_=>exact .sc _
 | 2,_=>
  refine .sl _ _ 1 (fun i hi=> ?_) (fun i j hi hj=> ?_)
  · rw [J0f] at hi;rw [Z0i x.w i hi];rfl
  · rw [J0f] at hi;rw [Z0i x.w i hi]
    have:j=0:=by omega
    subst this;exact .sc _
theorem Q3o (n:Nat) (x:Ivl): ∀j,j<(encI x).length→Bnd n ((encI x).getD j .junk):=fun j hj=>by
 have h1:=J2h n x.lo
 have h2:=J2h n x.hi
 cases h1 with
 | agg _ h1=>
  cases h2 with
  | agg _ h2=>
   match j,hj with
   | 0,_=>exact h1 0 (show _<3 by omega)
   | 1,_=>exact h1 1 (show _<3 by omega)
   | 2,_=>exact h1 2 (show _<3 by omega)
   | 3,_=>exact h2 0 (show _<3 by omega)
   | 4,_=>exact h2 1 (show _<3 by omega)
   | 5,_=>exact h2 2 (show _<3 by omega)
theorem k1o (n:Nat) (x:Ivl) (e:Int):Bnd n (.tup [.agg (encI x),.sc (.int .i64 e)]):=by
 refine .tup _ fun j hj=> ?_
 match j,hj with
 | 0,_=>exact .agg _ (Q3o n x)
 | 1,_=>exact .sc _
theorem Q2p (st:Q0g) (l h:List PV):(st++ [l]++ [h]).getD st.length []=l:=by
 rw [List.append_assoc,List.getD_eq_getElem?_getD,List.getElem?_append_right (Nat.le_refl _)];simp
theorem Q2q (st:Q0g) (l h:List PV):(st++ [l]++ [h]).getD (st.length+1) []=h:=by
 rw [List.append_assoc,List.getD_eq_getElem?_getD,List.getElem?_append_right (by omega)];simp
theorem v1i (st:Q0g) (l h l' h':List PV):((st++ [l]++ [h]).set st.length l').set (st.length+1) h'=st++ [l']++ [h']:=by
 rw [List.append_assoc,List.set_append_right _ _ (Nat.le_refl _),List.set_append_right _ _ (by omega)];simp
theorem z1c {n k:Nat} {x:Nm} (h:bd n k x) (h1:n≤1000000) (h2:k≤1000000000):sm x:=⟨by have:=h.1;omega,by have:=h.2.1;omega,by have:=h.2.2;omega⟩
theorem K1z {n k:Nat} {a b:Nm} (ha:bd n k a) (hb:bd n k b):bd n k (Z0r a b):=x1v ha hb
theorem V1f {n k:Nat} {a b:Nm} (ha:bd n k a) (hb:bd n k b):bd n k (Z0q a b):=x1y ha hb
theorem q2h (a b:Ivl) (p:Int) (st:Q0g) (ha:wI a) (hb:wI b):PCalls Tryz.prog 159 [.agg (encI a),.agg (encI b),.sc (.int .i64 p)] st (fun r st'=>r= .tup [.agg (encI (opI 2 a b p).1),.sc (.int .i64 (opI 2 a b p).2)]∧st'=st):=by
 refine PCalls.drop ?_
 refine Q0b none Tryz.func159 rfl fun E=>Q0v (Q0a ?_)
 simp -dsimp only [go_sem]
 refine Q0v (Q0a ?_)
 simp -dsimp only [go_sem]
 refine(V1b a b p _ ha hb).mono ?_
 rintro r st ⟨rfl,rfl⟩
 simp -dsimp only [go_sem]
 refine ck (fun h=> ?_) (fun h=> ?_)
 · simp -dsimp only [go_sem]
   refine⟨k1o _ default 1,[],(List.append_nil _).symm,?_⟩
   rw [opI,if_neg (fun hh=>by simp [hh.1,hh.2.1,hh.2.2] at h)];rfl
 · have hv:Q0i a=true∧Q0i b=true∧Z0b p=true:=by simpa [and_assoc] using h
   obtain⟨r1,r2,r3⟩:=hv
   obtain⟨q,rfl,q1,q2,q3⟩:=q0f r3
   obtain⟨a1,a2,_⟩:=Q0p r1
   obtain⟨b1,b2,_⟩:=Q0p r2
   simp -dsimp only [go_sem]
   refine Q0v (Q0a ?_)
   simp -dsimp only [go_sem]
   refine(q1d a.lo b.lo 64 65536 64 65536 _ (X0q a1) (X0q b1) (by omega) (by omega) (by omega) (by omega)).mono ?_
   rintro r st ⟨y1,y1b,y1q,rfl,rfl⟩
   simp -dsimp only [go_sem]
   refine Q0v (Q0a ?_)
   simp -dsimp only [go_sem]
   refine H0h 3 (by simp [go_sem]) (by simp) ?_
   simp -dsimp only [go_sem]
   refine H0h 4 (by simp [go_sem]) (by simp) (Q0a ?_)
   simp -dsimp only [go_sem]
   have s1:=z1c y1b (by omega) (by omega)
   refine(q1d a.lo b.hi 64 65536 64 65536 _ (X0q a1) (X0q b2) (by omega) (by omega) (by omega) (by omega)).mono ?_
   rintro r st2 ⟨y2,y2b,y2q,rfl,rfl⟩
   have s2:=z1c y2b (by omega) (by omega)
   simp -dsimp only [go_sem]
   refine(H1p y2 y1 y1 st.length (st.length+1) _ (by omega) (Q2p _ _ _) (Q2q _ _ _) s2 s1 s1).mono ?_
   rintro r st3 ⟨rfl,rfl⟩
   rw [v1i]
   have l2:=K1z y1b y2b
   have g2:=V1f y1b y2b
   have l2s:=z1c l2 (by omega) (by omega)
   have g2s:=z1c g2 (by omega) (by omega)
   simp -dsimp only [go_sem]
   refine(q1d a.hi b.lo 64 65536 64 65536 _ (X0q a2) (X0q b1) (by omega) (by omega) (by omega) (by omega)).mono ?_
   rintro r st3 ⟨y3,y3b,y3q,rfl,rfl⟩
   have s3:=z1c y3b (by omega) (by omega)
   simp -dsimp only [go_sem]
   refine(H1p y3 (Z0r y1 y2) (Z0q y1 y2) st.length (st.length+1) _ (by omega) (Q2p _ _ _) (Q2q _ _ _) s3 l2s g2s).mono ?_
   rintro r st4 ⟨rfl,rfl⟩
   rw [v1i]
   have l3:=K1z l2 y3b
   have g3:=V1f g2 y3b
   have l3s:=z1c l3 (by omega) (by omega)
   have g3s:=z1c g3 (by omega) (by omega)
   simp -dsimp only [go_sem]
   refine(q1d a.hi b.hi 64 65536 64 65536 _ (X0q a2) (X0q b2) (by omega) (by omega) (by omega) (by omega)).mono ?_
   rintro r st4 ⟨y4,y4b,y4q,rfl,rfl⟩
   have s4:=z1c y4b (by omega) (by omega)
   simp -dsimp only [go_sem]
   refine(H1p y4 (Z0r (Z0r y1 y2) y3) (Z0q (Z0q y1 y2) y3) st.length (st.length+1) _ (by omega) (Q2p _ _ _) (Q2q _ _ _) s4 l3s g3s).mono ?_
   rintro r st5 ⟨rfl,rfl⟩
   rw [v1i]
   have l4:=K1z l3 y4b
   have g4:=V1f g3 y4b
   have e1:=W2d r1 r2 y1q y2q y3q y4q
   have e2:=H1v r1 r2 y1q y2q y3q y4q
   generalize Z0r (Z0r (Z0r y1 y2) y3) y4=L at*
   generalize Z0q (Z0q (Z0q y1 y2) y3) y4=H at*
   have hL:=Q2p st (encN L) (encN H)
   have hH:=Q2q st (encN L) (encN H)
   unfold encN at hL hH⊢
   simp -dsimp only [go_sem,hL,hH]
   refine(x1k L H q _ (l4.mono (by omega) (by omega)) (g4.mono (by omega) (by omega)) (by omega) (by omega)).mono ?_
   rintro r st6 ⟨rfl,rfl⟩
   have hm:opI 2 a b q=Y0f (Q0r (ofX L) q false) (Q0r (ofX H) q true):=by rw [opI,if_pos ⟨r1,r2,r3⟩,e1,e2,q3]
   rw [hm]
   simp -dsimp only [go_sem,hL,hH]
   exact⟨k1o _ _ _,_,List.append_assoc _ _ _⟩
end Go.Pv
end
