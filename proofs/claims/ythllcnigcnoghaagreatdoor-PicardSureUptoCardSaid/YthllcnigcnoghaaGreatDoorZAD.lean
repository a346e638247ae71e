/- Parts of the walk: N13, N14. -/
import Derived.Test.YthllcnigcnoghaaGreatDoorZAB
import Derived.Test.YthllcnigcnoghaaGreatDoorZY
import Derived.Test.YthllcnigcnoghaaGreatDoorZH
import Derived.Test.YthllcnigcnoghaaGreatDoorZL
import Derived.Test.YthllcnigcnoghaaGreatDoorZZ
set_option linter.unusedVariables false
set_option linter.unusedSimpArgs false
section
/- iv.Has, Make, Meet, valid, outward, Add, Sub, Wide, Mid, Mul. -/
set_option maxRecDepth 100000
namespace Go.Pv
open Go.Proofs
theorem ivValid_c (a b : Ivl) (p : Int) (st : Store) (ha : wI a) (hb : wI b) : PCalls Tryz.prog 170 [.agg (encI a), .agg (encI b), .sc (.int .i64 p)] st (fun r st' => r = .sc (.bool (rightI a && rightI b && precF p)) ∧ st' = st) := by
 refine pcalls_enter none Tryz.func170 rfl fun E => pwp_of_vc ?_
 simp -dsimp only [go_sem]
 refine (ivRight_c a _ ha).mono ?_
 rintro r st ⟨rfl, rfl⟩
 cases r1 : rightI a with
 | false => simp -dsimp only [go_sem]; try rfl
 | true =>
  simp -dsimp only [go_sem]
  refine (ivRight_c b _ hb).mono ?_
  rintro r st ⟨rfl, rfl⟩
  cases r2 : rightI b with
  | false => simp -dsimp only [go_sem]; try rfl
  | true =>
   simp -dsimp only [go_sem]
   refine (rndValid_c p _).mono ?_
   rintro r st ⟨rfl, rfl⟩
   simp -dsimp only [go_sem]
   try rfl
theorem numV_err (v : Vl) : (numV v).2 = 0 ∨ numV v = (default, 2) := by
 unfold numV
 split
 · exact .inl rfl
 · split
   · exact .inr rfl
   · exact .inl rfl
theorem outward_c (lo hi : Nm) (p : Nat) (st : Store) (hl : bd 1000000 1000000 lo) (hh : bd 1000000 1000000 hi) (hp0 : 0 < p) (hp : p ≤ 1000000000) : PCalls Tryz.prog 195 [.agg (encN lo), .agg (encN hi), .sc (.int .i64 p)] st
  (fun r st' => r = .tup [.agg (encI (endsV (roundV (ofX lo) p false) (roundV (ofX hi) p true)).1), .sc (.int .i64 (endsV (roundV (ofX lo) p false) (roundV (ofX hi) p true)).2)] ∧ st' = st) := by
 refine pcalls_enter none Tryz.func195 rfl fun E => pwp_of_vc ?_
 unfold endsV
 simp -dsimp only [go_sem]
 refine (rndValue_c lo p false _ hl hp0 hp).mono ?_
 rintro r st ⟨rfl, rfl⟩
 simp -dsimp only [go_sem]
 refine ck (fun h => ?_) (fun h => ?_)
 · have hne := zbne_t h
   simp -dsimp only [go_sem]
   rw [if_neg (fun hh => hne hh.1)]
   rcases numV_err (roundV (ofX lo) p false) with e | e
   · exact absurd e hne
   · rw [e]; rfl
 · have he := zbne_f h
   simp -dsimp only [go_sem]
   refine (rndValue_c hi p true _ hh hp0 hp).mono ?_
   rintro r st ⟨rfl, rfl⟩
   simp -dsimp only [go_sem]
   refine ck (fun h => ?_) (fun h => ?_)
   · have hne := zbne_t h
     simp -dsimp only [go_sem]
     rw [if_neg (fun hh => hne hh.2)]
     rcases numV_err (roundV (ofX hi) p true) with e | e
     · exact absurd e hne
     · rw [e]; rfl
   · have he2 := zbne_f h
     simp -dsimp only [go_sem]
     rw [if_pos ⟨he, he2⟩]
     try rfl
theorem ivAdd_c (a b : Ivl) (p : Int) (st : Store) (ha : wI a) (hb : wI b) : PCalls Tryz.prog 142 [.agg (encI a), .agg (encI b), .sc (.int .i64 p)] st (fun r st' => r = .tup [.agg (encI (opI 0 a b p).1), .sc (.int .i64 (opI 0 a b p).2)] ∧ st' = st) := by
 refine pcalls_enter none Tryz.func142 rfl fun E => pwp_of_vc ?_
 simp -dsimp only [go_sem]
 refine (ivValid_c a b p _ ha hb).mono ?_
 rintro r st ⟨rfl, rfl⟩
 simp -dsimp only [go_sem]
 refine ck (fun h => ?_) (fun h => ?_)
 · simp -dsimp only [go_sem]
   rw [opI, if_neg (fun hh => by simp [hh.1, hh.2.1, hh.2.2] at h)]; rfl
 · have hv : rightI a = true ∧ rightI b = true ∧ precF p = true := by simpa [and_assoc] using h
   obtain ⟨r1, r2, r3⟩ := hv
   obtain ⟨q, rfl, q1, q2, q3⟩ := precF_nat r3
   obtain ⟨a1, a2, _⟩ := rightI_right r1
   obtain ⟨b1, b2, _⟩ := rightI_right r2
   simp -dsimp only [go_sem]
   refine pwp_draw mixed 28 (.step 0 [] (.step 1 [] (.step 2 [] (.step 3 [] (.step 5 [] (.step 6 [] (.step 7 [] (.step 8 [] (.step 10 [] (.step 4 [6, 8] (.step 9 [] (.step 11 [] (.step 12 [] (.step 13 [] (.step 14 [] (.step 15 [] (.done))))))))))))))))) (by decide +kernel) (by simp) ?_
   simp -dsimp only [go_sem]
   refine (exOp0 a.lo b.lo a1 b1 _).mono ?_
   rintro r st ⟨y, y1, y2, rfl, rfl⟩
   simp -dsimp only [go_sem]
   refine (exOp0 a.hi b.hi a2 b2 _).mono ?_
   rintro r st ⟨z, z1, z2, rfl, rfl⟩
   simp -dsimp only [go_sem]
   refine (outward_c y z q _ y1 z1 (by omega) (by omega)).mono ?_
   rintro r st ⟨rfl, rfl⟩
   have ca := canI r1
   have cb := canI r2
   have e1 : ofX y = loV 0 (ofN a.lo) (ofN a.hi) (ofN b.lo) (ofN b.hi) := ofX_of (canV_lo 0 ca.1 ca.2 cb.1 cb.2) (by rw [y2, exQ0, loV0, qV_plus]; rfl)
   have e2 : ofX z = hiV 0 (ofN a.lo) (ofN a.hi) (ofN b.lo) (ofN b.hi) := ofX_of (canV_hi 0 ca.1 ca.2 cb.1 cb.2) (by rw [z2, exQ0, hiV0, qV_plus]; rfl)
   simp -dsimp only [go_sem]
   rw [opI, if_pos ⟨r1, r2, r3⟩, e1, e2, q3]
theorem ivWide_c (a : Ivl) (p : Int) (st : Store) (ha : wI a) : PCalls Tryz.prog 227 [.agg (encI a), .sc (.int .i64 p)] st (fun r st' => r = .tup [.agg (encN (wideI a p).1), .sc (.int .i64 (wideI a p).2)] ∧ st' = st) := by
 refine pcalls_enter none Tryz.func227 rfl fun E => pwp_of_vc ?_
 simp -dsimp only [go_sem]
 refine (ivRight_c a _ ha).mono ?_
 rintro r st ⟨rfl, rfl⟩
 cases r1 : rightI a with
 | false =>
  simp -dsimp only [go_sem]
  rw [wideI, if_neg (by simp [r1])]; rfl
 | true =>
  simp -dsimp only [go_sem]
  refine (rndValid_c p _).mono ?_
  rintro r st ⟨rfl, rfl⟩
  cases r3 : precF p with
  | false =>
   simp -dsimp only [go_sem]
   rw [wideI, if_neg (by simp [r3])]; rfl
  | true =>
   obtain ⟨q, rfl, q1, q2, q3⟩ := precF_nat r3
   obtain ⟨a1, a2, _⟩ := rightI_right r1
   simp -dsimp only [go_sem]
   refine (exOp1 a.hi a.lo a2 a1 _).mono ?_
   rintro r st ⟨y, y1, y2, rfl, rfl⟩
   simp -dsimp only [go_sem]
   refine (rndValue_c y q true _ y1 (by omega) (by omega)).mono ?_
   rintro r st ⟨rfl, rfl⟩
   have ca := canI r1
   have e1 : ofX y = lessV (ofN a.hi) (ofN a.lo) := ofX_of (canV_less ca.2 ca.1) (by rw [y2, exQ1, qV_less]; rfl)
   simp -dsimp only [go_sem]
   rw [wideI, if_pos ⟨r1, r3⟩, e1, q3]
theorem ivMul1_c (x a b : Nm) (i j : Nat) (st : Store) (hij : i ≠ j) (hi : st.getD i [] = encN a) (hj : st.getD j [] = encN b) (hx : sm x) (ha : sm a) (hb : sm b) :
  PCalls Tryz.prog 192 ([.agg (encN x)] ++ [.gp i 0, .gp j 0]) st (fun r st' => r = .tup [] ∧ st' = (st.set i (encN (leastN a x))).set j (encN (greatN b x))) := by
 refine pcalls_enter none Tryz.func192 rfl fun E => pwp_of_vc ?_
 unfold encN at hi hj
 simp -dsimp only [go_sem]
 refine pwp_draw mixed 10 (.step 0 [] (.step 1 [] (.step 3 [] (.step 4 [] (.step 2 [3, 4] (.step 5 [] (.step 6 [] (.step 7 [] (.done))))))))) (by decide +kernel) (by simp) ?_
 simp -dsimp only [go_sem, hi, hj]
 refine (least_c a x _ ha hx).mono ?_
 rintro r st ⟨rfl, rfl⟩
 simp -dsimp only [go_sem, hi, hj]
 refine (greatest_c b x _ hb hx).mono ?_
 rintro r st ⟨rfl, rfl⟩
 simp -dsimp only [go_sem, hi, hj]
 rw [getD_set_other _ _ _ _ _ hij, hj]
 exact ⟨⟨by simp, by simp⟩, rfl⟩
theorem bnd_encN (n : Nat) (x : Nm) : Bnd n (.agg (encN x)) := by
 refine .agg _ fun j hj => ?_
 match j, hj with
 | 0, _ => exact .sc _
 | 1, _ => exact .sc _
 | 2, _ =>
  refine .sl _ _ 1 (fun i hi => ?_) (fun i j hi hj => ?_)
  · rw [encW_length] at hi; rw [encW_get x.w i hi]; rfl
  · rw [encW_length] at hi; rw [encW_get x.w i hi]
    have : j = 0 := by omega
    subst this; exact .sc _
theorem bnd_encI (n : Nat) (x : Ivl) : ∀ j, j < (encI x).length → Bnd n ((encI x).getD j .junk) := fun j hj => by
 have h1 := bnd_encN n x.lo
 have h2 := bnd_encN n x.hi
 cases h1 with
 | agg _ h1 =>
  cases h2 with
  | agg _ h2 =>
   match j, hj with
   | 0, _ => exact h1 0 (show _ < 3 by omega)
   | 1, _ => exact h1 1 (show _ < 3 by omega)
   | 2, _ => exact h1 2 (show _ < 3 by omega)
   | 3, _ => exact h2 0 (show _ < 3 by omega)
   | 4, _ => exact h2 1 (show _ < 3 by omega)
   | 5, _ => exact h2 2 (show _ < 3 by omega)
theorem bnd_ivres (n : Nat) (x : Ivl) (e : Int) : Bnd n (.tup [.agg (encI x), .sc (.int .i64 e)]) := by
 refine .tup _ fun j hj => ?_
 match j, hj with
 | 0, _ => exact .agg _ (bnd_encI n x)
 | 1, _ => exact .sc _
theorem two_lo (st : Store) (l h : List PV) : (st ++ [l] ++ [h]).getD st.length [] = l := by
 rw [List.append_assoc, List.getD_eq_getElem?_getD, List.getElem?_append_right (Nat.le_refl _)]; simp
theorem two_hi (st : Store) (l h : List PV) : (st ++ [l] ++ [h]).getD (st.length + 1) [] = h := by
 rw [List.append_assoc, List.getD_eq_getElem?_getD, List.getElem?_append_right (by omega)]; simp
theorem two_set (st : Store) (l h l' h' : List PV) : ((st ++ [l] ++ [h]).set st.length l').set (st.length + 1) h' = st ++ [l'] ++ [h'] := by
 rw [List.append_assoc, List.set_append_right _ _ (Nat.le_refl _), List.set_append_right _ _ (by omega)]; simp
theorem sm_bd {n k : Nat} {x : Nm} (h : bd n k x) (h1 : n ≤ 1000000) (h2 : k ≤ 1000000000) : sm x := ⟨by have := h.1; omega, by have := h.2.1; omega, by have := h.2.2; omega⟩
theorem leastN_bd {n k : Nat} {a b : Nm} (ha : bd n k a) (hb : bd n k b) : bd n k (leastN a b) := leastN_of ha hb
theorem greatN_bd {n k : Nat} {a b : Nm} (ha : bd n k a) (hb : bd n k b) : bd n k (greatN a b) := greatN_of ha hb
theorem ivMul_c (a b : Ivl) (p : Int) (st : Store) (ha : wI a) (hb : wI b) : PCalls Tryz.prog 140 [.agg (encI a), .agg (encI b), .sc (.int .i64 p)] st (fun r st' => r = .tup [.agg (encI (opI 2 a b p).1), .sc (.int .i64 (opI 2 a b p).2)] ∧ st' = st) := by
 refine PCalls.drop ?_
 refine pcalls_enter none Tryz.func140 rfl fun E => pwp_seq (pwp_of_vc ?_)
 simp -dsimp only [go_sem]
 refine pwp_seq (pwp_of_vc ?_)
 simp -dsimp only [go_sem]
 refine (ivValid_c a b p _ ha hb).mono ?_
 rintro r st ⟨rfl, rfl⟩
 simp -dsimp only [go_sem]
 refine ck (fun h => ?_) (fun h => ?_)
 · simp -dsimp only [go_sem]
   refine ⟨bnd_ivres _ default 1, [], (List.append_nil _).symm, ?_⟩
   rw [opI, if_neg (fun hh => by simp [hh.1, hh.2.1, hh.2.2] at h)]; rfl
 · have hv : rightI a = true ∧ rightI b = true ∧ precF p = true := by simpa [and_assoc] using h
   obtain ⟨r1, r2, r3⟩ := hv
   obtain ⟨q, rfl, q1, q2, q3⟩ := precF_nat r3
   obtain ⟨a1, a2, _⟩ := rightI_right r1
   obtain ⟨b1, b2, _⟩ := rightI_right r2
   simp -dsimp only [go_sem]
   refine pwp_seq (pwp_of_vc ?_)
   simp -dsimp only [go_sem]
   refine (exMul_c a.lo b.lo 64 65536 64 65536 _ (rightN_bd a1) (rightN_bd b1) (by omega) (by omega) (by omega) (by omega)).mono ?_
   rintro r st ⟨y1, y1b, y1q, rfl, rfl⟩
   simp -dsimp only [go_sem]
   refine pwp_seq (pwp_of_vc ?_)
   simp -dsimp only [go_sem]
   refine pwp_give 3 (by simp [go_sem]) (by simp) ?_
   simp -dsimp only [go_sem]
   refine pwp_give 4 (by simp [go_sem]) (by simp) (pwp_of_vc ?_)
   simp -dsimp only [go_sem]
   have s1 := sm_bd y1b (by omega) (by omega)
   refine (exMul_c a.lo b.hi 64 65536 64 65536 _ (rightN_bd a1) (rightN_bd b2) (by omega) (by omega) (by omega) (by omega)).mono ?_
   rintro r st2 ⟨y2, y2b, y2q, rfl, rfl⟩
   have s2 := sm_bd y2b (by omega) (by omega)
   simp -dsimp only [go_sem]
   refine (ivMul1_c y2 y1 y1 st.length (st.length + 1) _ (by omega) (two_lo _ _ _) (two_hi _ _ _) s2 s1 s1).mono ?_
   rintro r st3 ⟨rfl, rfl⟩
   rw [two_set]
   have l2 := leastN_bd y1b y2b
   have g2 := greatN_bd y1b y2b
   have l2s := sm_bd l2 (by omega) (by omega)
   have g2s := sm_bd g2 (by omega) (by omega)
   simp -dsimp only [go_sem]
   refine (exMul_c a.hi b.lo 64 65536 64 65536 _ (rightN_bd a2) (rightN_bd b1) (by omega) (by omega) (by omega) (by omega)).mono ?_
   rintro r st3 ⟨y3, y3b, y3q, rfl, rfl⟩
   have s3 := sm_bd y3b (by omega) (by omega)
   simp -dsimp only [go_sem]
   refine (ivMul1_c y3 (leastN y1 y2) (greatN y1 y2) st.length (st.length + 1) _ (by omega) (two_lo _ _ _) (two_hi _ _ _) s3 l2s g2s).mono ?_
   rintro r st4 ⟨rfl, rfl⟩
   rw [two_set]
   have l3 := leastN_bd l2 y3b
   have g3 := greatN_bd g2 y3b
   have l3s := sm_bd l3 (by omega) (by omega)
   have g3s := sm_bd g3 (by omega) (by omega)
   simp -dsimp only [go_sem]
   refine (exMul_c a.hi b.hi 64 65536 64 65536 _ (rightN_bd a2) (rightN_bd b2) (by omega) (by omega) (by omega) (by omega)).mono ?_
   rintro r st4 ⟨y4, y4b, y4q, rfl, rfl⟩
   have s4 := sm_bd y4b (by omega) (by omega)
   simp -dsimp only [go_sem]
   refine (ivMul1_c y4 (leastN (leastN y1 y2) y3) (greatN (greatN y1 y2) y3) st.length (st.length + 1) _ (by omega) (two_lo _ _ _) (two_hi _ _ _) s4 l3s g3s).mono ?_
   rintro r st5 ⟨rfl, rfl⟩
   rw [two_set]
   have l4 := leastN_bd l3 y4b
   have g4 := greatN_bd g3 y4b
   have e1 := four_least r1 r2 y1q y2q y3q y4q
   have e2 := four_greatest r1 r2 y1q y2q y3q y4q
   generalize leastN (leastN (leastN y1 y2) y3) y4 = L at *
   generalize greatN (greatN (greatN y1 y2) y3) y4 = H at *
   have hL := two_lo st (encN L) (encN H)
   have hH := two_hi st (encN L) (encN H)
   unfold encN at hL hH ⊢
   simp -dsimp only [go_sem, hL, hH]
   refine (outward_c L H q _ (l4.mono (by omega) (by omega)) (g4.mono (by omega) (by omega)) (by omega) (by omega)).mono ?_
   rintro r st6 ⟨rfl, rfl⟩
   have hm : opI 2 a b q = endsV (roundV (ofX L) q false) (roundV (ofX H) q true) := by rw [opI, if_pos ⟨r1, r2, r3⟩, e1, e2, q3]
   rw [hm]
   simp -dsimp only [go_sem, hL, hH]
   exact ⟨bnd_ivres _ _ _, _, List.append_assoc _ _ _⟩
end Go.Pv
end

section
/- Boxes: pairs and each with closures; Meet, Add, Sub, Times, Mid. -/
set_option maxRecDepth 100000
namespace Go.Pv
open Go.Proofs
theorem pairsC1_c (g : FuncId) (caps : List PV) (G : Ivl → Ivl → Ivl × Int) (i : Nat) (x : Ivl) (b : List Ivl) (st : Store) (hc : callable Tryz.prog g = true) (hi : i < b.length)
  (h1c : caps.all PV.closed2 = true) (h1' : caps.all PV.closed1 = true) (h2c : caps.map PV.forget2 = caps) (h2' : caps.map PV.forget1 = caps) (hlim : caps.all (PV.lim1 0 1) = true)
  (h : PCalls Tryz.prog g ([.agg (encI x), .agg (encI (b.getD i default))] ++ caps) st (fun r st' => r = .tup [.agg (encI (G x (b.getD i default)).1), .sc (.int .i64 (G x (b.getD i default)).2)] ∧ st' = st)) :
  PCalls Tryz.prog 190 ([.sc (.int .i64 i), .agg (encI x)] ++ [.ep [.fn (.func g) [] caps] 0, .ep [.sl .no (encIs b)] 0]) st (fun r st' => r = .tup [.agg (encI (G x (b.getD i default)).1), .sc (.int .i64 (G x (b.getD i default)).2)] ∧ st' = st) := by
 refine pcalls_enter none Tryz.func190 rfl fun E => pwp_of_vc ?_
 simp -dsimp only [go_sem]
 have e1 := encIs_get b i hi
 refine pwp_draw mixed 17 (.step 0 [] (.step 1 [] (.step 2 [] (.step 3 [] (.step 4 [] (.step 5 [] (.step 6 [] (.step 7 [] (.step 8 [] (.step 9 [] (.step 10 [] (.done)))))))))))) (by decide +kernel) (by simp) ?_
 simp -dsimp only [go_sem, e1, hc, h1c, h1', h2c, h2']
 refine ⟨by omega, ?_⟩
 refine h.mono ?_
 rintro r st ⟨rfl, rfl⟩
 simp -dsimp only [go_sem]
theorem pairsC_c (g : FuncId) (caps : List PV) (G : Ivl → Ivl → Ivl × Int) (a b : List Ivl) (st : Store) (hc : callable Tryz.prog g = true) (ha : wB a) (hb : wB b) (h1c : caps.all PV.closed2 = true) (h1' : caps.all PV.closed1 = true) (h2c : caps.map PV.forget2 = caps) (h2' : caps.map PV.forget1 = caps) (hlim : caps.all (PV.lim1 0 1) = true) (hfz : ∀ i cs, caps.map (PV.frz1 i cs) = caps)
  (h : rightB a = true → rightB b = true → ∀ i, i < a.length → i < b.length → PCalls Tryz.prog g ([.agg (encI (a.getD i default)), .agg (encI (b.getD i default))] ++ caps) st (fun r st' => r = .tup [.agg (encI (G (a.getD i default) (b.getD i default)).1), .sc (.int .i64 (G (a.getD i default) (b.getD i default)).2)] ∧ st' = st)) :
  PCalls Tryz.prog 138 [.sl .no (encIs a), .sl .no (encIs b), .fn (.func g) [] caps] st (fun r st' => r = .tup [.sl .no (encIs (pairsF G a b).1), .sc (.int .i64 (pairsF G a b).2)] ∧ st' = st) := by
 refine pcalls_enter none Tryz.func138 rfl fun E => pwp_seq (pwp_of_vc ?_)
 simp -dsimp only [go_sem, h1c, h1', h2c, h2', hfz]
 refine pwp_freeze 0 ?_ ?_
 · simp -dsimp only [go_sem, h1c, h1', h2c, h2', hfz]
 simp -dsimp only [go_sem, h1c, h1', h2c, h2', hfz]
 refine pwp_freeze 1 ?_ ?_
 · simp -dsimp only [go_sem, h1c, h1', h2c, h2', hfz]
 refine pwp_of_vc ?_
 simp -dsimp only [go_sem, h1c, h1', h2c, h2', hfz]
 refine (boxRight_c a st ha).mono ?_
 rintro r st ⟨rfl, rfl⟩
 simp -dsimp only [go_sem, h1c, h1', h2c, h2', hfz]
 have bad : ∀ st : Store, ¬ (rightB a = true ∧ rightB b = true ∧ a.length = b.length) → pairsF G a b = ([], 1) := fun _ h => if_neg h
 refine gkF (fun h1 => ?_) (fun h1 => ?_)
 · have r1 : rightB a = true := by simpa using h1
   simp -dsimp only [go_sem, h1c, h1', h2c, h2', hfz, r1]
   refine (boxRight_c b st hb).mono ?_
   rintro r st ⟨rfl, rfl⟩
   simp -dsimp only [go_sem, h1c, h1', h2c, h2', hfz, r1]
   refine gkF (fun h2 => ?_) (fun h2 => ?_)
   · have r2 : rightB b = true := by simpa using h2
     simp -dsimp only [go_sem, h1c, h1', h2c, h2', hfz, r1, r2]
     refine ck (fun h3 => ?_) (fun h3 => ?_)
     · have hne := nbne_t h3
       simp -dsimp only [go_sem, h1c, h1', h2c, h2', hfz]
       rw [bad st (fun h => hne h.2.2)]; rfl
     · have hl := nbne_f h3
       simp -dsimp only [go_sem, h1c, h1', h2c, h2', hfz]
       refine (each_c _ [.ep [.fn (.func g) [] caps] 0, .ep [.sl .no (encIs b)] 0] (fun i x => G x (b.getD i default)) a st rfl ha.1 rfl rfl rfl rfl rfl fun i hi => pairsC1_c g caps G i _ b st hc (by omega) h1c h1' h2c h2' hlim (h r1 r2 i hi (by omega))).mono ?_
       rintro r st ⟨rfl, rfl⟩
       simp -dsimp only [go_sem, h1c, h1', h2c, h2', hfz]
       rw [pairsF, if_pos ⟨r1, r2, hl⟩]
   · have r2 : rightB b = false := by simpa using h2
     simp -dsimp only [go_sem, h1c, h1', h2c, h2', hfz, r1, r2]
     rw [bad st (fun h => by simp [r2] at h)]; rfl
 · have r1 : rightB a = false := by simpa using h1
   simp -dsimp only [go_sem, h1c, h1', h2c, h2', hfz, r1]
   rw [bad st (fun h => by simp [r1] at h)]; rfl
theorem opB_eq (k : Nat) (a b : List Ivl) (p : Int) : opB k a b p = pairsF (fun x y => opI k x y p) a b := by
 unfold opB pairsF
 by_cases h : rightB a = true ∧ rightB b = true ∧ a.length = b.length
 · rw [if_pos h]
   cases hp : precF p with
   | true => rw [if_pos ⟨h.1, h.2.1, h.2.2, rfl⟩]
   | false =>
    rw [if_neg (fun hh => by simp at hh), eachF_first _ a (rightB_len h.1).1 1 (by decide) (fun i x => by simp only [opI_bad hp])]
 · rw [if_neg h, if_neg (fun hh => h ⟨hh.1, hh.2.1, hh.2.2.1⟩)]
theorem timesB_eq (x : Ivl) (b : List Ivl) (p : Int) (hx : rightI x = true) : timesB x b p = pairsF (fun y _ => opI 2 x y p) b b := by
 unfold pairsF
 by_cases h : rightB b = true
 · rw [if_pos ⟨h, h, rfl⟩]
   unfold timesB
   cases hp : precF p with
   | true => rw [if_pos ⟨h, hx, rfl⟩]
   | false =>
    rw [if_neg (fun hh => by simp at hh), eachF_first _ b (rightB_len h).1 1 (by decide) (fun i x => by simp only [opI_bad hp])]
 · rw [if_neg (fun hh => h hh.1)]
   unfold timesB
   rw [if_neg (fun hh => h hh.1)]
theorem boxAdd1_c (x y : Ivl) (p : Int) (st : Store) (hx : wI x) (hy : wI y) : PCalls Tryz.prog 141 ([.agg (encI x), .agg (encI y)] ++ [.ep [.sc (.int .i64 p)] 0]) st (fun r st' => r = .tup [.agg (encI (opI 0 x y p).1), .sc (.int .i64 (opI 0 x y p).2)] ∧ st' = st) := by
 refine pcalls_enter none Tryz.func141 rfl fun E => pwp_of_vc ?_
 simp -dsimp only [go_sem]
 refine (ivAdd_c x y p _ hx hy).mono ?_
 rintro r st ⟨rfl, rfl⟩
 simp -dsimp only [go_sem]
theorem boxTimes1_c (x y z : Ivl) (p : Int) (st : Store) (hx : wI x) (hy : wI y) : PCalls Tryz.prog 139 ([.agg (encI y), .agg (encI z)] ++ [.ep (encI x) 0, .ep [.sc (.int .i64 p)] 0]) st (fun r st' => r = .tup [.agg (encI (opI 2 x y p).1), .sc (.int .i64 (opI 2 x y p).2)] ∧ st' = st) := by
 refine pcalls_enter none Tryz.func139 rfl fun E => pwp_of_vc ?_
 simp -dsimp only [go_sem]
 refine (ivMul_c x y p _ hx hy).mono ?_
 rintro r st ⟨rfl, rfl⟩
 simp -dsimp only [go_sem]
theorem boxAdd_c (a b : List Ivl) (p : Int) (st : Store) (ha : wB a) (hb : wB b) : PCalls Tryz.prog 86 [.sl .no (encIs a), .sl .no (encIs b), .sc (.int .i64 p)] st (fun r st' => r = .tup [.sl .no (encIs (opB 0 a b p).1), .sc (.int .i64 (opB 0 a b p).2)] ∧ st' = st) := by
 rw [opB_eq]
 refine pcalls_enter none Tryz.func86 rfl fun E => pwp_seq (pwp_of_vc ?_)
 simp -dsimp only [go_sem]
 refine pwp_freeze 0 ?_ ?_
 · simp -dsimp only [go_sem]
 refine pwp_of_vc ?_
 simp -dsimp only [go_sem]
 refine (pairsC_c _ [.ep [.sc (.int .i64 p)] 0] (fun x y => opI 0 x y p) a b st rfl ha hb rfl rfl rfl rfl rfl (fun _ _ => rfl) fun _ _ i h1 h2 => boxAdd1_c _ _ p st (ha.2 i h1) (hb.2 i h2)).mono ?_
 rintro r st ⟨rfl, rfl⟩
 simp -dsimp only [go_sem]
theorem boxTimes_c (x : Ivl) (b : List Ivl) (p : Int) (st : Store) (hx : wI x) (hb : wB b) : PCalls Tryz.prog 85 [.agg (encI x), .sl .no (encIs b), .sc (.int .i64 p)] st (fun r st' => r = .tup [.sl .no (encIs (timesB x b p).1), .sc (.int .i64 (timesB x b p).2)] ∧ st' = st) := by
 refine pcalls_enter none Tryz.func85 rfl fun E => pwp_seq (pwp_of_vc ?_)
 simp -dsimp only [go_sem]
 refine pwp_freeze 0 ?_ ?_
 · simp -dsimp only [go_sem]
 simp -dsimp only [go_sem]
 refine pwp_freeze 1 ?_ ?_
 · simp -dsimp only [go_sem]
 refine pwp_of_vc ?_
 simp -dsimp only [go_sem]
 refine (ivRight_c x st hx).mono ?_
 rintro r st ⟨rfl, rfl⟩
 cases r1 : rightI x with
 | false =>
  simp -dsimp only [go_sem]
  rw [timesB, if_neg (by simp [r1])]; rfl
 | true =>
  rw [timesB_eq x b p r1]
  simp -dsimp only [go_sem]
  refine (pairsC_c _ [.ep (encI x) 0, .ep [.sc (.int .i64 p)] 0] (fun y _ => opI 2 x y p) b b st rfl hb hb rfl rfl rfl rfl rfl (fun _ _ => rfl) fun _ _ i h1 h2 => boxTimes1_c x _ _ p st hx (hb.2 i h1)).mono ?_
  rintro r st ⟨rfl, rfl⟩
  simp -dsimp only [go_sem]
end Go.Pv
end
