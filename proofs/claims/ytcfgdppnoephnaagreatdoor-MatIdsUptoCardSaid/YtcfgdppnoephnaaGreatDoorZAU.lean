/- Parts of the walk: N40, N41, N42. -/
import Derived.Test.YtcfgdppnoephnaaGreatDoorZAQ
import Derived.Test.YtcfgdppnoephnaaGreatDoorZAM
import Derived.Test.YtcfgdppnoephnaaGreatDoorZAI
import Derived.Test.YtcfgdppnoephnaaGreatDoorZAT
import Derived.Test.YtcfgdppnoephnaaGreatDoorZAR
set_option linter.unusedVariables false
set_option linter.unusedSimpArgs false
section
/- The deck's matrices, and numbers of them. -/
set_option linter.unusedVariables false
set_option linter.unusedSimpArgs false
set_option maxRecDepth 100000
namespace Go.Pv
open Go.Proofs
/-- A matrix of small intervals. -/
def smM (m : Mx) : Prop := 1 ≤ m.length ∧ m.length ≤ 4 ∧ ∀ i, i < m.length → (m.getD i []).length = m.length ∧ ∀ j, j < m.length → smI (atM m i j)
theorem smM.right {m : Mx} (h : smM m) : rightM m = true := rightM_iff.2 ⟨fun i hi => ⟨(h.2.2 i hi).1, rightB_mk (fun j hj => by
  have := (h.2.2 i hi).2 j (by rw [← (h.2.2 i hi).1]; exact hj)
  exact this.1) (by rw [(h.2.2 i hi).1]; exact h.1) (by rw [(h.2.2 i hi).1]; exact h.2.1)⟩, h.1, h.2.1⟩
theorem rightM_wM {m : Mx} (h : rightM m = true) : wM m := ⟨by have := rightM_len h; omega, fun i hi => rightB_wB (rightM_row h hi).2⟩
theorem deckMat_c (l : List UInt64) (i k n : Nat) (st : Store) (h : atD st k l i) (hi : i ≤ 800000000) (hn : n ≤ 1000) : PCalls Tryz.prog 48 [.gp k 0, .sc (.int .i64 n)] st
    (fun r st' => ∃ m j, m.length = n ∧ (∀ q, q < n → (m.getD q []).length = n ∧ ∀ j, j < n → smI (atM m q j)) ∧ i ≤ j ∧ j ≤ i + 3 * n * n ∧ r = .sl .no (encM m) ∧ st' = st.set k (dk l j)) := by
  refine pcalls_enter none Tryz.func48 rfl fun E => pwp_of_vc ?_
  have hnn : 3 * n * n ≤ 3000000 := by
    have : n * n ≤ 1000 * 1000 := Nat.mul_le_mul hn hn
    rw [Nat.mul_assoc]; omega
  simp -dsimp only [go_sem]
  refine pwp_claim 5 1 ?_
  simp -dsimp only [go_sem]
  refine pwp_loop_mask [true, true, false, false, false, true, true] 0 1 (fun c s => ∃ (m : Mx) (j : Nat), c = n - m.length ∧ m.length ≤ n ∧ (∀ q, q < m.length → (m.getD q []).length = n ∧ ∀ j, j < n → smI (atM m q j)) ∧ i ≤ j ∧ j ≤ i + 3 * n * m.length ∧
    s = ⟨[.gp k 0, .sc (.int .i64 n), .junk, .junk, .junk, .sl (.own 0) (encM m), .sc (.int .i64 (m.length : Nat))] ++ List.replicate 12 .junk, [], [(m.length, 1)], st.set k (dk l j)⟩) n ?_ ?_
  · simp -dsimp only [go_sem]
    refine ⟨[], i, by simp, by simp, fun m hm => by simp at hm, by omega, by omega, ?_⟩
    rw [h.same]; rfl
  · rintro c s ⟨m, j, rfl, hb, hr, hj, hj2, rfl⟩
    simp -dsimp only [go_sem]
    refine ck (fun h1 => ?_) (fun h1 => ?_)
    · have hlt : m.length < n := by have := of_decide_eq_true h1; omega
      have x1 := succW m.length (by omega)
      have hjb : 3 * n * m.length + 3 * n ≤ 3 * n * n := by
        have : 3 * n * (m.length + 1) ≤ 3 * n * n := Nat.mul_le_mul_left _ hlt
        rw [Nat.mul_add, Nat.mul_one] at this; exact this
      simp -dsimp only [go_sem]
      refine (smallBoxS_c l j k n _ (h.set j) (by omega) (by omega)).mono ?_
      rintro r st' ⟨x, j', hx1, hx2, hj3, hj4, rfl, rfl⟩
      simp -dsimp only [go_sem, set_dk, x1]
      refine ⟨⟨by omega, by omega⟩, n - (m.length + 1), by omega, m ++ [x], j', by simp, by simp; omega, fun q hq => ?_, by omega, ?_, by simp⟩
      · by_cases hm2 : q < m.length
        · unfold atM; rw [snocD _ _ _ _ hm2]; exact hr q hm2
        · have e : q = m.length := by simp at hq; omega
          unfold atM
          rw [e, snocD']
          exact ⟨hx1, fun j hj => hx2 j (by omega)⟩
      · rw [List.length_append, List.length_singleton, Nat.mul_add, Nat.mul_one]; omega
    · have hge : m.length = n := by have := of_decide_eq_false h1; omega
      simp -dsimp only [go_sem]
      refine pwp_plain [false, false, false, false, false, true] (pwp_of_vc ?_)
      simp -dsimp only [go_sem]
      exact ⟨m, j, hge, fun q hq => hr q (by omega), hj, by rw [hge] at hj2; exact hj2, rfl, rfl⟩
/-- Numbers of a matrix's intervals. -/
def inQ (m : Mx) (q : List (List Nm)) : Prop := q.length = m.length ∧ ∀ i, i < m.length → (q.getD i []).length = m.length ∧ ∀ j, j < m.length → ∃ n, n ≤ 8 ∧ (q.getD i []).getD j default = inN (atM m i j) n
theorem deckInMat_c (l : List UInt64) (i k : Nat) (m : Mx) (st : Store) (h : atD st k l i) (hi : i ≤ 10000000) (hm : rightM m = true) : PCalls Tryz.prog 49 [.gp k 0, .sl .no (encM m)] st
    (fun r st' => ∃ q, inQ m q ∧ r = .sl .no (encQ q) ∧ st' = st.set k (dk l (i + m.length * m.length))) := by
  have hl := rightM_len hm
  have hb : ∀ i, i < m.length → ∀ j, j < (m.getD i []).length → rightI ((m.getD i []).getD j default) = true := fun i hi j hj => rightB_at (rightM_row hm hi).2 hj
  refine pcalls_enter none Tryz.func49 rfl fun E => pwp_of_vc ?_
  simp -dsimp only [go_sem]
  refine pwp_claim 5 1 ?_
  simp -dsimp only [go_sem]
  refine pwp_loop_mask [true, true, false, false, false, true, true] 0 1 (fun c s => ∃ (q : List (List Nm)), c = m.length - q.length ∧ q.length ≤ m.length ∧ (∀ i, i < q.length → (q.getD i []).length = m.length ∧ ∀ j, j < m.length → ∃ n, n ≤ 8 ∧ (q.getD i []).getD j default = inN (atM m i j) n) ∧
    s = ⟨[.gp k 0, .sl .no (encM m), .junk, .junk, .junk, .sl (.own 0) (encQ q), .sc (.int .i64 (q.length : Nat))] ++ List.replicate 16 .junk, [], [(q.length, 1)], st.set k (dk l (i + q.length * m.length))⟩) m.length ?_ ?_
  · simp -dsimp only [go_sem]
    refine ⟨[], by simp, by simp, (fun j hj => by simp at hj), ?_⟩
    rw [show i + ([] : List (List Nm)).length * m.length = i from by simp, h.same]; rfl
  · rintro c s ⟨q, rfl, hq, hr, rfl⟩
    simp -dsimp only [go_sem]
    refine ck (fun h1 => ?_) (fun h1 => ?_)
    · have hlt : q.length < m.length := by have := of_decide_eq_true h1; omega
      have e1 := encM_get m q.length hlt
      have x1 := succW q.length (by omega)
      obtain ⟨q1, q2⟩ := rightM_row hm hlt
      have hb1 : q.length * m.length ≤ 4 * 4 := Nat.mul_le_mul (by omega) (by omega)
      simp -dsimp only [go_sem, e1]
      refine ⟨⟨by omega, hlt⟩, ?_⟩
      refine (inBoxD_c l (i + q.length * m.length) k _ _ (h.set _) (by omega) (by omega) (hb _ hlt)).mono ?_
      rintro r st' ⟨x, hx1, hx2, rfl, rfl⟩
      have e5 : i + q.length * m.length + (m.getD q.length []).length = i + (q ++ [x]).length * m.length := by
        rw [q1, List.length_append, List.length_singleton, Nat.add_mul, Nat.one_mul]; omega
      rw [e5]
      simp -dsimp only [go_sem, set_dk, x1]
      refine ⟨⟨by omega, by omega⟩, m.length - (q.length + 1), by omega, q ++ [x], by simp, by simp; omega, fun j hj => ?_, by simp⟩
      by_cases hj2 : j < q.length
      · rw [snocD _ _ _ _ hj2]; exact hr j hj2
      · have e : j = q.length := by simp at hj; omega
        rw [e, snocD']
        exact ⟨by rw [hx1, q1], fun p hp => hx2 p (by rw [q1]; exact hp)⟩
    · have hge : q.length = m.length := by have := of_decide_eq_false h1; omega
      simp -dsimp only [go_sem]
      refine pwp_plain [false, false, false, false, false, true] (pwp_of_vc ?_)
      simp -dsimp only [go_sem]
      exact ⟨q, ⟨hge, fun i hi => hr i (by omega)⟩, rfl, by rw [hge]⟩
end Go.Pv
end

section
/- Layer 7: known, light, reckons. -/
set_option linter.unusedVariables false
set_option linter.unusedSimpArgs false
set_option maxRecDepth 100000
namespace Go.Pv
open Go.Proofs
/-! what is answered is no longer than anything that is met -/
theorem wM_mem {m : Mx} (h1 : m.length ≤ 100000000000) (h2 : ∀ r ∈ m, wB r) : wM m := ⟨h1, fun i hi => h2 _ (mem_getD _ _ _ hi)⟩
theorem wB_mem {b : List Ivl} (h1 : b.length ≤ 100000000000) (h2 : ∀ x ∈ b, wI x) : wB b := ⟨h1, fun i hi => h2 _ (mem_getD _ _ _ hi)⟩
theorem tabF_wB {G : Nat → Ivl × Int} {n : Nat} (hn : n ≤ 100000) (h : ∀ i, wI (G i).1) : wB (tabF G 0 n []).1 := by
  refine wB_mem ?_ (tabF_mem wI n 0 [] (fun i _ _ => h i) (fun x hx => by cases hx))
  have := tabF_len (G := G) n 0 []
  simp at this; omega
theorem fillM_wM {G : Nat → Nat → Ivl × Int} {n : Nat} (hn : n ≤ 100000) (h : ∀ i j, wI (G i j).1) : wM (fillM G n).1 := by
  refine wM_mem ?_ (tabF_mem wB n 0 [] (fun i _ _ => tabF_wB hn (h i)) (fun x hx => by cases hx))
  have := tabF_len (G := fun i => tabF (fun j => G i j) 0 n []) n 0 []
  simp at this; unfold fillM; omega
theorem wM_nil : wM [] := ⟨by simp, fun i hi => by simp at hi⟩
theorem mulM_wM (a b : Mx) (p : Int) : wM (mulM a b p).1 := by
  unfold mulM
  split
  · rename_i h; have := rightM_len h.1; exact fillM_wM (by omega) fun i j => wI_right (dotF_right _ _ _ _)
  · exact wM_nil
theorem vecM_wB (a : Mx) (b : List Ivl) (p : Int) : wB (vecM a b p).1 := by
  unfold vecM
  split
  · rename_i h; have := rightM_len h.1; exact tabF_wB (by omega) fun i => wI_right (dotF_right _ _ _ _)
  · exact wB_nil
theorem ofB_wB {q : List Nm} (h : wNs q) : wB (ofB q) := by
  refine ⟨by unfold ofB; rw [List.length_map]; exact h.1, fun i hi => ?_⟩
  have hi' : i < q.length := by simpa [ofB] using hi
  have e : (ofB q).getD i default = ⟨q.getD i default, q.getD i default⟩ := by simp [ofB, List.getD_eq_getElem?_getD, hi']
  rw [e]; exact ⟨h.2 i hi', h.2 i hi'⟩
end Go.Pv
end

section
/- Layer 7: light, known. -/
set_option linter.unusedVariables false
set_option linter.unusedSimpArgs false
set_option maxRecDepth 100000
namespace Go.Pv
open Go.Proofs
def encMs (l : List Mx) : List PV := l.map fun c => .sl .no (encM c)
def kL : List (List Nm) := [[k1, k2], [default, k1]]
def kK : Mx := [[⟨k1, k1⟩, ⟨k2, k2⟩], [default, ⟨k1, k1⟩]]
def kP : Mx := (mulM kK kK 16).1
def kN : Nm := (normM kK 16).1
def kV : List Ivl := (vecM kK [⟨k1, k1⟩, ⟨k2, k2⟩] 16).1
def kS : Mx := (opM 0 kK (idM 2) 16).1
def kU : Mx := (timesM ⟨k2, k2⟩ kK 16).1
def kX7 : List (List Nm) := (midM kK 16).1
theorem kL_enc : encQ kL = [.sl .no [.agg [.sc (.bool false), .sc (.int .i64 0), .sl .no [.sc (.int .u64 1)]], .agg [.sc (.bool false), .sc (.int .i64 1), .sl .no [.sc (.int .u64 1)]]],
  .sl .no [.agg [.sc (.bool false), .sc (.int .i64 0), .sl .no []], .agg [.sc (.bool false), .sc (.int .i64 0), .sl .no [.sc (.int .u64 1)]]]] := rfl
theorem kR_enc : encNs [k1, k2] = [.agg [.sc (.bool false), .sc (.int .i64 0), .sl .no [.sc (.int .u64 1)]], .agg [.sc (.bool false), .sc (.int .i64 1), .sl .no [.sc (.int .u64 1)]]] := rfl
theorem k_ofM : ofM kL = kK := by decide +kernel
theorem k_ofB : ofB [k1, k2] = [⟨k1, k1⟩, ⟨k2, k2⟩] := by decide +kernel
theorem k_mul : mulM kK kK 16 = (kP, 0) := by decide +kernel
theorem k_norm : normM kK 16 = (kN, 0) := by decide +kernel
theorem k_vec : vecM kK [⟨k1, k1⟩, ⟨k2, k2⟩] 16 = (kV, 0) := by decide +kernel
theorem k_sum : opM 0 kK (idM 2) 16 = (kS, 0) := by decide +kernel
theorem k_diff : opM 1 kS (idM 2) 16 = (kK, 0) := by decide +kernel
theorem k_times : timesM ⟨k2, k2⟩ kK 16 = (kU, 0) := by decide +kernel
theorem k_midM : midM kK 16 = (kX7, 0) := by decide +kernel
theorem k_rK : rightM kK = true := by decide +kernel
theorem k_rI : rightM (idM 2) = true := by decide +kernel
theorem k_rS7 : rightM kS = true := by decide +kernel
theorem k_inK : inM kK kK = true := by decide +kernel
theorem wN_k1 : wN k1 := by unfold wN; decide
theorem wN_k2 : wN k2 := by unfold wN; decide
theorem wNs_k : wNs [k1, k2] := ⟨by decide, fun i hi => by
  have : i = 0 ∨ i = 1 := by simp at hi; omega
  rcases this with rfl | rfl
  · exact wN_k1
  · exact wN_k2⟩
theorem wQ_k : wQ kL := ⟨by decide, fun i hi => by
  have : i = 0 ∨ i = 1 := by have : kL.length = 2 := rfl
                             omega
  rcases this with rfl | rfl
  · exact wNs_k
  · refine ⟨by decide, fun i hi => ?_⟩
    have : i = 0 ∨ i = 1 := by have h2 : (kL.getD 1 []).length = 2 := rfl
                               omega
    rcases this with rfl | rfl
    · unfold wN; decide
    · exact wN_k1⟩
set_option maxHeartbeats 4000000 in
theorem known7_c (st : Store) : PCalls Tryz.prog 37 [] st (fun r st' => r = .sc (.bool true) ∧ st' = st) := by
  have hK := rightM_wM k_rK
  have hI := rightM_wM k_rI
  have hS := rightM_wM k_rS7
  refine pcalls_enter none Tryz.func37 rfl fun E => pwp_of_vc ?_
  simp -dsimp only [go_sem]
  rw [← kL_enc]
  refine (matOf_c kL _ wQ_k).plain.mono ?_
  rintro r st ⟨rfl, rfl⟩
  rw [k_ofM]
  simp -dsimp only [go_sem]
  refine (matMul_c kK kK 16 _ hK hK).mono ?_
  rintro r st ⟨rfl, rfl⟩
  rw [k_mul]
  simp -dsimp only [go_sem]
  refine (matNorm_c kK 16 _ hK).mono ?_
  rintro r st ⟨rfl, rfl⟩
  rw [k_norm]
  simp -dsimp only [go_sem]
  rw [← kR_enc]
  refine (boxOf_c [k1, k2] _ wNs_k).plain.mono ?_
  rintro r st ⟨rfl, rfl⟩
  rw [k_ofB]
  simp -dsimp only [go_sem]
  refine (matVec_c kK [⟨k1, k1⟩, ⟨k2, k2⟩] 16 _ hK (by rw [← k_ofB]; exact ofB_wB wNs_k)).mono ?_
  rintro r st ⟨rfl, rfl⟩
  rw [k_vec]
  simp -dsimp only [go_sem]
  refine (matId_c 2 _).mono ?_
  rintro r st ⟨rfl, rfl⟩
  simp -dsimp only [go_sem]
  refine (matAdd_c kK (idM 2) 16 _ hK hI).mono ?_
  rintro r st ⟨rfl, rfl⟩
  rw [k_sum]
  simp -dsimp only [go_sem]
  refine (matId_c 2 _).mono ?_
  rintro r st ⟨rfl, rfl⟩
  simp -dsimp only [go_sem]
  refine (matSub_c kS (idM 2) 16 _ hS hI).mono ?_
  rintro r st ⟨rfl, rfl⟩
  rw [k_diff]
  simp -dsimp only [go_sem]
  refine (ivOf_c k2 _ wN_k2).mono ?_
  rintro r st ⟨rfl, rfl⟩
  simp -dsimp only [go_sem]
  refine (matTimes_c ⟨k2, k2⟩ kK 16 _ ⟨wN_k2, wN_k2⟩ hK).mono ?_
  rintro r st ⟨rfl, rfl⟩
  rw [k_times]
  simp -dsimp only [go_sem]
  refine (matMid_c kK 16 _ hK).mono ?_
  rintro r st ⟨rfl, rfl⟩
  rw [k_midM]
  have b0 : ((0 : Int) == 0) = true := rfl
  have b1 : (((1 : Nat) : Int) == 1) = true := rfl
  have d1 : ((kP.length : Int) == 2) = true := by decide +kernel
  have d2 := encM_get kP 0 (by decide +kernel)
  have d3 : (((kP.getD 0 []).length : Int) == 2) = true := by decide +kernel
  have d4 := encIs_get (kP.getD 0 []) 1 (by decide +kernel)
  have d5 : (((kP.getD 0 []).getD 1 default).lo.exp == 2) = true := by decide +kernel
  have d6 : (0 : Nat) < kP.length := by decide +kernel
  have d7 : (1 : Nat) < (kP.getD 0 []).length := by decide +kernel
  have v1 : ((kV.length : Int) == 2) = true := by decide +kernel
  have v2 := encIs_get kV 0 (by decide +kernel)
  have v3 : (0 : Nat) < kV.length := by decide +kernel
  have u1 : ((kU.length : Int) == 2) = true := by decide +kernel
  have u2 := encM_get kU 0 (by decide +kernel)
  have u3 := encIs_get (kU.getD 0 []) 1 (by decide +kernel)
  have u4 : (((kU.getD 0 []).getD 1 default).hi.exp == 2) = true := by decide +kernel
  have u5 : (0 : Nat) < kU.length := by decide +kernel
  have u6 : (1 : Nat) < (kU.getD 0 []).length := by decide +kernel
  have x1 : ((kX7.length : Int) == 2) = true := by decide +kernel
  have q3 : [PV.sc (.int .u64 3)] = encW [3] := rfl
  have q5 : [PV.sc (.int .u64 5)] = encW [5] := rfl
  have n3 : decide (kN.w = [3]) = true := by decide +kernel
  have n5 : decide ((kV.getD 0 default).hi.w = [5]) = true := by decide +kernel
  simp -dsimp only [go_sem, b0, b1, d1, d2, d3, d4, d5, OL_app, OL_app0, List.append_eq, List.cons_append, List.nil_append]
  refine ⟨d6, d6, d7, ?_⟩
  rw [q3]
  refine (helpWords_c kN.w [3] _ (by decide +kernel) (by decide)).mono ?_
  rintro r st ⟨rfl, rfl⟩
  rw [n3]
  simp -dsimp only [go_sem, v1, v2, OL_app, OL_app0, List.append_eq, List.cons_append, List.nil_append]
  refine ⟨v3, ?_⟩
  rw [q5]
  refine (helpWords_c (kV.getD 0 default).hi.w [5] _ (by decide +kernel) (by decide)).mono ?_
  rintro r st ⟨rfl, rfl⟩
  rw [n5]
  simp -dsimp only [go_sem, OL_app, OL_app0, List.append_eq, List.cons_append, List.nil_append]
  refine (matSame_c kK kK _ hK hK).mono ?_
  rintro r st ⟨rfl, rfl⟩
  rw [decide_eq_true rfl]
  simp -dsimp only [go_sem, OL_app, OL_app0, List.append_eq, List.cons_append, List.nil_append]
  refine (matRight_c kK _ hK).mono ?_
  rintro r st ⟨rfl, rfl⟩
  rw [k_rK]
  simp -dsimp only [go_sem, OL_app, OL_app0, List.append_eq, List.cons_append, List.nil_append]
  refine (matIn_c kK kK _ hK hK).mono ?_
  rintro r st ⟨rfl, rfl⟩
  rw [k_inK]
  simp -dsimp only [go_sem, u1, u2, u3, u4, x1, OL_app, OL_app0, List.append_eq, List.cons_append, List.nil_append]
  exact ⟨u5, u6⟩
end Go.Pv
end
