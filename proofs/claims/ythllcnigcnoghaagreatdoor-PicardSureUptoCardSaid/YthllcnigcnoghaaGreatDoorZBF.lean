/- Parts of the walk: N49, N50, N51, N52. -/
import Derived.Test.YthllcnigcnoghaaGreatDoorZBE
import Derived.Test.YthllcnigcnoghaaGreatDoorZAR
import Derived.Test.YthllcnigcnoghaaGreatDoorZAF
import Derived.Test.YthllcnigcnoghaaGreatDoorZBD
import Derived.Test.YthllcnigcnoghaaGreatDoorZAQ
set_option linter.unusedVariables false
set_option linter.unusedSimpArgs false
section
/- Powers: iv.times, iv.Pow, the document's Power, Pow. -/
set_option maxRecDepth 100000
namespace Go.Pv
open Go.Proofs
theorem ivTimes_c (x : Nm) (k : Nat) (st : Store) (hx : rightN x = true) (hk : k ≤ 8) : PCalls Tryz.prog 235 [.agg (encN x), .sc (.int .i64 k)] st (fun r st' => ∃ y, bd 1000 1000000 y ∧ qN y = powQ (qN x) k ∧ r = .agg (encN y) ∧ st' = st) := by
 have hb := rightN_bd hx
 refine pcalls_enter none Tryz.func235 rfl fun E => pwp_of_vc ?_
 simp -dsimp only [go_sem]
 refine (numInt1_c _).mono ?_
 rintro r st ⟨rfl, rfl⟩
 simp -dsimp only [go_sem]
 refine pwp_loop_mask [false, false, true, false, true, true, false, true, true] 3 0
  (fun n s => ∃ i y, n = k - i ∧ i ≤ k ∧ bd (1 + 64 * i) (65536 * i) y ∧ qN y = powQ (qN x) i ∧ s = ⟨[.junk, .junk, .lp 0 0, .junk, .lp 1 0, .lp 2 0, .junk, .sc (.int .i64 k), .sc (.int .i64 (i : Nat))] ++ List.replicate 6 .junk, [encN x, [.sc (.bool false), .sc (.int .i64 0), .sl .full []], encN y], [], st⟩) k ?_ ?_
 · simp -dsimp only [go_sem]
   exact ⟨0, oneN, by omega, by omega, ⟨by decide, by decide, by decide⟩, qN_one, rfl⟩
 · rintro n s ⟨i, y, rfl, hi, hy, hq, rfl⟩
   simp -dsimp only [go_sem]
   refine ck (fun h' => ?_) (fun h' => ?_)
   · have hlt : i < k := by have := of_decide_eq_true h'; omega
     have e3 := succW i (by omega)
     simp -dsimp only [go_sem]
     refine (exMul_c y x _ _ _ _ _ hy hb (by omega) (by omega) (by omega) (by omega)).mono ?_
     rintro r st ⟨z, hz, hzq, rfl, rfl⟩
     simp -dsimp only [go_sem, e3]
     exact ⟨k - (i + 1), by omega, i + 1, z, rfl, by omega, hz.mono (by omega) (by omega), by rw [hzq, hq]; rfl, rfl⟩
   · have hge : i = k := by have := of_decide_eq_false h'; omega
     subst hge
     simp -dsimp only [go_sem]
     refine pwp_of_vc ?_
     simp -dsimp only [go_sem]
     exact ⟨y, hy.mono (by omega) (by omega), hq, rfl⟩
theorem even_of {n : Nat} (h : ((n : Int).tmod 2 == 0) = true) : n % 2 = 0 := by
 have h1 := zbeq_t h
 have e : (n : Int).tmod 2 = ((n % 2 : Nat) : Int) := rfl
 omega
theorem even_not {n : Nat} (h : ((n : Int).tmod 2 == 0) = false) : n % 2 ≠ 0 := by
 have h1 := zbeq_f h
 have e : (n : Int).tmod 2 = ((n % 2 : Nat) : Int) := rfl
 omega
theorem ivPow_c (a : Ivl) (k p : Int) (st : Store) (ha : wI a) : PCalls Tryz.prog 219 [.agg (encI a), .sc (.int .i64 k), .sc (.int .i64 p)] st (fun r st' => r = .tup [.agg (encI (powI a k p).1), .sc (.int .i64 (powI a k p).2)] ∧ st' = st) := by
 refine pcalls_enter none Tryz.func219 rfl fun E => pwp_of_vc ?_
 simp -dsimp only [go_sem]
 refine (ivValid_c a a p _ ha ha).mono ?_
 rintro r st ⟨rfl, rfl⟩
 cases hv : (rightI a && rightI a && precF p) with
 | false =>
  have hp : powI a k p = (default, 1) := by
   rw [powI, if_neg]
   rintro ⟨h1, _, _, h4⟩
   rw [h1, h4] at hv; cases hv
  simp -dsimp only [go_sem, hv]
  rw [hp]; rfl
 | true =>
  simp only [Bool.and_eq_true] at hv
  obtain ⟨⟨r1, _⟩, r3⟩ := hv
  simp -dsimp only [go_sem]
  refine gkF (fun g1 => ?_) (fun g1 => ?_)
  · have g1' := of_decide_eq_false g1
    simp -dsimp only [go_sem, g1]
    refine ck (fun g2 => ?_) (fun g2 => ?_)
    · have g2' := of_decide_eq_true g2
      have hp : powI a k p = (default, 1) := by
       rw [powI, if_neg]
       rintro ⟨_, h2, h3, _⟩; omega
      simp -dsimp only [go_sem]
      rw [hp]; rfl
    · have g2' := of_decide_eq_false g2
      obtain ⟨q, rfl, q1, q2, q3⟩ := precF_nat r3
      obtain ⟨n, rfl⟩ : ∃ n : Nat, k = n := ⟨k.toNat, by omega⟩
      have hn : n ≤ 8 := by omega
      obtain ⟨a1, a2, _⟩ := rightI_right r1
      have hp : powI a n q = endsV (roundV (powLo a n) q false) (roundV (powHi a n) q true) := by
       rw [powI, if_pos ⟨r1, by omega, by omega, r3⟩, q3, Int.toNat_natCast]
      rw [hp]
      clear hp
      simp -dsimp only [go_sem]
      refine pwp_late mixed 66 [0, 1, 2, 3, 4, 5, 6, 7] [8, 9] [10, 11] (.step 0 [] (.step 1 [] (.step 2 [] (.step 4 [] (.step 5 [] (.step 6 [] (.step 3 [5] (.step 7 [] (.done))))))))) (.step 10 [] (.step 11 [] (.done))) (by decide +kernel) (by simp) ?_
      simp -dsimp only [go_sem]
      refine (ivTimes_c a.lo n _ a1 hn).mono ?_
      rintro r st ⟨y, hy, hyq, rfl, rfl⟩
      simp -dsimp only [go_sem]
      refine (ivTimes_c a.hi n _ a2 hn).mono ?_
      rintro r st ⟨z, hz, hzq, rfl, rfl⟩
      have sy := sm_bd hy (by omega) (by omega)
      have sz := sm_bd hz (by omega) (by omega)
      have hlow := pow_lower r1 hyq hzq
      have hhigh := (pow_least r1 hyq hzq).2
      have bl := leastN_bd hy hz
      have bg := greatN_bd hy hz
      simp -dsimp only [go_sem]
      refine pwp_late mixed 66 [0, 1, 2, 3, 4, 5] [6, 7] [8, 9] (.step 0 [] (.step 1 [] (.step 3 [] (.step 4 [] (.step 2 [3, 4] (.step 5 [] (.done))))))) (.step 8 [] (.step 9 [] (.done))) (by decide +kernel) (by simp) ?_
      simp -dsimp only [go_sem]
      refine (least_c y z _ sy sz).mono ?_
      rintro r st ⟨rfl, rfl⟩
      simp -dsimp only [go_sem]
      refine (greatest_c y z _ sy sz).mono ?_
      rintro r st ⟨rfl, rfl⟩
      generalize leastN y z = lo at *
      generalize greatN y z = hi at *
      simp -dsimp only [go_sem]
      refine gkT (fun g3 => ?_) (fun g3 => ?_)
      · have g3' : 0 < n := by have := of_decide_eq_true g3; omega
        simp -dsimp only [go_sem, g3]
        refine gkT (fun g4 => ?_) (fun g4 => ?_)
        · have g4' := even_of g4
          simp -dsimp only [go_sem, g3, g4]
          refine (exSign_c a.lo _ (by have := (rightN_sm a1).1; omega)).mono ?_
          rintro r st ⟨rfl, rfl⟩
          simp -dsimp only [go_sem, g3, g4]
          refine gkT (fun g5 => ?_) (fun g5 => ?_)
          · have g5' := of_decide_eq_true g5
            simp -dsimp only [go_sem, g3, g4, g5]
            refine (exSign_c a.hi _ (by have := (rightN_sm a2).1; omega)).mono ?_
            rintro r st ⟨rfl, rfl⟩
            simp -dsimp only [go_sem, g3, g4, g5]
            refine ck (fun g6 => ?_) (fun g6 => ?_)
            · have g6' := of_decide_eq_true g6
              rw [if_pos ⟨g3', g4', g5', g6'⟩] at hlow
              simp -dsimp only [go_sem]
              refine (outward_c default hi q _ (rightN_bd (show rightN default = true by decide) |>.mono (by omega) (by omega)) (bg.mono (by omega) (by omega)) (by omega) (by omega)).mono ?_
              rintro r st ⟨rfl, rfl⟩
              rw [hlow, hhigh]
              simp -dsimp only [go_sem]
            · have g6' := of_decide_eq_false g6
              rw [if_neg (fun e => g6' e.2.2.2)] at hlow
              simp -dsimp only [go_sem]
              refine (outward_c lo hi q _ (bl.mono (by omega) (by omega)) (bg.mono (by omega) (by omega)) (by omega) (by omega)).mono ?_
              rintro r st ⟨rfl, rfl⟩
              rw [hlow, hhigh]
              simp -dsimp only [go_sem]
          · have g5' := of_decide_eq_false g5
            rw [if_neg (fun e => g5' e.2.2.1)] at hlow
            simp -dsimp only [go_sem, g3, g4, g5]
            refine (outward_c lo hi q _ (bl.mono (by omega) (by omega)) (bg.mono (by omega) (by omega)) (by omega) (by omega)).mono ?_
            rintro r st ⟨rfl, rfl⟩
            rw [hlow, hhigh]
            simp -dsimp only [go_sem]
        · have g4' := even_not g4
          rw [if_neg (fun e => g4' e.2.1)] at hlow
          simp -dsimp only [go_sem, g3, g4]
          refine (outward_c lo hi q _ (bl.mono (by omega) (by omega)) (bg.mono (by omega) (by omega)) (by omega) (by omega)).mono ?_
          rintro r st ⟨rfl, rfl⟩
          rw [hlow, hhigh]
          simp -dsimp only [go_sem]
      · have g3' : ¬ 0 < n := by have := of_decide_eq_false g3; omega
        rw [if_neg (fun e => g3' e.1)] at hlow
        simp -dsimp only [go_sem, g3]
        refine (outward_c lo hi q _ (bl.mono (by omega) (by omega)) (bg.mono (by omega) (by omega)) (by omega) (by omega)).mono ?_
        rintro r st ⟨rfl, rfl⟩
        rw [hlow, hhigh]
        simp -dsimp only [go_sem]
  · have g1' := of_decide_eq_true g1
    have hp : powI a k p = (default, 1) := by
     rw [powI, if_neg]
     rintro ⟨_, h2, h3, _⟩; omega
    simp -dsimp only [go_sem, g1]
    rw [hp]; rfl
end Go.Pv
end

section
/- Polynomials of the program: At, over a box, Range. -/
set_option maxRecDepth 100000
namespace Go.Pv
open Go.Proofs
theorem all_getD {α : Type} [Inhabited α] (l : List α) (f : α → Bool) : l.all f = true ↔ ∀ i, i < l.length → f (l.getD i default) = true := by
 rw [List.all_eq_true]
 constructor
 · intro h i hi
   have : l.getD i default = l[i] := by simp [List.getD_eq_getElem?_getD, hi]
   rw [this]; exact h _ (List.getElem_mem hi)
 · intro h x hx
   obtain ⟨i, hi, e⟩ := List.mem_iff_getElem.1 hx
   have := h i hi
   rw [show l.getD i default = l[i] by simp [List.getD_eq_getElem?_getD, hi], e] at this
   exact this
theorem notI_c (y : Ivl) (st : Store) (hwi : wI y) : PCalls Tryz.prog 187 [.agg (encI y)] st (fun r st' => r = .sc (.bool (!rightI y)) ∧ st' = st) := by
 refine pcalls_enter none Tryz.func187 rfl fun E => pwp_of_vc ?_
 simp -dsimp only [go_sem]
 refine (ivRight_c y _ hwi).mono ?_
 rintro r st ⟨rfl, rfl⟩
 simp -dsimp only [go_sem]
theorem containsI_c (l : List Ivl) (st : Store) (hl : l.length ≤ 100000000000) (hw : ∀ i, i < l.length → wI (l.getD i default)) : PCalls Tryz.prog 186 [.sl .no (encIs l), .fn (.func 187) [] []] st (fun r st' => r = .sc (.bool (!l.all rightI)) ∧ st' = st) := by
 refine pcalls_enter none Tryz.func186 rfl fun E => pwp_of_vc ?_
 simp -dsimp only [go_sem]
 suffices h : PCalls Tryz.prog 218 [.sl .no (encIs l), .fn (.func 187) [] []] st (fun r st' => (∃ k : Int, r = .sc (.int .i64 k) ∧ decide (k ≥ 0) = !l.all rightI) ∧ st' = st) by
  refine h.mono ?_
  rintro r st ⟨⟨k, rfl, hk⟩, rfl⟩
  simp -dsimp only [go_sem, hk]
 refine pcalls_enter none Tryz.func218 rfl fun E => pwp_of_vc ?_
 simp -dsimp only [go_sem]
 refine pwp_loop_mask [true, true, false, false, false, false, false, true, true] 0 0
  (fun n s => ∃ i, n = l.length - i ∧ i ≤ l.length ∧ (∀ j, j < i → rightI (l.getD j default) = true) ∧ s = ⟨[.sl .no (encIs l), .fn (.func 187) [] [], .junk, .junk, .junk, .junk, .junk, .sc (.int .i64 l.length), .sc (.int .i64 (i : Nat))] ++ List.replicate 10 .junk, [], [], st⟩) l.length ?_ ?_
 · simp -dsimp only [go_sem]
   exact ⟨0, by omega, by omega, fun j hj => by omega, rfl⟩
 · rintro n s ⟨i, rfl, hi, hr, rfl⟩
   simp -dsimp only [go_sem]
   refine ck (fun h' => ?_) (fun h' => ?_)
   · have hlt : i < l.length := by have := of_decide_eq_true h'; omega
     have e1 := encIs_get l i hlt
     have e3 := succW i (by omega)
     have hc : callable Tryz.prog 187 = true := rfl
     simp -dsimp only [go_sem, e1, hc]
     refine ⟨by omega, ?_⟩
     refine (notI_c (l.getD i default) _ (hw i hlt)).mono ?_
     rintro r st ⟨rfl, rfl⟩
     simp -dsimp only [go_sem]
     refine ck (fun h2 => ?_) (fun h2 => ?_)
     · have hf : rightI (l.getD i default) = false := by simpa using h2
       have hv : l.all rightI = false := Bool.eq_false_iff.2 fun e => by
        have := (all_getD l rightI).1 e i hlt
        rw [hf] at this; cases this
       simp -dsimp only [go_sem]
       exact ⟨_, rfl, by rw [hv, decide_eq_true (by omega)]; rfl⟩
     · have ht : rightI (l.getD i default) = true := by simpa using h2
       simp -dsimp only [go_sem, e3]
       refine ⟨l.length - (i + 1), by omega, i + 1, rfl, by omega, fun j hj => ?_, rfl⟩
       by_cases e : j = i
       · subst e; exact ht
       · exact hr j (by omega)
   · have hge : i = l.length := by have := of_decide_eq_false h'; omega
     have hv : l.all rightI = true := (all_getD l rightI).2 fun j hj => hr j (by omega)
     simp -dsimp only [go_sem]
     refine pwp_of_vc ?_
     simp -dsimp only [go_sem]
     exact ⟨_, rfl, by rw [hv]; rfl⟩
theorem polyOver_c (m : Mn) (b : List Ivl) (p : Int) (st : Store) (hl : m.ks.length = b.length) (h4 : b.length ≤ 4) (hk : rightK m.ks = true) (hm : rightN m.c = true) (hb : ∀ i, i < b.length → wI (b.getD i default)) : PCalls Tryz.prog 188 [.agg (encMn m), .sl .no (encIs b), .sc (.int .i64 p)] st (fun r st' => r = .tup [.agg (encI (overF m b p b.length).1), .sc (.int .i64 (overF m b p b.length).2)] ∧ st' = st) := by
 refine pcalls_enter none Tryz.func188 rfl fun E => pwp_of_vc ?_
 simp -dsimp only [go_sem]
 refine (ivOf_c m.c _ (sm_wN (rightN_sm hm))).mono ?_
 rintro r st ⟨rfl, rfl⟩
 simp -dsimp only [go_sem]
 refine pwp_loop_mask [false, true, true, false, false, false, true, false, true, false, false, false, false, false, false, false, false, true, true, true] 3 0
  (fun n s => ∃ i, n = b.length - i ∧ i ≤ b.length ∧ (overF m b p i).2 = 0 ∧ s = ⟨[.junk, .sl .no (encIs b), .sc (.int .i64 p), .junk, .junk, .junk, .lp 1 0, .junk, .lp 2 0, .junk, .junk, .junk, .junk, .junk, .junk, .junk, .junk, .sl .no (encZ m.ks), .sc (.int .i64 m.ks.length), .sc (.int .i64 (i : Nat))] ++ List.replicate 33 .junk, [encMn m, [.sc (.bool false), .sc (.int .i64 0), .sl .full [], .sc (.bool false), .sc (.int .i64 0), .sl .full []], encI (overF m b p i).1], [], st⟩) b.length ?_ ?_
 · simp -dsimp only [go_sem]
   exact ⟨0, by omega, by omega, rfl, rfl⟩
 · rintro n s ⟨i, rfl, hi, h0, rfl⟩
   have wo := overF_wI hm b p i
   simp -dsimp only [go_sem]
   refine ck (fun h' => ?_) (fun h' => ?_)
   · have hlt : i < b.length := by have := of_decide_eq_true h'; omega
     have e1 := encZ_get m.ks i (by omega)
     have e2 := encIs_get b i hlt
     have e3 := succW i (by omega)
     have hnext : overF m b p (i + 1) = if m.ks.getD i 0 = 0 then overF m b p i
      else if (powI (b.getD i default) (m.ks.getD i 0) p).2 ≠ 0 then (default, (powI (b.getD i default) (m.ks.getD i 0) p).2)
      else opI 2 (overF m b p i).1 (powI (b.getD i default) (m.ks.getD i 0) p).1 p := by rw [overF, if_neg (by rw [h0]; decide)]
     simp -dsimp only [go_sem, e1]
     refine ⟨by omega, ?_⟩
     refine ck (fun h2 => ?_) (fun h2 => ?_)
     · rw [if_pos (zbeq_t h2)] at hnext
       simp -dsimp only [go_sem, e3]
       exact ⟨b.length - (i + 1), by omega, i + 1, rfl, by omega, by rw [hnext]; exact h0, by rw [hnext]⟩
     · rw [if_neg (zbeq_f h2)] at hnext
       have wp := powI_wI (b.getD i default) (m.ks.getD i 0) p
       simp -dsimp only [go_sem, e2]
       refine ⟨by omega, ?_⟩
       refine (ivPow_c (b.getD i default) (m.ks.getD i 0) p _ (hb i hlt)).mono ?_
       rintro r st ⟨rfl, rfl⟩
       simp -dsimp only [go_sem]
       refine ck (fun h3 => ?_) (fun h3 => ?_)
       · rw [if_pos (zbne_t h3)] at hnext
         have hs := overF_stuck (m := m) (b := b) (p := p) (i := i + 1) (by rw [hnext]; exact zbne_t h3) (b.length - (i + 1))
         rw [show i + 1 + (b.length - (i + 1)) = b.length from by omega, hnext] at hs
         simp -dsimp only [go_sem]
         rw [hs]; rfl
       · rw [if_neg (by rw [zbne_f h3]; decide)] at hnext
         simp -dsimp only [go_sem]
         refine (ivMul_c (overF m b p i).1 (powI (b.getD i default) (m.ks.getD i 0) p).1 p _ wo wp).mono ?_
         rintro r st ⟨rfl, rfl⟩
         rw [← hnext]
         simp -dsimp only [go_sem]
         refine ck (fun h4 => ?_) (fun h4 => ?_)
         · have hs := overF_stuck (m := m) (b := b) (p := p) (i := i + 1) (zbne_t h4) (b.length - (i + 1))
           rw [show i + 1 + (b.length - (i + 1)) = b.length from by omega] at hs
           simp -dsimp only [go_sem]
           rw [hs]; rfl
         · simp -dsimp only [go_sem, e3]
           exact ⟨b.length - (i + 1), by omega, i + 1, rfl, by omega, zbne_f h4, rfl⟩
   · have hge : i = b.length := by have := of_decide_eq_false h'; omega
     subst hge
     simp -dsimp only [go_sem]
     refine pwp_of_vc ?_
     simp -dsimp only [go_sem]
     rw [h0]
theorem polyRange_c (q : List Mn) (b : List Ivl) (p : Int) (st : Store) (hq : wP q) (hb : wB b) : PCalls Tryz.prog 137 [.sl .no (encPs q), .sl .no (encIs b), .sc (.int .i64 p)] st (fun r st' => r = .tup [.agg (encI (rangeP q b p).1), .sc (.int .i64 (rangeP q b p).2)] ∧ st' = st) := by
 refine pcalls_enter none Tryz.func137 rfl fun E => pwp_of_vc ?_
 have bad : ¬ (rightP q b.length = true ∧ b.all rightI = true ∧ precF p = true) → rangeP q b p = (default, 1) := fun h => if_neg h
 simp -dsimp only [go_sem]
 refine (polyRight_c q _ _ hq).mono ?_
 rintro r st ⟨rfl, rfl⟩
 cases r1 : rightP q (b.length : Int) with
 | false =>
  have hv := bad (by rintro ⟨h, _⟩; rw [r1] at h; cases h)
  simp -dsimp only [go_sem]
  rw [hv]; rfl
 | true =>
  simp -dsimp only [go_sem]
  refine gkF (fun g1 => ?_) (fun g1 => ?_)
  · have g1' := of_decide_eq_false g1
    simp -dsimp only [go_sem, g1]
    refine gkF (fun g2 => ?_) (fun g2 => ?_)
    · have g2' := of_decide_eq_false g2
      have hc : callable Tryz.prog 187 = true := rfl
      have hp : precF p = true := by unfold precF; rw [decide_eq_true (by omega), decide_eq_true (by omega)]; rfl
      simp -dsimp only [go_sem, g1, g2, hc]
      refine (containsI_c b _ hb.1 hb.2).mono ?_
      rintro r st ⟨rfl, rfl⟩
      cases r2 : b.all rightI with
      | false =>
       have hv := bad (by rintro ⟨_, h, _⟩; rw [r2] at h; cases h)
       simp -dsimp only [go_sem, g1, g2]
       rw [hv]; rfl
      | true =>
       have hrp : rangeP q b p = rangeF q b p q.length := if_pos ⟨r1, r2, hp⟩
       rw [hrp]
       clear hrp bad
       have h4 := ((rightP_iff _ _).1 r1).1
       simp -dsimp only [go_sem, g1, g2]
       refine pwp_plainBox 1 ?_
       simp -dsimp only [go_sem]
       refine pwp_loop_mask [false, true, true, false, false, false, true, false, true, false, false, false, false, false, false, false, false, false, false, false, false, false, false, false, false, false, false, false, false, false, false, true, true, true] 2 0
        (fun n s => ∃ i, n = q.length - i ∧ i ≤ q.length ∧ (rangeF q b p i).2 = 0 ∧ s = ⟨[.junk, .sl .no (encIs b), .sc (.int .i64 p), .junk, .junk, .junk, .lp 0 0, .junk, .lp 1 0, .junk, .junk, .junk, .junk, .junk, .junk, .junk, .junk, .junk, .junk, .junk, .junk, .junk, .junk, .junk, .junk, .junk, .junk, .junk, .junk, .junk, .junk, .sl .no (encPs q), .sc (.int .i64 q.length), .sc (.int .i64 (i : Nat))] ++ List.replicate 27 .junk, [[.sc (.bool false), .sc (.int .i64 0), .sl .full [], .sc (.bool false), .sc (.int .i64 0), .sl .full []], encI (rangeF q b p i).1], [], st⟩) q.length ?_ ?_
       · simp -dsimp only [go_sem]
         exact ⟨0, by omega, by omega, rfl, rfl⟩
       · rintro n s ⟨i, rfl, hi, h0, rfl⟩
         have wr := rangeF_wI q b p i
         simp -dsimp only [go_sem]
         refine ck (fun h' => ?_) (fun h' => ?_)
         · have hlt : i < q.length := by have := of_decide_eq_true h'; omega
           have e1 := encPs_get q i hlt
           have e3 := succW i (by omega)
           obtain ⟨k1, k2, k3⟩ := rightP_mono r1 hlt
           have wo := overF_wI k3 b p b.length
           have hnext : rangeF q b p (i + 1) = if (overF (q.getD i default) b p b.length).2 ≠ 0 then (default, (overF (q.getD i default) b p b.length).2)
            else opI 0 (rangeF q b p i).1 (overF (q.getD i default) b p b.length).1 p := by rw [rangeF, if_neg (by rw [h0]; decide)]
           simp -dsimp only [go_sem, e1]
           refine ⟨by omega, ?_⟩
           refine (polyOver_c (q.getD i default) b p _ (by omega) (by omega) k2 k3 hb.2).mono ?_
           rintro r st ⟨rfl, rfl⟩
           simp -dsimp only [go_sem]
           refine ck (fun h3 => ?_) (fun h3 => ?_)
           · rw [if_pos (zbne_t h3)] at hnext
             have hs := rangeF_stuck (q := q) (b := b) (p := p) (i := i + 1) (by rw [hnext]; exact zbne_t h3) (q.length - (i + 1))
             rw [show i + 1 + (q.length - (i + 1)) = q.length from by omega, hnext] at hs
             simp -dsimp only [go_sem]
             rw [hs]; rfl
           · rw [if_neg (by rw [zbne_f h3]; decide)] at hnext
             simp -dsimp only [go_sem]
             refine (ivAdd_c (rangeF q b p i).1 (overF (q.getD i default) b p b.length).1 p _ wr wo).mono ?_
             rintro r st ⟨rfl, rfl⟩
             rw [← hnext]
             simp -dsimp only [go_sem]
             refine ck (fun h4 => ?_) (fun h4 => ?_)
             · have hs := rangeF_stuck (q := q) (b := b) (p := p) (i := i + 1) (zbne_t h4) (q.length - (i + 1))
               rw [show i + 1 + (q.length - (i + 1)) = q.length from by omega] at hs
               simp -dsimp only [go_sem]
               rw [hs]; rfl
             · simp -dsimp only [go_sem, e3]
               exact ⟨q.length - (i + 1), by omega, i + 1, rfl, by omega, zbne_f h4, rfl⟩
         · have hge : i = q.length := by have := of_decide_eq_false h'; omega
           subst hge
           simp -dsimp only [go_sem]
           refine pwp_of_vc ?_
           simp -dsimp only [go_sem]
           rw [h0]
    · have hv := bad (by rintro ⟨_, _, h⟩; unfold precF at h; simp only [Bool.and_eq_true, decide_eq_true_eq] at h; have := of_decide_eq_true g2; omega)
      simp -dsimp only [go_sem, g1, g2]
      rw [hv]; rfl
  · have hv := bad (by rintro ⟨_, _, h⟩; unfold precF at h; simp only [Bool.and_eq_true, decide_eq_true_eq] at h; have := of_decide_eq_true g1; omega)
    simp -dsimp only [go_sem, g1]
    rw [hv]; rfl
end Go.Pv
end

section
/- Polynomials of the document: Value, At, Range. -/
set_option maxRecDepth 100000
namespace Go.Pv
open Go.Proofs
end Go.Pv
end

section
/- Fields at points and over boxes, on both sides. -/
set_option maxRecDepth 100000
namespace Go.Pv
open Go.Proofs
def atFd (f : List (List Mn)) (x : List Nm) : List Nm × Int := if rightF f = true ∧ x.length = f.length then tabF (fun i => atP (f.getD i []) x) 0 f.length [] else ([], 1)
def rangeFd (f : List (List Mn)) (b : List Ivl) (p : Int) : List Ivl × Int := if rightF f = true ∧ b.length = f.length then tabF (fun i => rangeP (f.getD i []) b p) 0 f.length [] else ([], 1)
theorem rangeFd_bad {f : List (List Mn)} {b : List Ivl} {p : Int} (h : ¬ (rightF f = true ∧ b.length = f.length ∧ rightB b = true)) : rangeFd f b p = ([], 1) := by
 unfold rangeFd
 split
 · rename_i c
   have h4 := ((rightF_iff f).1 c.1).1
   have hb : ¬ b.all rightI = true := fun e => h ⟨c.1, c.2, by unfold rightB; rw [e, decide_eq_true (by omega), decide_eq_true (by omega)]; rfl⟩
   exact tabF_first _ h4.1 1 (by decide) fun i => by unfold rangeP; rw [if_neg (fun e => hb e.2.1)]
 · rfl
theorem fieldRange_c (f : List (List Mn)) (b : List Ivl) (p : Int) (st : Store) (hf : wF f) (hb : wB b) : PCalls Tryz.prog 84 [.sl .no (encFs f), .sl .no (encIs b), .sc (.int .i64 p)] st (fun r st' => r = .tup [.sl .no (encIs (rangeFd f b p).1), .sc (.int .i64 (rangeFd f b p).2)] ∧ st' = st) := by
 have hfl := hf.1
 refine pcalls_enter none Tryz.func84 rfl fun E => pwp_of_vc ?_
 simp -dsimp only [go_sem]
 refine (fieldRight_c f _ hf).mono ?_
 rintro r st ⟨rfl, rfl⟩
 cases r1 : rightF f with
 | false =>
  have hv := rangeFd_bad (f := f) (b := b) (p := p) (by rintro ⟨h, _⟩; rw [r1] at h; cases h)
  simp -dsimp only [go_sem]
  rw [hv]; rfl
 | true =>
  have h4 := ((rightF_iff f).1 r1).1
  simp -dsimp only [go_sem]
  refine (boxRight_c b _ hb).mono ?_
  rintro r st ⟨rfl, rfl⟩
  cases r2 : rightB b with
  | false =>
   have hv := rangeFd_bad (f := f) (b := b) (p := p) (by rintro ⟨_, _, h⟩; rw [r2] at h; cases h)
   simp -dsimp only [go_sem]
   rw [hv]; rfl
  | true =>
   simp -dsimp only [go_sem]
   refine ck (fun h => ?_) (fun h => ?_)
   · have hne := nbne_t h
     have hv := rangeFd_bad (f := f) (b := b) (p := p) (by rintro ⟨_, h, _⟩; exact hne h)
     simp -dsimp only [go_sem]
     rw [hv]; rfl
   · have heq := nbne_f h
     have hv : rangeFd f b p = tabF (fun i => rangeP (f.getD i []) b p) 0 f.length [] := if_pos ⟨r1, heq⟩
     rw [hv]
     simp -dsimp only [go_sem]
     refine pwp_claim 8 6 ?_
     simp -dsimp only [go_sem]
     refine pwp_loop_mask [false, true, true, false, false, false, false, false, true, false, false, false, false, false, false, false, false, false, false, false, false, false, false, false, false, false, false, false, true, true, true] 0 1
      (fun n s => ∃ (i : Nat) (o : List Ivl), n = f.length - i ∧ i ≤ f.length ∧ o.length = i ∧ tabF (fun i => rangeP (f.getD i []) b p) 0 f.length [] = tabF (fun i => rangeP (f.getD i []) b p) i (f.length - i) o ∧
       s = ⟨[.junk, .sl .no (encIs b), .sc (.int .i64 p), .junk, .junk, .junk, .junk, .junk, .sl (.own 0) (encIs o), .junk, .junk, .junk, .junk, .junk, .junk, .junk, .junk, .junk, .junk, .junk, .junk, .junk, .junk, .junk, .junk, .junk, .junk, .junk, .sl .no (encFs f), .sc (.int .i64 f.length), .sc (.int .i64 (i : Nat))] ++ List.replicate 19 .junk, [], [(o.length, 6)], st⟩) f.length ?_ ?_
     · simp -dsimp only [go_sem]
       exact ⟨0, [], by omega, by omega, rfl, rfl, rfl⟩
     · rintro n s ⟨i, o, rfl, hi, ho, hr, rfl⟩
       simp -dsimp only [go_sem]
       refine ck (fun h' => ?_) (fun h' => ?_)
       · have hlt : i < f.length := by have := of_decide_eq_true h'; omega
         have e1 := encFs_get f i hlt
         have e3 := succW i (by omega)
         have e4 := tabF_step (fun i => rangeP (f.getD i []) b p) hlt o
         simp -dsimp only [go_sem, e1]
         refine ⟨by omega, ?_⟩
         refine (polyRange_c (f.getD i []) b p _ (hf.2 i hlt) hb).mono ?_
         rintro r st ⟨rfl, rfl⟩
         simp -dsimp only [go_sem]
         refine ck (fun h2 => ?_) (fun h2 => ?_)
         · have hne := zbne_t h2
           simp -dsimp only [go_sem]
           rw [hr, e4, if_pos hne]; rfl
         · have he := zbne_f h2
           simp -dsimp only [go_sem, e3]
           refine ⟨⟨by omega, by omega⟩, f.length - (i + 1), by omega, i + 1, o ++ [(rangeP (f.getD i []) b p).1], rfl, by omega, by simp [ho], ?_, ?_⟩
           · rw [hr, e4, if_neg (fun hh => hh he)]
           · simp [encIs, encI]
       · have hge : i = f.length := by have := of_decide_eq_false h'; omega
         subst hge
         simp -dsimp only [go_sem]
         refine pwp_plain [false, false, false, false, false, false, false, false, true] (pwp_of_vc ?_)
         simp -dsimp only [go_sem]
         rw [hr, tabF_end]
end Go.Pv
end
