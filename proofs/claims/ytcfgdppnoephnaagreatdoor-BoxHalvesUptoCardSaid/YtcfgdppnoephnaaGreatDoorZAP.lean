/- Parts of the walk: N29, N30. -/
import Derived.Test.YtcfgdppnoephnaaGreatDoorZAN
import Derived.Test.YtcfgdppnoephnaaGreatDoorZAH
import Derived.Test.YtcfgdppnoephnaaGreatDoorZAM
import Derived.Test.YtcfgdppnoephnaaGreatDoorZAO
set_option linter.unusedVariables false
set_option linter.unusedSimpArgs false
section
/- The document's Halve. -/
set_option linter.unusedVariables false
set_option linter.unusedSimpArgs false
set_option maxRecDepth 100000
namespace Go.Pv
open Go.Proofs
theorem refHalve_c (b : List Ivl) (p : Int) (st : Store) (hb : wB b) : PCalls Tryz.prog 16 [.sl .no (encIs b), .sc (.int .i64 p)] st
    (fun r st' => r = .tup [.sl .no (encIs (halveB b p).1.1), .sl .no (encIs (halveB b p).1.2), .sc (.int .i64 (halveB b p).2)] ∧ st' = st) := by
  refine pcalls_enter none Tryz.func16 rfl fun E => pwp_seq (pwp_of_vc ?_)
  unfold halveB
  have hok := widthsB_ok (b := b) (p := p)
  simp -dsimp only [go_sem]
  refine pwp_seq (pwp_of_vc ?_)
  simp -dsimp only [go_sem]
  refine (widest_c b p _ hb).mono ?_
  rintro r st ⟨rfl, rfl⟩
  unfold wideB
  generalize widthsB b p = W at *
  obtain ⟨l, e⟩ := W
  simp only at hok
  by_cases h1 : e = 0
  · obtain ⟨q1, q2, hlen⟩ := hok h1
    have hlt := amax_lt l b.length (rightB_len q1).1 (by omega)
    have e2 := encIs_get b (amax l b.length) hlt
    subst h1
    rw [if_pos rfl, if_pos rfl, if_neg (fun e => e rfl)]
    generalize amax l b.length = k at *
    simp -dsimp only [go_sem]
    refine pwp_seq (pwp_of_vc ?_)
    simp -dsimp only [go_sem]
    refine pwp_seq (pwp_of_vc ?_)
    simp -dsimp only [go_sem, e2]
    refine ⟨by omega, ?_⟩
    refine (refMid_c (b.getD k default) p _ (hb.2 k hlt)).mono ?_
    rintro r st ⟨rfl, rfl⟩
    simp -dsimp only [go_sem]
    refine pwp_seq (pwp_of_vc ?_)
    simp -dsimp only [go_sem]
    refine ck (fun h => ?_) (fun h => ?_)
    · have h2 := zbne_t h
      simp -dsimp only [go_sem]
      rw [if_pos h2]; rfl
    · have h2 := zbne_f h
      rw [if_neg (fun e => e h2)]
      generalize (midI (b.getD k default) p).1 = m at *
      simp -dsimp only [go_sem]
      refine pwp_seq (pwp_melt [false, false, true, false, false, true] ?_)
      simp -dsimp only [go_sem]
      have hb0 : 0 < b.length := by omega
      have hbl := hb.1
      refine ⟨⟨⟨by omega, by omega⟩, hb0⟩, ⟨⟨by omega, by omega⟩, hb0⟩, ?_⟩
      refine pwp_seq (pwp_draw mixed 53 (.step 0 [] (.step 1 [] (.step 2 [] (.step 3 [] (.step 4 [] (.step 5 [] (.step 6 [] (.step 7 [] (.step 8 [5] (.step 9 [] (.step 10 [] (.step 11 [] (.done))))))))))))) (by decide +kernel) (by simp) ?_)
      simp -dsimp only [go_sem]
      refine ⟨⟨by omega, hlt⟩, ⟨by omega, by omega⟩, ⟨by omega, hlt⟩, ⟨by omega, by omega⟩, ?_⟩
      have f1 := flatI_hi b k m hlt
      have f2 := flatI_lo b k m hlt
      simp only [encN] at f1 f2
      rw [f1, f2]
      have g1 : (b.set k ⟨(b.getD k default).lo, m⟩).length = b.length := by simp
      have g2 : (b.set k ⟨m, (b.getD k default).hi⟩).length = b.length := by simp
      generalize b.set k ⟨(b.getD k default).lo, m⟩ = X at *
      generalize b.set k ⟨m, (b.getD k default).hi⟩ = Y at *
      have c1 := chunksI' X b.length g1.symm
      have c2 := chunksI' Y b.length g2.symm
      refine pwp_freezeN 2 6 ?_ ?_
      · simp -dsimp only [go_sem]
      simp -dsimp only [go_sem, g1, c1]
      refine pwp_freezeN 3 6 ?_ ?_
      · simp -dsimp only [go_sem]
      simp -dsimp only [go_sem, g2, c2]
      refine pwp_of_vc ?_
      simp -dsimp only [go_sem]
  · rw [if_neg h1, if_neg h1, if_pos h1]
    have hne : (e == 0) = false := by simpa using h1
    have hne' : (e != 0) = true := by simpa using h1
    simp -dsimp only [go_sem]
    refine pwp_seq (pwp_of_vc ?_)
    simp -dsimp only [go_sem, hne, hne']
end Go.Pv
end

section
/- The law BoxHalves. -/
set_option linter.unusedVariables false
set_option linter.unusedSimpArgs false
set_option maxRecDepth 100000
namespace Go.Pv
open Go.Proofs
theorem wB_set {b : List Ivl} {i : Nat} {x : Ivl} (hb : wB b) (hx : wI x) : wB (b.set i x) := by
  refine ⟨by rw [List.length_set]; exact hb.1, fun j hj => ?_⟩
  rw [List.length_set] at hj
  rw [getD_put _ _ _ _ _ hj]
  split
  · exact hx
  · exact hb.2 j hj
theorem halve_wB {b : List Ivl} (p : Int) (hb : wB b) : wB (halveB b p).1.1 ∧ wB (halveB b p).1.2 := by
  have hn : wB [] := ⟨by simp, fun i hi => by simp at hi⟩
  unfold halveB
  split
  · exact ⟨hn, hn⟩
  · rename_i h1
    split
    · exact ⟨hn, hn⟩
    · obtain ⟨q1, q2, q3⟩ := widthsB_ok (Classical.not_not.1 h1)
      have hlt := amax_lt (widthsB b p).1 b.length (rightB_len q1).1 (by omega)
      have hw := hb.2 _ hlt
      have hm : wN (midI (b.getD (amax (widthsB b p).1 b.length) default) p).1 := sm_wN (rightN_sm (midI_right _ _))
      exact ⟨wB_set hb ⟨hw.1, hm⟩, wB_set hb ⟨hm, hw.2⟩⟩
set_option maxHeartbeats 2000000 in
theorem boxHalves_c (a : List Ivl) (l : List UInt64) (p : Int) (ha : wB a) : PCalls Tryz.prog 3 [.sl .no (encIs a), .sl .no (encW l), .sc (.int .i64 p)] [] (fun r st' => r = .sc (.bool true)) := by
  refine pcalls_enter none Tryz.func3 rfl fun E => pwp_of_vc ?_
  simp -dsimp only [go_sem]
  refine (known6_c _).mono ?_
  rintro r st ⟨rfl, rfl⟩
  simp -dsimp only [go_sem]
  have e : [PV.sl Tag.no (encIs a)] = encIss [a] := rfl
  rw [e]
  refine (light_c [a] _ (by simp) (fun i hi => by
    have : i = 0 := by simp at hi; omega
    subst this; exact ha.1)).mono ?_
  rintro r st ⟨⟨g, rfl⟩, rfl⟩
  simp -dsimp only [go_sem]
  refine ck (fun h2 => ?_) (fun h2 => ?_)
  · simp -dsimp only [go_sem]
  · simp -dsimp only [go_sem]
    refine (boxHalve_c a p _ ha).mono ?_
    rintro r st ⟨rfl, rfl⟩
    simp -dsimp only [go_sem]
    refine (refHalve_c a p _ ha).mono ?_
    rintro r st ⟨rfl, rfl⟩
    obtain ⟨w1, w2⟩ := halve_wB p ha
    have f1 : ((halveB a p).2 != (halveB a p).2) = false := by simp
    simp -dsimp only [go_sem, f1]
    refine (sameBox_c _ _ _ w1 w1).mono ?_
    rintro r st ⟨rfl, rfl⟩
    rw [decide_eq_true rfl]
    simp -dsimp only [go_sem]
    refine (sameBox_c _ _ _ w2 w2).mono ?_
    rintro r st ⟨rfl, rfl⟩
    rw [decide_eq_true rfl]
    simp -dsimp only [go_sem]
    clear f1 w1 w2
    refine (deckOf_c l _).mono ?_
    rintro r st ⟨rfl, rfl⟩
    simp -dsimp only [go_sem]
    refine (dim_c l 0 0 [dk l 0] rfl (by omega)).mono ?_
    rintro r st ⟨n, hn1, hn2, rfl, rfl⟩
    simp -dsimp only [go_sem]
    refine (smallBoxS_c l 1 0 n [dk l 1] rfl (by omega) (by omega)).mono ?_
    rintro r st ⟨b, j1, hlb, hb0, hj1, hj2, rfl, rfl⟩
    have hb : smB b := ⟨by omega, by omega, hb0⟩
    have wb := rightB_wB hb.right
    simp -dsimp only [go_sem]
    refine (inBoxD_c l j1 0 b [dk l j1] rfl (by omega) (by omega) (rightB_all hb.right)).mono ?_
    rintro r st ⟨v, hv1, hv2, rfl, rfl⟩
    simp -dsimp only [go_sem]
    refine (prec_c l (j1 + b.length) 0 [dk l (j1 + b.length)] rfl (by omega)).mono ?_
    rintro r st ⟨q, j4, hp1, hp2, hj7, hj8, rfl, rfl⟩
    have hq := precF_nat' hp1 hp2
    obtain ⟨wv, hasv⟩ := inN_list hb.right hv1 hv2
    obtain ⟨i, m, hc, hh⟩ := halve_sm hb.1 hb.2.1 hb.2.2 hq
    have rX := hc.in_lo
    have rY := hc.in_hi
    have hX : rightB (loB b i m) = true := by
      unfold inB at rX; simp only [Bool.and_eq_true] at rX; exact rX.1.1
    have hY : rightB (hiB b i m) = true := by
      unfold inB at rY; simp only [Bool.and_eq_true] at rY; exact rY.1.1
    have wX := rightB_wB hX
    have wY := rightB_wB hY
    have hu := hc.hull
    have hor := hc.has hasv
    simp -dsimp only [go_sem]
    refine (boxHalve_c b q _ wb).mono ?_
    rintro r st ⟨rfl, rfl⟩
    rw [hh]
    simp -dsimp only [go_sem]
    refine (refHalve_c b q _ wb).mono ?_
    rintro r st ⟨rfl, rfl⟩
    rw [hh]
    simp -dsimp only [go_sem]
    generalize loB b i m = X at *
    generalize hiB b i m = Y at *
    refine (boxHull_c X Y _ wX wY).mono ?_
    rintro r st ⟨rfl, rfl⟩
    rw [hu]
    have z0 : ((0 : Int) == 0) = true := rfl
    simp -dsimp only [go_sem, z0]
    refine (sameBox_c _ _ _ wX wX).mono ?_
    rintro r st ⟨rfl, rfl⟩
    rw [decide_eq_true rfl]
    simp -dsimp only [go_sem]
    refine (sameBox_c _ _ _ wY wY).mono ?_
    rintro r st ⟨rfl, rfl⟩
    rw [decide_eq_true rfl]
    simp -dsimp only [go_sem]
    refine (boxSame_c _ _ _ wb wb).mono ?_
    rintro r st ⟨rfl, rfl⟩
    rw [decide_eq_true rfl]
    simp -dsimp only [go_sem]
    refine (boxHas_c X v _ wX wv).mono ?_
    rintro r st ⟨rfl, rfl⟩
    have fin : True := trivial
    cases hx : hasB X v with
    | true =>
      simp -dsimp only [go_sem]
      refine (boxIn_c X b _ wX wb).mono ?_
      rintro r st ⟨rfl, rfl⟩
      rw [rX]
      simp -dsimp only [go_sem]
      refine (boxIn_c Y b _ wY wb).mono ?_
      rintro r st ⟨rfl, rfl⟩
      rw [rY]
      simp -dsimp only [go_sem]
    | false =>
      rw [hx, Bool.false_or] at hor
      simp -dsimp only [go_sem]
      refine (boxHas_c Y v _ wY wv).mono ?_
      rintro r st ⟨rfl, rfl⟩
      rw [hor]
      simp -dsimp only [go_sem]
      refine (boxIn_c X b _ wX wb).mono ?_
      rintro r st ⟨rfl, rfl⟩
      rw [rX]
      simp -dsimp only [go_sem]
      refine (boxIn_c Y b _ wY wb).mono ?_
      rintro r st ⟨rfl, rfl⟩
      rw [rY]
      simp -dsimp only [go_sem]
end Go.Pv
end
