/- Parts of the walk: M43, M44, M45. -/
import Derived.Test.YthllcnigcnoghaaGreatDoorZBD
import Derived.Test.YthllcnigcnoghaaGreatDoorZBC
import Derived.Test.YthllcnigcnoghaaGreatDoorZP
set_option linter.unusedVariables false
set_option linter.unusedSimpArgs false
section
/- Powers of numbers and of intervals; values and ranges of polynomials. No program in it. -/
namespace Go.Pv
def powV (v : Vl) : Nat → Vl
 | 0 => oddV false 1 0
 | k + 1 => byV (powV v k) v
def powQ (q : Rat) : Nat → Rat
 | 0 => 1
 | k + 1 => powQ q k * q
theorem qV_pow (v : Vl) : ∀ k, qV (powV v k) = powQ (qV v) k
 | 0 => qV_one
 | k + 1 => by rw [powV, qV_by, qV_pow v k]; rfl
theorem canV_pow {v : Vl} (h : canV v) : ∀ k, canV (powV v k)
 | 0 => canV_odd _ _ _
 | k + 1 => canV_by (canV_pow h k) h
theorem powQ_even (q : Rat) : ∀ k, 0 ≤ powQ q (2 * k)
 | 0 => by show (0 : Rat) ≤ 1; decide
 | k + 1 => by
  have e : powQ q (2 * (k + 1)) = powQ q (2 * k) * (q * q) := by
   show powQ q (2 * k) * q * q = _
   rw [Rat.mul_assoc]
  rw [e]
  have h : 0 ≤ q * q := by
   by_cases c : 0 ≤ q
   · exact mulq_nn c c
   · have := mulq_nn (a := -q) (b := -q) (by grind) (by grind); grind
  exact mulq_nn (powQ_even q k) h
theorem powQ_zero : ∀ k, 0 < k → powQ 0 k = 0
 | k + 1, _ => by rw [powQ, Rat.mul_zero]
theorem luQ_pow {L U : Nat} {q : Rat} (h : luQ L U q) : ∀ k, luQ (L * k) (U * k) (powQ q k)
 | 0 => by
  have := luQ_int (z := 1) (n := 0) (by decide) 0
  rw [show qM 1 0 = 1 from qN_one] at this
  exact this
 | k + 1 => luQ_mul (luQ_pow h k) h
def powLo (a : Ivl) (k : Nat) : Vl :=
 if 0 < k ∧ k % 2 = 0 ∧ hasI a default = true then ⟨false, 0, 0⟩ else if orderV (powV (ofN a.lo) k) (powV (ofN a.hi) k) > 0 then powV (ofN a.hi) k else powV (ofN a.lo) k
def powHi (a : Ivl) (k : Nat) : Vl := if orderV (powV (ofN a.lo) k) (powV (ofN a.hi) k) > 0 then powV (ofN a.lo) k else powV (ofN a.hi) k
def powI (a : Ivl) (k p : Int) : Ivl × Int :=
 if rightI a = true ∧ 0 ≤ k ∧ k ≤ 8 ∧ precF p = true then endsV (roundV (powLo a k.toNat) p.toNat false) (roundV (powHi a k.toNat) p.toNat true) else (default, 1)
theorem canV_powLo {a : Ivl} (h : rightI a = true) (k : Nat) : canV (powLo a k) := by
 obtain ⟨c1, c2⟩ := canI h
 unfold powLo
 split
 · exact .inr rfl
 · split
   · exact canV_pow c2 k
   · exact canV_pow c1 k
theorem canV_powHi {a : Ivl} (h : rightI a = true) (k : Nat) : canV (powHi a k) := by
 obtain ⟨c1, c2⟩ := canI h
 unfold powHi
 split
 · exact canV_pow c1 k
 · exact canV_pow c2 k
theorem pow_least {a : Ivl} {k : Nat} {x y : Nm} (h : rightI a = true) (hx : qN x = powQ (qN a.lo) k) (hy : qN y = powQ (qN a.hi) k) : ofX (leastN x y) = (if orderV (powV (ofN a.lo) k) (powV (ofN a.hi) k) > 0 then powV (ofN a.hi) k else powV (ofN a.lo) k) ∧ ofX (greatN x y) = powHi a k := by
 obtain ⟨c1, c2⟩ := canI h
 have e1 : ofX x = powV (ofN a.lo) k := ofX_of (canV_pow c1 k) (by rw [qV_pow, qV_ofN, hx])
 have e2 : ofX y = powV (ofN a.hi) k := ofX_of (canV_pow c2 k) (by rw [qV_pow, qV_ofN, hy])
 have hq1 : qV (powV (ofN a.lo) k) = qN x := by rw [qV_pow, qV_ofN, hx]
 have hq2 : qV (powV (ofN a.hi) k) = qN y := by rw [qV_pow, qV_ofN, hy]
 have hg := orderV_gt (powV (ofN a.lo) k) (powV (ofN a.hi) k)
 rw [hq1, hq2] at hg
 unfold powHi leastN greatN
 refine ⟨?_, ?_⟩
 · by_cases c : qN y < qN x
   · rw [if_pos (cmpN_lt.2 c), if_pos (hg.2 c), e2]
   · rw [if_neg (fun e => c (cmpN_lt.1 e)), if_neg (fun e => c (hg.1 e)), e1]
 · by_cases c : qN y < qN x
   · rw [if_neg (fun e => by have := cmpN_gt.1 e; grind), if_pos (hg.2 c), e1]
   · rw [if_neg (fun e => c (hg.1 e))]
     split
     · exact e2
     · rename_i d
       have : qN x = qN y := by have := fun e => d (cmpN_gt.2 e); grind
       rw [e1]
       exact canV_inj (canV_pow c1 k) (canV_pow c2 k) (by rw [hq1, hq2, this])
theorem hasI_zero {a : Ivl} (h : rightI a = true) : hasI a default = true ↔ qN a.lo ≤ 0 ∧ 0 ≤ qN a.hi := by
 unfold hasI
 have hd : rightN (default : Nm) = true := by decide
 rw [h, hd]
 simp only [Bool.true_and, Bool.and_eq_true, decide_eq_true_eq]
 rw [cmpN_le, cmpN_le, qN_dflt]
theorem sgnN_lt (x : Nm) : sgnN x < 0 ↔ qN x < 0 := by
 rw [sgnN_eq, sgn_lt, ← qM_zero x.exp]; exact qM_lt.symm
theorem sgnN_gt (x : Nm) : 0 < sgnN x ↔ 0 < qN x := by
 have h1 : sgnN x ≤ 0 ↔ qN x ≤ 0 := by rw [sgnN_eq, sgn_le, ← qM_zero x.exp]; exact qM_le.symm
 rw [← Rat.not_le, ← h1]; omega
theorem ofX_dflt : ofX default = ⟨false, 0, 0⟩ := ofX_of (.inr rfl) (by rw [qN_dflt]; exact (qV_m0 (v := ⟨false, 0, 0⟩) rfl).symm)
theorem pow_lower {a : Ivl} {k : Nat} {x y : Nm} (h : rightI a = true) (hx : qN x = powQ (qN a.lo) k) (hy : qN y = powQ (qN a.hi) k) :
  ofX (if 0 < k ∧ k % 2 = 0 ∧ sgnN a.lo < 0 ∧ 0 < sgnN a.hi then default else leastN x y) = powLo a k := by
 obtain ⟨p1, p2⟩ := pow_least h hx hy
 have hz := hasI_zero h
 have hle := mem_hi h
 unfold powLo
 generalize hW : (if orderV (powV (ofN a.lo) k) (powV (ofN a.hi) k) > 0 then powV (ofN a.hi) k else powV (ofN a.lo) k) = W at p1 ⊢
 by_cases c : 0 < k ∧ k % 2 = 0
 · by_cases d : sgnN a.lo < 0 ∧ 0 < sgnN a.hi
   · rw [if_pos ⟨c.1, c.2, d.1, d.2⟩, ofX_dflt]
     have d1 := (sgnN_lt _).1 d.1
     have d2 := (sgnN_gt _).1 d.2
     rw [if_pos ⟨c.1, c.2, hz.2 ⟨by grind, by grind⟩⟩]
   · rw [if_neg (fun e => d ⟨e.2.2.1, e.2.2.2⟩), p1]
     by_cases f : hasI a default = true
     · rw [if_pos ⟨c.1, c.2, f⟩]
       obtain ⟨f1, f2⟩ := hz.1 f
       have d' : ¬ (qN a.lo < 0 ∧ 0 < qN a.hi) := fun e => d ⟨(sgnN_lt _).2 e.1, (sgnN_gt _).2 e.2⟩
       obtain ⟨m, hm⟩ : ∃ m, k = 2 * m := ⟨k / 2, by omega⟩
       have e1 := powQ_even (qN a.lo) m
       have e2 := powQ_even (qN a.hi) m
       rw [← hm] at e1 e2
       obtain ⟨c1, c2⟩ := canI h
       have hg := orderV_gt (powV (ofN a.lo) k) (powV (ofN a.hi) k)
       rw [qV_pow, qV_pow, qV_ofN, qV_ofN] at hg
       have hzero : powQ 0 k = 0 := powQ_zero k c.1
       rw [← hW]
       split
       · rename_i g
         have g := hg.1 g
         refine canV_inj (canV_pow c2 k) (.inr rfl) ?_
         rw [qV_pow, qV_ofN, show qV ⟨false, 0, 0⟩ = 0 from qV_m0 rfl]
         by_cases w : qN a.lo = 0
         · rw [w, hzero] at g; grind
         · have : qN a.hi = 0 := by grind
           rw [this, hzero]
       · rename_i g
         have g := fun e => g (hg.2 e)
         refine canV_inj (canV_pow c1 k) (.inr rfl) ?_
         rw [qV_pow, qV_ofN, show qV ⟨false, 0, 0⟩ = 0 from qV_m0 rfl]
         by_cases w : qN a.lo = 0
         · rw [w, hzero]
         · have : qN a.hi = 0 := by grind
           rw [this, hzero] at g; grind
     · rw [if_neg (fun e => f e.2.2)]
 · rw [if_neg (fun e => c ⟨e.1, e.2.1⟩), if_neg (fun e => c ⟨e.1, e.2.1⟩), p1]
def termV (m : Mn) (x : List Nm) : Nat → Vl
 | 0 => ofN m.c
 | i + 1 => byV (termV m x i) (powV (ofN (x.getD i default)) (m.ks.getD i 0).toNat)
def valV (p : List Mn) (x : List Nm) : Nat → Vl
 | 0 => ⟨false, 0, 0⟩
 | i + 1 => plusV (valV p x i) (termV (p.getD i default) x x.length)
def termQ (m : Mn) (x : Nat → Rat) : Nat → Rat
 | 0 => qN m.c
 | i + 1 => termQ m x i * powQ (x i) (m.ks.getD i 0).toNat
def valQ (p : List Mn) (x : Nat → Rat) (n : Nat) : Nat → Rat
 | 0 => 0
 | i + 1 => valQ p x n i + termQ (p.getD i default) x n
def atP (p : List Mn) (x : List Nm) : Nm × Int := if rightP p x.length = true ∧ x.all rightN = true then numV (valV p x p.length) else (default, 1)
def overF (m : Mn) (b : List Ivl) (p : Int) : Nat → Ivl × Int
 | 0 => (⟨m.c, m.c⟩, 0)
 | i + 1 => if (overF m b p i).2 ≠ 0 then (default, (overF m b p i).2) else if m.ks.getD i 0 = 0 then overF m b p i
  else if (powI (b.getD i default) (m.ks.getD i 0) p).2 ≠ 0 then (default, (powI (b.getD i default) (m.ks.getD i 0) p).2)
  else opI 2 (overF m b p i).1 (powI (b.getD i default) (m.ks.getD i 0) p).1 p
def rangeF (q : List Mn) (b : List Ivl) (p : Int) : Nat → Ivl × Int
 | 0 => (default, 0)
 | i + 1 => if (rangeF q b p i).2 ≠ 0 then (default, (rangeF q b p i).2) else if (overF (q.getD i default) b p b.length).2 ≠ 0 then (default, (overF (q.getD i default) b p b.length).2)
  else opI 0 (rangeF q b p i).1 (overF (q.getD i default) b p b.length).1 p
def rangeP (q : List Mn) (b : List Ivl) (p : Int) : Ivl × Int := if rightP q b.length = true ∧ b.all rightI = true ∧ precF p = true then rangeF q b p q.length else (default, 1)
theorem opI_err (k : Nat) (a b : Ivl) (p : Int) (h : (opI k a b p).2 ≠ 0) : (opI k a b p).1 = default := by
 unfold opI at h ⊢
 split
 · rename_i c
   rw [if_pos c] at h
   unfold endsV at h ⊢
   split
   · rename_i d; rw [if_pos d] at h; exact absurd rfl h
   · rfl
 · rfl
theorem endsV_wI {lo hi : Vl} (h1 : canV lo) (h2 : canV hi) : wI (endsV lo hi).1 := by
 unfold endsV
 split
 · exact ⟨sm_wN (rightN_sm (rightN_numV (canV_ok h1))), sm_wN (rightN_sm (rightN_numV (canV_ok h2)))⟩
 · exact ⟨sm_wN (rightN_sm (show rightN default = true by decide)), sm_wN (rightN_sm (show rightN default = true by decide))⟩
theorem powI_wI (a : Ivl) (k p : Int) : wI (powI a k p).1 := by
 unfold powI
 split
 · rename_i h
   exact endsV_wI (canV_round (canV_powLo h.1 _) _ _) (canV_round (canV_powHi h.1 _) _ _)
 · exact ⟨sm_wN (rightN_sm (show rightN default = true by decide)), sm_wN (rightN_sm (show rightN default = true by decide))⟩
theorem opI_wI (k : Nat) (a b : Ivl) (p : Int) : wI (opI k a b p).1 := wI_right (opI_right k a b p)
theorem wI_dflt : wI default := ⟨sm_wN (rightN_sm (show rightN default = true by decide)), sm_wN (rightN_sm (show rightN default = true by decide))⟩
theorem overF_wI {m : Mn} (hm : rightN m.c = true) (b : List Ivl) (p : Int) : ∀ i, wI (overF m b p i).1
 | 0 => ⟨sm_wN (rightN_sm hm), sm_wN (rightN_sm hm)⟩
 | i + 1 => by
  rw [overF]
  split
  · exact wI_dflt
  · split
    · exact overF_wI hm b p i
    · split
      · exact wI_dflt
      · exact opI_wI _ _ _ _
theorem rangeF_wI (q : List Mn) (b : List Ivl) (p : Int) : ∀ i, wI (rangeF q b p i).1
 | 0 => wI_dflt
 | i + 1 => by
  rw [rangeF]
  split
  · exact wI_dflt
  · split
    · exact wI_dflt
    · exact opI_wI _ _ _ _
theorem overF_err {m : Mn} {b : List Ivl} {p : Int} : ∀ i, (overF m b p i).2 ≠ 0 → (overF m b p i).1 = default
 | 0, h => absurd rfl h
 | i + 1, h => by
  rw [overF] at h ⊢
  split
  · rfl
  · rename_i c1
    rw [if_neg c1] at h
    split
    · rename_i c2
      rw [if_pos c2] at h
      exact overF_err i h
    · rename_i c2
      rw [if_neg c2] at h
      split
      · rfl
      · rename_i c3
        rw [if_neg c3] at h
        exact opI_err _ _ _ _ h
theorem rangeF_err {q : List Mn} {b : List Ivl} {p : Int} : ∀ i, (rangeF q b p i).2 ≠ 0 → (rangeF q b p i).1 = default
 | 0, h => absurd rfl h
 | i + 1, h => by
  rw [rangeF] at h ⊢
  split
  · rfl
  · rename_i c1
    rw [if_neg c1] at h
    split
    · rfl
    · rename_i c2
      rw [if_neg c2] at h
      exact opI_err _ _ _ _ h
theorem overF_stuck {m : Mn} {b : List Ivl} {p : Int} {i : Nat} (h : (overF m b p i).2 ≠ 0) : ∀ d, overF m b p (i + d) = (default, (overF m b p i).2)
 | 0 => Prod.ext (overF_err i h) rfl
 | d + 1 => by
  have e := overF_stuck h d
  rw [show i + (d + 1) = (i + d) + 1 from rfl, overF, e]
  rw [if_pos h]
theorem rangeF_stuck {q : List Mn} {b : List Ivl} {p : Int} {i : Nat} (h : (rangeF q b p i).2 ≠ 0) : ∀ d, rangeF q b p (i + d) = (default, (rangeF q b p i).2)
 | 0 => Prod.ext (rangeF_err i h) rfl
 | d + 1 => by
  have e := rangeF_stuck h d
  rw [show i + (d + 1) = (i + d) + 1 from rfl, rangeF, e]
  rw [if_pos h]
end Go.Pv
end

section
/- Differentiation of polynomials, as the program does it; an object of machine numbers. No program in it. -/
namespace Go.Pv
theorem obZ_set (off : Nat) (T : List Int) (k : Nat) (c : Int) (h : k < T.length) : over (List.replicate off PV.junk ++ encZ T) (off + k) [.sc (.int .i64 c)] = List.replicate off PV.junk ++ encZ (T.set k c) := by
 unfold over
 have e : encZ (T.set k c) = (encZ T).set k (.sc (.int .i64 c)) := by unfold encZ; rw [List.map_set]
 rw [e, show List.replicate off PV.junk ++ (encZ T).set k (.sc (.int .i64 c)) = (List.replicate off PV.junk ++ encZ T).set (off + k) (.sc (.int .i64 c)) from by
  rw [List.set_append_right _ _ (by simp), List.length_replicate, Nat.add_sub_cancel_left]]
 rw [List.set_eq_take_append_cons_drop, if_pos (by simp [encZ]; omega)]
 simp
def intN (n : Nat) : Nm := (mkX false [UInt64.ofNat n] 0).1
def decK (ks : List Int) (i : Nat) : List Int := ks.set i (ks.getD i 0 - 1)
def diffL (i : Nat) : List Mn → List Mn → List Mn × Int
 | [], acc => (acc, 0)
 | m :: r, acc => if m.ks.getD i 0 = 0 then diffL i r acc else if (strN 2 m.c (intN (m.ks.getD i 0).toNat)).2 ≠ 0 then ([], (strN 2 m.c (intN (m.ks.getD i 0).toNat)).2)
  else diffL i r (acc ++ [⟨(strN 2 m.c (intN (m.ks.getD i 0).toNat)).1, decK m.ks i⟩])
def diffP (p : List Mn) (i n : Int) : List Mn × Int := if rightP p n = true ∧ 0 ≤ i ∧ i < n then diffL i.toNat p [] else ([], 1)
end Go.Pv
end

section
/- The document's derivative is the program's. No program in it. -/
namespace Go.Pv
theorem ordK_trans : ∀ (a b c : List Int), a.length = b.length → b.length = c.length → ordK a b = 1 → ordK b c = 1 → ordK a c = 1
 | [], _, _, _, _, h, _ => by simp [ordK] at h
 | x :: a, [], _, h1, _, _, _ => by simp at h1
 | x :: a, y :: b, [], _, h2, _, _ => by simp at h2
 | x :: a, y :: b, z :: c, h1, h2, h3, h4 => by
  rw [ordK] at h3 h4 ⊢
  have ih := ordK_trans a b c (by simpa using h1) (by simpa using h2)
  by_cases c1 : x > y
  · by_cases c2 : y > z
    · rw [if_pos (by omega)]
    · rw [if_neg c2] at h4
      by_cases c3 : y < z
      · rw [if_pos c3] at h4; omega
      · rw [if_pos (by omega)]
  · rw [if_neg c1] at h3
    by_cases c2 : x < y
    · rw [if_pos c2] at h3; omega
    · rw [if_neg c2] at h3
      by_cases c3 : y > z
      · rw [if_pos (by omega)]
      · rw [if_neg c3] at h4
        by_cases c4 : y < z
        · rw [if_pos c4] at h4; omega
        · rw [if_neg c4] at h4
          rw [if_neg (by omega), if_neg (by omega)]
          exact ih h3 h4
def fallsK : List (List Int) → Prop := List.Pairwise fun a b => ordK a b = 1
def dterms (i : Nat) : List Mn → List Tm
 | [] => []
 | m :: r => if m.ks.getD i 0 = 0 then dterms i r else ⟨byV (ofN m.c) (oddV false (m.ks.getD i 0).toNat 0), decK m.ks i⟩ :: dterms i r
def gathL : List Tm → List Mn → List Mn × Int
 | [], acc => (acc, 0)
 | t :: r, acc => if signV t.v = 0 then gathL r acc else if (numV t.v).2 ≠ 0 then ([], 2) else gathL r (acc ++ [⟨(numV t.v).1, t.ks⟩])
end Go.Pv
end
