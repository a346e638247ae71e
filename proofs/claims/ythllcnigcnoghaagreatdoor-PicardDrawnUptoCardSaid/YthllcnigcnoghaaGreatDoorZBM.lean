/- Parts of the walk: M47, M48, M49, M50. -/
import Derived.Test.YthllcnigcnoghaaGreatDoorZBE
import Derived.Test.YthllcnigcnoghaaGreatDoorZBA
import Derived.Test.YthllcnigcnoghaaGreatDoorZO
set_option linter.unusedVariables false
set_option linter.unusedSimpArgs false
section
/- The document's gather, for terms in any order: what comes of small terms is a right polynomial. No program in it. -/
namespace Go.Pv
def insT (t : Tm) : List Tm → List Tm
  | [] => [t]
  | o :: r => if ordK o.ks t.ks > 0 then o :: insT t r else if ordK o.ks t.ks = 0 then ⟨plusV o.v t.v, o.ks⟩ :: r else t :: o :: r
def gatT : List Tm → List Tm → List Tm
  | [], acc => acc
  | t :: r, acc => gatT r (insT t acc)
theorem insT_at (t : Tm) : ∀ (k : Nat) (O : List Tm), k ≤ O.length → (∀ q, q < k → ordK (O.getD q default).ks t.ks > 0) → insT t O = O.take k ++ insT t (O.drop k)
  | 0, O, _, _ => by simp
  | k + 1, [], h, _ => by simp at h
  | k + 1, o :: r, h, h1 => by
    have h0 : ordK o.ks t.ks > 0 := h1 0 (by omega)
    rw [insT, if_pos h0, insT_at t k r (by simpa using h) (fun q hq => h1 (q + 1) (by omega))]
    simp
theorem insT_end {t : Tm} {O : List Tm} (h : ∀ q, q < O.length → ordK (O.getD q default).ks t.ks > 0) : insT t O = O ++ [t] := by
  rw [insT_at t O.length O (Nat.le_refl _) h, List.take_length, List.drop_length, insT]
theorem insT_same {t : Tm} {O : List Tm} {k : Nat} (hk : k < O.length) (h : ∀ q, q < k → ordK (O.getD q default).ks t.ks > 0) (h0 : ordK (O.getD k default).ks t.ks = 0) :
    insT t O = O.set k ⟨plusV (O.getD k default).v t.v, (O.getD k default).ks⟩ := by
  rw [insT_at t k O (by omega) h, show O.drop k = O.getD k default :: O.drop (k + 1) from by rw [List.drop_eq_getElem_cons hk]; simp [List.getD_eq_getElem?_getD, hk], insT, if_neg (by omega), if_pos h0, List.set_eq_take_append_cons_drop, if_pos hk]
theorem insT_less {t : Tm} {O : List Tm} {k : Nat} (hk : k < O.length) (h : ∀ q, q < k → ordK (O.getD q default).ks t.ks > 0) (h0 : ¬ ordK (O.getD k default).ks t.ks > 0) (h1 : ordK (O.getD k default).ks t.ks ≠ 0) :
    insT t O = O.take k ++ t :: O.drop k := by
  rw [insT_at t k O (by omega) h, show O.drop k = O.getD k default :: O.drop (k + 1) from by rw [List.drop_eq_getElem_cons hk]; simp [List.getD_eq_getElem?_getD, hk], insT, if_neg h0, if_neg h1]
theorem insT_mem {t x : Tm} : ∀ {O : List Tm}, x ∈ insT t O → x = t ∨ x ∈ O ∨ ∃ o ∈ O, x = ⟨plusV o.v t.v, o.ks⟩
  | [], h => by rw [insT] at h; exact .inl (List.mem_singleton.1 h)
  | o :: r, h => by
    rw [insT] at h
    split at h
    · rcases List.mem_cons.1 h with rfl | h
      · exact .inr (.inl (by simp))
      · rcases insT_mem h with h | h | ⟨o', h1, h2⟩
        · exact .inl h
        · exact .inr (.inl (by simp [h]))
        · exact .inr (.inr ⟨o', by simp [h1], h2⟩)
    · split at h
      · rcases List.mem_cons.1 h with h | h
        · exact .inr (.inr ⟨o, by simp, h⟩)
        · exact .inr (.inl (by simp [h]))
      · rcases List.mem_cons.1 h with h | h
        · exact .inl h
        · exact .inr (.inl h)
theorem insT_ks {t x : Tm} {O : List Tm} (h : x ∈ insT t O) : x.ks = t.ks ∨ ∃ o ∈ O, x.ks = o.ks := by
  rcases insT_mem h with h | h | ⟨o', h1, h2⟩
  · exact .inl (by rw [h])
  · exact .inr ⟨x, h, rfl⟩
  · exact .inr ⟨o', h1, by rw [h2]⟩
theorem ordK_anti : ∀ (a b : List Int), a.length = b.length → ordK a b = - ordK b a
  | [], [], _ => rfl
  | x :: a, y :: b, h => by
    rw [ordK, ordK, ordK_anti a b (by simpa using h)]
    by_cases h1 : x > y
    · rw [if_pos h1, if_neg (by omega), if_pos (by omega)]; rfl
    · rw [if_neg h1]
      by_cases h2 : x < y
      · rw [if_pos h2, if_pos (by omega)]
      · rw [if_neg h2, if_neg (by omega), if_neg (by omega)]
theorem insT_falls {t : Tm} {n : Nat} (ht : t.ks.length = n) : ∀ {O : List Tm}, (∀ o ∈ O, o.ks.length = n) → fallsK (O.map Tm.ks) → fallsK ((insT t O).map Tm.ks)
  | [], _, _ => List.pairwise_singleton _ _
  | o :: r, hl, h => by
    obtain ⟨h1, h2⟩ := List.pairwise_cons.1 h
    have lo : o.ks.length = n := hl o (by simp)
    have ih := insT_falls ht (O := r) (fun x hx => hl x (by simp [hx])) h2
    rw [insT]
    split
    · rename_i hg
      have hg1 : ordK o.ks t.ks = 1 := by rcases ordK_val o.ks t.ks with e | e | e <;> omega
      refine List.pairwise_cons.2 ⟨fun k hk => ?_, ih⟩
      obtain ⟨x, hx, rfl⟩ := List.mem_map.1 hk
      rcases insT_ks hx with e | ⟨o', e1, e2⟩
      · rw [e]; exact hg1
      · rw [e2]; exact h1 _ (List.mem_map.2 ⟨o', e1, rfl⟩)
    · split
      · exact List.pairwise_cons.2 ⟨h1, h2⟩
      · rename_i hg h0
        have hg1 : ordK t.ks o.ks = 1 := by
          rw [ordK_anti _ _ (by rw [ht, lo])]
          rcases ordK_val o.ks t.ks with e | e | e <;> omega
        refine List.pairwise_cons.2 ⟨fun k hk => ?_, h⟩
        rcases List.mem_cons.1 hk with rfl | hk
        · exact hg1
        · obtain ⟨x, hx, rfl⟩ := List.mem_map.1 hk
          exact ordK_trans _ _ _ (by rw [ht, lo]) (by rw [lo, hl x (by simp [hx])]) hg1 (h1 _ (List.mem_map.2 ⟨x, hx, rfl⟩))
theorem insT_length (t : Tm) : ∀ (O : List Tm), (insT t O).length ≤ O.length + 1
  | [] => by simp [insT]
  | o :: r => by
    have := insT_length t r
    rw [insT]; split
    · simpa using this
    · split <;> simp
def okT (n L U : Nat) (D : Int) (t : Tm) : Prop := t.ks.length = n ∧ rightK t.ks = true ∧ t.ks.sum ≤ D ∧ canV t.v ∧ luQ L U (qV t.v)
theorem okT.up {n L U U' : Nat} {D : Int} {t : Tm} (h : okT n L U D t) (hu : U ≤ U') : okT n L U' D t := ⟨h.1, h.2.1, h.2.2.1, h.2.2.2.1, h.2.2.2.2.up hu⟩
theorem insT_ok {n L U : Nat} {D : Int} {t : Tm} {O : List Tm} (ht : okT n L U D t) (hO : ∀ o ∈ O, okT n L U D o) : ∀ x ∈ insT t O, okT n L (U + 1) D x := fun x hx => by
  rcases insT_mem hx with rfl | h | ⟨o, h1, rfl⟩
  · exact ht.up (by omega)
  · exact (hO x h).up (by omega)
  · obtain ⟨a1, a2, a3, a4, a5⟩ := hO o h1
    exact ⟨a1, a2, a3, canV_plus a4 ht.2.2.2.1, by show luQ L (U + 1) (qV (plusV o.v t.v)); rw [qV_plus]; exact luQ_add a5 ht.2.2.2.2⟩
theorem gatT_ok {n L : Nat} {D : Int} : ∀ (ts acc : List Tm) (U : Nat), (∀ t ∈ ts, okT n L U D t) → (∀ t ∈ acc, okT n L U D t) → fallsK (acc.map Tm.ks) →
    (∀ t ∈ gatT ts acc, okT n L (U + ts.length) D t) ∧ fallsK ((gatT ts acc).map Tm.ks) ∧ (gatT ts acc).length ≤ acc.length + ts.length
  | [], acc, U, _, h2, h3 => ⟨h2, h3, Nat.le_refl _⟩
  | t :: r, acc, U, h1, h2, h3 => by
    have h4 := insT_ok (h1 t (by simp)) h2
    have h5 := insT_falls (h1 t (by simp)).1 (fun o ho => (h2 o ho).1) h3
    obtain ⟨a1, a2, a3⟩ := gatT_ok r (insT t acc) (U + 1) (fun x hx => (h1 x (by simp [hx])).up (by omega)) h4 h5
    have h6 := insT_length t acc
    rw [gatT]
    refine ⟨fun x hx => ?_, a2, by simp only [List.length_cons]; omega⟩
    have := a1 x hx
    rw [List.length_cons, show U + (r.length + 1) = U + 1 + r.length from by omega]
    exact this
theorem gatT_snoc (t : Tm) : ∀ (ts acc : List Tm), gatT (ts ++ [t]) acc = insT t (gatT ts acc)
  | [], acc => rfl
  | x :: r, acc => by
    show gatT (r ++ [t]) (insT x acc) = insT t (gatT r (insT x acc))
    exact gatT_snoc t r _
def monT (t : Tm) : Mn := ⟨(numV t.v).1, t.ks⟩
theorem gathL_sm {n L U : Nat} {D : Int} (hb : L + U + 1 ≤ 4096) : ∀ (ts : List Tm) (acc : List Mn), (∀ t ∈ ts, okT n L U D t) → gathL ts acc = (acc ++ (ts.filter (fun t => decide (signV t.v ≠ 0))).map monT, 0)
  | [], acc, _ => by simp [gathL]
  | t :: r, acc, h => by
    obtain ⟨a1, a2, a3, a4, a5⟩ := h t (by simp)
    have ih := fun acc => gathL_sm hb r acc fun t ht => h t (by simp [ht])
    rw [gathL]
    by_cases c : signV t.v = 0
    · rw [if_pos c, ih, List.filter_cons_of_neg (by simp [c])]
    · rw [if_neg c, if_neg (by rw [luV_fits a4 a5 hb]; decide), ih, List.filter_cons_of_pos (by simp [c]), List.map_cons, List.append_assoc]
      rfl
def okMn (n L U : Nat) (D : Int) (m : Mn) : Prop := m.ks.length = n ∧ rightK m.ks = true ∧ m.ks.sum ≤ D ∧ rightN m.c = true ∧ m.c.w.length ≠ 0 ∧ luQ L U (qN m.c)
theorem qN_nil {x : Nm} (h : x.w.length = 0) : qN x = 0 := by
  have e : x.w = [] := List.eq_nil_of_length_eq_zero h
  rw [← qV_ofN]
  refine qV_m0 ?_
  show valW x.w = 0
  rw [e]; rfl
theorem monT_ok {n L U : Nat} {D : Int} {t : Tm} (hb : L + U + 1 ≤ 4096) (h : okT n L U D t) (hs : signV t.v ≠ 0) : okMn n L U D (monT t) := by
  obtain ⟨a1, a2, a3, a4, a5⟩ := h
  have h0 := luV_fits a4 a5 hb
  obtain ⟨v1, v2⟩ := numV_val a4 h0
  refine ⟨a1, a2, a3, rightN_numV (canV_ok a4), fun e => hs ?_, ?_⟩
  · have e1 := qN_nil e
    have e2 : qV t.v = 0 := by rw [← v2]; exact e1
    have p1 := signV_lt t.v
    have p2 := signV_le t.v
    have p3 := signV_ge t.v
    rw [e2] at p1 p2 p3
    have := p2.2 Rat.le_refl
    have := p3.2 Rat.le_refl
    omega
  · show luQ L U (qN (numV t.v).1)
    rw [v2]; exact a5
theorem rightP_mk {p : List Mn} {n : Nat} {L U : Nat} {D : Int} (hn : 1 ≤ n) (hn4 : n ≤ 4) (hl : p.length ≤ 24) (hp : ∀ m ∈ p, okMn n L U D m) (hf : fallsK (p.map Mn.ks)) : rightP p n = true := by
  refine (rightP_iff p n).2 ⟨⟨by omega, by omega, hl⟩, fun i hi => (okP_iff p n i).2 ?_⟩
  have hg : ∀ j, j < p.length → okMn n L U D (p.getD j default) := fun j hj => by
    rw [show p.getD j default = p[j] by simp [List.getD_eq_getElem?_getD, hj]]
    exact hp _ (List.getElem_mem hj)
  obtain ⟨a1, a2, a3, a4, a5, a6⟩ := hg i hi
  refine ⟨(monoB_iff _ _).2 ⟨by omega, a2, a4⟩, a5, ?_⟩
  by_cases h0 : i = 0
  · exact .inl h0
  · refine .inr ?_
    have := List.pairwise_iff_getElem.1 hf (i - 1) i (by simp; omega) (by simpa using hi) (by omega)
    simpa [List.getD_eq_getElem?_getD, hi, (by omega : i - 1 < p.length)] using this
theorem gath_right {n L U : Nat} {D : Int} {ts : List Tm} (hb : L + U + ts.length + 1 ≤ 4096) (hn : 1 ≤ n) (hn4 : n ≤ 4) (hl : ts.length ≤ 24) (h : ∀ t ∈ ts, okT n L U D t) :
    (gathL (gatT ts []) []).2 = 0 ∧ rightP (gathL (gatT ts []) []).1 n = true ∧ (∀ m ∈ (gathL (gatT ts []) []).1, okMn n L (U + ts.length) D m) ∧ (gathL (gatT ts []) []).1.length ≤ ts.length := by
  obtain ⟨g1, g2, g3⟩ := gatT_ok ts [] U h (fun t ht => by cases ht) List.Pairwise.nil
  rw [gathL_sm (n := n) (L := L) (U := U + ts.length) (D := D) (by omega) _ _ g1]
  have hfl : ((gatT ts []).filter (fun t => decide (signV t.v ≠ 0))).length ≤ ts.length := by
    have := List.length_filter_le (fun t : Tm => decide (signV t.v ≠ 0)) (gatT ts [])
    simp only [List.length_nil] at g3; omega
  have hm : ∀ m ∈ ((gatT ts []).filter (fun t => decide (signV t.v ≠ 0))).map monT, okMn n L (U + ts.length) D m := fun m hm => by
    obtain ⟨t, ht, rfl⟩ := List.mem_map.1 hm
    obtain ⟨t1, t2⟩ := List.mem_filter.1 ht
    exact monT_ok (by omega) (g1 t t1) (of_decide_eq_true t2)
  refine ⟨rfl, ?_, by simpa using hm, by simpa using hfl⟩
  rw [List.nil_append]
  refine rightP_mk hn hn4 (by simp only [List.length_map]; omega) hm ?_
  rw [List.map_map]
  have : fallsK (((gatT ts []).filter (fun t => decide (signV t.v ≠ 0))).map Tm.ks) := by
    unfold fallsK at g2 ⊢
    rw [List.pairwise_map] at g2 ⊢
    exact g2.filter _
  exact this
end Go.Pv
end

section
/- Rounding to p bits is the greatest value of p bits that is not above, so it keeps the order. No program in it. -/
namespace Go.Pv
def fitsQ (p : Nat) (x : Rat) : Prop := ∃ m e : Int, x = qM m e ∧ m.natAbs ≤ 2 ^ p
end Go.Pv
end

section
/- Interval operations keep inclusion; powers and ranges have what they should; of small ones there is no error. No program in it. -/
namespace Go.Pv
def subI (a b : Ivl) : Prop := qN b.lo ≤ qN a.lo ∧ qN a.hi ≤ qN b.hi
def sumK (ks : List Int) (i : Nat) : Nat := (ks.take i).sum.toNat
end Go.Pv
end

section
/- Values of small polynomials; along a line a polynomial of degree two changes as its derivatives at the middle say. No program in it. -/
namespace Go.Pv
def dtermQ (m : Mn) (j : Nat) (X : Nat → Rat) (i : Nat) : Rat := ((m.ks.getD j 0 : Int) : Rat) * termQ ⟨m.c, decK m.ks j⟩ X i
def sumR (f : Nat → Rat) : Nat → Rat
  | 0 => 0
  | i + 1 => sumR f i + f i
def dvalQ (p : List Mn) (j : Nat) (X : Nat → Rat) (n : Nat) : Nat → Rat
  | 0 => 0
  | i + 1 => dvalQ p j X n i + dtermQ (p.getD i default) j X n
end Go.Pv
end
