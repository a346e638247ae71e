/- Parts of the walk: D1, D2, D3, C15. -/
import Derived.Test.YtclholhblbelbaaZR
import Derived.Test.YtclholhblbelbaaZF
import Derived.Test.YtclholhblbelbaaZH
import Derived.Test.YtclholhblbelbaaZI
set_option linter.unusedVariables false
set_option linter.unusedSimpArgs false
section
/- The document's reader: look, fail, Uint, Int, Left. -/
set_option linter.unusedVariables false
set_option linter.unusedSimpArgs false
set_option maxRecDepth 100000
namespace Go.Pv
open Go.Proofs
theorem suf_getD {l b : List UInt8} (h : l <:+ b) (i : Nat) : b.getD (b.length - l.length + i) 0 = l.getD i 0 := by
  obtain ⟨a, rfl⟩ := h
  rw [List.length_append, Nat.add_sub_cancel, List.getD_eq_getElem?_getD, List.getElem?_append_right (by omega), Nat.add_sub_cancel_left, ← List.getD_eq_getElem?_getD]
def rf (b l : List UInt8) (e : Int) : List PV := [.sl .no (encB b), .sc (.int .i64 (b.length - l.length : Nat)), .sc (.int .i64 e)]
/-- The object k of the store is the document's reader of b, before the bytes l, with the error e. -/
def atF (st : Store) (k : Nat) (b l : List UInt8) (e : Int) : Prop := st.getD k [] = rf b l e
theorem atF.lt {st : Store} {k : Nat} {b l : List UInt8} {e : Int} (h : atF st k b l e) : k < st.length := by
  refine Nat.lt_of_not_le fun hn => ?_
  unfold atF at h
  rw [List.getD_eq_getElem?_getD, List.getElem?_eq_none hn] at h
  cases h
theorem atF.set {st : Store} {k : Nat} {b l : List UInt8} {e : Int} (h : atF st k b l e) (l' : List UInt8) (e' : Int) : atF (st.set k (rf b l' e')) k b l' e' := by
  unfold atF
  rw [getD_set_self _ _ _ _ h.lt]
theorem set_rf (st : Store) (k : Nat) (b b' l l' : List UInt8) (e e' : Int) : (st.set k (rf b l e)).set k (rf b' l' e') = st.set k (rf b' l' e') := List.set_set ..
theorem atF.same {st : Store} {k : Nat} {b l : List UInt8} {e : Int} (h : atF st k b l e) : st.set k (rf b l e) = st := by
  have hlt := h.lt
  unfold atF at h
  rw [← h, List.getD_eq_getElem?_getD, List.getElem?_eq_getElem hlt, Option.getD_some, List.set_getElem_self]
theorem readU_suf (l : List UInt8) (e : Int) : (readU l e).2.1 <:+ l := by
  unfold readU
  split
  · exact List.suffix_refl _
  · split
    · exact List.drop_suffix _ _
    · exact List.suffix_refl _
theorem readU_def (l : List UInt8) : readU l 0 = if (lookF 0 0 l).2.2 = 0 then ((lookF 0 0 l).1, l.drop (lookF 0 0 l).2.1, 0) else (0, l, (lookF 0 0 l).2.2) := by
  rw [readU, if_neg (by simp)]
set_option maxHeartbeats 1000000 in
theorem look_c (b l : List UInt8) (st : Store) (hs : l <:+ b) (hl : b.length ≤ 1000000000000) : PCalls Try.prog 113 [.sl .no (encB b), .sc (.int .i64 (b.length - l.length : Nat))] st
    (fun r st' => r = .tup [.sc (.int .u64 (readU l 0).1), .sc (.int .i64 (b.length - (readU l 0).2.1.length : Nat)), .sc (.int .i64 (readU l 0).2.2)] ∧ st' = st) := by
  have hlb : l.length ≤ b.length := hs.length_le
  refine pcalls_enter none Try.func113 rfl fun E => pwp_of_vc ?_
  simp -dsimp only [go_sem]
  refine pwp_loop_mask [true, true, false, false, false, false, false, true, true] 0 0
    (fun n s => ∃ i v, n = 10 - i ∧ i ≤ 10 ∧ i ≤ l.length ∧ v < 18446744073709551616 ∧ (i ≤ 9 → v < 2 ^ (7 * i)) ∧ lookF i v (l.drop i) = lookF 0 0 l ∧
      s = ⟨[.sl .no (encB b), .sc (.int .i64 (b.length - l.length : Nat)), .junk, .junk, .junk, .junk, .junk, .sc (.int .u64 (v : Nat)), .sc (.int .i64 (i : Nat))] ++ List.replicate 48 .junk, [], [], st⟩) 10 ?_ ?_
  · simp -dsimp only [go_sem]
    exact ⟨0, 0, by omega, by omega, by omega, by omega, fun _ => by omega, rfl, rfl⟩
  · rintro n s ⟨i, v, rfl, hi, hil, hv, hv2, hk, rfl⟩
    have bad : ∀ x : Int, x ≠ 0 → lookF 0 0 l = (0, 0, x) → readU l 0 = (0, l, x) := fun x hx e => by rw [readU_def, e, if_neg hx]
    simp -dsimp only [go_sem]
    refine ck (fun h1 => ?_) (fun h1 => ?_)
    · have hlt : i < 10 := by have := of_decide_eq_true h1; omega
      have x0 : IntKind.i64.wrap (((b.length - l.length : Nat) : Int) + (i : Int)) = ((b.length - l.length + i : Nat) : Int) := by rw [← Int.natCast_add, wrapn_i64 _ (by omega)]
      simp -dsimp only [go_sem, x0]
      refine ck (fun h2 => ?_) (fun h2 => ?_)
      · have hge : l.length ≤ i := by have := of_decide_eq_true h2; omega
        rw [List.drop_eq_nil_of_le hge, lookF, if_neg (by omega)] at hk
        simp -dsimp only [go_sem]
        rw [bad 10 (by decide) hk.symm]; rfl
      · have hi2 : i < l.length := by have := of_decide_eq_false h2; omega
        have g1 := encB_get b (b.length - l.length + i) (by omega)
        rw [suf_getD hs] at g1
        obtain ⟨c, hc⟩ : ∃ c, c = l.getD i 0 := ⟨_, rfl⟩
        rw [drop_cons l i 0 (by omega), lookF, ← hc, if_neg (by omega)] at hk
        rw [← hc] at g1
        have hcl := c.toNat_lt
        have m2 : IntKind.i64.wrap (7 * (i : Int)) = ((7 * i : Nat) : Int) := by rw [show 7 * (i : Int) = ((7 * i : Nat) : Int) from by omega, wrapn_i64 _ (by omega)]
        have x1 : IntKind.i64.wrap ((i : Int) + 1) = ((i + 1 : Nat) : Int) := by rw [show ((i : Int) + 1) = ((i + 1 : Nat) : Int) from rfl, wrapn_i64 _ (by omega)]
        have x2 : IntKind.i64.wrap (((b.length - l.length + i : Nat) : Int) + 1) = ((b.length - l.length + i + 1 : Nat) : Int) := by rw [← Int.natCast_add_one, wrapn_i64 _ (by omega)]
        simp -dsimp only [go_sem, g1, x0]
        refine ⟨⟨by omega, by omega⟩, ?_⟩
        obtain ⟨V, hV⟩ : ∃ V, V = v ||| (c.toNat % 128 * 2 ^ (7 * i) % 18446744073709551616) := ⟨_, rfl⟩
        have hV2 : V < 18446744073709551616 := by rw [hV]; exact Nat.or_lt_two_pow (n := 64) hv (Nat.mod_lt _ (by decide))
        have s1 : bOr .u64 (v : Int) (bShl .u64 (IntKind.u64.wrap (bAnd .u8 (c.toNat : Int) 127)) ((7 * i : Nat) : Int)) = (V : Int) := by
          rw [bAnd_u8_127 _ (by omega), wrap_u64 _ (by omega), bShl_u64 _ _ (by omega), bOr_u64 _ _ hv (Nat.mod_lt _ (by decide)), ← hV]
        have hsum : c.toNat % 128 * 2 ^ (7 * i) < 18446744073709551616 → i ≤ 9 → V = v + c.toNat % 128 * 2 ^ (7 * i) := fun h1 h2 => by
          rw [hV, Nat.mod_eq_of_lt h1, or_add v _ (7 * i) (hv2 h2) (Nat.mul_mod_left ..)]
        have hp8 : i ≤ 8 → c.toNat % 128 * 2 ^ (7 * i) < 18446744073709551616 := fun h => by
          have : 2 ^ (7 * i) ≤ 2 ^ 56 := Nat.pow_le_pow_right (by decide) (by omega)
          have := Nat.mul_le_mul (by omega : c.toNat % 128 ≤ 127) this
          omega
        have hp9 : c.toNat ≤ 1 ∨ i ≤ 8 → c.toNat % 128 * 2 ^ (7 * i) < 18446744073709551616 := fun h => by
          by_cases h8 : i ≤ 8
          · exact hp8 h8
          · have : i = 9 := by omega
            subst this
            have := Nat.mul_le_mul_right (2 ^ (7 * 9)) (by omega : c.toNat % 128 ≤ 1)
            omega
        have c1 : i = 9 → ((i : Int) == 9) = true := fun e => by rw [e]; rfl
        have c0 : i ≠ 9 → ((i : Int) == 9) = false := fun e => by simp; omega
        have d1 : 1 < c.toNat → decide ((c.toNat : Int) > 1) = true := fun e => decide_eq_true (by omega)
        have d0 : ¬1 < c.toNat → decide ((c.toNat : Int) > 1) = false := fun e => decide_eq_false (by omega)
        by_cases q : i = 9 ∧ 1 < c.toNat
        · have hb : lookF 0 0 l = (0, 0, 11) := by
            rw [← hk]
            by_cases hc2 : 128 ≤ c.toNat
            · rw [if_pos hc2, lookF_ge _ _ _ (by omega)]
            · rw [if_neg hc2, if_pos (.inr q)]
          simp -dsimp only [go_sem, c1 q.1, d1 q.2]
          rw [bad 11 (by decide) hb]; rfl
        · have hq : c.toNat ≤ 1 ∨ i ≤ 8 := by omega
          have hsm := hsum (hp9 hq) (by omega)
          have dd : ((i : Int) == 9) = true → decide ((c.toNat : Int) > 1) = false := fun h => d0 (by
            have : i = 9 := by have := beq_iff_eq.1 h; omega
            omega)
          refine gkT (fun q9 => have d := dd q9; ?_) (fun q9 => have d := q9; ?_)
          all_goals simp -dsimp only [go_sem, q9, d, s1, m2]
          all_goals
            refine ⟨by omega, ?_⟩
            refine ck (fun h3 => ?_) (fun h3 => ?_)
            · have hc2 : c.toNat < 128 := by have := of_decide_eq_true h3; omega
              have hcm : c.toNat % 128 = c.toNat := Nat.mod_eq_of_lt hc2
              rw [if_neg (by omega)] at hk
              rw [hcm] at hsm
              have ok : ¬(c.toNat = 0 ∧ 0 < i) → readU l 0 = (V, l.drop (i + 1), 0) := fun hn => by
                rw [if_neg (by omega)] at hk
                rw [readU_def, ← hk, if_pos rfl, hsm]
              have hp : b.length - l.length + i + 1 = b.length - (l.drop (i + 1)).length := by rw [List.length_drop]; omega
              simp -dsimp only [go_sem]
              refine gkT (fun h4 => ?_) (fun h4 => ?_)
              · have hc0 : c.toNat = 0 := by have := beq_iff_eq.1 h4; omega
                simp -dsimp only [go_sem, h4]
                refine ck (fun h5 => ?_) (fun h5 => ?_)
                · have hpos : 0 < i := by have := of_decide_eq_true h5; omega
                  rw [if_pos (.inl ⟨hc0, hpos⟩)] at hk
                  simp -dsimp only [go_sem]
                  rw [bad 11 (by decide) hk.symm]; rfl
                · have hpos : ¬0 < i := by have := of_decide_eq_false h5; omega
                  simp -dsimp only [go_sem, x0, x2]
                  rw [ok (fun h => hpos h.2), ← hp]
              · have hc0 : c.toNat ≠ 0 := fun e => by rw [e] at h4; exact absurd h4 (by decide)
                simp -dsimp only [go_sem, h4, x0, x2]
                rw [ok (fun h => hc0 h.1), ← hp]
            · have hc2 : 128 ≤ c.toNat := by have := of_decide_eq_false h3; omega
              rw [if_pos hc2] at hk
              simp -dsimp only [go_sem, x1]
              refine ⟨10 - (i + 1), by omega, i + 1, V, rfl, by omega, by omega, hV2, fun h9 => ?_, by rw [hsm]; exact hk, rfl⟩
              rw [hsm]
              have h3 := hv2 (by omega)
              have h4 : 2 ^ (7 * (i + 1)) = 128 * 2 ^ (7 * i) := by rw [show 7 * (i + 1) = 7 * i + 7 from by omega, Nat.pow_add, Nat.mul_comm]
              have h5 := Nat.mul_le_mul_right (2 ^ (7 * i)) (by omega : c.toNat % 128 ≤ 127)
              omega
    · have hge : i = 10 := by have := of_decide_eq_false h1; omega
      rw [hge, lookF_ge _ _ _ (by omega)] at hk
      simp -dsimp only [go_sem]
      refine pwp_of_vc ?_
      simp -dsimp only [go_sem]
      rw [bad 11 (by decide) hk.symm]; rfl
theorem ffail_c (b l l' : List UInt8) (e x : Int) (k : Nat) (st : Store) (h : atF st k b l e) : PCalls Try.prog 114 [.gp k 0, .sc (.int .i64 x), .sc (.int .i64 (b.length - l'.length : Nat))] st
    (fun r st' => r = .tup [] ∧ st' = st.set k (if e = 0 then rf b l' x else rf b l e)) := by
  have h' := h
  unfold atF rf at h
  refine pcalls_enter none Try.func114 rfl fun E => pwp_of_vc ?_
  simp -dsimp only [go_sem, h]
  refine ck (fun h1 => ?_) (fun h1 => ?_)
  · have he : e = 0 := by simpa using h1
    have h3 : ∀ x y z : PV, (st.set k [x, y, z]).getD k [] = [x, y, z] := fun x y z => getD_set_self _ _ _ _ h'.lt
    simp -dsimp only [go_sem, h, h3]
    rw [if_pos he]; simp [over, rf]
  · have he : e ≠ 0 := by simpa using h1
    simp -dsimp only [go_sem, h]
    rw [if_neg he]; exact h'.same.symm
theorem fUint_c (b l : List UInt8) (e : Int) (k : Nat) (st : Store) (h : atF st k b l e) (hs : l <:+ b) (hl : b.length ≤ 1000000000000) : PCalls Try.prog 72 [.gp k 0] st
    (fun r st' => r = .sc (.int .u64 (readU l e).1) ∧ st' = st.set k (rf b (readU l e).2.1 (readU l e).2.2)) := by
  have h' := h
  unfold atF rf at h
  refine pcalls_enter none Try.func72 rfl fun E => pwp_of_vc ?_
  simp -dsimp only [go_sem, h]
  refine ck (fun h1 => ?_) (fun h1 => ?_)
  · have he : e ≠ 0 := by simpa using h1
    simp -dsimp only [go_sem]
    rw [readU_e l e he]
    exact ⟨rfl, h'.same.symm⟩
  · have he : e = 0 := by simpa using h1
    subst he
    simp -dsimp only [go_sem]
    refine pwp_draw mixed 35 (.step 0 [] (.step 1 [] (.step 2 [] (.step 3 [] (.step 4 [] (.step 5 [] (.step 6 [] (.step 7 [] (.step 8 [] (.step 9 [] (.step 10 [] (.step 11 [] (.step 12 [] (.step 13 [] (.step 14 [] (.step 15 [] (.done))))))))))))))))) (by decide +kernel) (by simp) ?_
    simp -dsimp only [go_sem, h]
    refine (look_c b l _ hs hl).mono ?_
    rintro r st' ⟨rfl, rfl⟩
    simp -dsimp only [go_sem]
    refine ck (fun h2 => ?_) (fun h2 => ?_)
    · have he : (readU l 0).2.2 ≠ 0 := by simpa using h2
      have e2 := readU_bad l 0 he
      simp -dsimp only [go_sem, h]
      refine ⟨by rw [e2]; rfl, ?_⟩
      rw [show (readU l 0).2.1 = l from by rw [e2]]
      simp [over, rf]
    · have he : (readU l 0).2.2 = 0 := by simpa using h2
      simp -dsimp only [go_sem, h]
      rw [he]; simp [over, rf]
theorem fLeft_c (b l : List UInt8) (e : Int) (k : Nat) (st : Store) (h : atF st k b l e) (hs : l <:+ b) (hl : b.length ≤ 1000000000000) : PCalls Try.prog 77 [.gp k 0] st
    (fun r st' => r = .sc (.int .i64 l.length) ∧ st' = st) := by
  have hlb := hs.length_le
  unfold atF rf at h
  refine pcalls_enter none Try.func77 rfl fun E => pwp_of_vc ?_
  have x0 : IntKind.i64.wrap ((b.length : Int) - ((b.length - l.length : Nat) : Int)) = (l.length : Int) := by rw [wrap_i64 _ (by omega) (by omega)]; omega
  simp -dsimp only [go_sem]
  refine pwp_draw mixed 13 (.step 0 [] (.step 1 [] (.step 2 [] (.step 3 [] (.step 4 [] (.step 5 [] (.step 6 [] (.step 7 [] (.step 8 [] (.step 9 [] (.step 10 [] (.done)))))))))))) (by decide +kernel) (by simp) ?_
  simp -dsimp only [go_sem, h, x0]
theorem unzig_odd (v : Nat) (h : v < 18446744073709551616) (ho : v % 2 = 1) : IntKind.i64.wrap (IntKind.i64.wrap (0 - IntKind.i64.wrap ((v / 2 : Nat) : Int)) - 1) = unzig v := by
  rw [wrapn_i64 _ (by omega), wrap_i64 (0 - _) (by omega) (by omega), wrap_i64 _ (by omega) (by omega), unzig, if_neg (by omega)]; omega
theorem unzig_even (v : Nat) (h : v < 18446744073709551616) (ho : ¬v % 2 = 1) : IntKind.i64.wrap ((v / 2 : Nat) : Int) = unzig v := by
  rw [wrapn_i64 _ (by omega), unzig, if_pos (by omega)]
theorem fInt_c (b l : List UInt8) (e : Int) (k : Nat) (st : Store) (h : atF st k b l e) (hs : l <:+ b) (hl : b.length ≤ 1000000000000) : PCalls Try.prog 73 [.gp k 0] st
    (fun r st' => r = .sc (.int .i64 (unzig (readU l e).1)) ∧ st' = st.set k (rf b (readU l e).2.1 (readU l e).2.2)) := by
  refine pcalls_enter none Try.func73 rfl fun E => pwp_of_vc ?_
  simp -dsimp only [go_sem]
  refine (fUint_c b l e k st h hs hl).mono ?_
  rintro r st' ⟨rfl, rfl⟩
  have hlt := readU_lt l e
  have s1 : bShr .u64 ((readU l e).1 : Int) 1 = (((readU l e).1 / 2 : Nat) : Int) := bShr_nat .u64 _ 1 (by decide)
  have s2 := and1_u64 (readU l e).1 hlt
  have s3 : ((((readU l e).1 % 2 : Nat) : Int) == 1) = decide ((readU l e).1 % 2 = 1) := by
    rw [show (1 : Int) = ((1 : Nat) : Int) from rfl, Bool.eq_iff_iff]; simp; omega
  simp -dsimp only [go_sem, s2, s3]
  refine ck (fun h2 => ?_) (fun h2 => ?_)
  · simp -dsimp only [go_sem, s1, unzig_odd _ hlt (of_decide_eq_true h2)]
  · simp -dsimp only [go_sem, s1, unzig_even _ hlt (of_decide_eq_false h2)]
end Go.Pv
end

section
/- The document's reader: Num. -/
set_option linter.unusedVariables false
set_option linter.unusedSimpArgs false
set_option maxRecDepth 100000
namespace Go.Pv
open Go.Proofs
theorem wordV_byte (l : List UInt8) : ∀ n i, i < n → wordV l n / 2 ^ (8 * i) % 256 = (l.getD i 0).toNat := by
  intro n
  induction n with
  | zero => intro i hi; omega
  | succ n ih =>
    intro i hi
    have h1 := wordV_lt l n
    have h2 := (l.getD n 0).toNat_lt
    rw [wordV]
    by_cases e : i = n
    · subst e
      rw [Nat.add_mul_div_right _ _ (Nat.two_pow_pos _), Nat.div_eq_of_lt h1]; omega
    · have h3 : 2 ^ (8 * n) = 2 ^ (8 * i) * (256 * 2 ^ (8 * (n - i - 1))) := by
        rw [show (256 : Nat) = 2 ^ 8 from rfl, ← Nat.pow_add, ← Nat.pow_add]; congr 1; omega
      rw [h3, show (l.getD n 0).toNat * (2 ^ (8 * i) * (256 * 2 ^ (8 * (n - i - 1)))) = 2 ^ (8 * i) * ((l.getD n 0).toNat * 2 ^ (8 * (n - i - 1)) * 256) from by
        rw [Nat.mul_left_comm, ← Nat.mul_assoc (l.getD n 0).toNat, Nat.mul_right_comm], Nat.add_mul_div_left _ _ (Nat.two_pow_pos _), Nat.add_mul_mod_self_right]
      exact ih i (by omega)
theorem word_step (l : List UInt8) (j : Nat) (h : j < 8) :
    bOr .u64 (bShl .u64 ((wordV l 8 / 2 ^ (8 * (j + 1)) : Nat) : Int) 8) (IntKind.u64.wrap ((l.getD j 0).toNat : Int)) = ((wordV l 8 / 2 ^ (8 * j) : Nat) : Int) := by
  have h1 := wordV_lt l 8
  have h2 := (l.getD j 0).toNat_lt
  have h3 := wordV_byte l 8 j h
  have e : wordV l 8 / 2 ^ (8 * (j + 1)) = wordV l 8 / 2 ^ (8 * j) / 256 := by rw [Nat.div_div_eq_div_mul, show 8 * (j + 1) = 8 * j + 8 from by omega, Nat.pow_add]
  have hx : wordV l 8 / 2 ^ (8 * j) ≤ wordV l 8 := Nat.div_le_self _ _
  rw [e]
  generalize wordV l 8 / 2 ^ (8 * j) = x at *
  have hx2 : x < 18446744073709551616 := by omega
  rw [show (8 : Int) = ((8 : Nat) : Int) from rfl, bShl_u64 _ _ (by omega), wrap_u64 _ (by omega), bOr_u64 _ _ (Nat.mod_lt _ (by decide)) (by omega), Nat.mod_eq_of_lt (by omega), Nat.or_comm, or_add _ _ 8 (by omega) (by omega)]
  omega
theorem rp1_suf (l : List UInt8) : (rp1 l).2.1 <:+ l := readU_suf l 0
theorem rp2_suf (u : Nat) (l : List UInt8) (e : Int) : (rp2 u l e).2.1 <:+ l := by
  unfold rp2; split
  · exact readU_suf l 0
  · exact List.suffix_refl _
theorem readWs_suf : ∀ (n : Nat) (l : List UInt8) (w : List UInt64), (readWs n l w).2.1 <:+ l
  | 0, l, w => List.suffix_refl _
  | n + 1, l, w => by
    rw [readWs]; split
    · exact List.suffix_refl _
    · exact (readWs_suf n _ _).trans (List.drop_suffix _ _)
theorem rp3_suf (u : Nat) (l : List UInt8) (e : Int) : (rp3 u l e).2.1 <:+ l := by
  unfold rp3; split
  · exact readWs_suf _ _ _
  · exact List.suffix_refl _
theorem readParts_suf (l : List UInt8) : (readParts l).2.1 <:+ l :=
  (rp3_suf _ _ _).trans ((rp2_suf _ _ _).trans (rp1_suf l))
theorem readN_suf (l : List UInt8) (e : Int) : (readN l e).2.1 <:+ l := by
  unfold readN; split
  · exact List.suffix_refl _
  · split
    · exact readParts_suf l
    · exact List.suffix_refl _
theorem pfs_eq {pa : List PV} {L st st' : Store} {T T' : List (Nat × Nat)} (hT : T = T') (hs : st = st') : PFS.mk pa L T st = PFS.mk pa L T' st' := by rw [hT, hs]
theorem readN_parts (l : List UInt8) (e : Int) (h : (readParts l).2.2 = e) (he : e ≠ 0) : readN l 0 = (default, l, e) := by
  rw [readN, if_neg (by simp), h, if_neg he]
set_option maxHeartbeats 4000000 in
theorem fNum_c (b l : List UInt8) (e : Int) (k : Nat) (st : Store) (h : atF st k b l e) (hs : l <:+ b) (hl : b.length ≤ 1000000000000) : PCalls Try.prog 74 [.gp k 0] st
    (fun r st' => r = .agg (encN (readN l e).1) ∧ st' = st.set k (rf b (readN l e).2.1 (readN l e).2.2)) := by
  have hlb := hs.length_le
  have h' := h
  unfold atF rf at h'
  have G : ∀ (l : List UInt8) (e : Int), (st.set k (rf b l e)).getD k [] = [.sl .no (encB b), .sc (.int .i64 (b.length - l.length : Nat)), .sc (.int .i64 e)] := fun l e => h.set l e
  refine pcalls_enter none Try.func74 rfl fun E => pwp_seq (pwp_of_vc ?_)
  simp -dsimp only [go_sem]
  refine pwp_seq (pwp_of_vc ?_)
  simp -dsimp only [go_sem, h']
  refine pwp_seq (pwp_of_vc ?_)
  simp -dsimp only [go_sem]
  refine (fUint_c b l e k st h hs hl).mono ?_
  rintro r st' ⟨rfl, rfl⟩
  simp -dsimp only [go_sem]
  have g1 := G (readU l e).2.1 (readU l e).2.2
  by_cases he : (readU l e).2.2 = 0
  rotate_left
  · have t1 : ((readU l e).2.2 != 0) = true := by simp [he]
    have e1 : readN l e = (default, l, (readU l e).2.2) := by
      by_cases he0 : e = 0
      · subst he0
        refine readN_parts l _ ?_ he
        have : rp1 l = (0, l, (readU l 0).2.2) := by
          unfold rp1; rw [if_neg (by rintro ⟨_, h2⟩; exact he h2), readU_bad l 0 he]
        unfold readParts
        simp only [this, rp2_e _ _ _ he, rp3_e _ _ _ he, rp4_e _ _ _ he]
      · rw [readU_e l e he0, readN_e l e he0]
    refine pwp_of_vc ?_
    simp -dsimp only [go_sem, g1, t1]
    rw [e1, readU_bad l e he]
    exact ⟨rfl, rfl⟩
  have he0 : e = 0 := readU_ok l e he
  subst he0
  have t1 : ((readU l 0).2.2 != 0) = false := by simp [he]
  have hu1 := readU_lt l 0
  refine pwp_seq (pwp_of_vc ?_)
  simp -dsimp only [go_sem, g1, t1]
  have s1 : bShr .u64 ((readU l 0).1 : Int) 1 = (((readU l 0).1 / 2 : Nat) : Int) := bShr_nat .u64 _ 1 (by decide)
  by_cases hbig : 64 < (readU l 0).1 / 2
  · have t2 : decide ((((readU l 0).1 / 2 : Nat) : Int) > 64) = true := decide_eq_true (by omega)
    have e1 : readN l 0 = (default, l, 11) := by
      refine readN_parts l _ ?_ (by decide)
      have : rp1 l = ((readU l 0).1, (readU l 0).2.1, 11) := by
        unfold rp1; rw [if_pos ⟨hbig, he⟩]
      unfold readParts
      simp only [this, rp2_e _ _ 11 (by decide), rp3_e _ _ 11 (by decide), rp4_e _ _ 11 (by decide)]
    refine pwp_of_vc ?_
    simp -dsimp only [go_sem, s1, t2]
    refine (ffail_c b _ l _ 11 k _ (h.set (readU l 0).2.1 (readU l 0).2.2)).mono ?_
    rintro r st' ⟨rfl, rfl⟩
    rw [if_pos he]
    simp -dsimp only [go_sem, set_rf]
    rw [e1]; exact ⟨rfl, rfl⟩
  have t2 : decide ((((readU l 0).1 / 2 : Nat) : Int) > 64) = false := decide_eq_false (by omega)
  refine pwp_seq (pwp_of_vc ?_)
  simp -dsimp only [go_sem, s1, t2]
  have hU : rp1 l = ((readU l 0).1, (readU l 0).2.1, 0) := by
    unfold rp1; rw [if_neg (by rintro ⟨h2, _⟩; exact hbig h2), he]
  rw [he]
  have hus := rp1_suf l
  have hpd : readParts l = rp4 ⟨decide ((rp1 l).1 % 2 = 1), (rp2 (rp1 l).1 (rp1 l).2.1 (rp1 l).2.2).1, (rp3 (rp1 l).1 (rp2 (rp1 l).1 (rp1 l).2.1 (rp1 l).2.2).2.1 (rp2 (rp1 l).1 (rp1 l).2.1 (rp1 l).2.2).2.2).1⟩
    (rp3 (rp1 l).1 (rp2 (rp1 l).1 (rp1 l).2.1 (rp1 l).2.2).2.1 (rp2 (rp1 l).1 (rp1 l).2.1 (rp1 l).2.2).2.2).2.1 (rp3 (rp1 l).1 (rp2 (rp1 l).1 (rp1 l).2.1 (rp1 l).2.2).2.1 (rp2 (rp1 l).1 (rp1 l).2.1 (rp1 l).2.2).2.2).2.2 := rfl
  rw [hU] at hpd hus
  clear hU t1 t2 he g1
  generalize readU l 0 = U at *
  obtain ⟨u, l1, e1⟩ := U
  simp only at hu1 hbig s1 hpd hus ⊢
  have hs1 : l1 <:+ b := hus.trans hs
  have s2 : bAnd .u64 (u : Int) 1 = ((u % 2 : Nat) : Int) := and1_u64 u hu1
  have s3 : (((u % 2 : Nat) : Int) == 1) = decide (u % 2 = 1) := by
    rw [show (1 : Int) = ((1 : Nat) : Int) from rfl, Bool.eq_iff_iff]; simp; omega
  refine pwp_seq (pwp_of_vc ?_)
  simp -dsimp only [go_sem, s2, s3]
  refine pwp_cut_mask [true, false, true, true, true, true] 2 0 (fun s => s = ⟨[.gp k 0, .junk, .lp 0 0, .sc (.int .i64 (b.length - l.length : Nat)), .sc (.int .u64 (u : Nat)), .lp 1 0] ++ List.replicate 111 .junk,
    [[.sc (.bool false), .sc (.int .i64 0), .sl .full []], [.sc (.bool (decide (u % 2 = 1))), .sc (.int .i64 (rp2 u l1 0).1), .sl .full []]], [], st.set k (rf b (rp2 u l1 0).2.1 (rp2 u l1 0).2.2)⟩) ?_ ?_
  · simp -dsimp only [go_sem, s1]
    refine ck (fun h3 => ?_) (fun h3 => ?_)
    · have hb : 1 < u := by have := of_decide_eq_true h3; omega
      simp -dsimp only [go_sem]
      refine (fInt_c b l1 0 k _ (h.set l1 0) hs1 hl).mono ?_
      rintro r st' ⟨rfl, rfl⟩
      simp -dsimp only [go_sem, set_rf]
      rw [rp2, if_pos ⟨rfl, hb⟩]
    · have hb : ¬1 < u := by have := of_decide_eq_false h3; omega
      simp -dsimp only [go_sem]
      rw [rp2, if_neg (fun h => hb h.2)]
  rintro s rfl
  have hs2 := (rp2_suf u l1 0).trans hs1
  try simp only at hpd
  generalize rp2 u l1 0 = V at *
  obtain ⟨v, l2, e2⟩ := V
  simp only at hs2 hpd ⊢
  have s4 : IntKind.i64.wrap ((u / 2 : Nat) : Int) = ((u / 2 : Nat) : Int) := wrapn_i64 _ (by omega)
  refine pwp_cut_mask [true, false, true, true, true, true] 2 1 (fun s => ∃ len w l' e', (e' = 0 → rp3 u l2 e2 = (w, l', 0)) ∧ (e' ≠ 0 → (rp3 u l2 e2).2.2 = e') ∧ w.length ≤ 64 ∧ s = ⟨[.gp k 0, .junk, .lp 0 0, .sc (.int .i64 (b.length - l.length : Nat)), .sc (.int .u64 (u : Nat)), .lp 1 0] ++ List.replicate 111 .junk,
    [[.sc (.bool false), .sc (.int .i64 0), .sl .full []], [.sc (.bool (decide (u % 2 = 1))), .sc (.int .i64 v), .sl (.own 0) (encW w)]], [(len, 1)], st.set k (rf b l' e')⟩) ?_ ?_
  · simp -dsimp only [go_sem]
    refine pwp_claimBox 1 2 1 ?_
    simp -dsimp only [go_sem]
    refine pwp_loop_mask [true, false, true, true, true, true, true] 2 1 (fun n s => ∃ i w l', n = u / 2 - i ∧ i ≤ u / 2 ∧ w.length = i ∧ l' <:+ b ∧ (e2 = 0 → readWs (u / 2 - i) l' w = rp3 u l2 e2) ∧ (e2 ≠ 0 → rp3 u l2 e2 = (w, l', e2)) ∧
      s = ⟨[.gp k 0, .junk, .lp 0 0, .sc (.int .i64 (b.length - l.length : Nat)), .sc (.int .u64 (u : Nat)), .lp 1 0, .sc (.int .i64 (i : Nat))] ++ List.replicate 110 .junk,
        [[.sc (.bool false), .sc (.int .i64 0), .sl .full []], [.sc (.bool (decide (u % 2 = 1))), .sc (.int .i64 v), .sl (.own 0) (encW w)]], [(w.length, 1)], st.set k (rf b l' e2)⟩) (u / 2) ?_ ?_
    · simp -dsimp only [go_sem]
      refine ⟨0, [], l2, by omega, by omega, rfl, hs2, fun h5 => ?_, fun h5 => rp3_e _ _ _ h5, rfl⟩
      rw [rp3, if_pos h5]; rfl
    · rintro n s ⟨i, w, l', rfl, hi, hw, hs', hk0, hk1, rfl⟩
      have g4 := G l' e2
      have hl' := hs'.length_le
      simp -dsimp only [go_sem, s1, s4, g4]
      refine gkT (fun h5 => ?_) (fun h5 => ?_)
      · have hlt : i < u / 2 := by have := of_decide_eq_true h5; omega
        simp -dsimp only [go_sem, h5, g4]
        refine ck (fun h6 => ?_) (fun h6 => ?_)
        · have he : e2 = 0 := by simpa using h6
          subst he
          have hk := hk0 rfl
          rw [show u / 2 - i = (u / 2 - (i + 1)) + 1 from by omega, readWs] at hk
          have x1 : IntKind.i64.wrap ((i : Int) + 1) = ((i + 1 : Nat) : Int) := by rw [show ((i : Int) + 1) = ((i + 1 : Nat) : Int) from rfl, wrapn_i64 _ (by omega)]
          have x3 : IntKind.i64.wrap ((b.length : Int) - ((b.length - l'.length : Nat) : Int)) = (l'.length : Int) := by rw [wrap_i64 _ (by omega) (by omega)]; omega
          simp -dsimp only [go_sem]
          refine pwp_draw mixed 117 (.step 0 [] (.step 1 [] (.step 2 [] (.step 3 [] (.step 4 [] (.step 5 [] (.step 6 [] (.step 7 [] (.step 8 [] (.step 9 [] (.step 10 [] (.done)))))))))))) (by decide +kernel) (by simp) ?_
          simp -dsimp only [go_sem, g4, x3]
          refine ck (fun h7 => ?_) (fun h7 => ?_)
          · have h8 : l'.length < 8 := by have := of_decide_eq_true h7; omega
            rw [if_pos h8] at hk
            simp -dsimp only [go_sem]
            refine (ffail_c b l' l 0 10 k _ (h.set l' 0)).mono ?_
            rintro r st' ⟨rfl, rfl⟩
            rw [if_pos rfl]
            simp -dsimp only [go_sem, set_rf]
            exact ⟨w.length, w, l, 10, fun h9 => absurd h9 (by decide), fun _ => by rw [← hk], by omega, rfl⟩
          · have h8 : ¬l'.length < 8 := by have := of_decide_eq_false h7; omega
            rw [if_neg h8] at hk
            have hv := wordV_lt l' 8
            simp -dsimp only [go_sem]
            refine pwp_loop_mask [true, false, true, true, true, true, true, true, true] 2 1 (fun n s => ∃ j, n = j ∧ j ≤ 8 ∧ s = ⟨[.gp k 0, .junk, .lp 0 0, .sc (.int .i64 (b.length - l.length : Nat)), .sc (.int .u64 (u : Nat)), .lp 1 0, .sc (.int .i64 (i : Nat)), .sc (.int .u64 (wordV l' 8 / 2 ^ (8 * j) : Nat)), .sc (.int .i64 ((j : Int) - 1))] ++ List.replicate 108 .junk,
              [[.sc (.bool false), .sc (.int .i64 0), .sl .full []], [.sc (.bool (decide (u % 2 = 1))), .sc (.int .i64 v), .sl (.own 0) (encW w)]], [(w.length, 1)], st.set k (rf b l' 0)⟩) 8 ?_ ?_
            · simp -dsimp only [go_sem]
              rw [Nat.div_eq_of_lt hv]; rfl
            · rintro n s ⟨j, rfl, hj, rfl⟩
              simp -dsimp only [go_sem]
              refine ck (fun h9 => ?_) (fun h9 => ?_)
              · obtain ⟨j, rfl⟩ : ∃ m, n = m + 1 := ⟨n - 1, by have := of_decide_eq_true h9; omega⟩
                have y0 : ((j + 1 : Nat) : Int) - 1 = (j : Int) := by omega
                have x0 : IntKind.i64.wrap (((b.length - l'.length : Nat) : Int) + (j : Int)) = ((b.length - l'.length + j : Nat) : Int) := by rw [← Int.natCast_add, wrapn_i64 _ (by omega)]
                have x4 : IntKind.i64.wrap ((j : Int) - 1) = (j : Int) - 1 := wrap_i64 _ (by omega) (by omega)
                have g5 := encB_get b (b.length - l'.length + j) (by omega)
                rw [suf_getD hs'] at g5
                have g6 := word_step l' j (by omega)
                simp -dsimp only [go_sem, y0]
                refine pwp_draw mixed 117 (.step 0 [] (.step 1 [] (.step 2 [] (.step 3 [] (.step 4 [] (.step 5 [] (.step 6 [] (.step 7 [] (.step 8 [] (.step 9 [] (.step 10 [] (.step 11 [] (.step 12 [] (.step 13 [] (.step 14 [] (.step 15 [] (.step 16 [] (.done)))))))))))))))))) (by decide +kernel) (by simp) ?_
                simp -dsimp only [go_sem, g4, x0, g5, g6, x4]
                exact ⟨⟨by omega, by omega⟩, j, by omega, by omega, rfl⟩
              · have h0 : n = 0 := by have := of_decide_eq_false h9; omega
                subst h0
                simp -dsimp only [go_sem]
                refine pwp_of_vc ?_
                have x5 : IntKind.i64.wrap (((b.length - l'.length : Nat) : Int) + 8) = ((b.length - (l'.drop 8).length : Nat) : Int) := by
                  rw [List.length_drop, show (((b.length - l'.length : Nat) : Int) + 8) = ((b.length - l'.length + 8 : Nat) : Int) from rfl, wrapn_i64 _ (by omega)]; omega
                have y1 : wordV l' 8 / 2 ^ (8 * 0) = wordV l' 8 := by rw [Nat.mul_zero, Nat.pow_zero, Nat.div_one]
                simp -dsimp only [go_sem, g4, x5, y1]
                refine ⟨⟨by omega, by omega⟩, pwp_of_vc ?_⟩
                simp -dsimp only [go_sem, x1]
                have hn : (UInt64.ofNat (wordV l' 8)).toNat = wordV l' 8 := by simp; omega
                have ew : encW w ++ [.sc (.int .u64 (wordV l' 8 : Nat))] = encW (w ++ [UInt64.ofNat (wordV l' 8)]) := by rw [← encW_snoc, hn]
                rw [ew]
                exact ⟨u / 2 - (i + 1), by omega, i + 1, w ++ [UInt64.ofNat (wordV l' 8)], l'.drop 8, rfl, by omega, by simp [hw], (List.drop_suffix _ _).trans hs', fun _ => hk, fun h => h.elim, pfs_eq (by simp) (set_rf st k b b l' (l'.drop 8) 0 0)⟩
        · have he : e2 ≠ 0 := by simpa using h6
          have hk := hk1 he
          simp -dsimp only [go_sem]
          exact ⟨w.length, w, l', e2, fun h9 => absurd h9 he, fun _ => by rw [hk], by omega, rfl⟩
      · have hge : i = u / 2 := by have := of_decide_eq_false h5; omega
        simp -dsimp only [go_sem, h5]
        refine ⟨w.length, w, l', e2, fun h9 => ?_, fun h9 => by rw [hk1 h9], by omega, rfl⟩
        rw [← hk0 h9, hge, Nat.sub_self, readWs]
  rintro s ⟨len, w, l', e', hz, hnz, hw, rfl⟩
  refine pwp_plainBox 1 ?_
  simp -dsimp only [go_sem]
  refine pwp_seq (pwp_of_vc ?_)
  have g7 := G l' e'
  simp -dsimp only [go_sem, g7]
  by_cases he : e' = 0
  · subst he
    have hz := hz rfl
    have t3 : ((0 : Int) != 0) = false := rfl
    rw [hz] at hpd
    simp -dsimp only [go_sem]
    refine pwp_of_vc ?_
    simp -dsimp only [go_sem]
    refine (refRight_c ⟨decide (u % 2 = 1), v, w⟩ _ (by simp only; omega)).mono ?_
    rintro r st' ⟨rfl, rfl⟩
    simp -dsimp only [go_sem]
    refine ck (fun h5 => ?_) (fun h5 => ?_)
    · have hr : rightN ⟨decide (u % 2 = 1), v, w⟩ = false := by simpa using h5
      simp -dsimp only [go_sem]
      refine (ffail_c b l' l 0 11 k _ (h.set l' 0)).mono ?_
      rintro r st' ⟨rfl, rfl⟩
      rw [if_pos rfl]
      simp -dsimp only [go_sem, set_rf]
      rw [readN_parts l 11 (by rw [hpd]; unfold rp4; rw [if_pos ⟨rfl, hr⟩]) (by decide)]
      exact ⟨rfl, rfl⟩
    · have hr : rightN ⟨decide (u % 2 = 1), v, w⟩ = true := by simpa using h5
      simp -dsimp only [go_sem]
      have e9 : readParts l = (⟨decide (u % 2 = 1), v, w⟩, l', 0) := by
        rw [hpd]; unfold rp4; rw [if_neg (fun h2 => by rw [hr] at h2; exact absurd h2.2 (by decide))]
      rw [readN, if_neg (by simp), e9, if_pos rfl]
      exact ⟨rfl, rfl⟩
  · have t3 : (e' != 0) = true := by simp [he]
    simp -dsimp only [go_sem, t3, g7]
    have hz := hnz he
    rw [readN_parts l e' (by rw [hpd]; rw [rp4_e _ _ _ (by rw [hz]; exact he)]; exact hz) he]
    exact ⟨rfl, set_rf st k b b l' l e' e'⟩
end Go.Pv
end

section
/- The document's reader: Iv, Box. -/
set_option linter.unusedVariables false
set_option linter.unusedSimpArgs false
set_option maxRecDepth 100000
namespace Go.Pv
open Go.Proofs
theorem readN_ok (l : List UInt8) (e : Int) (h : (readN l e).2.2 = 0) : e = 0 := by
  refine Classical.byContradiction fun he => ?_
  rw [readN_e l e he] at h; exact he h
theorem readI_ok (l : List UInt8) (e : Int) (h : (readI l e).2.2 = 0) : e = 0 := by
  refine Classical.byContradiction fun he => ?_
  rw [readI_e l e he] at h; exact he h
theorem readI_suf (l : List UInt8) (e : Int) : (readI l e).2.1 <:+ l := by
  unfold readI; split
  · exact List.suffix_refl _
  · split
    · exact (readN_suf _ _).trans (readN_suf l 0)
    · exact List.suffix_refl _
theorem readI_parts (l : List UInt8) (e : Int) (h : (partsI l).2.2 = e) (he : e ≠ 0) : readI l 0 = (default, l, e) := by
  rw [readI, if_neg (by simp), h, if_neg he]
theorem readB_parts (l : List UInt8) (e : Int) (h : (partsB l).2.2 = e) (he : e ≠ 0) : readB l 0 = ([], l, e) := by
  rw [readB, if_neg (by simp), h, if_neg he]
set_option maxHeartbeats 2000000 in
theorem fIv_c (b l : List UInt8) (e : Int) (k : Nat) (st : Store) (h : atF st k b l e) (hs : l <:+ b) (hl : b.length ≤ 1000000000000) : PCalls Try.prog 75 [.gp k 0] st
    (fun r st' => r = .agg (encI (readI l e).1) ∧ st' = st.set k (rf b (readI l e).2.1 (readI l e).2.2)) := by
  have h' := h
  unfold atF rf at h'
  have G : ∀ (l : List UInt8) (e : Int), (st.set k (rf b l e)).getD k [] = [.sl .no (encB b), .sc (.int .i64 (b.length - l.length : Nat)), .sc (.int .i64 e)] := fun l e => h.set l e
  refine pcalls_enter none Try.func75 rfl fun E => pwp_of_vc ?_
  simp -dsimp only [go_sem, h']
  refine (fNum_c b l e k st h hs hl).mono ?_
  rintro r st' ⟨rfl, rfl⟩
  simp -dsimp only [go_sem]
  have hs1 := (readN_suf l e).trans hs
  refine (fNum_c b _ _ k _ (h.set (readN l e).2.1 (readN l e).2.2) hs1 hl).mono ?_
  rintro r st' ⟨rfl, rfl⟩
  have hs2 := (readN_suf (readN l e).2.1 (readN l e).2.2).trans hs1
  have g1 := G (readN (readN l e).2.1 (readN l e).2.2).2.1 (readN (readN l e).2.1 (readN l e).2.2).2.2
  have w1 := rightN_wN (readN_right l e)
  have w2 := rightN_wN (readN_right (readN l e).2.1 (readN l e).2.2)
  simp -dsimp only [go_sem, set_rf, g1]
  refine gkT (fun h1 => ?_) (fun h1 => ?_)
  · have he3 : (readN (readN l e).2.1 (readN l e).2.2).2.2 = 0 := by simpa using h1
    have he2 := readN_ok _ _ he3
    have he0 := readN_ok _ _ he2
    subst he0
    simp -dsimp only [go_sem, h1]
    refine (refRightIv_c ⟨(readN l 0).1, (readN (readN l 0).2.1 (readN l 0).2.2).1⟩ _ ⟨w1, w2⟩).mono ?_
    rintro r st' ⟨rfl, rfl⟩
    simp -dsimp only [go_sem]
    refine ck (fun h2 => ?_) (fun h2 => ?_)
    · have hr : rightI ⟨(readN l 0).1, (readN (readN l 0).2.1 (readN l 0).2.2).1⟩ = false := by simpa using h2
      simp -dsimp only [go_sem]
      refine (ffail_c b _ l _ 11 k _ (h.set (readN (readN l 0).2.1 (readN l 0).2.2).2.1 (readN (readN l 0).2.1 (readN l 0).2.2).2.2)).mono ?_
      rintro r st' ⟨rfl, rfl⟩
      rw [if_pos he3]
      have g2 := G l 11
      have t1 : ((11 : Int) != 0) = true := rfl
      simp -dsimp only [go_sem, set_rf, g2, t1]
      rw [readI_parts l 11 (by rw [partsI_eq]; simp only; rw [if_pos ⟨he3, hr⟩]) (by decide)]
      exact ⟨rfl, set_rf st k b b l l 11 11⟩
    · have hr : rightI ⟨(readN l 0).1, (readN (readN l 0).2.1 (readN l 0).2.2).1⟩ = true := by simpa using h2
      have t1 : ((readN (readN l 0).2.1 (readN l 0).2.2).2.2 != 0) = false := by simp [he3]
      have e9 : partsI l = (⟨(readN l 0).1, (readN (readN l 0).2.1 (readN l 0).2.2).1⟩, (readN (readN l 0).2.1 (readN l 0).2.2).2.1, 0) := by
        rw [partsI_eq, if_neg (fun h2 => by rw [hr] at h2; exact absurd h2.2 (by decide)), he3]
      simp -dsimp only [go_sem, g1, t1]
      rw [readI, if_neg (by simp), e9, if_pos rfl, he3]
      exact ⟨rfl, rfl⟩
  · have he3 : (readN (readN l e).2.1 (readN l e).2.2).2.2 ≠ 0 := by simpa using h1
    have t1 : ((readN (readN l e).2.1 (readN l e).2.2).2.2 != 0) = true := by simp [he3]
    simp -dsimp only [go_sem, h1, g1, t1]
    have e9 : readI l e = (default, l, (readN (readN l e).2.1 (readN l e).2.2).2.2) := by
      by_cases he0 : e = 0
      · subst he0
        refine readI_parts l _ ?_ he3
        rw [partsI_eq]; simp only; rw [if_neg (fun h2 => he3 h2.1)]
      · rw [readI_e l e he0, readN_e l e he0]; simp only; rw [readN_e _ e he0]
    rw [e9]
    exact ⟨rfl, set_rf st k b b _ l _ _⟩
set_option maxHeartbeats 2000000 in
theorem fBox_c (b l : List UInt8) (e : Int) (k : Nat) (st : Store) (h : atF st k b l e) (hs : l <:+ b) (hl : b.length ≤ 1000000000000) : PCalls Try.prog 76 [.gp k 0] st
    (fun r st' => r = .sl .no (encIs (readB l e).1) ∧ st' = st.set k (rf b (readB l e).2.1 (readB l e).2.2)) := by
  have h' := h
  unfold atF rf at h'
  have G : ∀ (l : List UInt8) (e : Int), (st.set k (rf b l e)).getD k [] = [.sl .no (encB b), .sc (.int .i64 (b.length - l.length : Nat)), .sc (.int .i64 e)] := fun l e => h.set l e
  refine pcalls_enter none Try.func76 rfl fun E => pwp_seq (pwp_of_vc ?_)
  simp -dsimp only [go_sem]
  refine pwp_seq (pwp_of_vc ?_)
  simp -dsimp only [go_sem, h']
  refine pwp_seq (pwp_of_vc ?_)
  simp -dsimp only [go_sem]
  refine (fUint_c b l e k st h hs hl).mono ?_
  rintro r st' ⟨rfl, rfl⟩
  simp -dsimp only [go_sem]
  have hu1 := readU_lt l e
  have hs1 := (readU_suf l e).trans hs
  have hPB : e = 0 → partsB l = pb2 (pb1 l).1 (pb1 l).2.1 (pb1 l).2.2 := fun _ => rfl
  have hp1 : e = 0 → pb1 l = ((readU l e).1, (readU l e).2.1, if ((readU l e).1 < 1 ∨ 4 < (readU l e).1) ∧ (readU l e).2.2 = 0 then 11 else (readU l e).2.2) := fun h0 => by rw [h0]; rfl
  have hbad : e ≠ 0 → (readU l e).1 = 0 ∧ (readU l e).2.2 = e := fun h0 => by rw [readU_e l e h0]; exact ⟨rfl, rfl⟩
  have hbe : e ≠ 0 → readB l e = ([], l, e) := fun h0 => readB_e l e h0
  have hbb := readU_bad l e
  have hok := readU_ok l e
  generalize readU l e = U at *
  obtain ⟨u, l1, e1⟩ := U
  simp only at hu1 hs1 hp1 hbad hbb hok ⊢
  refine pwp_cut_mask [true, false, false, true, true] 0 0 (fun s => ∃ l2 e2, (e1 = 0 → ¬(u < 1 ∨ 4 < u) → l2 = l1 ∧ e2 = 0) ∧ (e1 = 0 → (u < 1 ∨ 4 < u) → e2 = 11) ∧ (e1 ≠ 0 → e2 = e1) ∧ l2 <:+ b ∧
    s = ⟨[.gp k 0, .junk, .junk, .sc (.int .i64 (b.length - l.length : Nat)), .sc (.int .u64 (u : Nat))] ++ List.replicate 52 .junk, [], [], st.set k (rf b l2 e2)⟩) ?_ ?_
  · have g1 := G l1 e1
    simp -dsimp only [go_sem, g1]
    refine gkT (fun h1 => ?_) (fun h1 => ?_)
    · have he1 : e1 = 0 := by simpa using h1
      subst he1
      simp -dsimp only [go_sem, h1]
      refine gkF (fun h2 => ?_) (fun h2 => ?_)
      · have hb1 : ¬u < 1 := by have := of_decide_eq_false h2; omega
        simp -dsimp only [go_sem, h2]
        refine ck (fun h3 => ?_) (fun h3 => ?_)
        · have hb2 : 4 < u := by have := of_decide_eq_true h3; omega
          simp -dsimp only [go_sem]
          refine (ffail_c b _ l _ 11 k _ (h.set l1 0)).mono ?_
          rintro r st' ⟨rfl, rfl⟩
          rw [if_pos rfl]
          simp -dsimp only [go_sem, set_rf]
          exact ⟨l, 11, fun _ h5 => absurd (.inr hb2) h5, fun _ _ => rfl, fun h5 => h5.elim, hs, rfl⟩
        · have hb2 : ¬4 < u := by have := of_decide_eq_false h3; omega
          simp -dsimp only [go_sem]
          exact ⟨l1, 0, fun _ _ => ⟨rfl, rfl⟩, fun _ h5 => by omega, fun h5 => h5.elim, hs1, rfl⟩
      · have hb1 : u < 1 := by have := of_decide_eq_true h2; omega
        simp -dsimp only [go_sem, h2]
        refine (ffail_c b _ l _ 11 k _ (h.set l1 0)).mono ?_
        rintro r st' ⟨rfl, rfl⟩
        rw [if_pos rfl]
        simp -dsimp only [go_sem, set_rf]
        exact ⟨l, 11, fun _ h5 => absurd (.inl hb1) h5, fun _ _ => rfl, fun h5 => h5.elim, hs, rfl⟩
    · have he1 : e1 ≠ 0 := by simpa using h1
      simp -dsimp only [go_sem, h1]
      exact ⟨l1, e1, fun h5 => absurd h5 he1, fun h5 => absurd h5 he1, fun _ => rfl, hs1, rfl⟩
  rintro s ⟨l2, e2, z1, z2, z3, hs2, rfl⟩
  have good : e2 = 0 → e = 0 ∧ u ≤ 4 ∧ l2 = l1 ∧ partsB l = readIs u l1 [] := fun h2 => by
    have y1 : e1 = 0 := by
      refine Classical.byContradiction fun y1 => ?_
      rw [z3 y1] at h2; exact y1 h2
    have y2 : ¬(u < 1 ∨ 4 < u) := fun y2 => by rw [z2 y1 y2] at h2; exact absurd h2 (by decide)
    have y0 := hok y1
    refine ⟨y0, by omega, (z1 y1 y2).1, ?_⟩
    rw [hPB y0, hp1 y0]
    simp only
    rw [if_neg (fun h5 => y2 h5.1), y1, pb2, if_pos rfl]
  have poor : e2 ≠ 0 → readB l e = ([], l, e2) := fun h2 => by
    by_cases y0 : e = 0
    · subst y0
      refine readB_parts l e2 ?_ h2
      rw [hPB rfl, hp1 rfl]
      simp only
      by_cases y1 : e1 = 0
      · have y2 : u < 1 ∨ 4 < u := Classical.byContradiction fun y2 => h2 (z1 y1 y2).2
        rw [if_pos ⟨y2, y1⟩, z2 y1 y2]; rfl
      · rw [if_neg (fun h5 => y1 h5.2), z3 y1, pb2, if_neg y1]
    · rw [hbe y0, z3 (by rw [(hbad y0).2]; exact y0), (hbad y0).2]
  have s4 : e2 = 0 → IntKind.i64.wrap (u : Int) = (u : Int) := fun h2 => by have := good h2; exact wrapn_i64 _ (by omega)
  refine pwp_seq (pwp_of_vc ?_)
  simp -dsimp only [go_sem]
  refine pwp_cut_mask [true, false, false, true, true, true] 0 1 (fun s => ∃ len o l' e', (e' = 0 → readB l e = (o, l', 0)) ∧ (e' ≠ 0 → readB l e = ([], l, e')) ∧
    s = ⟨[.gp k 0, .junk, .junk, .sc (.int .i64 (b.length - l.length : Nat)), .sc (.int .u64 (u : Nat)), .sl (.own 0) (encIs o)] ++ List.replicate 51 .junk, [], [(len, 6)], st.set k (rf b l' e')⟩) ?_ ?_
  · simp -dsimp only [go_sem]
    refine pwp_claim 5 6 ?_
    simp -dsimp only [go_sem]
    refine pwp_loop_mask [true, false, false, true, true, true, true] 0 1 (fun n s => ∃ i o l' e', n = 4 - i ∧ i ≤ 4 ∧ o.length = i ∧ l' <:+ b ∧ (e2 = 0 → i ≤ u ∧ (e' = 0 → readIs (u - i) l' o = readIs u l1 []) ∧ (e' ≠ 0 → (o, l', e') = readIs u l1 [])) ∧ (e2 ≠ 0 → e' = e2) ∧
      s = ⟨[.gp k 0, .junk, .junk, .sc (.int .i64 (b.length - l.length : Nat)), .sc (.int .u64 (u : Nat)), .sl (.own 0) (encIs o), .sc (.int .i64 (i : Nat))] ++ List.replicate 50 .junk, [], [(o.length, 6)], st.set k (rf b l' e')⟩) 4 ?_ ?_
    · simp -dsimp only [go_sem]
      refine ⟨0, [], l2, e2, by omega, by omega, rfl, hs2, fun h5 => ⟨by omega, fun _ => by rw [(good h5).2.2.1]; rfl, fun h6 => absurd h5 h6⟩, fun _ => rfl, rfl⟩
    · rintro n s ⟨i, o, l', e', rfl, hi, ho, hs', k0, k1, rfl⟩
      have g4 := G l' e'
      have out : e' ≠ 0 → readB l e = ([], l, e') := fun h6 => by
        by_cases h2 : e2 = 0
        · obtain ⟨y0, _, _, y3⟩ := good h2
          subst y0
          refine readB_parts l e' ?_ h6
          rw [y3, ← (k0 h2).2.2 h6]
        · rw [poor h2, k1 h2]
      simp -dsimp only [go_sem]
      refine gkT (fun h5 => ?_) (fun h5 => ?_)
      · simp -dsimp only [go_sem, h5, g4]
        refine ck (fun h6 => ?_) (fun h6 => ?_)
        · have he : e' = 0 := by simpa using h6
          subst he
          have h2 : e2 = 0 := Classical.byContradiction fun h2 => h2 (k1 h2).symm
          obtain ⟨y0, y1, y2, y3⟩ := good h2
          have hk := (k0 h2).2.1 rfl
          rw [s4 h2] at h5
          have hlt : i < u := by have := of_decide_eq_true h5; omega
          rw [show u - i = (u - (i + 1)) + 1 from by omega, readIs] at hk
          have x1 : IntKind.i64.wrap ((i : Int) + 1) = ((i + 1 : Nat) : Int) := by rw [show ((i : Int) + 1) = ((i + 1 : Nat) : Int) from rfl, wrapn_i64 _ (by omega)]
          simp -dsimp only [go_sem]
          refine (fIv_c b l' 0 k _ (h.set l' 0) hs' hl).mono ?_
          rintro r st' ⟨rfl, rfl⟩
          simp -dsimp only [go_sem, set_rf, x1]
          refine ⟨⟨by omega, by omega⟩, 4 - (i + 1), by omega, i + 1, o ++ [(readI l' 0).1], (readI l' 0).2.1, (readI l' 0).2.2, rfl, by omega, by simp [ho], (readI_suf l' 0).trans hs', fun _ => ⟨by omega, fun h9 => ?_, fun h9 => ?_⟩, fun h9 => absurd h2 h9, ?_⟩
          · rw [if_pos h9] at hk; exact hk
          · rw [if_neg h9] at hk; exact hk
          · simp [encIs, encI]
        · have he : e' ≠ 0 := by simpa using h6
          simp -dsimp only [go_sem]
          exact ⟨o.length, o, l', e', fun h9 => absurd h9 he, out, rfl⟩
      · simp -dsimp only [go_sem, h5]
        refine ⟨o.length, o, l', e', fun h9 => ?_, out, rfl⟩
        subst h9
        have h2 : e2 = 0 := Classical.byContradiction fun h2 => h2 (k1 h2).symm
        obtain ⟨y0, y1, y2, y3⟩ := good h2
        subst y0
        rw [s4 h2] at h5
        have hge : i = u := by have := of_decide_eq_false h5; have := (k0 h2).1; omega
        have hk := (k0 h2).2.1 rfl
        rw [hge, Nat.sub_self, readIs] at hk
        rw [readB, if_neg (by simp), y3, ← hk, if_pos rfl]
  rintro s ⟨len, o, l', e', hz, hnz, rfl⟩
  have g7 := G l' e'
  refine pwp_plain [false, false, false, false, false, true] ?_
  simp -dsimp only [go_sem]
  refine pwp_of_vc ?_
  simp -dsimp only [go_sem, g7]
  refine ck (fun h5 => ?_) (fun h5 => ?_)
  · have he : e' ≠ 0 := by simpa using h5
    simp -dsimp only [go_sem, g7]
    rw [hnz he]
    exact ⟨rfl, set_rf st k b b l' l e' e'⟩
  · have he : e' = 0 := by simpa using h5
    subst he
    simp -dsimp only [go_sem, g7]
    rw [hz rfl]
    exact ⟨rfl, rfl⟩
end Go.Pv
end

section
/- The law's reads: both readers, side by side. -/
set_option linter.unusedVariables false
set_option linter.unusedSimpArgs false
set_option maxRecDepth 100000
namespace Go.Pv
open Go.Proofs
theorem two_fst (st : Store) (x y z : List PV) : (st ++ [x, y]).set st.length z = st ++ [z, y] := by simp
theorem two_snd (st : Store) (x y z : List PV) : (st ++ [x, y]).set (st.length + 1) z = st ++ [x, z] := by
  rw [List.set_append_right _ _ (by omega)]; simp
theorem two_atR (st : Store) (l : List UInt8) (e : Int) (y : List PV) : atR (st ++ [rd l e, y]) st.length l e := by
  unfold atR; simp [List.getD_eq_getElem?_getD]
theorem two_atF (st : Store) (b l : List UInt8) (e : Int) (x : List PV) : atF (st ++ [x, rf b l e]) (st.length + 1) b l e := by
  unfold atF; rw [List.getD_eq_getElem?_getD, List.getElem?_append_right (by omega)]; simp
theorem rightB_nil : wB [] := ⟨by simp, fun i hi => by simp at hi⟩
theorem readB_wB (l : List UInt8) (e : Int) : wB (readB l e).1 := by
  by_cases he : e = 0
  · subst he
    by_cases h : (readB l 0).2.2 = 0
    · exact rightB_wB (readB_one l h).1
    · rw [readB_bad l 0 h]; exact rightB_nil
  · rw [readB_e l e he]; exact rightB_nil
theorem readB_suf (l : List UInt8) (e : Int) : (readB l e).2.1 <:+ l := by
  by_cases he : e = 0
  · subst he
    by_cases h : (readB l 0).2.2 = 0
    · exact ⟨_, (readB_one l h).2.symm⟩
    · rw [readB_bad l 0 h]; exact List.suffix_refl _
  · rw [readB_e l e he]; exact List.suffix_refl _
set_option maxHeartbeats 4000000 in
theorem reads_c (b plan : List UInt8) (st : Store) (hl : b.length ≤ 1000000000) (hpl : plan.length ≤ 1000000000) : PCalls Try.prog 31 [.sl .no (encB b), .sl .no (encB plan)] st
    (fun r st' => r = .sc (.bool true) ∧ ∃ x y, st' = st ++ [x, y]) := by
  refine pcalls_enter none Try.func31 rfl fun E => pwp_seq (pwp_of_vc ?_)
  simp -dsimp only [go_sem]
  refine pwp_seq (pwp_of_vc ?_)
  simp -dsimp only [go_sem]
  refine (read_c b st (by omega)).mono ?_
  rintro r st' ⟨rfl, rfl⟩
  simp -dsimp only [go_sem]
  refine ⟨⟨by omega, by omega⟩, ?_⟩
  refine pwp_give 0 (by simp [go_sem]) (by simp) ?_
  simp -dsimp only [go_sem]
  have e0 : [PV.sl .no (encB b), .sc (.int .i64 0), .sc (.int .i64 0)] = rf b b 0 := by unfold rf; rw [Nat.sub_self]; rfl
  rw [e0, List.append_assoc]
  simp only [List.cons_append, List.nil_append]
  refine pwp_seq (pwp_of_vc ?_)
  simp -dsimp only [go_sem]
  refine pwp_of_vc ?_
  simp -dsimp only [go_sem]
  refine pwp_loop_mask [false, true, false, false, false, true, true, true] 0 0 (fun n s => ∃ k l e, n = plan.length - k ∧ k ≤ plan.length ∧ l <:+ b ∧
    s = ⟨[.junk, .sl .no (encB plan), .junk, .junk, .junk, .gp st.length 0, .gp (st.length + 1) 0, .sc (.int .i64 (k : Nat))] ++ List.replicate 86 .junk, [], [], st ++ [rd l e, rf b l e]⟩) plan.length ?_ ?_
  · simp -dsimp only [go_sem]
    exact ⟨0, b, 0, by omega, by omega, List.suffix_refl _, rfl⟩
  · rintro n s ⟨k, l, e, rfl, hk, hs, rfl⟩
    have hlb := hs.length_le
    simp -dsimp only [go_sem]
    refine ck (fun h1 => ?_) (fun h1 => ?_)
    · have hlt : k < plan.length := by have := of_decide_eq_true h1; omega
      have g1 := encB_get plan k hlt
      obtain ⟨c, hc⟩ : ∃ c, c = (plan.getD k 0).toNat := ⟨_, rfl⟩
      rw [← hc] at g1
      have x1 : IntKind.i64.wrap ((k : Int) + 1) = ((k + 1 : Nat) : Int) := by rw [show ((k : Int) + 1) = ((k + 1 : Nat) : Int) from rfl, wrapn_i64 _ (by omega)]
      simp -dsimp only [go_sem, g1]
      refine ⟨⟨by omega, by omega⟩, ?_⟩
      refine ck (fun q0 => ?_) (fun q0 => ?_)
      · simp -dsimp only [go_sem]
        refine (rdUint_c l e st.length _ (two_atR st l e _) (by omega)).mono ?_
        rintro r st' ⟨rfl, rfl⟩
        simp -dsimp only [go_sem, two_fst]
        refine (fUint_c b l e (st.length + 1) _ (two_atF st b l e _) hs (by omega)).mono ?_
        rintro r st' ⟨rfl, rfl⟩
        have hs2 := (readU_suf l e).trans hs
        have SELF : (((readU l e).1 : Int) == ((readU l e).1 : Int)) = true := beq_self_eq_true _
        generalize hl2 : (readU l e).2.1 = l2 at *
        generalize he2 : (readU l e).2.2 = e2 at *
        have z2 : (e2 != e2) = false := by simp
        have z3 : ((l2.length : Int) != (l2.length : Int)) = false := by simp
        have z1 : (st ++ [rd l2 e2, rf b l2 e2]).getD (st.length + 1) [] = [.sl .no (encB b), .sc (.int .i64 (b.length - l2.length : Nat)), .sc (.int .i64 e2)] := two_atF st b l2 e2 _
        simp -dsimp only [go_sem, two_fst, two_snd, SELF]
        refine pwp_draw mixed 94 (.step 0 [] (.step 1 [] (.step 2 [] (.step 3 [] (.step 5 [] (.step 6 [] (.step 7 [] (.step 8 [] (.step 4 [8] (.step 9 [] (.step 10 [] (.step 11 [] (.step 12 [] (.step 14 [] (.step 13 [8] (.step 15 [8] (.step 16 [] (.step 17 [] (.done))))))))))))))))))) (by decide +kernel) (by simp) ?_
        simp -dsimp only [go_sem, z1]
        refine (err_c _ _ st.length _ (two_atR st l2 e2 _)).mono ?_
        rintro r st' ⟨rfl, rfl⟩
        simp -dsimp only [go_sem, z2, z1]
        refine (left_c _ _ st.length _ (two_atR st l2 e2 _)).mono ?_
        rintro r st' ⟨rfl, rfl⟩
        simp -dsimp only [go_sem, z1]
        refine (fLeft_c b l2 e2 (st.length + 1) _ (two_atF st b l2 e2 _) hs2 (by omega)).mono ?_
        rintro r st' ⟨rfl, rfl⟩
        simp -dsimp only [go_sem, z3, x1, z1]
        exact ⟨plan.length - (k + 1), by omega, k + 1, l2, e2, rfl, by omega, hs2, rfl⟩
      simp -dsimp only [go_sem]
      refine ck (fun q1 => ?_) (fun q1 => ?_)
      · simp -dsimp only [go_sem]
        refine (rdInt_c l e st.length _ (two_atR st l e _) (by omega)).mono ?_
        rintro r st' ⟨rfl, rfl⟩
        simp -dsimp only [go_sem, two_fst]
        refine (fInt_c b l e (st.length + 1) _ (two_atF st b l e _) hs (by omega)).mono ?_
        rintro r st' ⟨rfl, rfl⟩
        have hs2 := (readU_suf l e).trans hs
        have SELF : (unzig (readU l e).1 == unzig (readU l e).1) = true := beq_self_eq_true _
        generalize hl2 : (readU l e).2.1 = l2 at *
        generalize he2 : (readU l e).2.2 = e2 at *
        have z2 : (e2 != e2) = false := by simp
        have z3 : ((l2.length : Int) != (l2.length : Int)) = false := by simp
        have z1 : (st ++ [rd l2 e2, rf b l2 e2]).getD (st.length + 1) [] = [.sl .no (encB b), .sc (.int .i64 (b.length - l2.length : Nat)), .sc (.int .i64 e2)] := two_atF st b l2 e2 _
        simp -dsimp only [go_sem, two_fst, two_snd, SELF]
        refine pwp_draw mixed 94 (.step 0 [] (.step 1 [] (.step 2 [] (.step 3 [] (.step 5 [] (.step 6 [] (.step 7 [] (.step 8 [] (.step 4 [8] (.step 9 [] (.step 10 [] (.step 11 [] (.step 12 [] (.step 14 [] (.step 13 [8] (.step 15 [8] (.step 16 [] (.step 17 [] (.done))))))))))))))))))) (by decide +kernel) (by simp) ?_
        simp -dsimp only [go_sem, z1]
        refine (err_c _ _ st.length _ (two_atR st l2 e2 _)).mono ?_
        rintro r st' ⟨rfl, rfl⟩
        simp -dsimp only [go_sem, z2, z1]
        refine (left_c _ _ st.length _ (two_atR st l2 e2 _)).mono ?_
        rintro r st' ⟨rfl, rfl⟩
        simp -dsimp only [go_sem, z1]
        refine (fLeft_c b l2 e2 (st.length + 1) _ (two_atF st b l2 e2 _) hs2 (by omega)).mono ?_
        rintro r st' ⟨rfl, rfl⟩
        simp -dsimp only [go_sem, z3, x1, z1]
        exact ⟨plan.length - (k + 1), by omega, k + 1, l2, e2, rfl, by omega, hs2, rfl⟩
      simp -dsimp only [go_sem]
      refine ck (fun q2 => ?_) (fun q2 => ?_)
      · simp -dsimp only [go_sem]
        refine (rdNum_c l e st.length _ (two_atR st l e _) (by omega)).mono ?_
        rintro r st' ⟨rfl, rfl⟩
        simp -dsimp only [go_sem, two_fst]
        refine (fNum_c b l e (st.length + 1) _ (two_atF st b l e _) hs (by omega)).mono ?_
        rintro r st' ⟨rfl, rfl⟩
        have hs2 := (readN_suf l e).trans hs
        simp -dsimp only [go_sem, two_snd]
        refine (refSame_c (readN l e).1 (readN l e).1 _ (by have := rightN_wN (readN_right l e); unfold wN at this; omega) (by have := rightN_wN (readN_right l e); unfold wN at this; omega)).mono ?_
        rintro r st' ⟨rfl, rfl⟩
        have SELF : decide ((readN l e).1 = (readN l e).1) = true := decide_eq_true rfl
        generalize hl2 : (readN l e).2.1 = l2 at *
        generalize he2 : (readN l e).2.2 = e2 at *
        have z2 : (e2 != e2) = false := by simp
        have z3 : ((l2.length : Int) != (l2.length : Int)) = false := by simp
        have z1 : (st ++ [rd l2 e2, rf b l2 e2]).getD (st.length + 1) [] = [.sl .no (encB b), .sc (.int .i64 (b.length - l2.length : Nat)), .sc (.int .i64 e2)] := two_atF st b l2 e2 _
        simp -dsimp only [go_sem, two_fst, two_snd, SELF]
        refine pwp_draw mixed 94 (.step 0 [] (.step 1 [] (.step 2 [] (.step 3 [] (.step 5 [] (.step 6 [] (.step 7 [] (.step 8 [] (.step 4 [8] (.step 9 [] (.step 10 [] (.step 11 [] (.step 12 [] (.step 14 [] (.step 13 [8] (.step 15 [8] (.step 16 [] (.step 17 [] (.done))))))))))))))))))) (by decide +kernel) (by simp) ?_
        simp -dsimp only [go_sem, z1]
        refine (err_c _ _ st.length _ (two_atR st l2 e2 _)).mono ?_
        rintro r st' ⟨rfl, rfl⟩
        simp -dsimp only [go_sem, z2, z1]
        refine (left_c _ _ st.length _ (two_atR st l2 e2 _)).mono ?_
        rintro r st' ⟨rfl, rfl⟩
        simp -dsimp only [go_sem, z1]
        refine (fLeft_c b l2 e2 (st.length + 1) _ (two_atF st b l2 e2 _) hs2 (by omega)).mono ?_
        rintro r st' ⟨rfl, rfl⟩
        simp -dsimp only [go_sem, z3, x1, z1]
        exact ⟨plan.length - (k + 1), by omega, k + 1, l2, e2, rfl, by omega, hs2, rfl⟩
      simp -dsimp only [go_sem]
      refine ck (fun q3 => ?_) (fun q3 => ?_)
      · simp -dsimp only [go_sem]
        refine (rdIv_c l e st.length _ (two_atR st l e _) (by omega)).mono ?_
        rintro r st' ⟨rfl, rfl⟩
        simp -dsimp only [go_sem, two_fst]
        refine (fIv_c b l e (st.length + 1) _ (two_atF st b l e _) hs (by omega)).mono ?_
        rintro r st' ⟨rfl, rfl⟩
        have hs2 := (readI_suf l e).trans hs
        simp -dsimp only [go_sem, two_snd]
        refine (sameIv_c (readI l e).1 (readI l e).1 _ (rightI_wI (readI_right l e)) (rightI_wI (readI_right l e))).mono ?_
        rintro r st' ⟨rfl, rfl⟩
        have SELF : decide ((readI l e).1 = (readI l e).1) = true := decide_eq_true rfl
        generalize hl2 : (readI l e).2.1 = l2 at *
        generalize he2 : (readI l e).2.2 = e2 at *
        have z2 : (e2 != e2) = false := by simp
        have z3 : ((l2.length : Int) != (l2.length : Int)) = false := by simp
        have z1 : (st ++ [rd l2 e2, rf b l2 e2]).getD (st.length + 1) [] = [.sl .no (encB b), .sc (.int .i64 (b.length - l2.length : Nat)), .sc (.int .i64 e2)] := two_atF st b l2 e2 _
        simp -dsimp only [go_sem, two_fst, two_snd, SELF]
        refine pwp_draw mixed 94 (.step 0 [] (.step 1 [] (.step 2 [] (.step 3 [] (.step 5 [] (.step 6 [] (.step 7 [] (.step 8 [] (.step 4 [8] (.step 9 [] (.step 10 [] (.step 11 [] (.step 12 [] (.step 14 [] (.step 13 [8] (.step 15 [8] (.step 16 [] (.step 17 [] (.done))))))))))))))))))) (by decide +kernel) (by simp) ?_
        simp -dsimp only [go_sem, z1]
        refine (err_c _ _ st.length _ (two_atR st l2 e2 _)).mono ?_
        rintro r st' ⟨rfl, rfl⟩
        simp -dsimp only [go_sem, z2, z1]
        refine (left_c _ _ st.length _ (two_atR st l2 e2 _)).mono ?_
        rintro r st' ⟨rfl, rfl⟩
        simp -dsimp only [go_sem, z1]
        refine (fLeft_c b l2 e2 (st.length + 1) _ (two_atF st b l2 e2 _) hs2 (by omega)).mono ?_
        rintro r st' ⟨rfl, rfl⟩
        simp -dsimp only [go_sem, z3, x1, z1]
        exact ⟨plan.length - (k + 1), by omega, k + 1, l2, e2, rfl, by omega, hs2, rfl⟩
      simp -dsimp only [go_sem]
      refine (rdBox_c l e st.length _ (two_atR st l e _) (by omega)).mono ?_
      rintro r st' ⟨rfl, rfl⟩
      simp -dsimp only [go_sem, two_fst]
      refine (fBox_c b l e (st.length + 1) _ (two_atF st b l e _) hs (by omega)).mono ?_
      rintro r st' ⟨rfl, rfl⟩
      have hs2 := (readB_suf l e).trans hs
      simp -dsimp only [go_sem, two_snd]
      refine (sameBox_c (readB l e).1 (readB l e).1 _ (readB_wB l e) (readB_wB l e)).mono ?_
      rintro r st' ⟨rfl, rfl⟩
      have SELF : decide ((readB l e).1 = (readB l e).1) = true := decide_eq_true rfl
      generalize hl2 : (readB l e).2.1 = l2 at *
      generalize he2 : (readB l e).2.2 = e2 at *
      have z2 : (e2 != e2) = false := by simp
      have z3 : ((l2.length : Int) != (l2.length : Int)) = false := by simp
      have z1 : (st ++ [rd l2 e2, rf b l2 e2]).getD (st.length + 1) [] = [.sl .no (encB b), .sc (.int .i64 (b.length - l2.length : Nat)), .sc (.int .i64 e2)] := two_atF st b l2 e2 _
      simp -dsimp only [go_sem, two_fst, two_snd, SELF]
      refine pwp_draw mixed 94 (.step 0 [] (.step 1 [] (.step 2 [] (.step 3 [] (.step 5 [] (.step 6 [] (.step 7 [] (.step 8 [] (.step 4 [8] (.step 9 [] (.step 10 [] (.step 11 [] (.step 12 [] (.step 14 [] (.step 13 [8] (.step 15 [8] (.step 16 [] (.step 17 [] (.done))))))))))))))))))) (by decide +kernel) (by simp) ?_
      simp -dsimp only [go_sem, z1]
      refine (err_c _ _ st.length _ (two_atR st l2 e2 _)).mono ?_
      rintro r st' ⟨rfl, rfl⟩
      simp -dsimp only [go_sem, z2, z1]
      refine (left_c _ _ st.length _ (two_atR st l2 e2 _)).mono ?_
      rintro r st' ⟨rfl, rfl⟩
      simp -dsimp only [go_sem, z1]
      refine (fLeft_c b l2 e2 (st.length + 1) _ (two_atF st b l2 e2 _) hs2 (by omega)).mono ?_
      rintro r st' ⟨rfl, rfl⟩
      simp -dsimp only [go_sem, z3, x1, z1]
      exact ⟨plan.length - (k + 1), by omega, k + 1, l2, e2, rfl, by omega, hs2, rfl⟩
    · simp -dsimp only [go_sem]
      refine pwp_of_vc ?_
      have z1 : (st ++ [rd l e, rf b l e]).getD (st.length + 1) [] = [.sl .no (encB b), .sc (.int .i64 (b.length - l.length : Nat)), .sc (.int .i64 e)] := two_atF st b l e _
      simp -dsimp only [go_sem]
      refine pwp_draw mixed 94 (.step 0 [] (.step 2 [] (.step 1 [] (.step 3 [] (.step 4 [] (.step 5 [] (.step 6 [] (.step 8 [] (.step 9 [] (.step 10 [] (.step 11 [] (.step 7 [11] (.step 12 [] (.step 13 [] (.step 14 [] (.done)))))))))))))))) (by decide +kernel) (by simp) ?_
      simp -dsimp only [go_sem]
      refine (left_c _ _ st.length _ (two_atR st l e _)).mono ?_
      rintro r st' ⟨rfl, rfl⟩
      simp -dsimp only [go_sem, z1]
      refine (fLeft_c b l e (st.length + 1) _ (two_atF st b l e _) hs (by omega)).mono ?_
      rintro r st' ⟨rfl, rfl⟩
      have z3 : ((l.length : Int) == (l.length : Int)) = true := by simp
      have z2 : (e == e) = true := by simp
      simp -dsimp only [go_sem, z3, z1]
      refine (err_c _ _ st.length _ (two_atR st l e _)).mono ?_
      rintro r st' ⟨rfl, rfl⟩
      simp -dsimp only [go_sem, z2, z1]
      exact ⟨_, _, rfl⟩
end Go.Pv
end
