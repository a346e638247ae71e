/- Parts of the walk: PvAb, PvAc, M17, M18, M19, C1, C2. -/
import Derived.Test.YtclholhblbelbaaZL
import Derived.Test.YtclholhblbelbaaZE
import Derived.Test.YtclholhblbelbaaZF
set_option linter.unusedVariables false
set_option linter.unusedSimpArgs false
section
/- A slice without room in a box's cell becomes one that may be appended to. -/
set_option linter.unusedVariables false
set_option linter.unusedSimpArgs false
namespace Go.Pv
def PFS.claimBox (i j sz : Nat) (s : PFS) : PFS :=
  match (s.L.getD i []).getD j .junk with
  | .sl .full es => ⟨s.pa, s.L.set i ((s.L.getD i []).set j (.sl (.own s.T.length) es)), s.T ++ [(es.length, sz)], s.st⟩
  | _ => s
theorem weak_claimBox {E : Ent} {s : PFS} (i j sz : Nat) : Weak E s (s.claimBox i j sz) := by
  intro a w g F h
  unfold PFS.claimBox
  split
  · rename_i es he
    have hj : j < (s.L.getD i []).length := by
      refine Nat.lt_of_not_le fun hn => ?_
      rw [List.getD_eq_getElem?_getD, List.getElem?_eq_none hn] at he
      cases he
    have hne0 : s.L.getD i [] ≠ [] := fun e => by rw [e] at hj; simp at hj
    have hil : i < s.L.length := by
      refine Nat.lt_of_not_le fun hn => hne0 ?_
      rw [List.getD_eq_getElem?_getD, List.getElem?_eq_none hn]; rfl
    have hbase : ∀ v, RepF w g F s.T v (.sl .full es) → Rep w g v (.sl .full es) := fun v hv => by cases hv with | base _ _ h => exact h
    have hri : ∀ v, Rep w g v (.sl .full es) → Right w g none sz v es := fun v hv => by
      cases hv with
      | nil t ad ht => exact .inr ⟨_, rfl⟩
      | sl t es b off sz cap cf ht hf hcap hsz hvis hc hr => exact .inr ⟨_, by rw [hf rfl]⟩
    obtain ⟨F', m1, m2, m3, m4, m5⟩ := h.mint es.length sz none (fun b hb => by cases hb)
    have hlast : (s.T ++ [(es.length, sz)]).getD s.T.length (0, 0) = (es.length, sz) := by simp [List.getD_eq_getElem?_getD]
    have hown : ∀ v, Rep w g v (.sl .full es) → RepF w g F' (s.T ++ [(es.length, sz)]) v (.sl (.own s.T.length) es) := fun v hv => by
      refine .own _ _ _ hv.toNo (by simp) (by rw [hlast]; exact Nat.le_refl _) fun _ => ?_
      rw [hlast, m2]
      exact hri _ hv
    have hne : ∀ k, (s.L.set i ((s.L.getD i []).set j (.sl (.own s.T.length) es))).getD k [] ≠ [] → s.L.getD k [] ≠ [] := fun k hk => by
      by_cases e : i = k
      · subst e; exact hne0
      · rwa [getD_set_other _ _ _ _ _ e] at hk
    refine ⟨g, F', m1.ext, m1.store, ⟨by simpa using m1.frame.nl, fun k hk => m1.frame.lo k (hne k hk), fun k hk => m1.frame.apart k (hne k hk), fun k j hk hj => m1.frame.inj k j (hne k hk) (hne j hj), fun k hk => ?_, m1.frame.tlo, fun k b h1 h2 => ⟨(m1.frame.tapart k b h1 h2).1, fun j hj => (m1.frame.tapart k b h1 h2).2 j (hne j hj)⟩, m1.frame.tinj⟩, m1.defers, m1.len, m1.tmps⟩
    have hh := m1.frame.holds k (hne k hk)
    by_cases e : i = k
    · subst e
      rw [getD_set_self _ _ _ _ hil]
      intro q hq
      have hq' : q < (s.L.getD i []).length := by simpa using hq
      obtain ⟨q1, c, q2, q3⟩ := hh q hq'
      refine ⟨q1, c, q2, ?_⟩
      by_cases ej : j = q
      · subst ej
        rw [getD_set_self _ _ _ _ hj]
        refine hown _ ?_
        have q3' : RepF w g F' (s.T ++ [(es.length, sz)]) c (.sl .full es) := by
          have : (s.L.getD i []).getD j .junk = .sl .full es := he
          rw [← this]; exact q3
        cases q3' with | base _ _ h => exact h
      · rw [getD_set_other _ _ _ _ _ ej]; exact q3
    · rw [getD_set_other _ _ _ _ _ e]; exact hh
  · exact ⟨g, F, h⟩
theorem pwp_claimBox {P : Program} {E : Ent} {c : Code} {Q : Exit → PFS → Prop} {s : PFS} (i j sz : Nat) (h : PWP P E c Q (s.claimBox i j sz)) : PWP P E c Q s := pwp_weak (weak_claimBox i j sz) h
def clmB (p : PV) (i j sz : Nat) (pa : List PV) (L : Store) (T : List (Nat × Nat)) (st : Store) : PFS :=
  match p with
  | .sl .full es => ⟨pa, L.set i ((L.getD i []).set j (.sl (.own T.length) es)), T ++ [(es.length, sz)], st⟩
  | _ => ⟨pa, L, T, st⟩
@[go_sem] theorem claimBox_mk {i j sz : Nat} {pa : List PV} {L st : Store} {T : List (Nat × Nat)} : (PFS.mk pa L T st).claimBox i j sz = clmB ((L.getD i []).getD j .junk) i j sz pa L T st := by
  unfold PFS.claimBox clmB
  rfl
@[go_sem] theorem clmB_full {i j sz : Nat} {es pa : List PV} {L st : Store} {T : List (Nat × Nat)} : clmB (.sl .full es) i j sz pa L T st = ⟨pa, L.set i ((L.getD i []).set j (.sl (.own T.length) es)), T ++ [(es.length, sz)], st⟩ := (rfl)
/-- A piece of code up to what is known behind it; then the rest, once. -/
theorem pwp_cut {P : Program} {E : Ent} {x y : Code} {Q : Exit → PFS → Prop} {s : PFS} (R : PFS → Prop) (h1 : PWP P E x (ethen R Q) s) (h2 : ∀ s, R s → PWP P E y Q s) : PWP P E (.seq x y) Q s :=
  pwp_seq (pwp_mono h1 fun e s hq => by
    cases e with
    | normal => exact h2 s hq
    | _ => exact hq)
theorem pwp_cut_mask {P : Program} {E : Ent} {x y : Code} {Q : Exit → PFS → Prop} {s : PFS} (bs : List Bool) (nL nT : Nat) (R : PFS → Prop)
    (h1 : VC P E x (ethen (fun s => s.maskOK bs nL nT ∧ R (s.mask bs nL nT)) Q) s) (h2 : ∀ s, R s → PWP P E y Q s) : PWP P E (.seq x y) Q s :=
  pwp_cut _ (pwp_of_vc h1) fun s h => pwp_weak (weak_mask h.1) (h2 _ h.2)
end Go.Pv
end

section
/- Strings made of bytes. -/
set_option linter.unusedVariables false
set_option linter.unusedSimpArgs false
namespace Go.Pv
theorem bytes_loop (bs : ByteArray) : ∀ (n i : Nat) (r : List UInt8), bs.size - i = n → ByteArray.toList.loop bs i r = r.reverse ++ bs.data.toList.drop i := by
  intro n
  induction n with
  | zero =>
    intro i r h
    have hs : bs.data.toList.length = bs.size := rfl
    rw [ByteArray.toList.loop, if_neg (by omega), List.drop_eq_nil_of_le (by omega), List.append_nil]
  | succ n ih =>
    intro i r h
    have hs : bs.data.toList.length = bs.size := rfl
    have hi : i < bs.data.toList.length := by omega
    have hg : bs.get! i = bs.data.toList[i] := by
      have h3 : i < bs.data.size := by simpa using hi
      show bs.data[i]! = _
      simp [getElem!_pos bs.data i h3]
    rw [ByteArray.toList.loop, if_pos (by omega), ih (i + 1) _ (by omega), List.drop_eq_getElem_cons hi, hg]
    simp
@[go_sem] theorem bytes_toList (l : List UInt8) : (ByteArray.mk l.toArray).toList = l := by
  rw [ByteArray.toList, bytes_loop _ _ 0 [] rfl]; simp
@[go_sem] theorem pvBytes_encB : ∀ l : List UInt8, pvBytes (encB l) = some l
  | [] => rfl
  | c :: l => by
    have h := pvBytes_encB l
    show (match pvBytes (encB l) with | some l => some (UInt8.ofNat (c.toNat : Int).toNat :: l) | none => none) = _
    rw [h]; simp
theorem bytes_append (l m : List UInt8) : (ByteArray.mk l.toArray ++ ByteArray.mk m.toArray : ByteArray) = ByteArray.mk (l ++ m).toArray := by
  apply ByteArray.ext
  rw [ByteArray.data_append]; simp
end Go.Pv
end

section
/- Numbers, intervals, boxes as bytes. No program in it. -/
set_option linter.unusedVariables false
set_option linter.unusedSimpArgs false
namespace Go.Pv
/-- A number that may be below 0, as one that may not. -/
def zig (i : Int) : Nat := if 0 ≤ i then 2 * i.toNat else 2 * (-(i + 1)).toNat + 1
theorem zig_lt {i : Int} (h1 : -9223372036854775808 ≤ i) (h2 : i ≤ 9223372036854775807) : zig i < 18446744073709551616 := by
  unfold zig; split <;> omega
def wordB (w : Nat) (n : Nat) : List UInt8 := (List.range n).map fun i => UInt8.ofNat (w / 2 ^ (8 * i))
def wordsB (l : List UInt64) : List UInt8 := l.flatMap fun w => wordB w.toNat 8
def headN (x : Nm) : Nat := 2 * x.w.length + (if x.neg then 1 else 0)
def numB (x : Nm) : List UInt8 := if rightN x = true then uvar (headN x) ++ (if x.w = [] then [] else uvar (zig x.exp) ++ wordsB x.w) else []
def ivB (a : Ivl) : List UInt8 := if rightI a = true then numB a.lo ++ numB a.hi else []
def boxB (l : List Ivl) : List UInt8 := if rightB l = true then uvar l.length ++ l.flatMap ivB else []
theorem xor_ones (x : Nat) (h : x < 18446744073709551616) : x ^^^ 18446744073709551615 = 18446744073709551615 - x := by
  have e1 : (BitVec.ofNat 64 x ^^^ BitVec.allOnes 64).toNat = x ^^^ 18446744073709551615 := by
    rw [BitVec.toNat_xor, BitVec.toNat_ofNat, Nat.mod_eq_of_lt (by omega : x < 2 ^ 64)]; rfl
  have e2 : (BitVec.ofNat 64 x ^^^ BitVec.allOnes 64).toNat = 18446744073709551615 - x := by
    rw [BitVec.xor_allOnes, BitVec.toNat_not, BitVec.toNat_ofNat, Nat.mod_eq_of_lt (by omega : x < 2 ^ 64)]
  rw [← e1, e2]
theorem wrap_u64_neg {v : Int} (h1 : -18446744073709551616 ≤ v) (h2 : v < 0) : IntKind.u64.wrap v = ((v + 18446744073709551616).toNat : Int) := by
  simp [IntKind.wrap, IntKind.bits, IntKind.signed]
  omega
theorem int_word {v : Int} (h1 : -9223372036854775808 ≤ v) (h2 : v ≤ 9223372036854775807) :
    bXor .u64 (bShl .u64 (IntKind.u64.wrap v) 1) (IntKind.u64.wrap (bShr .i64 v 63)) = (zig v : Int) := by
  have hs : bShr .i64 v 63 = if 0 ≤ v then 0 else -1 := by
    unfold bShr
    show v.fdiv (2 ^ min (63 : Int).toNat 64) = _
    have e : ((2 : Int) ^ min (63 : Int).toNat 64) = 9223372036854775808 := by decide
    rw [e, Int.fdiv_eq_ediv_of_nonneg _ (by decide)]
    split <;> omega
  rw [hs]
  by_cases h : 0 ≤ v
  · obtain ⟨n, rfl⟩ : ∃ n : Nat, v = n := ⟨v.toNat, by omega⟩
    rw [if_pos h, wrap_u64 n (by omega), show (1 : Int) = ((1 : Nat) : Int) from rfl, bShl_u64 n 1 (by omega), show IntKind.u64.wrap 0 = ((0 : Nat) : Int) from rfl, bXor_u64 _ _ (Nat.mod_lt _ (by decide)) (by omega)]
    unfold zig
    rw [if_pos h, Nat.xor_zero]
    omega
  · rw [if_neg h, wrap_u64_neg (by omega) (by omega), show (1 : Int) = ((1 : Nat) : Int) from rfl, bShl_u64 _ 1 (by omega), show IntKind.u64.wrap (-((1 : Nat) : Int)) = ((18446744073709551615 : Nat) : Int) from rfl,
      bXor_u64 _ _ (Nat.mod_lt _ (by decide)) (by decide), xor_ones _ (Nat.mod_lt _ (by decide))]
    unfold zig
    rw [if_neg h]
    omega
theorem int_word2 {v : Int} (h1 : -9223372036854775808 ≤ v) (h2 : v < 0) :
    bOr .u64 (bShl .u64 (IntKind.u64.wrap (IntKind.i64.wrap (0 - IntKind.i64.wrap (v + 1)))) 1) 1 = (zig v : Int) := by
  have e1 : IntKind.i64.wrap (v + 1) = v + 1 := wrap_i64 _ (by omega) (by omega)
  have e2 : IntKind.i64.wrap (0 - (v + 1)) = (((-(v + 1)).toNat : Nat) : Int) := by rw [wrap_i64 _ (by omega) (by omega)]; omega
  rw [e1, e2, wrap_u64 _ (by omega), show (1 : Int) = ((1 : Nat) : Int) from rfl, bShl_u64 _ 1 (by omega), bOr_u64 _ _ (Nat.mod_lt _ (by decide)) (by omega), Nat.or_comm, or_add _ _ 1 (by omega) (by omega)]
  unfold zig
  rw [if_neg (by omega)]
  omega
theorem wordB_succ (w n : Nat) : wordB w (n + 1) = wordB w n ++ [UInt8.ofNat (w / 2 ^ (8 * n))] := by simp [wordB, List.range_succ]
theorem wordB_length (w n : Nat) : (wordB w n).length = n := by simp [wordB]
theorem wordsB_take (l : List UInt64) (i : Nat) (h : i < l.length) : wordsB (l.take (i + 1)) = wordsB (l.take i) ++ wordB (l.getD i 0).toNat 8 := by
  rw [take_snoc l i 0 h]; simp [wordsB]
theorem wordsB_length (l : List UInt64) : (wordsB l).length = 8 * l.length := by
  unfold wordsB
  induction l with
  | nil => rfl
  | cons x l ih => rw [List.flatMap_cons, List.length_append, ih, wordB_length, List.length_cons]; omega
theorem uvar_len10 {v : Nat} (h : v < 18446744073709551616) : (uvar v).length ≤ 10 := uvar_length 9 v (by omega)
end Go.Pv
end

section
/- What is read of bytes. No program in it. -/
set_option linter.unusedVariables false
set_option linter.unusedSimpArgs false
namespace Go.Pv
/-- A number by digits of seven bits, from the digit i on: the value, how many digits in all, the error. -/
def lookF : Nat → Nat → List UInt8 → Nat × Nat × Int
  | i, v, [] => (0, 0, if 10 ≤ i then 11 else 10)
  | i, v, c :: l => if 10 ≤ i then (0, 0, 11) else if 128 ≤ c.toNat then lookF (i + 1) (v + c.toNat % 128 * 2 ^ (7 * i)) l
    else if (c.toNat = 0 ∧ 0 < i) ∨ (i = 9 ∧ 1 < c.toNat) then (0, 0, 11) else (v + c.toNat * 2 ^ (7 * i), i + 1, 0)
/-- A reader reads a number: it, the bytes behind, the error. -/
def readU (l : List UInt8) (e : Int) : Nat × List UInt8 × Int := if e ≠ 0 then (0, l, e) else if (lookF 0 0 l).2.2 = 0 then ((lookF 0 0 l).1, l.drop (lookF 0 0 l).2.1, 0) else (0, l, (lookF 0 0 l).2.2)
theorem drop_cons {α : Type} (l : List α) (i : Nat) (d : α) (h : i < l.length) : l.drop i = l.getD i d :: l.drop (i + 1) := by
  rw [List.drop_eq_getElem_cons h, List.getD_eq_getElem?_getD, List.getElem?_eq_getElem h]; rfl
theorem lookF_ge (i v : Nat) (l : List UInt8) (h : 10 ≤ i) : (lookF i v l) = (0, 0, 11) := by
  cases l with
  | nil => rw [lookF, if_pos h]
  | cons c l => rw [lookF, if_pos h]
/-- The number that zig made one that is not below 0 of. -/
def unzig (v : Nat) : Int := if v % 2 = 0 then ((v / 2 : Nat) : Int) else -((v / 2 : Nat) : Int) - 1
theorem unzig_zig (i : Int) : unzig (zig i) = i := by
  unfold unzig zig
  split <;> split <;> omega
theorem zig_unzig (v : Nat) : zig (unzig v) = v := by
  unfold unzig zig
  split <;> split <;> omega
end Go.Pv
end

section
/- What is read is a word; the sign of what is read. No program in it. -/
set_option linter.unusedVariables false
set_option linter.unusedSimpArgs false
namespace Go.Pv
theorem lookF_lt : ∀ (l : List UInt8) (i v : Nat), i ≤ 9 → v < 2 ^ (7 * i) → (lookF i v l).1 < 18446744073709551616
  | [], i, v, _, _ => by rw [lookF]; simp
  | c :: l, i, v, hi, hv => by
    have hc := c.toNat_lt
    have hp : 2 ^ (7 * (i + 1)) = 128 * 2 ^ (7 * i) := by rw [show 7 * (i + 1) = 7 * i + 7 from by omega, Nat.pow_add, Nat.mul_comm]
    have hm : ∀ d, d ≤ 127 → d * 2 ^ (7 * i) ≤ 127 * 2 ^ (7 * i) := fun d h => Nat.mul_le_mul_right _ h
    rw [lookF, if_neg (by omega)]
    split
    · by_cases h9 : i = 9
      · rw [lookF_ge _ _ _ (by omega)]; simp
      · refine lookF_lt l (i + 1) _ (by omega) ?_
        have := hm (c.toNat % 128) (by omega)
        omega
    · split
      · simp
      · rename_i h1 h2
        simp only
        by_cases h9 : i = 9
        · have h3 : c.toNat ≤ 1 := by omega
          subst h9
          have : c.toNat * 2 ^ (7 * 9) ≤ 1 * 2 ^ (7 * 9) := Nat.mul_le_mul_right _ h3
          omega
        · have h4 : 2 ^ (7 * (i + 1)) ≤ 2 ^ 63 := Nat.pow_le_pow_right (by decide) (by omega)
          have := hm c.toNat (by omega)
          omega
theorem readU_lt (l : List UInt8) (e : Int) : (readU l e).1 < 18446744073709551616 := by
  unfold readU
  split
  · simp
  · split
    · exact lookF_lt l 0 0 (by omega) (by omega)
    · simp
theorem readU_len (l : List UInt8) (e : Int) : (readU l e).2.1.length ≤ l.length := by
  unfold readU
  split
  · exact Nat.le_refl _
  · split
    · simp
    · exact Nat.le_refl _
theorem bXor_i64_0 (x : Nat) (h : x < 9223372036854775808) : bXor .i64 (x : Int) 0 = (x : Int) := by
  unfold bXor
  have e : (BitVec.ofInt IntKind.i64.bits (x : Int) ^^^ BitVec.ofInt IntKind.i64.bits 0).toNat = x := by
    have e1 : BitVec.ofInt IntKind.i64.bits (x : Int) = BitVec.ofNat 64 x := by simp [IntKind.bits]
    have e2 : BitVec.ofInt IntKind.i64.bits 0 = BitVec.ofNat 64 0 := by simp [IntKind.bits]
    rw [e1, e2]
    show (BitVec.ofNat 64 x ^^^ BitVec.ofNat 64 0).toNat = x
    rw [BitVec.toNat_xor, BitVec.toNat_ofNat, BitVec.toNat_ofNat, Nat.mod_eq_of_lt (by omega : x < 2 ^ 64)]; simp
  rw [e]
  exact wrapn_i64 _ h
theorem bXor_i64_m1 (x : Nat) (h : x < 9223372036854775808) : bXor .i64 (x : Int) (-1) = -(x : Int) - 1 := by
  unfold bXor
  have e : (BitVec.ofInt IntKind.i64.bits (x : Int) ^^^ BitVec.ofInt IntKind.i64.bits (-1)).toNat = 18446744073709551615 - x := by
    have e1 : BitVec.ofInt IntKind.i64.bits (x : Int) = BitVec.ofNat 64 x := by simp [IntKind.bits]
    have e2 : BitVec.ofInt IntKind.i64.bits (-1) = BitVec.ofNat 64 18446744073709551615 := rfl
    rw [e1, e2]
    show (BitVec.ofNat 64 x ^^^ BitVec.ofNat 64 18446744073709551615).toNat = _
    rw [BitVec.toNat_xor, BitVec.toNat_ofNat, BitVec.toNat_ofNat, Nat.mod_eq_of_lt (by omega : x < 2 ^ 64), Nat.mod_eq_of_lt (by decide : 18446744073709551615 < 2 ^ 64), xor_ones x (by omega)]
  rw [e]
  simp [IntKind.wrap, IntKind.bits, IntKind.signed]
  omega
theorem int_back (v : Nat) (h : v < 18446744073709551616) :
    bXor .i64 (IntKind.i64.wrap (bShr .u64 (v : Int) 1)) (IntKind.i64.wrap (0 - IntKind.i64.wrap (bAnd .u64 (v : Int) 1))) = unzig v := by
  have e1 : bShr .u64 (v : Int) 1 = ((v / 2 : Nat) : Int) := bShr_u64 v 1 (by omega)
  have e2 : bAnd .u64 (v : Int) 1 = ((v % 2 : Nat) : Int) := by
    rw [show (1 : Int) = ((1 : Nat) : Int) from rfl, bAnd_u64 _ _ h (by omega), show v &&& 1 = v % 2 from Nat.and_two_pow_sub_one_eq_mod v 1]
  rw [e1, e2, wrapn_i64 _ (by omega), wrapn_i64 _ (by omega)]
  unfold unzig
  by_cases hv : v % 2 = 0
  · rw [if_pos hv, hv, show IntKind.i64.wrap (0 - ((0 : Nat) : Int)) = 0 from rfl, bXor_i64_0 _ (by omega)]
  · rw [if_neg hv, show v % 2 = 1 from by omega, show IntKind.i64.wrap (0 - ((1 : Nat) : Int)) = -1 from rfl, bXor_i64_m1 _ (by omega)]
end Go.Pv
end

section
/- code.Int; the document's Uint, Int. -/
set_option linter.unusedVariables false
set_option linter.unusedSimpArgs false
set_option maxRecDepth 100000
namespace Go.Pv
open Go.Proofs
theorem cInt_c (l : List UInt8) (v : Int) (st : Store) (hl : l.length ≤ 100000000000000) (h1 : -9223372036854775808 ≤ v) (h2 : v ≤ 9223372036854775807) : PCalls Try.prog 22 [.sl .no (encB l), .sc (.int .i64 v)] st (fun r st' => r = .sl (.fresh 1) (encB (l ++ uvar (zig v))) ∧ st' = st) := by
  refine pcalls_enter (some 1) Try.func22 rfl fun E => pwp_of_vc ?_
  have hz := zig_lt h1 h2
  simp -dsimp only [go_sem, int_word h1 h2]
  refine (uint_c l (zig v) st (by omega) hz).mono ?_
  rintro r st ⟨rfl, rfl⟩
  simp -dsimp only [go_sem]
theorem rUint_c (l : List UInt8) (v : Nat) (st : Store) (hl : l.length ≤ 100000000000300) (hv : v < 18446744073709551616) : PCalls Try.prog 26 [.sl .no (encB l), .sc (.int .u64 v)] st (fun r st' => r = .sl (.fresh 1) (encB (l ++ uvar v)) ∧ st' = st) := by
  refine pcalls_enter (some 1) Try.func26 rfl fun E => pwp_of_vc ?_
  simp -dsimp only [go_sem]
  refine ⟨by omega, ?_⟩
  have h10 : (uvar v).length ≤ 10 := uvar_len10 hv
  refine pwp_loop_mask [false, true, false, false, false, true] 0 1 (fun n s => ∃ l', n < 18446744073709551616 ∧ l' ++ uvar n = l ++ uvar v ∧ s = ⟨[.junk, .sc (.int .u64 n), .junk, .junk, .junk, .sl (.own 0) (encB l')] ++ List.replicate 19 .junk, [], [(l'.length, 1)], st⟩) v ?_ ?_
  · simp -dsimp only [go_sem]
    exact ⟨l, hv, rfl, rfl⟩
  · rintro n s ⟨l', hv', hlv, rfl⟩
    have hlen : l'.length ≤ l.length + 10 := by have := congrArg List.length hlv; simp at this; omega
    simp -dsimp only [go_sem]
    refine ck (fun h => ?_) (fun h => ?_)
    · have hn : 128 ≤ n := by have := of_decide_eq_true h; omega
      have e1 : bShr .u64 (n : Int) 7 = ((n / 128 : Nat) : Int) := bShr_nat .u64 n 7 (by decide)
      have e2 : bOr .u8 (IntKind.u8.wrap (bAnd .u64 (n : Int) 127)) 128 = ((UInt8.ofNat (n % 128 + 128)).toNat : Int) := by
        rw [show (127 : Int) = ((127 : Nat) : Int) from rfl, bAnd_u64 _ _ (by omega) (by omega), show n &&& 127 = n % 128 from Nat.and_two_pow_sub_one_eq_mod n 7, wrap_u8, bOr_u8_128 _ (by omega)]; simp; omega
      simp -dsimp only [go_sem, e1, e2]
      exact ⟨by omega, n / 128, by omega, l' ++ [UInt8.ofNat (n % 128 + 128)], by omega, by rw [← hlv, uvar_big hn]; simp, by simp⟩
    · have hn : n < 128 := by have := of_decide_eq_false h; omega
      have e2 : IntKind.u8.wrap (n : Int) = ((UInt8.ofNat n).toNat : Int) := by rw [wrap_u8]; simp
      simp -dsimp only [go_sem]
      refine pwp_of_vc ?_
      simp -dsimp only [go_sem, e2]
      refine ⟨by omega, ?_⟩
      rw [← hlv, uvar_small hn]
theorem rInt_c (l : List UInt8) (v : Int) (st : Store) (hl : l.length ≤ 100000000000000) (h1 : -9223372036854775808 ≤ v) (h2 : v ≤ 9223372036854775807) : PCalls Try.prog 27 [.sl .no (encB l), .sc (.int .i64 v)] st (fun r st' => r = .sl (.fresh 1) (encB (l ++ uvar (zig v))) ∧ st' = st) := by
  refine pcalls_enter (some 1) Try.func27 rfl fun E => pwp_of_vc ?_
  have hz := zig_lt h1 h2
  simp -dsimp only [go_sem]
  refine ck (fun h => ?_) (fun h => ?_)
  · have h0 := of_decide_eq_true h
    have e : bShl .u64 (IntKind.u64.wrap v) 1 = (zig v : Int) := by
      obtain ⟨n, rfl⟩ : ∃ n : Nat, v = n := ⟨v.toNat, by omega⟩
      rw [wrap_u64 n (by omega), show (1 : Int) = ((1 : Nat) : Int) from rfl, bShl_u64 n 1 (by omega)]
      unfold zig
      rw [if_pos (by omega)]; omega
    simp -dsimp only [go_sem, e]
    refine (rUint_c l (zig v) st (by omega) hz).mono ?_
    rintro r st ⟨rfl, rfl⟩
    simp -dsimp only [go_sem]
  · have h0 := of_decide_eq_false h
    have e := int_word2 h1 (by omega)
    simp -dsimp only [go_sem, e]
    refine (rUint_c l (zig v) st (by omega) hz).mono ?_
    rintro r st ⟨rfl, rfl⟩
    simp -dsimp only [go_sem]
end Go.Pv
end

section
/- code.Num, the document's Num. -/
set_option linter.unusedVariables false
set_option linter.unusedSimpArgs false
set_option maxRecDepth 100000
namespace Go.Pv
open Go.Proofs
/-- A fresh slice, as one of which nothing is known. -/
theorem PCalls.plain {P : Program} {f : FuncId} {args es : List PV} {st : Store} {sz : Nat} (h : PCalls P f args st (fun r st' => r = .sl (.fresh sz) es ∧ st' = st)) : PCalls P f args st (fun r st' => r = .sl .no es ∧ st' = st) :=
  fun w g vs hs hr => (h w g vs hs hr).mono fun _ _ ⟨v, g', r, st', he, hx, ho, hv, q⟩ => by
    obtain ⟨rfl, rfl⟩ := q
    exact ⟨v, g', .sl .no es, _, he, hx, ho, hv.1, rfl, rfl⟩
theorem rightN_exp {x : Nm} (h : rightN x = true) : -65536 ≤ x.exp ∧ x.exp ≤ 65536 ∧ x.w.length ≤ 64 := by
  unfold rightN at h
  split at h
  · rename_i hw
    simp at h
    rw [hw]; simp; omega
  · simp only [Bool.and_eq_true, decide_eq_true_eq] at h
    omega
set_option maxHeartbeats 1000000 in
theorem cNum_c (l : List UInt8) (x : Nm) (st : Store) (hl : l.length ≤ 10000000000000) (hw : wN x) : PCalls Try.prog 23 [.sl .no (encB l), .agg (encN x)] st (fun r st' => r = .sl (.fresh 1) (encB (l ++ numB x)) ∧ st' = st) := by
  unfold wN at hw
  refine pcalls_enter (some 1) Try.func23 rfl fun E => pwp_of_vc ?_
  simp -dsimp only [go_sem]
  refine (numRight_c x st (by omega)).mono ?_
  rintro r st ⟨rfl, rfl⟩
  simp -dsimp only [go_sem]
  refine ck (fun h => ?_) (fun h => ?_)
  · have hr : rightN x = false := by simpa using h
    simp -dsimp only [go_sem]
    refine (clone_c l st (by omega)).mono ?_
    rintro r st ⟨rfl, rfl⟩
    simp -dsimp only [go_sem]
    rw [numB, if_neg (by simp [hr]), List.append_nil]
  · have hr : rightN x = true := by simpa using h
    obtain ⟨r1, r2, r3⟩ := rightN_exp hr
    have hhead : headN x < 18446744073709551616 := by unfold headN; split <;> omega
    have s1 : bShl .u64 (IntKind.u64.wrap (x.w.length : Int)) 1 = ((2 * x.w.length : Nat) : Int) := by
      rw [wrap_u64 _ (by omega), show (1 : Int) = ((1 : Nat) : Int) from rfl, bShl_u64 _ 1 (by omega)]; omega
    have s2 : bOr .u64 ((2 * x.w.length : Nat) : Int) 1 = ((2 * x.w.length + 1 : Nat) : Int) := by
      rw [show (1 : Int) = ((1 : Nat) : Int) from rfl, bOr_u64 _ _ (by omega) (by omega), Nat.or_comm, or_add _ _ 1 (by omega) (by omega)]
      congr 1; omega
    simp -dsimp only [go_sem, s1]
    have h10 := uvar_len10 hhead
    have hz := zig_lt (i := x.exp) (by omega) (by omega)
    have h11 := uvar_len10 hz
    refine ck (fun hn => ?_) (fun hn => ?_)
    · have hd : 2 * x.w.length + 1 = headN x := by unfold headN; rw [hn]; rfl
      simp -dsimp only [go_sem, s2, hd]
      refine (uint_c l (headN x) st (by omega) hhead).mono ?_
      rintro r st ⟨rfl, rfl⟩
      simp -dsimp only [go_sem]
      refine ck (fun h0 => ?_) (fun h0 => ?_)
      · have hw0 : x.w = [] := List.length_eq_zero_iff.1 (nbeq_t (b := 0) h0)
        simp -dsimp only [go_sem]
        rw [numB, if_pos hr, if_pos hw0, List.append_nil]
      · have hw0 : x.w ≠ [] := fun e => nbeq_f (b := 0) h0 (by rw [e]; rfl)
        simp -dsimp only [go_sem]
        refine (cInt_c (l ++ uvar (headN x)) x.exp st (by simp; omega) (by omega) (by omega)).mono ?_
        rintro r st ⟨rfl, rfl⟩
        simp -dsimp only [go_sem]
        obtain ⟨T0, hT0⟩ : ∃ n, n = l.length + (uvar (headN x)).length := ⟨_, rfl⟩
        obtain ⟨base, hbase⟩ : ∃ b, b = l ++ uvar (headN x) ++ uvar (zig x.exp) := ⟨_, rfl⟩
        have hbl : base.length ≤ l.length + 20 := by rw [hbase]; simp; omega
        have hb2 : base.length = l.length + (uvar (headN x)).length + (uvar (zig x.exp)).length := by rw [hbase]; simp; omega
        simp only [← hbase]
        have hnum : l ++ numB x = base ++ wordsB x.w := by rw [numB, if_pos hr, if_neg hw0, hbase]; simp
        refine pwp_loop_mask [false, false, false, false, false, false, true, false, false, false, false, false, false, false, false, false, false, false, false, false, false, false, false, false, false, false, false, false, false, false, false, false, false, false, false, false, false, true, true, true] 0 2
          (fun n s => ∃ i, n = x.w.length - i ∧ i ≤ x.w.length ∧ s = ⟨List.replicate 6 .junk ++ ([.sl (.own 1) (encB (base ++ wordsB (x.w.take i)))] ++ (List.replicate 30 .junk ++ ([.sl .no (encW x.w), .sc (.int .i64 x.w.length), .sc (.int .i64 (i : Nat))] ++ List.replicate 17 .junk))), [], [(T0, 1), ((base ++ wordsB (x.w.take i)).length, 1)], st⟩) x.w.length ?_ ?_
        · simp -dsimp only [go_sem]
          refine ⟨0, by omega, by omega, ?_⟩
          simp [wordsB, hT0, hb2]
        · rintro n s ⟨i, rfl, hi, rfl⟩
          have hwl := wordsB_length (x.w.take i)
          rw [List.length_take, Nat.min_eq_left hi] at hwl
          simp -dsimp only [go_sem]
          refine ck (fun h1 => ?_) (fun h1 => ?_)
          · have hlt : i < x.w.length := by have := of_decide_eq_true h1; omega
            have g1 := encW_get x.w i hlt
            obtain ⟨w, hwe⟩ : ∃ w, w = (x.w.getD i 0).toNat := ⟨_, rfl⟩
            rw [← hwe] at g1
            have hwlt : w < 18446744073709551616 := by rw [hwe]; exact (x.w.getD i 0).toNat_lt
            have x1 : IntKind.i64.wrap ((i : Int) + 1) = ((i + 1 : Nat) : Int) := by rw [show ((i : Int) + 1) = ((i + 1 : Nat) : Int) from rfl, wrapn_i64 _ (by omega)]
            simp -dsimp only [go_sem, g1]
            refine ⟨⟨by omega, hlt⟩, ?_⟩
            obtain ⟨b2, hb3⟩ : ∃ b2, b2 = base ++ wordsB (x.w.take i) := ⟨_, rfl⟩
            have hb4 : b2.length = base.length + (wordsB (x.w.take i)).length := by rw [hb3]; simp
            simp only [← hb3, ← hb4]
            refine pwp_loop_mask [false, false, false, false, false, false, true, false, true, false, false, false, false, false, false, false, false, false, false, false, false, false, false, false, false, false, false, false, false, false, false, false, false, false, false, false, false, true, true, true, false, false, false, true] 0 2
              (fun n s => ∃ k, n = 8 - k ∧ k ≤ 8 ∧ s = ⟨List.replicate 6 .junk ++ ([.sl (.own 1) (encB (b2 ++ wordB w k)), .junk, .sc (.int .u64 (w : Nat))] ++ (List.replicate 28 .junk ++ ([.sl .no (encW x.w), .sc (.int .i64 x.w.length), .sc (.int .i64 (i : Nat)), .junk, .junk, .junk, .sc (.int .i64 (k : Nat))] ++ List.replicate 13 .junk))), [], [(T0, 1), ((b2 ++ wordB w k).length, 1)], st⟩) 8 ?_ ?_
            · simp -dsimp only [go_sem]
              refine ⟨0, by omega, by omega, ?_⟩
              simp [wordB]
            · rintro n s ⟨k, rfl, hk, rfl⟩
              have hkl := wordB_length w k
              simp -dsimp only [go_sem]
              refine ck (fun h2 => ?_) (fun h2 => ?_)
              · have hk8 : k < 8 := by have := of_decide_eq_true h2; omega
                have m1 : IntKind.i64.wrap (8 * (k : Int)) = ((8 * k : Nat) : Int) := by rw [show 8 * (k : Int) = ((8 * k : Nat) : Int) from by omega, wrapn_i64 _ (by omega)]
                have m2 : IntKind.u8.wrap (bShr .u64 (w : Int) ((8 * k : Nat) : Int)) = ((UInt8.ofNat (w / 2 ^ (8 * k))).toNat : Int) := by
                  rw [bShr_u64 _ _ (by omega), wrap_u8]; simp
                have x2 : IntKind.i64.wrap ((k : Int) + 1) = ((k + 1 : Nat) : Int) := by rw [show ((k : Int) + 1) = ((k + 1 : Nat) : Int) from rfl, wrapn_i64 _ (by omega)]
                simp -dsimp only [go_sem, m1, m2, x2]
                exact ⟨by omega, by omega, 8 - (k + 1), by omega, k + 1, rfl, by omega, by rw [wordB_succ, ← List.append_assoc]; simp [Nat.add_assoc]⟩
              · have hk8 : k = 8 := by have := of_decide_eq_false h2; omega
                simp -dsimp only [go_sem]
                refine pwp_of_vc ?_
                simp -dsimp only [go_sem, x1]
                refine ⟨x.w.length - (i + 1), by omega, i + 1, rfl, by omega, ?_⟩
                rw [hk8, wordsB_take x.w i hlt, ← hwe, hb3]
                simp [Nat.add_assoc]
          · have hge : i = x.w.length := by have := of_decide_eq_false h1; omega
            simp -dsimp only [go_sem]
            refine pwp_of_vc ?_
            simp -dsimp only [go_sem]
            rw [hnum, hge, List.take_length]
    · have hd : 2 * x.w.length = headN x := by unfold headN; rw [hn]; rfl
      simp -dsimp only [go_sem, hd]
      refine (uint_c l (headN x) st (by omega) hhead).mono ?_
      rintro r st ⟨rfl, rfl⟩
      simp -dsimp only [go_sem]
      refine ck (fun h0 => ?_) (fun h0 => ?_)
      · have hw0 : x.w = [] := List.length_eq_zero_iff.1 (nbeq_t (b := 0) h0)
        simp -dsimp only [go_sem]
        rw [numB, if_pos hr, if_pos hw0, List.append_nil]
      · have hw0 : x.w ≠ [] := fun e => nbeq_f (b := 0) h0 (by rw [e]; rfl)
        simp -dsimp only [go_sem]
        refine (cInt_c (l ++ uvar (headN x)) x.exp st (by simp; omega) (by omega) (by omega)).mono ?_
        rintro r st ⟨rfl, rfl⟩
        simp -dsimp only [go_sem]
        obtain ⟨T0, hT0⟩ : ∃ n, n = l.length + (uvar (headN x)).length := ⟨_, rfl⟩
        obtain ⟨base, hbase⟩ : ∃ b, b = l ++ uvar (headN x) ++ uvar (zig x.exp) := ⟨_, rfl⟩
        have hbl : base.length ≤ l.length + 20 := by rw [hbase]; simp; omega
        have hb2 : base.length = l.length + (uvar (headN x)).length + (uvar (zig x.exp)).length := by rw [hbase]; simp; omega
        simp only [← hbase]
        have hnum : l ++ numB x = base ++ wordsB x.w := by rw [numB, if_pos hr, if_neg hw0, hbase]; simp
        refine pwp_loop_mask [false, false, false, false, false, false, true, false, false, false, false, false, false, false, false, false, false, false, false, false, false, false, false, false, false, false, false, false, false, false, false, false, false, false, false, false, false, true, true, true] 0 2
          (fun n s => ∃ i, n = x.w.length - i ∧ i ≤ x.w.length ∧ s = ⟨List.replicate 6 .junk ++ ([.sl (.own 1) (encB (base ++ wordsB (x.w.take i)))] ++ (List.replicate 30 .junk ++ ([.sl .no (encW x.w), .sc (.int .i64 x.w.length), .sc (.int .i64 (i : Nat))] ++ List.replicate 17 .junk))), [], [(T0, 1), ((base ++ wordsB (x.w.take i)).length, 1)], st⟩) x.w.length ?_ ?_
        · simp -dsimp only [go_sem]
          refine ⟨0, by omega, by omega, ?_⟩
          simp [wordsB, hT0, hb2]
        · rintro n s ⟨i, rfl, hi, rfl⟩
          have hwl := wordsB_length (x.w.take i)
          rw [List.length_take, Nat.min_eq_left hi] at hwl
          simp -dsimp only [go_sem]
          refine ck (fun h1 => ?_) (fun h1 => ?_)
          · have hlt : i < x.w.length := by have := of_decide_eq_true h1; omega
            have g1 := encW_get x.w i hlt
            obtain ⟨w, hwe⟩ : ∃ w, w = (x.w.getD i 0).toNat := ⟨_, rfl⟩
            rw [← hwe] at g1
            have hwlt : w < 18446744073709551616 := by rw [hwe]; exact (x.w.getD i 0).toNat_lt
            have x1 : IntKind.i64.wrap ((i : Int) + 1) = ((i + 1 : Nat) : Int) := by rw [show ((i : Int) + 1) = ((i + 1 : Nat) : Int) from rfl, wrapn_i64 _ (by omega)]
            simp -dsimp only [go_sem, g1]
            refine ⟨⟨by omega, hlt⟩, ?_⟩
            obtain ⟨b2, hb3⟩ : ∃ b2, b2 = base ++ wordsB (x.w.take i) := ⟨_, rfl⟩
            have hb4 : b2.length = base.length + (wordsB (x.w.take i)).length := by rw [hb3]; simp
            simp only [← hb3, ← hb4]
            refine pwp_loop_mask [false, false, false, false, false, false, true, false, true, false, false, false, false, false, false, false, false, false, false, false, false, false, false, false, false, false, false, false, false, false, false, false, false, false, false, false, false, true, true, true, false, false, false, true] 0 2
              (fun n s => ∃ k, n = 8 - k ∧ k ≤ 8 ∧ s = ⟨List.replicate 6 .junk ++ ([.sl (.own 1) (encB (b2 ++ wordB w k)), .junk, .sc (.int .u64 (w : Nat))] ++ (List.replicate 28 .junk ++ ([.sl .no (encW x.w), .sc (.int .i64 x.w.length), .sc (.int .i64 (i : Nat)), .junk, .junk, .junk, .sc (.int .i64 (k : Nat))] ++ List.replicate 13 .junk))), [], [(T0, 1), ((b2 ++ wordB w k).length, 1)], st⟩) 8 ?_ ?_
            · simp -dsimp only [go_sem]
              refine ⟨0, by omega, by omega, ?_⟩
              simp [wordB]
            · rintro n s ⟨k, rfl, hk, rfl⟩
              have hkl := wordB_length w k
              simp -dsimp only [go_sem]
              refine ck (fun h2 => ?_) (fun h2 => ?_)
              · have hk8 : k < 8 := by have := of_decide_eq_true h2; omega
                have m1 : IntKind.i64.wrap (8 * (k : Int)) = ((8 * k : Nat) : Int) := by rw [show 8 * (k : Int) = ((8 * k : Nat) : Int) from by omega, wrapn_i64 _ (by omega)]
                have m2 : IntKind.u8.wrap (bShr .u64 (w : Int) ((8 * k : Nat) : Int)) = ((UInt8.ofNat (w / 2 ^ (8 * k))).toNat : Int) := by
                  rw [bShr_u64 _ _ (by omega), wrap_u8]; simp
                have x2 : IntKind.i64.wrap ((k : Int) + 1) = ((k + 1 : Nat) : Int) := by rw [show ((k : Int) + 1) = ((k + 1 : Nat) : Int) from rfl, wrapn_i64 _ (by omega)]
                simp -dsimp only [go_sem, m1, m2, x2]
                exact ⟨by omega, by omega, 8 - (k + 1), by omega, k + 1, rfl, by omega, by rw [wordB_succ, ← List.append_assoc]; simp [Nat.add_assoc]⟩
              · have hk8 : k = 8 := by have := of_decide_eq_false h2; omega
                simp -dsimp only [go_sem]
                refine pwp_of_vc ?_
                simp -dsimp only [go_sem, x1]
                refine ⟨x.w.length - (i + 1), by omega, i + 1, rfl, by omega, ?_⟩
                rw [hk8, wordsB_take x.w i hlt, ← hwe, hb3]
                simp [Nat.add_assoc]
          · have hge : i = x.w.length := by have := of_decide_eq_false h1; omega
            simp -dsimp only [go_sem]
            refine pwp_of_vc ?_
            simp -dsimp only [go_sem]
            rw [hnum, hge, List.take_length]
end Go.Pv
end
