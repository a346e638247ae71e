/- Parts of the walk: PvAo. -/
import Derived.Test.YtelmlebahoeikaaGreatDoorZBD
set_option linter.unusedVariables false
set_option linter.unusedSimpArgs false
section
/- Long drawn statements: the same check of a plan, out of a list of the operations' few facts, that the kernel reckons fast. -/
set_option linter.unusedVariables false
set_option linter.unusedSimpArgs false
namespace Go.Pv
def lstN (n m : Nat) : Array Bool := ((List.range n).map m.testBit).toArray
theorem bit_one (i j : Nat) : (1 <<< i).testBit j = decide (i = j) := by
  rw [Nat.testBit_shiftLeft]
  by_cases h : i = j
  · subst h; simp
  · by_cases h2 : j ≥ i
    · have : j - i ≠ 0 := by omega
      have e : Nat.testBit 1 (j - i) = false := by
        rw [show (1 : Nat) = 2 ^ 0 from rfl, Nat.testBit_two_pow]
        simp; omega
      rw [e]; simp [h]
    · simp [h, h2]
theorem lstN_set (n m i : Nat) : lstN n (m ||| (1 <<< i)) = (lstN n m).setIfInBounds i true := by
  apply Array.ext
  · simp [lstN]
  · intro j h1 h2
    rw [Array.getElem_setIfInBounds (by simpa [lstN] using h1)]
    simp only [lstN, List.getElem_toArray, List.getElem_map, List.getElem_range, Nat.testBit_or, bit_one]
    by_cases h : i = j
    · subst h; simp
    · simp [h]
theorem lstN_zero (n : Nat) : lstN n 0 = Array.replicate n false := by
  apply Array.ext
  · simp [lstN]
  · intro j h1 h2
    simp [lstN]
theorem lstN_getD (n m j : Nat) (d : Bool) : (lstN n m).getD j d = if j < n then m.testBit j else d := by
  by_cases h : j < n
  · rw [if_pos h, Array.getD_eq_getD_getElem?]; simp [lstN, h]
  · rw [if_neg h, Array.getD_eq_getD_getElem?]; simp [lstN, h]
def forceN (n : Nat) (k : Nat → Bool) : Bool := Nat.casesOn (motive := fun _ => Bool) n (k 0) (fun m => k (m + 1))
theorem forceN_eq (n : Nat) (k : Nat → Bool) : forceN n k = k n := by cases n <;> rfl
def amL : List Edge → Nat
  | [] => 0
  | e :: r => if Region.binds .any e then amL r ||| (1 <<< e.on) else amL r
theorem amL_bit : ∀ (l : List Edge) (k : Nat), (amL l).testBit k = true ↔ ∃ e ∈ l, Region.binds .any e = true ∧ e.on = k
  | [], k => by simp [amL]
  | e :: r, k => by
    have ih := amL_bit r k
    rw [amL]
    split
    · rename_i h
      rw [Nat.testBit_or, Bool.or_eq_true, ih, bit_one]
      simp [h]
      constructor
      · rintro (h | h)
        · exact .inr h
        · exact .inl h
      · rintro (h | h)
        · exact .inr h
        · exact .inl h
    · rename_i h
      rw [ih]; simp [h]
theorem sub_bits (a m : Nat) : (a &&& m == a) = true ↔ ∀ k, a.testBit k = true → m.testBit k = true := by
  rw [beq_iff_eq]
  constructor
  · intro h k hk
    have : (a &&& m).testBit k = true := by rw [h]; exact hk
    rw [Nat.testBit_and, Bool.and_eq_true] at this
    exact this.2
  · intro h
    apply Nat.eq_of_testBit_eq
    intro k
    rw [Nat.testBit_and]
    cases hk : a.testBit k with
    | false => rfl
    | true => rw [h k hk]; rfl
structure OpSm where
  j : Nat
  am : Nat
  ld : Bool
  ef : Bool
  deriving DecidableEq
def sumL : Nat → List Oper → List OpSm
  | _, [] => []
  | j, o :: r => ⟨j, amL o.after.toList, loadOp o.op, !quietOp o.op⟩ :: sumL (j + 1) r
theorem sumL_mem : ∀ (l : List Oper) (j : Nat) (x : OpSm), x ∈ sumL j l ↔ ∃ k o, l[k]? = some o ∧ x = ⟨j + k, amL o.after.toList, loadOp o.op, !quietOp o.op⟩
  | [], j, x => by simp [sumL]
  | o :: r, j, x => by
    rw [sumL, List.mem_cons, sumL_mem r (j + 1) x]
    constructor
    · rintro (h | ⟨k, o', h1, h2⟩)
      · exact ⟨0, o, rfl, h⟩
      · exact ⟨k + 1, o', h1, by rw [h2]; congr 1; omega⟩
    · rintro ⟨k, o', h1, h2⟩
      cases k with
      | zero => simp at h1; subst h1; exact .inl h2
      | succ k => exact .inr ⟨k, o', by simpa using h1, by rw [h2]; congr 1; omega⟩
def stepSm (ops : Array Oper) (S : List OpSm) (i : Nat) (ws : List Nat) (m : Nat) : Bool :=
  S.any fun x => x.j == i && !m.testBit i && (x.am &&& m == x.am) && (!x.ef || S.all fun y => !y.ld || !m.testBit y.j || ws.contains y.j || reach ops y.j i)
def fullSm (ops : Array Oper) (S : List OpSm) (N m : Nat) (p : Plan) : Bool :=
  (S.all fun x => m.testBit x.j || !(x.am &&& m == x.am) || p.heads.contains x.j) || (match p with | .step i _ _ => freeB ops N (lstN ops.size m) i | _ => false)
def planSm (ops : Array Oper) (S : List OpSm) (N : Nat) : Plan → Nat → Nat → Bool
  | .done, _, _ => true
  | .step _ _ _, 0, _ => false
  | .step i ws rest, f + 1, m => stepSm ops S i ws m && forceN (m ||| (1 <<< i)) (fun m' => planSm ops S N rest f m' && fullSm ops S N m' rest)
  | .alt a b, f, m => planSm ops S N a f m && planSm ops S N b f m
section
variable {ops : Array Oper} {S : List OpSm} (hS : sumL 0 ops.toList = S) (hn : (S.all fun x => decide (x.am < 2 ^ ops.size)) = true)
include hS
theorem memS (x : OpSm) : x ∈ S ↔ ∃ o, ops[x.j]? = some o ∧ x.am = amL o.after.toList ∧ x.ld = loadOp o.op ∧ x.ef = !quietOp o.op := by
  rw [← hS, sumL_mem]
  constructor
  · rintro ⟨k, o, h1, rfl⟩
    exact ⟨o, by simpa using h1, rfl, rfl, rfl⟩
  · rintro ⟨o, h1, h2, h3, h4⟩
    refine ⟨x.j, o, by simpa using h1, ?_⟩
    cases x; simp at h2 h3 h4 ⊢; exact ⟨h2, h3, h4⟩
include hn in
theorem stepSm_ok {i m : Nat} {ws : List Nat} (h : stepSm ops S i ws m = true) : stepB ops (lstN ops.size m) i ws = true := by
  unfold stepSm at h
  obtain ⟨x, hx, hc⟩ := List.any_eq_true.1 h
  simp only [Bool.and_eq_true, Bool.or_eq_true, Bool.not_eq_true', beq_iff_eq] at hc
  obtain ⟨⟨⟨c1, c2⟩, c3⟩, c4⟩ := hc
  subst c1
  obtain ⟨o, o1, o2, o3, o4⟩ := (memS hS x).1 hx
  have hlt : x.j < ops.size := (Array.getElem?_eq_some_iff.1 o1).1
  have c3' := (sub_bits x.am m).1 (by rw [beq_iff_eq]; exact c3)
  have hlt2 : ∀ k, x.am.testBit k = true → k < ops.size := fun k hk => by
    have h1 := of_decide_eq_true (List.all_eq_true.1 hn x hx)
    refine Nat.lt_of_not_le fun hle => ?_
    have := Nat.testBit_lt_two_pow (Nat.lt_of_lt_of_le h1 (Nat.pow_le_pow_right (by decide) hle))
    rw [this] at hk; cases hk
  unfold stepB
  rw [Bool.and_eq_true]
  refine ⟨?_, ?_⟩
  · have : x.j ∈ Region.ready .any ops (lstN ops.size m) := mem_ready.2 ⟨by rw [lstN_getD, if_pos hlt]; exact c2, o, o1, fun e he hb => by
      have hb' : x.am.testBit e.on = true := by rw [o2]; exact (amL_bit _ _).2 ⟨e, by simpa using he, hb, rfl⟩
      rw [lstN_getD, if_pos (hlt2 _ hb')]
      exact c3' _ hb'⟩
    simpa using this
  · rw [Bool.or_eq_true]
    rcases c4 with c4 | c4
    · left
      unfold isEff
      rw [o1]
      simp only
      rw [← o4, c4]; rfl
    · right
      refine List.all_eq_true.2 fun k hk => ?_
      have hk' := List.mem_range.1 hk
      cases hok : ops[k]? with
      | none => simp
      | some ok =>
        have hy : (⟨k, amL ok.after.toList, loadOp ok.op, !quietOp ok.op⟩ : OpSm) ∈ S := (memS hS _).2 ⟨ok, hok, rfl, rfl, rfl⟩
        have := List.all_eq_true.1 c4 _ hy
        simp only [Bool.or_eq_true, Bool.not_eq_true'] at this ⊢
        rw [lstN_getD, if_pos hk']
        rcases this with ((a | a) | a) | a
        · exact .inr a
        · exact .inl (.inl (.inl a))
        · exact .inl (.inl (.inr a))
        · exact .inl (.inr a)
theorem fullSm_ok {N m : Nat} {p : Plan} (h : fullSm ops S N m p = true) : fullB ops N (lstN ops.size m) p = true := by
  unfold fullSm at h
  unfold fullB
  rw [Bool.or_eq_true] at h ⊢
  rcases h with h | h
  · refine .inr (List.all_eq_true.2 fun j hj => ?_)
    obtain ⟨r1, o, r2, r3⟩ := mem_ready.1 hj
    have hlt : j < ops.size := (Array.getElem?_eq_some_iff.1 r2).1
    have hy : (⟨j, amL o.after.toList, loadOp o.op, !quietOp o.op⟩ : OpSm) ∈ S := (memS hS _).2 ⟨o, r2, rfl, rfl, rfl⟩
    have := List.all_eq_true.1 h _ hy
    simp only [Bool.or_eq_true, Bool.not_eq_true'] at this
    rw [lstN_getD, if_pos hlt] at r1
    rcases this with (a | a) | a
    · rw [r1] at a; cases a
    · have : (amL o.after.toList &&& m == amL o.after.toList) = true := (sub_bits _ _).2 fun k hk => by
        obtain ⟨e, e1, e2, rfl⟩ := (amL_bit _ _).1 hk
        have := r3 e (by simpa using e1) e2
        rw [lstN_getD] at this
        split at this
        · exact this
        · cases this
      rw [a] at this; cases this
    · exact a
  · exact .inl h
include hn in
theorem planSm_ok {N : Nat} : ∀ (p : Plan) (f m : Nat), planSm ops S N p f m = true → planB ops N p f (lstN ops.size m) = true
  | .done, _, _, _ => by simp [planB]
  | .step _ _ _, 0, _, h => by simp [planSm] at h
  | .step i ws rest, f + 1, m, h => by
    rw [planSm, forceN_eq, Bool.and_eq_true, Bool.and_eq_true] at h
    rw [planB, Bool.and_eq_true, Bool.and_eq_true, ← lstN_set]
    exact ⟨stepSm_ok hS hn h.1, planSm_ok rest f _ h.2.1, fullSm_ok hS h.2.2⟩
  | .alt a b, f, m, h => by
    have hb : planSm ops S N a f m = true ∧ planSm ops S N b f m = true := by
      cases f <;> (rw [planSm, Bool.and_eq_true] at h; exact h)
    have h1 := planSm_ok a f m hb.1
    have h2 := planSm_ok b f m hb.2
    cases f <;> (rw [planB, Bool.and_eq_true]; exact ⟨h1, h2⟩)
end
def drawS (ops : Array Oper) (S : List OpSm) (N : Nat) (p : Plan) : Bool := planSm ops S N p ops.size 0 && fullSm ops S N 0 p && S.all fun x => decide (x.am < 2 ^ ops.size)
theorem drawS_ok {ops : Array Oper} {S : List OpSm} (hS : sumL 0 ops.toList = S) {N : Nat} {p : Plan} (h : drawS ops S N p = true) : drawB ops N p = true := by
  unfold drawS at h
  rw [Bool.and_eq_true, Bool.and_eq_true] at h
  unfold drawB
  rw [← lstN_zero, Bool.and_eq_true]
  exact ⟨planSm_ok hS h.2 p _ _ h.1.1, fullSm_ok hS h.1.2⟩
theorem pwp_drawS {P : Program} {E : Ent} {id : Nat} {l : List Oper} {Q : Exit → PFS → Prop} {s : PFS} (hm : P.follows .mixedOrders = true) (N : Nat) (S : List OpSm) (p : Plan) (hS : sumL 0 l = S) (hB : drawS l.toArray S N p = true) (hl : N ≤ s.pa.length)
    (h : OW P l p (Q .normal) s) : PWP P E (.region id l.toArray true) Q s := pwp_draw hm N p (drawS_ok (by simpa using hS) hB) hl h
end Go.Pv
end
