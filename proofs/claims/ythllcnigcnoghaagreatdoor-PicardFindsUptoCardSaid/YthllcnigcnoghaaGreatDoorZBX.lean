/- Parts of the walk: PvAu, N77, N78, N79. -/
import Derived.Test.YthllcnigcnoghaaGreatDoorZBD
import Derived.Test.YthllcnigcnoghaaGreatDoorZBI
import Derived.Test.YthllcnigcnoghaaGreatDoorZAN
import Derived.Test.YthllcnigcnoghaaGreatDoorZBR
import Derived.Test.YthllcnigcnoghaaGreatDoorZBN
import Derived.Test.YthllcnigcnoghaaGreatDoorZBV
set_option linter.unusedVariables false
set_option linter.unusedSimpArgs false
section
/- A slice of larger elements that is handed back to be written: an object of the store, which becomes a plain slice again. -/
namespace Go.Pv
theorem weak_mrms {E : Ent} (s : PFS) (t i len cap : Nat) (ht : s.pa.getD t .junk = .mr i len cap) (hl : 0 < len) : Weak E s { s with pa := s.pa.set t (.ms false i 0 len) } := by
  intro a w g F h
  refine ⟨g, F, h.ext, h.store, h.frame, h.defers, by simp [h.len], fun k hk => ?_⟩
  simp only [List.length_set] at hk ⊢
  by_cases e : t = k
  · subst e
    rw [getD_set_self _ _ _ _ hk]
    have := h.tmps t hk
    rw [ht] at this
    generalize a.tmps.getD t undef = v at this ⊢
    cases this with
    | base _ _ h' => cases h'
    | lmr _ _ _ hi hcap => exact .lms i 0 len cap hi hcap
    | lmr0 _ _ _ => omega
  · rw [getD_set_other _ _ _ _ _ e]
    exact h.tmps k hk
theorem pwp_mrms {P : Program} {E : Ent} {c : Code} {Q : Exit → PFS → Prop} {s : PFS} (t i len cap : Nat) (ht : s.pa.getD t .junk = .mr i len cap) (hl : 0 < len) (h : PWP P E c Q { s with pa := s.pa.set t (.ms false i 0 len) }) : PWP P E c Q s := pwp_weak (weak_mrms s t i len cap ht hl) h
def PV.frzH1 (k sz : Nat) (cs : List PV) : PV → PV
  | .ms true k' off len => if k' = k ∧ off + len * sz ≤ cs.length then .sl .no (chunks sz len (cs.drop off)) else .ms true k' off len
  | p => p
def PV.frzH (k sz : Nat) (cs : List PV) : PV → PV
  | .agg l => .agg (l.map (PV.frzH1 k sz cs))
  | .tup l => .tup (l.map (PV.frzH1 k sz cs))
  | .fn f l m => .fn f (l.map (PV.frzH1 k sz cs)) (m.map (PV.frzH1 k sz cs))
  | p => p.frzH1 k sz cs
structure SolidH (w : World) (g' : Gh) (k sz : Nat) (cs : List PV) : Prop where
  sl : ∀ v off len, k < g'.n → Rep w g' v (.ms true k off len) → off + len * sz ≤ cs.length → Rep w g' v (.sl .no (chunks sz len (cs.drop off)))
section
variable {w : World} {g g' : Gh} {F : Fr} {T : List (Nat × Nat)} {k sz : Nat} {cs : List PV}
theorem RepF.frzH1 {v : Value} {p : PV} (hk : k < g'.n) (hm : ∀ v p, RepF w g F T v p → RepF w g' F T v p) (hz : SolidH w g' k sz cs) (h : RepF w g F T v p) : RepF w g' F T v (p.frzH1 k sz cs) := by
  have h' := hm _ _ h
  cases p with
  | ms gl k' off len =>
    cases gl with
    | false => exact h'
    | true =>
      simp only [PV.frzH1]
      split
      · rename_i e
        obtain ⟨rfl, hle⟩ := e
        cases h' with
        | base _ _ h' => exact .base _ _ (hz.sl _ _ _ hk h' hle)
      · exact h'
  | _ => exact h'
theorem RepF.frzH {v : Value} {p : PV} (hk : k < g'.n) (hm : ∀ v p, RepF w g F T v p → RepF w g' F T v p) (hz : SolidH w g' k sz cs) (h : RepF w g F T v p) : RepF w g' F T v (p.frzH k sz cs) := by
  have gm : ∀ (l : List PV) (j : Nat), (l.map (PV.frzH1 k sz cs)).getD j .junk = (l.getD j .junk).frzH1 k sz cs := fun l j => getD_map_j rfl l j
  cases p with
  | agg l =>
    cases h with
    | base _ _ h =>
      cases h with
      | agg vs cs' hl h => exact .agg vs _ (by simpa using hl) fun j hj => by rw [gm]; exact RepF.frzH1 hk hm hz (.base _ _ (h j (by simpa using hj)))
    | agg vs cs' hl h => exact .agg vs _ (by simpa using hl) fun j hj => by rw [gm]; exact RepF.frzH1 hk hm hz (h j (by simpa using hj))
  | tup l =>
    cases h with
    | base _ _ h =>
      cases h with
      | tup vs cs' hl h => exact .tup vs _ (by simpa using hl) fun j hj => by rw [gm]; exact RepF.frzH1 hk hm hz (.base _ _ (h j (by simpa using hj)))
    | tup vs cs' hl h => exact .tup vs _ (by simpa using hl) fun j hj => by rw [gm]; exact RepF.frzH1 hk hm hz (h j (by simpa using hj))
  | fn f l m =>
    cases h with
    | base _ _ h =>
      cases h with
      | fn f us vs bs cs' hk' hl h0 h =>
        exact .fn f us vs _ _ (by simpa using hk') (by simpa using hl) (fun j hj => by rw [gm]; exact RepF.frzH1 hk hm hz (.base _ _ (h0 j (by simpa using hj)))) fun j hj => by rw [gm]; exact RepF.frzH1 hk hm hz (.base _ _ (h j (by simpa using hj)))
    | fn f us vs bs cs' hk' hl h0 h =>
      exact .fn f us vs _ _ (by simpa using hk') (by simpa using hl) (fun j hj => by rw [gm]; exact RepF.frzH1 hk hm hz (h0 j (by simpa using hj))) fun j hj => by rw [gm]; exact RepF.frzH1 hk hm hz (h j (by simpa using hj))
  | _ => exact RepF.frzH1 hk hm hz h
end
def PFS.freezeH (k sz : Nat) (s : PFS) : PFS := ⟨s.pa.map (PV.frzH k sz (s.st.getD k [])), s.L.map fun l => l.map (PV.frzH k sz (s.st.getD k [])), s.T, s.st.set k []⟩
theorem weak_freezeH {E : Ent} {s : PFS} (k sz : Nat) (hk : k < s.st.length) (h0 : s.st.getD k [] ≠ []) : Weak E s (s.freezeH k sz) := by
  intro a w g F h
  have hkn : k < g.n := by rw [h.store.n]; exact hk
  obtain ⟨k1, k2⟩ := chg_vis w g (g.mu k) (s.st.getD k []).length (.inl (h.store.lt k hkn)) h.store.none
  let g' : Gh := { g with vis := fun c => if c = g.mu k then max (s.st.getD k []).length (g.vis c) else g.vis c }
  obtain ⟨f1, f2⟩ := h.frame.step k1 (fun i hi e => h.frame.apart i hi k hkn e.symm) (fun i b hi hb e => (h.frame.tapart i b hi hb).1 k hkn e.symm)
  have hst : StoreOK w g' (s.st.set k []) := by
    refine ⟨by simpa using h.store.n, h.store.inj, h.store.lt, fun j hj hj0 => ?_, fun j hj => ?_, k2, h.store.tab.mono k1.le⟩
    · by_cases e : k = j
      · subst e; exact absurd (getD_set_nil _ _) hj0
      · rw [getD_set_other _ _ _ _ _ e] at hj0
        have : g'.vis (g.mu j) = g.vis (g.mu j) := if_neg fun e' => e (h.store.inj j k hj hkn e').symm
        exact this.trans (h.store.vis j hj hj0)
    · by_cases e : k = j
      · subst e
        rw [getD_set_nil]
        intro j hj; simp at hj
      · rw [getD_set_other _ _ _ _ _ e]
        exact (h.store.holds j hj).mono rfl fun v p hr => hr.mono k1.le
  have hz : SolidH w g' k sz (s.st.getD k []) := ⟨fun v off len hkg hv hlen => by
    cases hv with
    | gms _ _ _ cap hi hcap =>
      have hh := h.store.holds k hkn
      have hex : ∀ j, j < (s.st.getD k []).length → ∃ c, w.cell? ⟨g.mu k, j, none⟩ = some c ∧ Rep w g c ((s.st.getD k []).getD j .junk) := fun j hj => by
        obtain ⟨_, c, q1, q2⟩ := hh j hj; exact ⟨c, q1, q2⟩
      let cf : Nat → Value := fun j => if hj : j < (s.st.getD k []).length then (hex j hj).choose else undef
      have hcf : ∀ j, j < (s.st.getD k []).length → w.cell? ⟨g.mu k, j, none⟩ = some (cf j) ∧ Rep w g (cf j) ((s.st.getD k []).getD j .junk) := fun j hj => by
        simp only [cf, dif_pos hj]; exact (hex j hj).choose_spec
      have hin : ∀ a b, a < len → b < sz → off + a * sz + b < (s.st.getD k []).length := fun a b ha hb => by have := mul_bound ha hb; omega
      have hfit : ∀ a, a < len → a * sz + sz ≤ len * sz := fun a ha => by
        have : (a + 1) * sz ≤ len * sz := Nat.mul_le_mul_right _ ha
        rw [Nat.add_mul, Nat.one_mul] at this; exact this
      have := Rep.sl (w := w) (g := g') .no (chunks sz len ((s.st.getD k []).drop off)) (g.mu k) off sz cap (fun a b => cf (off + a * sz + b)) rfl (fun h => by cases h) (by rw [chunks_length]; exact hcap)
        (fun a ha => by
          rw [chunks_length] at ha
          rw [chunks_getD _ _ _ _ ha]
          show ((List.drop (a * sz) (List.drop off (s.st.getD k []))).take sz).length = sz
          rw [List.length_take, List.length_drop, List.length_drop]
          have := hfit a ha
          omega)
        (by
          rw [chunks_length]
          show _ ≤ if g.mu k = g.mu k then max (s.st.getD k []).length (g.vis (g.mu k)) else _
          rw [if_pos rfl]
          have := Nat.le_max_left (s.st.getD k []).length (g.vis (g.mu k))
          omega)
        (fun a b ha hb => by
          rw [chunks_length] at ha
          exact (hcf _ (hin a b ha hb)).1)
        (fun a b ha hb => by
          rw [chunks_length] at ha
          rw [chunks_getD _ _ _ _ ha]
          show Rep w g' _ (((List.drop (a * sz) (List.drop off (s.st.getD k []))).take sz).getD b .junk)
          rw [getD_take _ _ _ _ hb]
          simp only [List.getD_eq_getElem?_getD, List.getElem?_drop]
          have := (hcf _ (hin a b ha hb)).2.mono k1.le
          rw [List.getD_eq_getElem?_getD] at this
          rw [show off + (a * sz + b) = off + a * sz + b from by omega]
          exact this)
      rw [chunks_length] at this
      exact this⟩
  have hf : ∀ v p, RepF w g F s.T v p → RepF w g' F s.T v (p.frzH k sz (s.st.getD k [])) := fun v p hp => RepF.frzH hkn (fun _ _ h => f2 _ _ h) hz hp
  have hL : ∀ i, (s.L.map fun l => l.map (PV.frzH k sz (s.st.getD k []))).getD i [] = (s.L.getD i []).map (PV.frzH k sz (s.st.getD k [])) := fun i => getD_map_nil (f := fun l => l.map (PV.frzH k sz (s.st.getD k []))) rfl _ _
  have hLn : ∀ i, (s.L.map fun l => l.map (PV.frzH k sz (s.st.getD k []))).getD i [] ≠ [] → s.L.getD i [] ≠ [] := fun i hi e => hi (by rw [hL, e]; rfl)
  refine ⟨g', F, h.ext.step k1 (fun b hb => ?_), hst, ⟨by simp [PFS.freezeH, f1.nl], fun i hi => f1.lo i (hLn i hi), fun i hi => f1.apart i (hLn i hi), fun i j hi hj => f1.inj i j (hLn i hi) (hLn j hj), fun i hi => ?_, f1.tlo, fun i b hi hb => ⟨(f1.tapart i b hi hb).1, fun j hj => (f1.tapart i b hi hb).2 j (hLn j hj)⟩, f1.tinj⟩, h.defers, by simp [PFS.freezeH, h.len], fun j hj => ?_⟩
  · subst hb
    by_cases hin : k < E.g.n
    · exact .inr ⟨k, hin, (h.ext.le.mu k hin).symm⟩
    · exact .inl (h.ext.new k (by omega) hkn)
  · show Holds w _ (F.lmu i) ((s.L.map fun l => l.map (PV.frzH k sz (s.st.getD k []))).getD i [])
    rw [hL]
    intro j hj
    obtain ⟨q1, c, q2, q3⟩ := h.frame.holds i (hLn i hi) j (by simpa using hj)
    exact ⟨q1, c, q2, by rw [getD_map_j (f := PV.frzH k sz _) rfl]; exact hf _ _ q3⟩
  · simp only [PFS.freezeH, List.length_map] at hj ⊢
    rw [getD_map_j (f := PV.frzH k sz _) rfl]
    exact hf _ _ (h.tmps j hj)
theorem pwp_freezeH {P : Program} {E : Ent} {c : Code} {Q : Exit → PFS → Prop} {s : PFS} (k sz : Nat) (hk : k < s.st.length) (h0 : s.st.getD k [] ≠ [])
    (h : PWP P E c Q (s.freezeH k sz)) : PWP P E c Q s := pwp_weak (weak_freezeH k sz hk h0) h
section
variable {k sz : Nat} {cs : List PV}
@[go_sem] theorem freezeH_mk {k sz : Nat} {pa : List PV} {L st : Store} {T : List (Nat × Nat)} : (PFS.mk pa L T st).freezeH k sz = ⟨pa.map (PV.frzH k sz (st.getD k [])), L.map fun l => l.map (PV.frzH k sz (st.getD k [])), T, st.set k []⟩ := (rfl)
@[go_sem] theorem frzH_junk : PV.frzH k sz cs .junk = .junk := (rfl)
@[go_sem] theorem frzH_sc {v : Value} : PV.frzH k sz cs (.sc v) = (.sc v) := (rfl)
@[go_sem] theorem frzH_lp {i o : Nat} : PV.frzH k sz cs (.lp i o) = (.lp i o) := (rfl)
@[go_sem] theorem frzH_gp {i o : Nat} : PV.frzH k sz cs (.gp i o) = (.gp i o) := (rfl)
@[go_sem] theorem frzH_sl {t : Tag} {es : List PV} : PV.frzH k sz cs (.sl t es) = (.sl t es) := (rfl)
@[go_sem] theorem frzH_ep {es : List PV} {o : Nat} : PV.frzH k sz cs (.ep es o) = (.ep es o) := (rfl)
@[go_sem] theorem frzH_msf {i o n : Nat} : PV.frzH k sz cs (.ms false i o n) = (.ms false i o n) := (rfl)
@[go_sem] theorem frzH_mr {i n c : Nat} : PV.frzH k sz cs (.mr i n c) = (.mr i n c) := (rfl)
@[go_sem] theorem frzH_agg {l : List PV} : PV.frzH k sz cs (.agg l) = .agg (l.map (PV.frzH1 k sz cs)) := (rfl)
@[go_sem] theorem frzH_tup {l : List PV} : PV.frzH k sz cs (.tup l) = .tup (l.map (PV.frzH1 k sz cs)) := (rfl)
@[go_sem] theorem frzH1_junk : PV.frzH1 k sz cs .junk = .junk := (rfl)
@[go_sem] theorem frzH1_sc {v : Value} : PV.frzH1 k sz cs (.sc v) = (.sc v) := (rfl)
@[go_sem] theorem frzH1_sl {t : Tag} {es : List PV} : PV.frzH1 k sz cs (.sl t es) = (.sl t es) := (rfl)
end
theorem frzH_ms {k sz off n : Nat} {cs : List PV} (h : off + n * sz ≤ cs.length) : PV.frzH k sz cs (.ms true k off n) = .sl .no (chunks sz n (cs.drop off)) := if_pos ⟨rfl, h⟩
theorem flatI_quiet (l : List Ivl) : (flat (encIs l)).all PV.quiet = true := List.all_eq_true.2 fun p hp => by
  obtain ⟨x, hx⟩ := mem_flatI hp
  simp only [encI, encN, List.cons_append, List.nil_append, List.mem_cons, List.not_mem_nil, or_false] at hx
  rcases hx with rfl | rfl | rfl | rfl | rfl | rfl <;> rfl
theorem flatI_chunks (l : List Ivl) (R : List PV) : chunks 6 l.length (flat (encIs l) ++ R) = encIs l := by
  have := chunks_flat (sz := 6) (ys := encIs l) R (fun y hy => by
    unfold encIs at hy
    obtain ⟨t, _, rfl⟩ := List.mem_map.1 hy
    exact ⟨rfl, rfl⟩)
  rw [encIs_length] at this
  exact this
theorem flatI_take (l : List Ivl) (R : List PV) (n : Nat) (h : n = l.length) : (flat (encIs l) ++ R).take (n * 6) = flat (encIs l) := take_flat (encIs_cells l) (by rw [h, encIs_length])
theorem roomOK_I {O X : List Ivl} {R : List PV} {cap n by_ : Nat} {id : TypeId} (hn : n = O.length) (hc : n ≤ cap) (hR : R.length = (cap - n) * 6) (hq : R.all PV.quiet = true) (hl : n + X.length ≤ 1000) (hby : by_ ≤ 1000) :
    RoomOK (flat (encIs O) ++ R) n cap (encIs X) ⟨id, 6, by_, true, true, false⟩ := by
  have h1 := flatI_length O
  refine ⟨rfl, by show 0 < 6; decide, by show _ = cap * 6; rw [List.length_append, h1, hR]; omega, by rw [encIs_length]; omega, ?_, ?_, by rw [List.all_append, flatI_quiet, hq]; rfl, flatI_quiet X⟩
  · show (n + (encIs X).length) * by_ ≤ _
    rw [encIs_length]
    have : (n + X.length) * by_ ≤ 1000 * 1000 := Nat.mul_le_mul hl hby
    omega
  · exact encIs_ok X
end Go.Pv
end

section
/- Layer 17: PicardDrawn. -/
set_option maxRecDepth 100000
namespace Go.Pv
open Go.Proofs
end Go.Pv
end

section
/- Small numbers, intervals, boxes, fields out of the deck, more narrowly. -/
set_option maxRecDepth 100000
namespace Go.Pv
open Go.Proofs
def tN (x : Nm) : Prop := smN x ∧ luQ 6 8 (qN x)
def tI (a : Ivl) : Prop := smI a ∧ luI 6 8 a
theorem tN_make {neg : Bool} {w : List UInt64} {e : Int} (hw : bitlen (valW w) ≤ 6) (h1 : -6 ≤ e) (h2 : e ≤ 2) : tN (makeN neg w e).1 := by
  refine ⟨smN_make hw h1 (by omega), ?_⟩
  unfold makeN
  split
  · show luQ 6 8 (qN default); rw [qN_dflt]; exact luQ_zero _ _
  · split
    · show luQ 6 8 (qN default); rw [qN_dflt]; exact luQ_zero _ _
    · have hb := bdV_odd (neg := neg) (m := valW w) (e := e) (n := 6) (k := 6) hw (by omega) (by omega)
      have hf := numV_fits hb (by omega) (by omega)
      rw [(numV_val (canV_odd _ _ _) hf).2, qV_odd]
      have hm := bitlen_le_iff.1 hw
      have hz : ∃ z : Int, (if neg then -(valW w : Int) else (valW w : Int)) = z ∧ z.natAbs < 2 ^ 6 := ⟨_, rfl, by split <;> omega⟩
      obtain ⟨z, hz, hz2⟩ := hz
      rw [hz]
      obtain ⟨d, hd⟩ : ∃ d : Nat, e = -6 + d := ⟨(e + 6).toNat, by omega⟩
      have hd8 : d ≤ 8 := by omega
      refine ⟨z * 2 ^ d, ?_, ?_⟩
      · rw [qM_pow, hd]; rfl
      · rw [Int.natAbs_mul, Int.natAbs_pow, show 6 + 8 = 14 from rfl, show (2 : Nat) ^ 14 = 2 ^ 6 * 2 ^ 8 from rfl]
        exact Nat.mul_le_mul (Nat.le_of_lt hz2) (Nat.pow_le_pow_right (by decide) hd8)
theorem tI_point {x : Nm} (h : tN x) : tI ⟨x, x⟩ := ⟨smI_point h.1, point_right h.1.1, h.2, h.2⟩
theorem tI_betw {x y : Nm} (hx : tN x) (hy : tN y) : tI (betw x y) := by
  refine ⟨smI_betw hx.1 hy.1, betw_right hx.1.1 hy.1.1, ?_⟩
  unfold betw
  split
  · exact ⟨hy.2, hx.2⟩
  · exact ⟨hx.2, hy.2⟩
def okRawT (n : Nat) (D : Int) (m : Mn) : Prop := okKs n D m.ks ∧ tN m.c
theorem okRawT.raw {n : Nat} {D : Int} {m : Mn} (h : okRawT n D m) : okRaw n D m := ⟨h.1, h.2.1⟩
theorem okRawT_tm {n : Nat} {D : Int} {m : Mn} (h : okRawT n D m) (hD : D ≤ 8) : okT n 6 8 D (tmOf m) :=
  ⟨h.1.1, h.1.right hD, h.1.2.2, canV_ofN h.2.1.1, by show luQ 6 8 (qV (ofN m.c)); rw [qV_ofN]; exact h.2.2⟩
theorem smallT_c (l : List UInt64) (i k : Nat) (st : Store) (h : atD st k l i) (hi : i ≤ 1000000000000) : PCalls Tryz.prog 79 [.gp k 0] st (fun r st' => ∃ x, tN x ∧ r = .agg (encN x) ∧ st' = st.set k (dk l (i + 1))) := by
  refine pcalls_enter none Tryz.func79 rfl fun E => pwp_of_vc ?_
  simp -dsimp only [go_sem]
  refine (next_c l i k st h hi).mono ?_
  rintro r st ⟨rfl, rfl⟩
  have hv := (l.getD i 0).toNat_lt
  obtain ⟨v, hve⟩ : ∃ v, v = (l.getD i 0).toNat := ⟨_, rfl⟩
  rw [← hve] at hv
  have s1 : bAnd .u64 (bShr .u64 (v : Int) 1) 63 = ((UInt64.ofNat (v / 2 &&& 63)).toNat : Int) := by
    rw [show (1 : Int) = ((1 : Nat) : Int) from rfl, bShr_u64 _ _ (by omega), show (63 : Int) = ((63 : Nat) : Int) from rfl, bAnd_u64 _ _ (by omega) (by omega), u64_ofNat _ (Nat.lt_of_le_of_lt Nat.and_le_right (by omega))]
  have s2 : IntKind.i64.wrap (IntKind.i64.wrap ((bShr .u64 (v : Int) 7).tmod 9) - 6) = ((v / 128 % 9 : Nat) : Int) - 6 := by
    rw [show (7 : Int) = ((7 : Nat) : Int) from rfl, bShr_u64 _ _ (by omega), show (9 : Int) = ((9 : Nat) : Int) from rfl, tmod_nat, wrapn_i64 _ (by omega), wrap_i64 _ (by omega) (by omega)]
  simp -dsimp only [go_sem, ← hve, s1, s2]
  refine (num_c _ [UInt64.ofNat (v / 2 &&& 63)] _ _ (by simp) (by omega) (by omega)).mono ?_
  rintro r st' ⟨rfl, rfl⟩
  simp -dsimp only [go_sem]
  refine ⟨_, tN_make ?_ (by omega) (by omega), rfl⟩
  have e : valW [UInt64.ofNat (v / 2 &&& 63)] = v / 2 &&& 63 := by
    show (UInt64.ofNat (v / 2 &&& 63)).toNat + 18446744073709551616 * 0 = _
    rw [u64_ofNat _ (Nat.lt_of_le_of_lt Nat.and_le_right (by omega))]
    omega
  rw [e, bitlen_le_iff]
  exact Nat.lt_of_le_of_lt Nat.and_le_right (by decide)
theorem smallIvT_c (l : List UInt64) (i k : Nat) (st : Store) (h : atD st k l i) (hi : i ≤ 900000000000) : PCalls Tryz.prog 41 [.gp k 0] st (fun r st' => ∃ x j, tI x ∧ i ≤ j ∧ j ≤ i + 3 ∧ r = .agg (encI x) ∧ st' = st.set k (dk l j)) := by
  refine pcalls_enter none Tryz.func41 rfl fun E => pwp_of_vc ?_
  simp -dsimp only [go_sem]
  refine (yes_c l i k 3 st h (by omega) (by omega) (by omega)).mono ?_
  rintro r st' ⟨rfl, rfl⟩
  have h1 := h.set (i + 1)
  have h2 := h.set (i + 2)
  simp -dsimp only [go_sem]
  refine ck (fun hy => ?_) (fun hy => ?_)
  · simp -dsimp only [go_sem]
    refine (smallT_c l (i + 1) k _ h1 (by omega)).mono ?_
    rintro r st' ⟨x, hx, rfl, rfl⟩
    simp -dsimp only [go_sem, set_dk]
    refine (point_c x _).mono ?_
    rintro r st' ⟨rfl, rfl⟩
    simp -dsimp only [go_sem]
    exact ⟨⟨x, x⟩, i + 2, tI_point hx, by omega, by omega, rfl, rfl⟩
  · simp -dsimp only [go_sem]
    refine (smallT_c l (i + 1) k _ h1 (by omega)).mono ?_
    rintro r st' ⟨x, hx, rfl, rfl⟩
    simp -dsimp only [go_sem, set_dk]
    refine (smallT_c l (i + 2) k _ h2 (by omega)).mono ?_
    rintro r st' ⟨y, hy, rfl, rfl⟩
    simp -dsimp only [go_sem, set_dk]
    refine (between_c x y _ (rightN_wN hx.1.1) (rightN_wN hy.1.1)).mono ?_
    rintro r st' ⟨rfl, rfl⟩
    simp -dsimp only [go_sem]
    exact ⟨betw x y, i + 3, tI_betw hx hy, by omega, by omega, rfl, rfl⟩
theorem monosT_c (l : List UInt64) (i k n M D : Nat) (st : Store) (h : atD st k l i) (hi : i ≤ 800000000000) (hn : 1 ≤ n) (hn2 : n ≤ 1000) (hM : M ≤ 20) (hD : D ≤ 8) : PCalls Tryz.prog 58 [.gp k 0, .sc (.int .i64 n), .sc (.int .i64 M), .sc (.int .i64 D)] st
    (fun r st' => ∃ p j, p.length ≤ M ∧ (∀ m ∈ p, okRawT n D m) ∧ i ≤ j ∧ j ≤ i + 1 + 10 * M ∧ r = .sl .no (encPs p) ∧ st' = st.set k (dk l j)) := by
  refine pcalls_enter none Tryz.func58 rfl fun E => pwp_of_vc ?_
  have x1 : IntKind.i64.wrap ((M : Int) + 1) = ((M + 1 : Nat) : Int) := by
    rw [show ((M : Int) + 1) = ((M + 1 : Nat) : Int) from rfl, wrapn_i64 _ (by omega)]
  simp -dsimp only [go_sem, x1]
  refine (deckN_c l i k (M + 1) st h (by omega) (by omega) (by omega)).mono ?_
  rintro r st' ⟨rfl, rfl⟩
  have hnx := nx_lt l i (n := M + 1) (by omega)
  simp -dsimp only [go_sem]
  refine pwp_claim 9 4 ?_
  simp -dsimp only [go_sem]
  refine pwp_loop_mask [true, true, false, true, false, false, false, false, false, true, true] 0 1 (fun m s => ∃ (p : List Mn) (c j : Nat), m = c ∧ p.length + c ≤ M ∧ (∀ m ∈ p, okRawT n D m) ∧ i ≤ j ∧ j + 10 * c ≤ i + 1 + 10 * M ∧
    s = ⟨[.gp k 0, .sc (.int .i64 n), .junk, .sc (.int .i64 D), .junk, .junk, .junk, .junk, .junk, .sl (.own 0) (encPs p), .sc (.int .i64 (c : Nat))] ++ List.replicate 19 .junk, [], [(p.length, 4)], st.set k (dk l j)⟩) (nx l i (M + 1)) ?_ ?_
  · simp -dsimp only [go_sem]
    exact ⟨[], nx l i (M + 1), i + 1, rfl, by simp; omega, (fun m hm => by cases hm), by omega, by omega, rfl⟩
  · rintro m s ⟨p, c, j, hm, hc, hp, hj1, hj2, rfl⟩
    subst hm
    simp -dsimp only [go_sem]
    refine ck (fun h1 => ?_) (fun h1 => ?_)
    · have hpos : 0 < m := by have := of_decide_eq_true h1; omega
      have x2 : IntKind.i64.wrap ((m : Int) - 1) = ((m - 1 : Nat) : Int) := by rw [wrap_i64 _ (by omega) (by omega)]; omega
      simp -dsimp only [go_sem]
      refine (smallT_c l j k _ (h.set j) (by omega)).mono ?_
      rintro r st' ⟨x, hx, rfl, rfl⟩
      simp -dsimp only [go_sem, set_dk]
      refine (powers_c l (j + 1) k n D _ (h.set (j + 1)) (by omega) hn hn2 hD).mono ?_
      rintro r st' ⟨ks, j', hks, hj3, hj4, rfl, rfl⟩
      have hsn : encPs p ++ [PV.agg [.sc (.bool x.neg), .sc (.int .i64 x.exp), .sl .no (encW x.w), .sl .no (encZ ks)]] = encPs (p ++ [⟨x, ks⟩]) := encPs_snoc p ⟨x, ks⟩
      simp -dsimp only [go_sem, set_dk, x2, hsn]
      refine ⟨⟨by omega, by omega⟩, m - 1, by omega, p ++ [⟨x, ks⟩], m - 1, j', rfl, by simp; omega, fun y hy => ?_, by omega, by omega, by simp⟩
      rcases List.mem_append.1 hy with hy | hy
      · exact hp y hy
      · rw [List.mem_singleton.1 hy]; exact ⟨hks, hx⟩
    · have hz : m = 0 := by have := of_decide_eq_false h1; omega
      subst hz
      simp -dsimp only [go_sem]
      refine pwp_plain [false, false, false, false, false, false, false, false, false, true] (pwp_of_vc ?_)
      simp -dsimp only [go_sem]
      exact ⟨p, j, by omega, hp, by omega, by omega, rfl, rfl⟩
theorem polyT_c (l : List UInt64) (i k n M D : Nat) (st : Store) (h : atD st k l i) (hi : i ≤ 800000000000) (hn : 1 ≤ n) (hn4 : n ≤ 4) (hM : M ≤ 20) (hD : D ≤ 8) : PCalls Tryz.prog 48 [.gp k 0, .sc (.int .i64 n), .sc (.int .i64 M), .sc (.int .i64 D)] st
    (fun r st' => ∃ p j, okPolyT n M D p ∧ i ≤ j ∧ j ≤ i + 1 + 10 * M ∧ r = .sl .no (encPs p) ∧ st' = st.set k (dk l j)) := by
  refine pcalls_enter none Tryz.func48 rfl fun E => pwp_of_vc ?_
  simp -dsimp only [go_sem]
  refine (monosT_c l i k n M D st h hi hn (by omega) hM hD).mono ?_
  rintro r st' ⟨p, j, hpl, hp, hj1, hj2, rfl, rfl⟩
  simp -dsimp only [go_sem]
  refine (refMake_c p n D _ hn hn4 (by omega) (by omega) (fun m hm => (hp m hm).raw)).mono ?_
  rintro r st' ⟨rfl, rfl⟩
  have hok : ∀ t ∈ p.map tmOf, okT n 6 8 D t := fun t ht => by
    obtain ⟨m, hm, rfl⟩ := List.mem_map.1 ht
    exact okRawT_tm (hp m hm) (by omega)
  obtain ⟨g1, g2, g3, g4⟩ := gath_right (n := n) (L := 6) (U := 8) (D := D) (ts := p.map tmOf) (by rw [List.length_map]; omega) hn hn4 (by rw [List.length_map]; omega) hok
  rw [List.length_map] at g3 g4
  generalize (gathL (gatT (p.map tmOf) []) []).1 = P at *
  generalize (gathL (gatT (p.map tmOf) []) []).2 = e at *
  simp -dsimp only [go_sem]
  exact ⟨P, j, ⟨g2, by omega, fun m hm => by
    obtain ⟨a1, a2, a3, a4, a5, a6⟩ := g3 m hm
    exact ⟨a1, a2, a3, a4, a5, a6.up (by omega)⟩⟩, hj1, hj2, rfl, rfl⟩
theorem deckFieldT_c (l : List UInt64) (i k n M D : Nat) (st : Store) (h : atD st k l i) (hi : i ≤ 700000000000) (hn : 1 ≤ n) (hn4 : n ≤ 4) (hM : M ≤ 20) (hD : D ≤ 8) : PCalls Tryz.prog 14 [.gp k 0, .sc (.int .i64 n), .sc (.int .i64 M), .sc (.int .i64 D)] st
    (fun r st' => ∃ f j, okFieldT n M D f ∧ i ≤ j ∧ j ≤ i + 1000 ∧ r = .sl .no (encFs f) ∧ st' = st.set k (dk l j)) := by
  refine pcalls_enter none Tryz.func14 rfl fun E => pwp_of_vc ?_
  simp -dsimp only [go_sem]
  refine pwp_claim 9 1 ?_
  simp -dsimp only [go_sem]
  refine pwp_loop_mask [true, true, true, true, false, false, false, false, false, true, true] 0 1 (fun m s => ∃ (f : List (List Mn)) (j : Nat), m = n - f.length ∧ f.length ≤ n ∧ (∀ p ∈ f, okPolyT n M D p) ∧ i ≤ j ∧ j ≤ i + 250 * f.length ∧
    s = ⟨[.gp k 0, .sc (.int .i64 n), .sc (.int .i64 M), .sc (.int .i64 D), .junk, .junk, .junk, .junk, .junk, .sl (.own 0) (encFs f), .sc (.int .i64 (f.length : Nat))] ++ List.replicate 14 .junk, [], [(f.length, 1)], st.set k (dk l j)⟩) n ?_ ?_
  · simp -dsimp only [go_sem]
    refine ⟨[], i, by simp, by simp, (fun m hm => by cases hm), by omega, by omega, ?_⟩
    rw [h.same]; rfl
  · rintro m s ⟨f, j, rfl, hf, hp, hj1, hj2, rfl⟩
    simp -dsimp only [go_sem]
    refine ck (fun h1 => ?_) (fun h1 => ?_)
    · have hlt : f.length < n := by have := of_decide_eq_true h1; omega
      have x2 := succW f.length (by omega)
      simp -dsimp only [go_sem]
      refine (polyT_c l j k n M D _ (h.set j) (by omega) hn hn4 hM hD).mono ?_
      rintro r st' ⟨p, j', hpo, hj3, hj4, rfl, rfl⟩
      simp -dsimp only [go_sem, set_dk, x2]
      refine ⟨⟨by omega, by omega⟩, n - (f.length + 1), by omega, f ++ [p], j', by simp, by simp; omega, fun y hy => ?_, by omega, by simp; omega, by simp⟩
      rcases List.mem_append.1 hy with hy | hy
      · exact hp y hy
      · rw [List.mem_singleton.1 hy]; exact hpo
    · have hge : f.length = n := by have := of_decide_eq_false h1; omega
      simp -dsimp only [go_sem]
      refine pwp_plain [false, false, false, false, false, false, false, false, false, true] (pwp_of_vc ?_)
      simp -dsimp only [go_sem]
      exact ⟨f, j, ⟨hge, hp⟩, by omega, by omega, rfl, rfl⟩
end Go.Pv
end

section
/- Layer 17: PicardFinds. -/
set_option maxRecDepth 100000
namespace Go.Pv
open Go.Proofs
theorem flatI_room (O X : List Ivl) (R : List PV) : flat (encIs O) ++ (flat (encIs X) ++ R) = flat (encIs (O ++ X)) ++ R := by
  have e : encIs (O ++ X) = encIs O ++ encIs X := by simp [encIs]
  rw [e, flat_append, List.append_assoc]
theorem smallBoxW_c (l : List UInt64) (i k n : Nat) (st : Store) (h : atD st k l i) (hi : i ≤ 800000000000) (hn1 : 1 ≤ n) (hn : n ≤ 100) : PCalls Tryz.prog 15 [.gp k 0, .sc (.int .i64 n)] st (fun r st' => ∃ b j R, b.length = n ∧ (∀ m, m < b.length → tI (b.getD m default)) ∧ i ≤ j ∧ j ≤ i + 3 * n ∧ r = .ms true st.length 0 n ∧ st' = st.set k (dk l j) ++ [flat (encIs b) ++ R]) := by
  refine pcalls_enter none Tryz.func15 rfl fun E => pwp_of_vc ?_
  simp -dsimp only [go_sem]
  refine pwp_moreL ?_
  refine pwp_claimR 5 0 (by simp) (by rfl) ?_
  simp -dsimp only [go_sem]
  refine pwp_loop_maskP [true, true, false, false, false, true, true] 1 0 (fun m s => ∃ (b : List Ivl) (j cap : Nat) (R : List PV), m = n - b.length ∧ b.length ≤ n ∧ (∀ m, m < b.length → tI (b.getD m default)) ∧ i ≤ j ∧ j ≤ i + 3 * b.length ∧ R.length = (cap - b.length) * 6 ∧ b.length ≤ cap ∧ R.all PV.quiet = true ∧
    s = ⟨[.gp k 0, .sc (.int .i64 n), .junk, .junk, .junk, .mr 0 b.length cap, .sc (.int .i64 b.length)] ++ List.replicate 11 .junk, [flat (encIs b) ++ R], [], st.set k (dk l j)⟩) n ?_ ?_
  · simp -dsimp only [go_sem]
    refine ⟨[], i, 0, [], by simp, by simp, fun m hm => by simp at hm, by omega, by omega, rfl, Nat.le_refl _, rfl, ?_⟩
    rw [h.same]; rfl
  · rintro m s ⟨b, j, cap, R, rfl, hb, hr, hj, hj2, r1, r2, r3, rfl⟩
    have hall : (flat (encIs b) ++ R).all PV.quiet = true := by rw [List.all_append, flatI_quiet, r3]; rfl
    refine pwp_seq (pwp_of_vc ?_)
    simp -dsimp only [go_sem]
    refine ck (fun h1 => ?_) (fun h1 => ?_)
    · have hlt : b.length < n := by have := of_decide_eq_true h1; omega
      have x1 := succW b.length (by omega)
      simp -dsimp only [go_sem]
      refine pwp_seq (pwp_block ?_)
      refine pwp_room [false, false, false, false, true, false] ?_
      simp -dsimp only [go_sem]
      refine (smallIvT_c l j k _ (h.set j) (by omega)).mono ?_
      rintro r st' ⟨x, j', hx, hj3, hj4, rfl, rfl⟩
      have hone : [PV.agg [.sc (.bool x.lo.neg), .sc (.int .i64 x.lo.exp), .sl .no (encW x.lo.w), .sc (.bool x.hi.neg), .sc (.int .i64 x.hi.exp), .sl .no (encW x.hi.w)]] = encIs [x] := rfl
      have t1 := flatI_take b R b.length rfl
      simp -dsimp only [go_sem, set_dk, hone, t1, flatI_room]
      refine ⟨roomOK_I rfl r2 r1 r3 (by show b.length + 1 ≤ 1000; omega) (by omega), ?_⟩
      intro c1 R1 g1 g2 g3
      have hall2 : (flat (encIs (b ++ [x])) ++ R1).all PV.quiet = true := by rw [List.all_append, flatI_quiet, g3]; rfl
      have hlims := quiet_lims (a := 1) (b := 0) hall2
      refine pwp_of_vc ?_
      simp -dsimp only [go_sem, x1]
      refine ⟨hlims, n - (b.length + 1), by omega, b ++ [x], j', c1, R1, by simp, by simp; omega, fun m hm => ?_, by omega, by simp; omega, by rw [g2]; simp, by simpa using g1, g3, by simp⟩
      by_cases hm2 : m < b.length
      · rw [snocD _ _ _ _ hm2]; exact hr m hm2
      · have e : m = b.length := by simp at hm; omega
        rw [e, snocD']; exact hx
    · have hge : b.length = n := by have := of_decide_eq_false h1; omega
      simp -dsimp only [go_sem]
      refine pwp_mrms 5 0 b.length cap (by rfl) (by omega) ?_
      simp -dsimp only [go_sem]
      refine pwp_give 0 (by simp only [freezeOK_mk]; exact quiet_fz hall) ?_ (pwp_of_vc ?_)
      · intro e
        have := congrArg List.length e
        simp [flatI_length] at this
        omega
      simp -dsimp only [go_sem]
      refine ⟨b, j, R.map PV.forget2, hge, hr, hj, by omega, ?_, ?_⟩
      · rw [hge]; simp
      · simp [flatI_forget]
theorem flatI_dropN (O : List Ivl) (k : Nat) : (flat (encIs O)).drop (k * 6) = flat (encIs (O.drop k)) := by
  induction k generalizing O with
  | zero => simp
  | succ k ih =>
    cases O with
    | nil => simp [encIs, flat]
    | cons o r =>
      have e : flat (encIs (o :: r)) = encI o ++ flat (encIs r) := rfl
      rw [e, show (k + 1) * 6 = 6 + k * 6 from by omega, ← List.drop_drop, List.drop_append_of_le_length (by simp [encI, encN]), show (encI o).drop 6 = [] from rfl, List.nil_append, ih r, List.drop_succ_cons]
theorem flatI_loR (O : List Ivl) (R : List PV) (k : Nat) (hk : k < O.length) : ((flat (encIs O) ++ R).drop (k * 6)).take 3 = encN (O.getD k default).lo := by
  have h := flatI_length O
  have hc : O.drop k = O.getD k default :: O.drop (k + 1) := by rw [List.drop_eq_getElem_cons hk]; simp [List.getD_eq_getElem?_getD, hk]
  rw [List.drop_append_of_le_length (by omega), flatI_dropN, hc]
  rfl
theorem flatI_hiR (O : List Ivl) (R : List PV) (k : Nat) (hk : k < O.length) : ((flat (encIs O) ++ R).drop (k * 6 + 3)).take 3 = encN (O.getD k default).hi := by
  have h := flatI_length O
  have hc : O.drop k = O.getD k default :: O.drop (k + 1) := by rw [List.drop_eq_getElem_cons hk]; simp [List.getD_eq_getElem?_getD, hk]
  rw [← List.drop_drop, List.drop_append_of_le_length (by omega), flatI_dropN, hc]
  rfl
theorem flatI_setR (b : List Ivl) (R : List PV) (k : Nat) (m : Nm) (hk : k < b.length) : over (flat (encIs b) ++ R) (k * 6 + 3) (encN m) = flat (encIs (b.set k ⟨(b.getD k default).lo, m⟩)) ++ R := by
  have h := flatI_length b
  have f := flatI_hi b k m hk
  rw [← f]
  unfold over
  rw [List.take_append_of_le_length (by omega), List.drop_append_of_le_length (by simp [encN]; omega)]
  simp only [List.append_assoc]
theorem right_inj {x y : Nm} (hx : rightN x = true) (hy : rightN y = true) (h : qN x = qN y) : x = y := by
  have e : ofN x = ofN y := canV_inj (canV_ofN hx) (canV_ofN hy) h
  have a := numV_ofN hx
  rw [e, numV_ofN hy] at a
  exact (congrArg Prod.fst a).symm
theorem lu_gap {L U V : Nat} {x y : Rat} (hx : luQ L U x) (hy : luQ L V y) (h : x < y) : x + p2 (-(L : Int)) ≤ y := by
  obtain ⟨z, rfl, _⟩ := hx
  obtain ⟨w, rfl, _⟩ := hy
  rw [p2_qM, ← qM_add, qM_le]
  have := qM_lt.1 h
  omega
theorem one_lu (L : Nat) : luQ L 0 (qN ⟨false, 0, [1]⟩) := luQ_int (z := 1) (n := 0) (by decide) L
set_option maxHeartbeats 4000000 in
theorem picardFinds_c (l : List UInt64) : PCalls Tryz.prog 7 [.sl .no (encW l)] [] (fun r st' => r = .sc (.bool true)) := by
  refine pcalls_enter none Tryz.func7 rfl fun E => pwp_of_vc ?_
  simp -dsimp only [go_sem]
  refine (known17_c _).mono ?_
  rintro r st ⟨rfl, rfl⟩
  simp -dsimp only [go_sem]
  refine (deckOf_c l _).mono ?_
  rintro r st ⟨rfl, rfl⟩
  simp -dsimp only [go_sem]
  refine (dim_c l 0 0 [dk l 0] rfl (by omega)).mono ?_
  rintro r st ⟨n, hn1, hn2, rfl, rfl⟩
  simp -dsimp only [go_sem]
  refine (deckFieldT_c l 1 0 n 3 3 [dk l 1] rfl (by omega) hn1 hn2 (by omega) (by omega)).mono ?_
  rintro r st ⟨f, j1, hf, hj1, hj2, rfl, rfl⟩
  simp -dsimp only [go_sem]
  refine (smallBoxW_c l j1 0 n [dk l j1] rfl (by omega) hn1 (by omega)).mono ?_
  rintro r st ⟨b, j2, R, hbl, hb, hj3, hj4, rfl, rfl⟩
  simp -dsimp only [go_sem]
  refine (prec_c l j2 0 [dk l j2, flat (encIs b) ++ R] rfl (by omega)).mono ?_
  rintro r st ⟨p, j3, hp1, hp2, hj5, hj6, rfl, rfl⟩
  have wf := hf.ok.wF hn2 (by omega)
  have hpp : precF (p : Int) = true := by unfold precF; simp; omega
  simp -dsimp only [go_sem]
  refine pwp_loop_mask [false, false, false, false, true, true, true, true, true] 0 0 (fun m s => ∃ (i : Nat) (x : List Ivl), m = n - i ∧ i ≤ n ∧ x.length = n ∧ (∀ m, m < n → luI 6 9 (x.getD m default)) ∧ (∀ m, m < i → qN (x.getD m default).lo + p2 (-6) ≤ qN (x.getD m default).hi) ∧ (∀ m, i ≤ m → m < n → tI (x.getD m default)) ∧
    s = ⟨[.junk, .junk, .junk, .junk, .sc (.int .i64 (n : Nat)), .sl .no (encFs f), .ms true 1 0 n, .sc (.int .i64 (p : Nat)), .sc (.int .i64 (i : Nat))] ++ List.replicate 62 .junk, [], [], [dk l j3, flat (encIs x) ++ R]⟩) n ?_ ?_
  · simp -dsimp only [go_sem]
    exact ⟨0, b, by omega, by omega, hbl, fun m hm => (hb m (by omega)).2.mono (by omega) (by omega), fun m hm => absurd hm (by omega), fun m _ hm => hb m (by omega), rfl⟩
  · rintro m s ⟨i, x, rfl, hi, hxl, hlu, hw, ht, rfl⟩
    simp -dsimp only [go_sem]
    refine ck (fun h1 => ?_) (fun h1 => ?_)
    · have hlt : i < n := by have := of_decide_eq_true h1; omega
      have x1 := succW i (by omega)
      have q1 := flatI_loR x R i (by omega)
      have q2 := flatI_hiR x R i (by omega)
      have q3 := flatI_length x
      have hti := ht i (Nat.le_refl _) hlt
      have hri := hti.2.1
      have rr := rightI_right hri
      have wlo := rightN_wN rr.1
      have whi := rightN_wN rr.2.1
      simp -dsimp only [go_sem]
      refine pwp_draw mixed 71 (.step 0 [] (.step 1 [] (.step 2 [] (.step 3 [] (.step 4 [] (.step 5 [] (.step 6 [] (.step 7 [] (.step 8 [] (.step 9 [] (.step 10 [] (.done)))))))))))) (by decide +kernel) (by simp) ?_
      simp -dsimp only [go_sem, q1, q2]
      refine ⟨⟨by omega, by omega⟩, by omega, ⟨by omega, by omega⟩, by omega, ?_⟩
      refine (numSame_c (x.getD i default).lo (x.getD i default).hi _ wlo whi).mono ?_
      rintro r st ⟨rfl, rfl⟩
      simp -dsimp only [go_sem]
      have gset : ∀ (y : Ivl) m, m < n → (x.set i y).getD m default = if i = m then y else x.getD m default := fun y m hm => getD_put x i m y default (by omega)
      refine ck (fun h2 => ?_) (fun h2 => ?_)
      · have he : (x.getD i default).lo = (x.getD i default).hi := of_decide_eq_true h2
        obtain ⟨s1, s2, s3, s4⟩ := str_lu (k := 0) (by omega) rr.2.1 (by decide : rightN ⟨false, 0, [1]⟩ = true) hti.2.2.2 ((one_lu 6).up (by omega)) (by omega)
        rw [exQ0, show qN ⟨false, 0, [1]⟩ = 1 from qN_one] at s3
        simp -dsimp only [go_sem, q2]
        refine ⟨⟨by omega, by omega⟩, by omega, ?_⟩
        refine (numAdd_c (x.getD i default).hi ⟨false, 0, [1]⟩ _ whi (by unfold wN; decide)).mono ?_
        rintro r st ⟨rfl, rfl⟩
        generalize hsv : strN 0 (x.getD i default).hi ⟨false, 0, [1]⟩ = v at *
        have z0 : (v.2 != 0) = false := by rw [s1]; rfl
        have q4 := flatI_setR x R i v.1 (by omega)
        simp only [encN] at q4
        simp -dsimp only [go_sem, z0, q4, x1]
        refine ⟨⟨by omega, by omega⟩, by omega, n - (i + 1), by omega, i + 1, x.set i ⟨(x.getD i default).lo, v.1⟩, rfl, by omega, by simp [hxl], fun m hm => ?_, fun m hm => ?_, fun m h3 hm => ?_, rfl⟩
        · rw [gset _ m hm]
          split
          · refine ⟨rightI_mk rr.1 s2 (cmpN_le.2 ?_), hti.2.2.1.up (by omega), s4⟩
            show qN (x.getD i default).lo ≤ qN v.1
            rw [s3, he]; grind
          · exact hlu m hm
        · rw [gset _ m (by omega)]
          split
          · show qN (x.getD i default).lo + p2 (-6) ≤ qN v.1
            have := p2_mono (show (-6 : Int) ≤ 0 by omega)
            rw [p2_zero] at this
            rw [s3, he]; grind
          · exact hw m (by omega)
        · rw [gset _ m (by omega), if_neg (by omega)]
          exact ht m (by omega) hm
      · have hne : (x.getD i default).lo ≠ (x.getD i default).hi := of_decide_eq_false h2
        simp -dsimp only [go_sem, x1]
        refine ⟨n - (i + 1), by omega, i + 1, x, rfl, by omega, hxl, hlu, fun m hm => ?_, fun m h3 hm => ht m (by omega) hm, rfl⟩
        by_cases e : m = i
        · subst e
          refine lu_gap hti.2.2.1 hti.2.2.2 ?_
          have hle := qI_le hri
          rw [qV_ofN, qV_ofN] at hle
          exact Rat.lt_of_le_of_ne hle fun e => hne (right_inj rr.1 rr.2.1 e)
        · exact hw m (by omega)
    · have hge : i = n := by have := of_decide_eq_false h1; omega
      subst hge
      have q3 := flatI_length x
      have q5 := flatI_chunks x R
      rw [hxl] at q5
      simp -dsimp only [go_sem]
      refine pwp_freezeH 1 6 (by simp) ?_ ?_
      · intro e
        have := congrArg List.length e
        simp [flatI_length] at this
        omega
      have q6 : PV.frzH 1 6 (flat (encIs x) ++ R) (.ms true 1 0 i) = .sl .no (encIs x) := by
        rw [frzH_ms (by rw [List.length_append]; omega), List.drop_zero, q5]
      simp -dsimp only [go_sem, q6]
      refine pwp_of_vc ?_
      have wx : wB x := ⟨by omega, fun m hm => wI_right (hlu m (by omega)).1⟩
      have hfin := finds hf hn1 hn2 hxl hlu hw hpp
      simp -dsimp only [go_sem]
      refine (picBox_c f x hFind p _ wf wx (rightN_wN hFind_right)).mono ?_
      rintro r st ⟨rfl, rfl⟩
      rw [hfin]
      simp -dsimp only [go_sem]
end Go.Pv
end
