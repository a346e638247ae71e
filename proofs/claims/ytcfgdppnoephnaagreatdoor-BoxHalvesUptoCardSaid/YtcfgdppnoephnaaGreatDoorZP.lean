/- Parts of the walk: PvAb, PvAc, PvAd, M17, M18, M19, C1, C2. -/
import Derived.Test.YtcfgdppnoephnaaGreatDoorZL
import Derived.Test.YtcfgdppnoephnaaGreatDoorZE
import Derived.Test.YtcfgdppnoephnaaGreatDoorZF
set_option linter.unusedVariables false
set_option linter.unusedSimpArgs false
section
/- A slice without room in a box's cell becomes one that may be appended to. -/
set_option linter.unusedVariables false
set_option linter.unusedSimpArgs false
namespace Go.Pv
def PFS.claimBox (i j sz : Nat) (s : PFS) : PFS :=
  match (s.L.getD i []).getD j .junk with
  | .sl .full [] => ⟨s.pa, s.L.set i ((s.L.getD i []).set j (.sl (.own s.T.length) [])), s.T ++ [(0, sz)], s.st⟩
  | _ => s
theorem weak_claimBox {E : Ent} {s : PFS} (i j sz : Nat) : Weak E s (s.claimBox i j sz) := by
  intro a w g F h
  unfold PFS.claimBox
  split
  · rename_i he
    have key : ∀ es : List PV, es.length = 0 → (s.L.getD i []).getD j .junk = .sl .full es → ∃ g' F', FSRep E a w g' F' ⟨s.pa, s.L.set i ((s.L.getD i []).set j (.sl (.own s.T.length) es)), s.T ++ [(es.length, sz)], s.st⟩ := by
     intro es hes he
     have hj : j < (s.L.getD i []).length := by
       refine Nat.lt_of_not_le fun hn => ?_
       rw [List.getD_eq_getElem?_getD, List.getElem?_eq_none hn] at he
       cases he
     have hne0 : s.L.getD i [] ≠ [] := fun e => by rw [e] at hj; simp at hj
     have hil : i < s.L.length := by
       refine Nat.lt_of_not_le fun hn => hne0 ?_
       rw [List.getD_eq_getElem?_getD, List.getElem?_eq_none hn]; rfl
     have hbase : ∀ v, RepF w g F s.T v (.sl .full es) → Rep w g v (.sl .full es) := fun v hv => by cases hv with | base _ _ h => exact h
     have hri : ∀ v, Rep w g v (.sl .full es) → Right w g none sz v es := fun v hv => by
       cases hv with
       | nil t ad ht => exact ⟨.inr ⟨_, rfl⟩, rfl⟩
       | sl t es b off sz cap cf ht hf hcap hsz hvis hc hr => exact ⟨.inr ⟨_, by rw [hf rfl]⟩, hes⟩
     obtain ⟨F', m1, m2, m3, m4, m5⟩ := h.mint es.length sz none (fun b hb => by cases hb)
     have hlast : (s.T ++ [(es.length, sz)]).getD s.T.length (0, 0) = (es.length, sz) := by simp [List.getD_eq_getElem?_getD]
     have hown : ∀ v, Rep w g v (.sl .full es) → RepF w g F' (s.T ++ [(es.length, sz)]) v (.sl (.own s.T.length) es) := fun v hv => by
       refine .own _ _ _ hv.toNo (by simp) (by rw [hlast]; exact Nat.le_refl _) fun _ => ?_
       rw [hlast, m2]
       exact hri _ hv
     have hne : ∀ k, (s.L.set i ((s.L.getD i []).set j (.sl (.own s.T.length) es))).getD k [] ≠ [] → s.L.getD k [] ≠ [] := fun k hk => by
       by_cases e : i = k
       · subst e; exact hne0
       · rwa [getD_set_other _ _ _ _ _ e] at hk
     refine ⟨g, F', m1.ext, m1.store, ⟨by simpa using m1.frame.nl, fun k hk => m1.frame.lo k (hne k hk), fun k hk => m1.frame.apart k (hne k hk), fun k j hk hj => m1.frame.inj k j (hne k hk) (hne j hj), fun k hk => ?_, m1.frame.tlo, fun k b h1 h2 => ⟨(m1.frame.tapart k b h1 h2).1, fun j hj => (m1.frame.tapart k b h1 h2).2 j (hne j hj)⟩, m1.frame.tinj⟩, m1.defers, m1.len, m1.tmps⟩
     have hh := m1.frame.holds k (hne k hk)
     by_cases e : i = k
     · subst e
       rw [getD_set_self _ _ _ _ hil]
       intro q hq
       have hq' : q < (s.L.getD i []).length := by simpa using hq
       obtain ⟨q1, c, q2, q3⟩ := hh q hq'
       refine ⟨q1, c, q2, ?_⟩
       by_cases ej : j = q
       · subst ej
         rw [getD_set_self _ _ _ _ hj]
         refine hown _ ?_
         have q3' : RepF w g F' (s.T ++ [(es.length, sz)]) c (.sl .full es) := by
           have : (s.L.getD i []).getD j .junk = .sl .full es := he
           rw [← this]; exact q3
         cases q3' with | base _ _ h => exact h
       · rw [getD_set_other _ _ _ _ _ ej]; exact q3
     · rw [getD_set_other _ _ _ _ _ e]; exact hh
    exact key [] rfl he
  · exact ⟨g, F, h⟩
theorem pwp_claimBox {P : Program} {E : Ent} {c : Code} {Q : Exit → PFS → Prop} {s : PFS} (i j sz : Nat) (h : PWP P E c Q (s.claimBox i j sz)) : PWP P E c Q s := pwp_weak (weak_claimBox i j sz) h
def clmB (p : PV) (i j sz : Nat) (pa : List PV) (L : Store) (T : List (Nat × Nat)) (st : Store) : PFS :=
  match p with
  | .sl .full [] => ⟨pa, L.set i ((L.getD i []).set j (.sl (.own T.length) [])), T ++ [(0, sz)], st⟩
  | _ => ⟨pa, L, T, st⟩
@[go_sem] theorem claimBox_mk {i j sz : Nat} {pa : List PV} {L st : Store} {T : List (Nat × Nat)} : (PFS.mk pa L T st).claimBox i j sz = clmB ((L.getD i []).getD j .junk) i j sz pa L T st := by
  unfold PFS.claimBox clmB
  rfl
@[go_sem] theorem clmB_full {i j sz : Nat} {pa : List PV} {L st : Store} {T : List (Nat × Nat)} : clmB (.sl .full []) i j sz pa L T st = ⟨pa, L.set i ((L.getD i []).set j (.sl (.own T.length) [])), T ++ [(0, sz)], st⟩ := (rfl)
/-- A piece of code up to what is known behind it; then the rest, once. -/
theorem pwp_cut {P : Program} {E : Ent} {x y : Code} {Q : Exit → PFS → Prop} {s : PFS} (R : PFS → Prop) (h1 : PWP P E x (ethen R Q) s) (h2 : ∀ s, R s → PWP P E y Q s) : PWP P E (.seq x y) Q s :=
  pwp_seq (pwp_mono h1 fun e s hq => by
    cases e with
    | normal => exact h2 s hq
    | _ => exact hq)
theorem pwp_cut_mask {P : Program} {E : Ent} {x y : Code} {Q : Exit → PFS → Prop} {s : PFS} (bs : List Bool) (nL nT : Nat) (R : PFS → Prop)
    (h1 : VC P E x (ethen (fun s => s.maskOK bs nL nT ∧ R (s.mask bs nL nT)) Q) s) (h2 : ∀ s, R s → PWP P E y Q s) : PWP P E (.seq x y) Q s :=
  pwp_cut _ (pwp_of_vc h1) fun s h => pwp_weak (weak_mask h.1) (h2 _ h.2)
end Go.Pv
end

section
/- Strings made of bytes. -/
set_option linter.unusedVariables false
set_option linter.unusedSimpArgs false
namespace Go.Pv
theorem bytes_loop (bs : ByteArray) : ∀ (n i : Nat) (r : List UInt8), bs.size - i = n → ByteArray.toList.loop bs i r = r.reverse ++ bs.data.toList.drop i := by
  intro n
  induction n with
  | zero =>
    intro i r h
    have hs : bs.data.toList.length = bs.size := rfl
    rw [ByteArray.toList.loop, if_neg (by omega), List.drop_eq_nil_of_le (by omega), List.append_nil]
  | succ n ih =>
    intro i r h
    have hs : bs.data.toList.length = bs.size := rfl
    have hi : i < bs.data.toList.length := by omega
    have hg : bs.get! i = bs.data.toList[i] := by
      have h3 : i < bs.data.size := by simpa using hi
      show bs.data[i]! = _
      simp [getElem!_pos bs.data i h3]
    rw [ByteArray.toList.loop, if_pos (by omega), ih (i + 1) _ (by omega), List.drop_eq_getElem_cons hi, hg]
    simp
@[go_sem] theorem bytes_toList (l : List UInt8) : (ByteArray.mk l.toArray).toList = l := by
  rw [ByteArray.toList, bytes_loop _ _ 0 [] rfl]; simp
@[go_sem] theorem pvBytes_encB : ∀ l : List UInt8, pvBytes (encB l) = some l
  | [] => rfl
  | c :: l => by
    have h := pvBytes_encB l
    show (match pvBytes (encB l) with | some l => some (UInt8.ofNat (c.toNat : Int).toNat :: l) | none => none) = _
    rw [h]; simp
theorem bytes_append (l m : List UInt8) : (ByteArray.mk l.toArray ++ ByteArray.mk m.toArray : ByteArray) = ByteArray.mk (l ++ m).toArray := by
  apply ByteArray.ext
  rw [ByteArray.data_append]; simp
end Go.Pv
end

section
/- What a call hands back fresh may be written: an object of the store. Objects that are written no more. Tokens by another number. -/
set_option linter.unusedVariables false
set_option linter.unusedSimpArgs false
namespace Go.Pv
/-- No pointer into the store. -/
inductive NoG : PV → Prop
  | junk : NoG .junk
  | sc (v : Value) : NoG (.sc v)
  | agg (cs : List PV) (h : ∀ j, j < cs.length → NoG (cs.getD j .junk)) : NoG (.agg cs)
  | sl (t : Tag) (es : List PV) (h : ∀ i j, i < es.length → j < (es.getD i .junk).cells.length → NoG ((es.getD i .junk).cells.getD j .junk)) : NoG (.sl t es)
theorem Rep.noG {w : World} {g g0 : Gh} (hv : ∀ b, g0.vis b = g.vis b) {v : Value} {p : PV} (h : Rep w g v p) : NoG p → Rep w g0 v p := by
  induction h with
  | junk v => exact fun _ => .junk v
  | sc v => exact fun _ => .sc v
  | agg vs cs hl _ ih =>
    intro hn
    cases hn with
    | agg _ h => exact .agg vs cs hl fun j hj => ih j hj (h j hj)
  | nil t ad ht => exact fun _ => .nil t ad ht
  | sl t es b off sz cap cf ht hfull hcap hsz hvis hc hr ih =>
    intro hn
    cases hn with
    | sl _ _ h => exact .sl t es b off sz cap cf ht hfull hcap hsz (by rw [hv]; exact hvis) hc fun i j hi hj => ih i j hi hj (h i j hi (by rw [hsz i hi]; exact hj))
  | tup vs cs hl _ _ => intro hn; cases hn
  | gms i off len cap hi hcap => intro hn; cases hn
  | gp i off hi => intro hn; cases hn
  | ep cs off b base cf hvis hc hr _ => intro hn; cases hn
  | fn f us vs bs cs hk hl _ _ _ _ => intro hn; cases hn
  | pre all n b off sz cap cf hn hcap hsz hvis hc hr _ => intro hn; cases hn
theorem noG_encB (l : List UInt8) (t : Tag) : NoG (.sl t (encB l)) := by
  refine .sl _ _ fun i j hi hj => ?_
  rw [encB_length] at hi
  rw [encB_get l i hi] at hj ⊢
  have : j = 0 := by simp [PV.cells] at hj; omega
  subst this; exact .sc _
theorem noG_encW (l : List UInt64) (t : Tag) : NoG (.sl t (encW l)) := by
  refine .sl _ _ fun i j hi hj => ?_
  rw [encW_length] at hi
  rw [encW_get l i hi] at hj ⊢
  have : j = 0 := by simp [PV.cells] at hj; omega
  subst this; exact .sc _
theorem noG_cells {cs : List PV} (h : ∀ p ∈ cs, NoG p) : ∀ j, j < cs.length → NoG (cs.getD j .junk) := fun j hj => h _ (mem_getD _ _ _ hj)
theorem noG_encN (x : Nm) : NoG (.agg (encN x)) := by
  refine .agg _ (noG_cells fun p hp => ?_)
  simp [encN] at hp
  rcases hp with rfl | rfl | rfl
  · exact .sc _
  · exact .sc _
  · exact noG_encW _ _
theorem noG_encI (x : Ivl) : ∀ p ∈ encI x, NoG p := fun p hp => by
  simp [encI] at hp
  rcases hp with rfl | rfl | rfl | rfl | rfl | rfl
  · exact .sc _
  · exact .sc _
  · exact noG_encW _ _
  · exact .sc _
  · exact .sc _
  · exact noG_encW _ _
theorem noG_encIs (l : List Ivl) (t : Tag) : NoG (.sl t (encIs l)) := by
  refine .sl _ _ fun i j hi hj => ?_
  rw [encIs_length] at hi
  rw [encIs_get l i hi] at hj ⊢
  exact noG_cells (noG_encI _) j hj
theorem PCalls.owned {P : Program} {f : FuncId} {args es : List PV} (hne : 0 < es.length) (hsc : ∀ j, j < es.length → ∃ v, es.getD j .junk = .sc v) (hargs : ∀ p ∈ args, NoG p)
    (h : PCalls P f args [] (fun r st' => r = .sl (.fresh 1) es ∧ st' = [])) (st : Store) :
    PCalls P f args st (fun r st' => ∃ off, r = .ms true st.length off es.length ∧ st' = st ++ [List.replicate off PV.junk ++ es]) := by
  intro w g vs hs hr
  let g0 : Gh := ⟨0, fun _ => 0, g.vis⟩
  have hs0 : StoreOK w g0 [] := ⟨rfl, fun i j hi => by simp [g0] at hi, fun i hi => by simp [g0] at hi, fun i hi => by simp [g0] at hi, fun i hi => by simp [g0] at hi, hs.none, hs.tab⟩
  have hr0 : Reps w g0 vs args := ⟨hr.1, fun j hj => Rep.noG (g := g) (g0 := g0) (fun _ => rfl) (hr.2 j hj) (hargs _ (mem_getD _ _ _ hj))⟩
  refine (h w g0 vs hs0 hr0).mono ?_
  rintro e w' ⟨v, g1, r, st1, rfl, hx, ho, hrr, rfl, rfl⟩
  obtain ⟨hrep, hfr⟩ := hrr
  rcases hfr with ⟨b, ⟨off, cap, hv, hsz, hvis, hcap, hex⟩, hb1, hb2, _, c0, el, hblk⟩ | ⟨_, hz⟩
  rotate_left
  · omega
  have hold : ∀ c, c < w.heap.size → w'.heap[c]? = w.heap[c]? ∧ g1.vis c = g.vis c := fun c hc => hx.old c hc (fun i hi => by simp [g0] at hi)
  have hvb : g.vis b = 0 := hs.none b hb1
  have hne' : ∀ c, c < w.heap.size → c ≠ b := fun c hc => by omega
  let g2 : Gh := ⟨g.n + 1, fun i => if i = g.n then b else g.mu i, fun c => if c = b then 0 else g1.vis c⟩
  have hmu : ∀ i, i < g.n → g2.mu i = g.mu i := fun i hi => if_neg (by omega)
  have hle : Le w g w' g2 := by
    refine ⟨Nat.le_succ _, hmu, fun c => ?_, fun c o v ho hc => hx.le.cell c o v ho hc⟩
    show g.vis c ≤ if c = b then 0 else g1.vis c
    split
    · rename_i e; subst e; omega
    · exact hx.le.vis c
  have hext : Ext w g w' g2 := by
    refine ⟨hle, hx.os, hx.tape, hx.output, hx.size, fun c hc hn => ⟨(hold c hc).1, ?_⟩, fun i h1 h2 => ?_⟩
    · show (if c = b then 0 else g1.vis c) = g.vis c
      rw [if_neg (hne' c hc)]; exact (hold c hc).2
    · have : i = g.n := by simp [g2] at h2; omega
      subst this
      show w.heap.size ≤ if g.n = g.n then b else _
      rw [if_pos rfl]; exact hb1
  have hget1 : ∀ i, i < g.n → (st ++ [List.replicate off PV.junk ++ es]).getD i [] = st.getD i [] := fun i hi => by
    rw [List.getD_eq_getElem?_getD, List.getElem?_append_left (by rw [← hs.n]; exact hi), ← List.getD_eq_getElem?_getD]
  have hget2 : (st ++ [List.replicate off PV.junk ++ es]).getD g.n [] = List.replicate off PV.junk ++ es := by
    rw [hs.n]; simp [List.getD_eq_getElem?_getD]
  have hst : StoreOK w' g2 (st ++ [List.replicate off PV.junk ++ es]) := by
    refine ⟨by simp [g2, hs.n], fun i j hi hj e => ?_, fun i hi => ?_, fun i hi hi0 => ?_, fun i hi => ?_, fun c hc => ?_, hs.tab.mono hle⟩
    · have hi' : i < g.n + 1 := hi
      have hj' : j < g.n + 1 := hj
      have e' : (if i = g.n then b else g.mu i) = (if j = g.n then b else g.mu j) := e
      by_cases h1 : i = g.n <;> by_cases h2 : j = g.n
      · omega
      · rw [if_pos h1, if_neg h2] at e'; have := hs.lt j (by omega); omega
      · rw [if_neg h1, if_pos h2] at e'; have := hs.lt i (by omega); omega
      · rw [if_neg h1, if_neg h2] at e'; exact hs.inj i j (by omega) (by omega) e'
    · have hi' : i < g.n + 1 := hi
      show (if i = g.n then b else g.mu i) < _
      split
      · exact hb2
      · exact Nat.lt_of_lt_of_le (hs.lt i (by omega)) hx.size
    · have hi' : i < g.n + 1 := hi
      show (if g2.mu i = b then 0 else g1.vis (g2.mu i)) = 0
      by_cases h1 : i = g.n
      · rw [if_pos (if_pos h1)]
      · rw [hmu i (by omega), if_neg (hne' _ (hs.lt i (by omega)))]
        rw [hget1 i (by omega)] at hi0
        rw [(hold _ (hs.lt i (by omega))).2]
        exact hs.vis i (by omega) hi0
    · have hi' : i < g.n + 1 := hi
      by_cases h1 : i = g.n
      · subst h1
        rw [hget2]
        show Holds w' (Rep w' g2) (if g.n = g.n then b else _) _
        rw [if_pos rfl]
        intro j hj
        refine ⟨by simp [World.frozen?, hblk], ?_⟩
        by_cases hjo : j < off
        · obtain ⟨c, hc⟩ := Option.isSome_iff_exists.1 (hex j (by omega))
          exact ⟨c, hc, by rw [List.getD_eq_getElem?_getD, List.getElem?_append_left (by simpa using hjo)]; simp [hjo]; exact .junk _⟩
        · have hje : j - off < es.length := by simp at hj; omega
          have e1 : (List.replicate off PV.junk ++ es).getD j .junk = es.getD (j - off) .junk := by
            rw [List.getD_eq_getElem?_getD, List.getElem?_append_right (by simp; omega), List.length_replicate, ← List.getD_eq_getElem?_getD]
          rw [e1]
          rcases hrep.sl_cells 1 hsz with ⟨ad, _, h0⟩ | ⟨b', off', cap', cell, hv', _, _, _, hcell⟩
          · rw [h0] at hne; simp at hne
          · rw [hv] at hv'
            simp only [Value.slice.injEq, Option.some.injEq, Addr.mk.injEq, and_true, true_and] at hv'
            obtain ⟨⟨rfl, rfl⟩, rfl⟩ := hv'
            obtain ⟨q1, q2⟩ := hcell (j - off) (by omega)
            obtain ⟨x, hx'⟩ := hsc (j - off) hje
            rw [Nat.div_one, Nat.mod_one, hx'] at q2
            rw [show off + (j - off) = j from by omega] at q1
            refine ⟨_, q1, ?_⟩
            rw [hx', show cell (j - off) = x from Rep.sc_inv q2]
            exact .sc _
      · show Holds w' (Rep w' g2) (if i = g.n then b else g.mu i) _
        rw [if_neg h1, hget1 i (by omega)]
        exact (hs.holds i (by omega)).mono (hold _ (hs.lt i (by omega))).1 fun v p hp => hp.mono hle
    · show (if c = b then 0 else g1.vis c) = 0
      split
      · rfl
      · exact ho.none c hc
  refine ⟨v, g2, .ms true st.length off es.length, _, rfl, hext, hst, ?_, off, rfl, rfl⟩
  show Rep w' g2 v (.ms true st.length off es.length)
  rw [hv]
  have := Rep.gms (w := w') (g := g2) st.length off es.length cap (by simp [g2, hs.n]) hcap
  have e : g2.mu st.length = b := if_pos hs.n.symm
  rw [e] at this
  exact this

/-- The object k, which the slot t holds, is written no more. -/
def frzS (p : PV) (k : Nat) (cs : List PV) : PV :=
  match p with
  | .ms true k' off len => if k' = k ∧ off + len ≤ cs.length then .sl .no ((cs.drop off).take len) else .junk
  | _ => .junk
def PFS.freezeG (k t : Nat) (s : PFS) : PFS := ⟨s.pa.set t (frzS (s.pa.getD t .junk) k (s.st.getD k [])), s.L, s.T, s.st.set k []⟩
theorem weak_freezeG {E : Ent} {s : PFS} (k t : Nat) (hk : k < s.st.length) (hc : ∀ p ∈ s.st.getD k [], p.cells = [p]) (h0 : s.st.getD k [] ≠ []) : Weak E s (s.freezeG k t) := by
  intro a w g F h
  have hkn : k < g.n := by rw [h.store.n]; exact hk
  obtain ⟨k1, k2⟩ := chg_vis w g (g.mu k) (s.st.getD k []).length (.inl (h.store.lt k hkn)) h.store.none
  let g' : Gh := { g with vis := fun c => if c = g.mu k then max (s.st.getD k []).length (g.vis c) else g.vis c }
  obtain ⟨f1, f2⟩ := h.frame.step k1 (fun i hi e => h.frame.apart i hi k hkn e.symm) (fun i b hi hb e => (h.frame.tapart i b hi hb).1 k hkn e.symm)
  have hst : StoreOK w g' (s.st.set k []) := by
    refine ⟨by simpa using h.store.n, h.store.inj, h.store.lt, fun j hj hj0 => ?_, fun j hj => ?_, k2, h.store.tab.mono k1.le⟩
    · by_cases e : k = j
      · subst e; exact absurd (getD_set_nil _ _) hj0
      · rw [getD_set_other _ _ _ _ _ e] at hj0
        have : g'.vis (g.mu j) = g.vis (g.mu j) := if_neg fun e' => e (h.store.inj j k hj hkn e').symm
        exact this.trans (h.store.vis j hj hj0)
    · by_cases e : k = j
      · subst e
        rw [getD_set_nil]
        intro j hj; simp at hj
      · rw [getD_set_other _ _ _ _ _ e]
        exact (h.store.holds j hj).mono rfl fun v p hr => hr.mono k1.le
  refine ⟨g', F, h.ext.step k1 (fun b hb => ?_), hst, f1, h.defers, by simp [PFS.freezeG, h.len], fun j hj => ?_⟩
  · subst hb
    by_cases hin : k < E.g.n
    · exact .inr ⟨k, hin, (h.ext.le.mu k hin).symm⟩
    · exact .inl (h.ext.new k (by omega) hkn)
  · simp only [PFS.freezeG, List.length_set] at hj ⊢
    by_cases e : t = j
    · subst e
      rw [getD_set_self _ _ _ _ hj]
      have hv := h.tmps t hj
      cases hp : s.pa.getD t .junk with
      | ms gl k' off len =>
        rw [hp] at hv
        cases gl with
        | false => exact .base _ _ (.junk _)
        | true =>
          simp only [frzS]
          split
          · rename_i hh
            obtain ⟨rfl, hlen⟩ := hh
            generalize a.tmps.getD t undef = v at hv ⊢
            cases hv with
            | base _ _ hv =>
              cases hv with
              | gms _ _ _ cap hi hcap =>
                have hh := h.store.holds k' hkn
                have hex : ∀ j, j < (s.st.getD k' []).length → ∃ c, w.cell? ⟨g.mu k', j, none⟩ = some c ∧ Rep w g c ((s.st.getD k' []).getD j .junk) := fun j hj => by
                  obtain ⟨_, c, q1, q2⟩ := hh j hj; exact ⟨c, q1, q2⟩
                let cf : Nat → Value := fun j => if hj : j < (s.st.getD k' []).length then (hex j hj).choose else undef
                have hcf : ∀ j, j < (s.st.getD k' []).length → w.cell? ⟨g.mu k', j, none⟩ = some (cf j) ∧ Rep w g (cf j) ((s.st.getD k' []).getD j .junk) := fun j hj => by
                  simp only [cf, dif_pos hj]; exact (hex j hj).choose_spec
                have hl : (((s.st.getD k' []).drop off).take len).length = len := by rw [List.length_take, List.length_drop]; omega
                have hg : ∀ j, j < len → (((s.st.getD k' []).drop off).take len).getD j .junk = (s.st.getD k' []).getD (off + j) .junk := fun j hj => by
                  simp [List.getD_eq_getElem?_getD, List.getElem?_take, hj, List.getElem?_drop]
                have hone : ∀ j, j < len → ((s.st.getD k' []).getD (off + j) .junk).cells = [(s.st.getD k' []).getD (off + j) .junk] := fun j hj => hc _ (mem_getD _ _ _ (by omega))
                have := Rep.sl (w := w) (g := g') .no (((s.st.getD k' []).drop off).take len) (g.mu k') off 1 cap (fun a b => cf (off + a)) rfl (fun h => by cases h) (by omega)
                  (fun j hj => by rw [hg j (by omega), hone j (by omega)]; rfl)
                  (by
                    show _ ≤ if g.mu k' = g.mu k' then max (s.st.getD k' []).length (g.vis (g.mu k')) else _
                    rw [if_pos rfl]
                    have := Nat.le_max_left (s.st.getD k' []).length (g.vis (g.mu k'))
                    omega)
                  (fun j k2 hj hk2 => by
                    have : k2 = 0 := by omega
                    subst this
                    simpa using (hcf (off + j) (by omega)).1)
                  (fun j k2 hj hk2 => by
                    have : k2 = 0 := by omega
                    subst this
                    rw [hg j (by omega), hone j (by omega)]
                    have hm := (hcf (off + j) (by omega)).2.mono k1.le
                    exact hm)
                rw [hl] at this
                exact .base _ _ this
          · exact .base _ _ (.junk _)
      | _ => exact .base _ _ (.junk _)
    · rw [getD_set_other _ _ _ _ _ e]
      exact f2 _ _ (h.tmps j hj)
theorem pwp_freezeG {P : Program} {E : Ent} {c : Code} {Q : Exit → PFS → Prop} {s : PFS} (k t : Nat) (hk : k < s.st.length) (hc : ∀ p ∈ s.st.getD k [], p.cells = [p]) (h0 : s.st.getD k [] ≠ [])
    (h : PWP P E c Q (s.freezeG k t)) : PWP P E c Q s := pwp_weak (weak_freezeG k t hk hc h0) h
@[go_sem] theorem freezeG_mk {k t : Nat} {pa : List PV} {L st : Store} {T : List (Nat × Nat)} : (PFS.mk pa L T st).freezeG k t = ⟨pa.set t (frzS (pa.getD t .junk) k (st.getD k [])), L, T, st.set k []⟩ := (rfl)
@[go_sem] theorem frzS_ms {k k' off len : Nat} {cs : List PV} : frzS (.ms true k' off len) k cs = if k' = k ∧ off + len ≤ cs.length then .sl .no ((cs.drop off).take len) else .junk := (rfl)
@[go_sem] theorem recv_ms {d : Option Tmp} {gl : Bool} {i o n : Nat} {pa : List PV} {L st st' : Store} {T : List (Nat × Nat)} : (PFS.mk pa L T st).recv d (.ms gl i o n) st' = (PFS.mk pa L T st').put d (.ms gl i o n) := (rfl)

/-- Only the token of the slot t is kept, by the number 0. -/
def rtok : PV → PV
  | .sl (.own _) es => .sl (.own 0) es
  | _ => .junk
def ktok : PV → Nat
  | .sl (.own k) _ => k
  | _ => 0
def PFS.retok (bs : List Bool) (nL t : Nat) (s : PFS) : PFS := ⟨(maskL bs (s.pa.set t .junk)).set t (rtok (s.pa.getD t .junk)), s.L.take nL, [s.T.getD (ktok (s.pa.getD t .junk)) (0, 0)], s.st⟩
def PFS.retokOK (bs : List Bool) (nL t : Nat) (s : PFS) : Prop := (maskL bs (s.pa.set t .junk)).all (PV.lim nL 0) = true ∧ (s.L.take nL).all (fun o => o.all (PV.lim nL 0)) = true
theorem RepF.lim01 {w g F T v p nL} (h : RepF w g F T v p) (hp : p.lim1 nL 0 = true) {F' : Fr} {T' : List (Nat × Nat)} (h1 : ∀ i, i < F.nl → i < nL → i < F'.nl ∧ F'.lmu i = F.lmu i) : RepF w g F' T' v p := by
  cases h with
  | base _ _ h => exact .base _ _ h
  | lp i off hi =>
    obtain ⟨a, b⟩ := h1 i hi (of_decide_eq_true hp)
    rw [← b]; exact .lp i off a
  | lms i off len cap hi hcap =>
    obtain ⟨a, b⟩ := h1 i hi (of_decide_eq_true hp)
    rw [← b]; exact .lms i off len cap a hcap
  | own k es v h hk hle hr => exact absurd (of_decide_eq_true (p := k < 0) hp) (by omega)
  | agg => cases hp
  | tup => cases hp
  | fn => cases hp
theorem RepF.lim0 {w g F T v p nL} (h : RepF w g F T v p) (hp : p.lim nL 0 = true) {F' : Fr} {T' : List (Nat × Nat)} (h1 : ∀ i, i < F.nl → i < nL → i < F'.nl ∧ F'.lmu i = F.lmu i) : RepF w g F' T' v p := by
  cases h with
  | base _ _ h => exact .base _ _ h
  | agg vs cs hl h => exact .agg vs cs hl fun j hj => (h j hj).lim01 (List.all_eq_true.1 hp _ (mem_getD _ _ _ hj)) h1
  | tup vs cs hl h => exact .tup vs cs hl fun j hj => (h j hj).lim01 (List.all_eq_true.1 hp _ (mem_getD _ _ _ hj)) h1
  | fn f us vs bs cs hk hl h0 h =>
    have hp := Bool.and_eq_true_iff.1 hp
    exact .fn f us vs bs cs hk hl (fun j hj => (h0 j hj).lim01 (List.all_eq_true.1 hp.1 _ (mem_getD _ _ _ hj)) h1) (fun j hj => (h j hj).lim01 (List.all_eq_true.1 hp.2 _ (mem_getD _ _ _ hj)) h1)
  | lp i off hi => exact (RepF.lp (T := T) i off hi).lim01 hp h1
  | lms i off len cap hi hcap => exact (RepF.lms (T := T) i off len cap hi hcap).lim01 hp h1
  | own k es v h hk hle hr => exact (RepF.own k es v h hk hle hr).lim01 hp h1
theorem weak_retok {E : Ent} {bs : List Bool} {nL t : Nat} {s : PFS} (hm : s.retokOK bs nL t) : Weak E s (s.retok bs nL t) := by
  intro a w g F h
  let k := ktok (s.pa.getD t .junk)
  let F' : Fr := ⟨min nL F.nl, F.lmu, fun _ => if k < s.T.length then F.tb k else none⟩
  have hnl := h.frame.nl
  have h1 : ∀ i, i < F.nl → i < nL → i < F'.nl ∧ F'.lmu i = F.lmu i := fun i a b => ⟨by simp only [F']; omega, rfl⟩
  have hb0 : ∀ j b, F'.tb j = some b → k < s.T.length ∧ F.tb k = some b := fun j b hb => by
    have hb' : (if k < s.T.length then F.tb k else none) = some b := hb
    split at hb'
    · rename_i hk; exact ⟨hk, hb'⟩
    · cases hb'
  refine ⟨g, F', h.ext, h.store, ⟨by simp [F', PFS.retok, hnl], fun i hi => ?_, fun i hi => ?_, fun i j hi hj => ?_, fun i hi => ?_, fun j b hj hb => ?_, fun j b hj hb => ?_, fun j j' b hj hj' _ _ => ?_⟩, h.defers, by simp only [PFS.retok]; rw [List.length_set, maskL_length, List.length_set]; exact h.len, fun j hj => ?_⟩
  · have := getD_take_L hi; simp only [PFS.retok] at hi; rw [this.2] at hi; exact h.frame.lo i hi
  · have := getD_take_L hi; simp only [PFS.retok] at hi; rw [this.2] at hi; exact h.frame.apart i hi
  · have e1 := getD_take_L hi
    have e2 := getD_take_L hj
    simp only [PFS.retok] at hi hj
    rw [e1.2] at hi; rw [e2.2] at hj
    exact h.frame.inj i j hi hj
  · have e1 := getD_take_L hi
    simp only [PFS.retok] at hi ⊢
    have hi' := hi
    rw [e1.2] at hi ⊢
    intro j hj
    obtain ⟨q1, c, q2, q3⟩ := h.frame.holds i hi j hj
    refine ⟨q1, c, q2, q3.lim0 ?_ h1⟩
    have hmem : s.L.getD i [] ∈ s.L.take nL := by
      rw [← e1.2]
      apply mem_getD
      apply Nat.lt_of_not_le; intro hle
      apply hi'
      rw [List.getD_eq_getElem?_getD, List.getElem?_eq_none hle]; rfl
    exact List.all_eq_true.1 (List.all_eq_true.1 hm.2 _ hmem) _ (mem_getD _ _ _ hj)
  · obtain ⟨hk, hb⟩ := hb0 j b hb
    exact h.frame.tlo k b hk hb
  · obtain ⟨hk, hb⟩ := hb0 j b hb
    obtain ⟨a1, a2⟩ := h.frame.tapart k b hk hb
    refine ⟨a1, fun i hi => ?_⟩
    have := getD_take_L hi; simp only [PFS.retok] at hi; rw [this.2] at hi; exact a2 i hi
  · simp [PFS.retok] at hj hj'; omega
  · simp only [PFS.retok, List.length_set, maskL_length] at hj ⊢
    by_cases e : t = j
    · subst e
      rw [getD_set_self _ _ _ _ (by rw [maskL_length, List.length_set]; exact hj)]
      have hv := h.tmps t hj
      show RepF w g F' [s.T.getD k (0, 0)] _ (rtok (s.pa.getD t .junk))
      have hkd : k = ktok (s.pa.getD t .junk) := rfl
      cases hp : s.pa.getD t .junk with
      | sl tg es =>
        rw [hp] at hv hkd
        cases tg with
        | own k' =>
          have hkk : k = k' := hkd
          obtain ⟨r1, r2, r3, r4⟩ := hv.own_inv
          rw [← hkk] at r2 r3 r4
          refine .own 0 es _ r1 (by simp) (by simpa using r3) fun he => ?_
          have he' : es.length = (s.T.getD k (0, 0)).1 := by simpa using he
          have hR := r4 he'
          have e2 : F'.tb 0 = F.tb k := if_pos r2
          rw [e2]
          simpa using hR
        | _ => exact .base _ _ (.junk _)
      | _ => exact .base _ _ (.junk _)
    · rw [getD_set_other _ _ _ _ _ e]
      have hlim := List.all_eq_true.1 hm.1 _ (mem_getD (maskL bs (s.pa.set t .junk)) j .junk (by rw [maskL_length, List.length_set]; exact hj))
      rcases maskL_getD bs (s.pa.set t .junk) j with e' | e'
      · rw [e'] at hlim ⊢
        rw [getD_set_other _ _ _ _ _ e] at hlim ⊢
        exact (h.tmps j hj).lim0 hlim h1
      · rw [e']; exact .base _ _ (.junk _)
/-- A loop whose slot t may be appended to, by a new token each round. -/
theorem pwp_loop_tok {P : Program} {E : Ent} {c : Code} {Q : Exit → PFS → Prop} {s : PFS} (bs : List Bool) (nL t : Nat) (I : Nat → PFS → Prop) (n : Nat) (h0 : s.retokOK bs nL t ∧ I n (s.retok bs nL t))
    (round : ∀ n s, I n s → VC P E c (ethen (fun s' => s'.retokOK bs nL t ∧ ∃ m, m < n ∧ I m (s'.retok bs nL t)) Q) s) : PWP P E (.loop c) Q s := by
  refine pwp_loop (fun n s => s.retokOK bs nL t ∧ I n (s.retok bs nL t)) n h0 fun n s ⟨hm, hI⟩ => ?_
  refine pwp_weak (weak_retok hm) (pwp_mono (pwp_of_vc (round n _ hI)) ?_)
  intro e s hq
  cases e with
  | normal => obtain ⟨h1, m, h2, h3⟩ := hq; exact ⟨m, h2, h1, h3⟩
  | _ => exact hq
@[go_sem] theorem retok_mk {bs : List Bool} {nL t : Nat} {pa : List PV} {L st : Store} {T : List (Nat × Nat)} : (PFS.mk pa L T st).retok bs nL t = ⟨(maskL bs (pa.set t .junk)).set t (rtok (pa.getD t .junk)), L.take nL, [T.getD (ktok (pa.getD t .junk)) (0, 0)], st⟩ := (rfl)
@[go_sem] theorem retokOK_mk {bs : List Bool} {nL t : Nat} {pa : List PV} {L st : Store} {T : List (Nat × Nat)} : (PFS.mk pa L T st).retokOK bs nL t = ((maskL bs (pa.set t .junk)).all (PV.lim nL 0) = true ∧ (L.take nL).all (fun o => o.all (PV.lim nL 0)) = true) := (rfl)
@[go_sem] theorem rtok_own {k : Nat} {es : List PV} : rtok (.sl (.own k) es) = .sl (.own 0) es := (rfl)
@[go_sem] theorem ktok_own {k : Nat} {es : List PV} : ktok (.sl (.own k) es) = k := (rfl)
end Go.Pv
end

section
/- Numbers, intervals, boxes as bytes. No program in it. -/
set_option linter.unusedVariables false
set_option linter.unusedSimpArgs false
namespace Go.Pv
/-- A number that may be below 0, as one that may not. -/
def zig (i : Int) : Nat := if 0 ≤ i then 2 * i.toNat else 2 * (-(i + 1)).toNat + 1
theorem zig_lt {i : Int} (h1 : -9223372036854775808 ≤ i) (h2 : i ≤ 9223372036854775807) : zig i < 18446744073709551616 := by
  unfold zig; split <;> omega
def wordB (w : Nat) (n : Nat) : List UInt8 := (List.range n).map fun i => UInt8.ofNat (w / 2 ^ (8 * i))
def wordsB (l : List UInt64) : List UInt8 := l.flatMap fun w => wordB w.toNat 8
def headN (x : Nm) : Nat := 2 * x.w.length + (if x.neg then 1 else 0)
def numB (x : Nm) : List UInt8 := if rightN x = true then uvar (headN x) ++ (if x.w = [] then [] else uvar (zig x.exp) ++ wordsB x.w) else []
def ivB (a : Ivl) : List UInt8 := if rightI a = true then numB a.lo ++ numB a.hi else []
def boxB (l : List Ivl) : List UInt8 := if rightB l = true then uvar l.length ++ l.flatMap ivB else []
theorem xor_ones (x : Nat) (h : x < 18446744073709551616) : x ^^^ 18446744073709551615 = 18446744073709551615 - x := by
  have e1 : (BitVec.ofNat 64 x ^^^ BitVec.allOnes 64).toNat = x ^^^ 18446744073709551615 := by
    rw [BitVec.toNat_xor, BitVec.toNat_ofNat, Nat.mod_eq_of_lt (by omega : x < 2 ^ 64)]; rfl
  have e2 : (BitVec.ofNat 64 x ^^^ BitVec.allOnes 64).toNat = 18446744073709551615 - x := by
    rw [BitVec.xor_allOnes, BitVec.toNat_not, BitVec.toNat_ofNat, Nat.mod_eq_of_lt (by omega : x < 2 ^ 64)]
  rw [← e1, e2]
theorem wrap_u64_neg {v : Int} (h1 : -18446744073709551616 ≤ v) (h2 : v < 0) : IntKind.u64.wrap v = ((v + 18446744073709551616).toNat : Int) := by
  simp [IntKind.wrap, IntKind.bits, IntKind.signed]
  omega
theorem int_word {v : Int} (h1 : -9223372036854775808 ≤ v) (h2 : v ≤ 9223372036854775807) :
    bXor .u64 (bShl .u64 (IntKind.u64.wrap v) 1) (IntKind.u64.wrap (bShr .i64 v 63)) = (zig v : Int) := by
  have hs : bShr .i64 v 63 = if 0 ≤ v then 0 else -1 := by
    unfold bShr
    show v.fdiv (2 ^ min (63 : Int).toNat 64) = _
    have e : ((2 : Int) ^ min (63 : Int).toNat 64) = 9223372036854775808 := by decide
    rw [e, Int.fdiv_eq_ediv_of_nonneg _ (by decide)]
    split <;> omega
  rw [hs]
  by_cases h : 0 ≤ v
  · obtain ⟨n, rfl⟩ : ∃ n : Nat, v = n := ⟨v.toNat, by omega⟩
    rw [if_pos h, wrap_u64 n (by omega), show (1 : Int) = ((1 : Nat) : Int) from rfl, bShl_u64 n 1 (by omega), show IntKind.u64.wrap 0 = ((0 : Nat) : Int) from rfl, bXor_u64 _ _ (Nat.mod_lt _ (by decide)) (by omega)]
    unfold zig
    rw [if_pos h, Nat.xor_zero]
    omega
  · rw [if_neg h, wrap_u64_neg (by omega) (by omega), show (1 : Int) = ((1 : Nat) : Int) from rfl, bShl_u64 _ 1 (by omega), show IntKind.u64.wrap (-((1 : Nat) : Int)) = ((18446744073709551615 : Nat) : Int) from rfl,
      bXor_u64 _ _ (Nat.mod_lt _ (by decide)) (by decide), xor_ones _ (Nat.mod_lt _ (by decide))]
    unfold zig
    rw [if_neg h]
    omega
theorem int_word2 {v : Int} (h1 : -9223372036854775808 ≤ v) (h2 : v < 0) :
    bOr .u64 (bShl .u64 (IntKind.u64.wrap (IntKind.i64.wrap (0 - IntKind.i64.wrap (v + 1)))) 1) 1 = (zig v : Int) := by
  have e1 : IntKind.i64.wrap (v + 1) = v + 1 := wrap_i64 _ (by omega) (by omega)
  have e2 : IntKind.i64.wrap (0 - (v + 1)) = (((-(v + 1)).toNat : Nat) : Int) := by rw [wrap_i64 _ (by omega) (by omega)]; omega
  rw [e1, e2, wrap_u64 _ (by omega), show (1 : Int) = ((1 : Nat) : Int) from rfl, bShl_u64 _ 1 (by omega), bOr_u64 _ _ (Nat.mod_lt _ (by decide)) (by omega), Nat.or_comm, or_add _ _ 1 (by omega) (by omega)]
  unfold zig
  rw [if_neg (by omega)]
  omega
theorem wordB_succ (w n : Nat) : wordB w (n + 1) = wordB w n ++ [UInt8.ofNat (w / 2 ^ (8 * n))] := by simp [wordB, List.range_succ]
theorem wordB_length (w n : Nat) : (wordB w n).length = n := by simp [wordB]
theorem wordsB_take (l : List UInt64) (i : Nat) (h : i < l.length) : wordsB (l.take (i + 1)) = wordsB (l.take i) ++ wordB (l.getD i 0).toNat 8 := by
  rw [take_snoc l i 0 h]; simp [wordsB]
theorem wordsB_length (l : List UInt64) : (wordsB l).length = 8 * l.length := by
  unfold wordsB
  induction l with
  | nil => rfl
  | cons x l ih => rw [List.flatMap_cons, List.length_append, ih, wordB_length, List.length_cons]; omega
theorem uvar_len10 {v : Nat} (h : v < 18446744073709551616) : (uvar v).length ≤ 10 := uvar_length 9 v (by omega)
end Go.Pv
end

section
/- What is read of bytes. No program in it. -/
set_option linter.unusedVariables false
set_option linter.unusedSimpArgs false
namespace Go.Pv
/-- A number by digits of seven bits, from the digit i on: the value, how many digits in all, the error. -/
def lookF : Nat → Nat → List UInt8 → Nat × Nat × Int
  | i, v, [] => (0, 0, if 10 ≤ i then 11 else 10)
  | i, v, c :: l => if 10 ≤ i then (0, 0, 11) else if 128 ≤ c.toNat then lookF (i + 1) (v + c.toNat % 128 * 2 ^ (7 * i)) l
    else if (c.toNat = 0 ∧ 0 < i) ∨ (i = 9 ∧ 1 < c.toNat) then (0, 0, 11) else (v + c.toNat * 2 ^ (7 * i), i + 1, 0)
/-- A reader reads a number: it, the bytes behind, the error. -/
def readU (l : List UInt8) (e : Int) : Nat × List UInt8 × Int := if e ≠ 0 then (0, l, e) else if (lookF 0 0 l).2.2 = 0 then ((lookF 0 0 l).1, l.drop (lookF 0 0 l).2.1, 0) else (0, l, (lookF 0 0 l).2.2)
theorem drop_cons {α : Type} (l : List α) (i : Nat) (d : α) (h : i < l.length) : l.drop i = l.getD i d :: l.drop (i + 1) := by
  rw [List.drop_eq_getElem_cons h, List.getD_eq_getElem?_getD, List.getElem?_eq_getElem h]; rfl
theorem lookF_ge (i v : Nat) (l : List UInt8) (h : 10 ≤ i) : (lookF i v l) = (0, 0, 11) := by
  cases l with
  | nil => rw [lookF, if_pos h]
  | cons c l => rw [lookF, if_pos h]
/-- The number that zig made one that is not below 0 of. -/
def unzig (v : Nat) : Int := if v % 2 = 0 then ((v / 2 : Nat) : Int) else -((v / 2 : Nat) : Int) - 1
theorem unzig_zig (i : Int) : unzig (zig i) = i := by
  unfold unzig zig
  split <;> split <;> omega
theorem zig_unzig (v : Nat) : zig (unzig v) = v := by
  unfold unzig zig
  split <;> split <;> omega
end Go.Pv
end

section
/- What is read is a word; the sign of what is read. No program in it. -/
set_option linter.unusedVariables false
set_option linter.unusedSimpArgs false
namespace Go.Pv
theorem lookF_lt : ∀ (l : List UInt8) (i v : Nat), i ≤ 9 → v < 2 ^ (7 * i) → (lookF i v l).1 < 18446744073709551616
  | [], i, v, _, _ => by rw [lookF]; simp
  | c :: l, i, v, hi, hv => by
    have hc := c.toNat_lt
    have hp : 2 ^ (7 * (i + 1)) = 128 * 2 ^ (7 * i) := by rw [show 7 * (i + 1) = 7 * i + 7 from by omega, Nat.pow_add, Nat.mul_comm]
    have hm : ∀ d, d ≤ 127 → d * 2 ^ (7 * i) ≤ 127 * 2 ^ (7 * i) := fun d h => Nat.mul_le_mul_right _ h
    rw [lookF, if_neg (by omega)]
    split
    · by_cases h9 : i = 9
      · rw [lookF_ge _ _ _ (by omega)]; simp
      · refine lookF_lt l (i + 1) _ (by omega) ?_
        have := hm (c.toNat % 128) (by omega)
        omega
    · split
      · simp
      · rename_i h1 h2
        simp only
        by_cases h9 : i = 9
        · have h3 : c.toNat ≤ 1 := by omega
          subst h9
          have : c.toNat * 2 ^ (7 * 9) ≤ 1 * 2 ^ (7 * 9) := Nat.mul_le_mul_right _ h3
          omega
        · have h4 : 2 ^ (7 * (i + 1)) ≤ 2 ^ 63 := Nat.pow_le_pow_right (by decide) (by omega)
          have := hm c.toNat (by omega)
          omega
theorem readU_lt (l : List UInt8) (e : Int) : (readU l e).1 < 18446744073709551616 := by
  unfold readU
  split
  · simp
  · split
    · exact lookF_lt l 0 0 (by omega) (by omega)
    · simp
theorem readU_len (l : List UInt8) (e : Int) : (readU l e).2.1.length ≤ l.length := by
  unfold readU
  split
  · exact Nat.le_refl _
  · split
    · simp
    · exact Nat.le_refl _
theorem bXor_i64_0 (x : Nat) (h : x < 9223372036854775808) : bXor .i64 (x : Int) 0 = (x : Int) := by
  unfold bXor
  have e : (BitVec.ofInt IntKind.i64.bits (x : Int) ^^^ BitVec.ofInt IntKind.i64.bits 0).toNat = x := by
    have e1 : BitVec.ofInt IntKind.i64.bits (x : Int) = BitVec.ofNat 64 x := by simp [IntKind.bits]
    have e2 : BitVec.ofInt IntKind.i64.bits 0 = BitVec.ofNat 64 0 := by simp [IntKind.bits]
    rw [e1, e2]
    show (BitVec.ofNat 64 x ^^^ BitVec.ofNat 64 0).toNat = x
    rw [BitVec.toNat_xor, BitVec.toNat_ofNat, BitVec.toNat_ofNat, Nat.mod_eq_of_lt (by omega : x < 2 ^ 64)]; simp
  rw [e]
  exact wrapn_i64 _ h
theorem bXor_i64_m1 (x : Nat) (h : x < 9223372036854775808) : bXor .i64 (x : Int) (-1) = -(x : Int) - 1 := by
  unfold bXor
  have e : (BitVec.ofInt IntKind.i64.bits (x : Int) ^^^ BitVec.ofInt IntKind.i64.bits (-1)).toNat = 18446744073709551615 - x := by
    have e1 : BitVec.ofInt IntKind.i64.bits (x : Int) = BitVec.ofNat 64 x := by simp [IntKind.bits]
    have e2 : BitVec.ofInt IntKind.i64.bits (-1) = BitVec.ofNat 64 18446744073709551615 := rfl
    rw [e1, e2]
    show (BitVec.ofNat 64 x ^^^ BitVec.ofNat 64 18446744073709551615).toNat = _
    rw [BitVec.toNat_xor, BitVec.toNat_ofNat, BitVec.toNat_ofNat, Nat.mod_eq_of_lt (by omega : x < 2 ^ 64), Nat.mod_eq_of_lt (by decide : 18446744073709551615 < 2 ^ 64), xor_ones x (by omega)]
  rw [e]
  simp [IntKind.wrap, IntKind.bits, IntKind.signed]
  omega
theorem int_back (v : Nat) (h : v < 18446744073709551616) :
    bXor .i64 (IntKind.i64.wrap (bShr .u64 (v : Int) 1)) (IntKind.i64.wrap (0 - IntKind.i64.wrap (bAnd .u64 (v : Int) 1))) = unzig v := by
  have e1 : bShr .u64 (v : Int) 1 = ((v / 2 : Nat) : Int) := bShr_u64 v 1 (by omega)
  have e2 : bAnd .u64 (v : Int) 1 = ((v % 2 : Nat) : Int) := by
    rw [show (1 : Int) = ((1 : Nat) : Int) from rfl, bAnd_u64 _ _ h (by omega), show v &&& 1 = v % 2 from Nat.and_two_pow_sub_one_eq_mod v 1]
  rw [e1, e2, wrapn_i64 _ (by omega), wrapn_i64 _ (by omega)]
  unfold unzig
  by_cases hv : v % 2 = 0
  · rw [if_pos hv, hv, show IntKind.i64.wrap (0 - ((0 : Nat) : Int)) = 0 from rfl, bXor_i64_0 _ (by omega)]
  · rw [if_neg hv, show v % 2 = 1 from by omega, show IntKind.i64.wrap (0 - ((1 : Nat) : Int)) = -1 from rfl, bXor_i64_m1 _ (by omega)]
end Go.Pv
end

section
/- code.Int; the document's Uint, Int. -/
set_option linter.unusedVariables false
set_option linter.unusedSimpArgs false
set_option maxRecDepth 100000
namespace Go.Pv
open Go.Proofs
end Go.Pv
end

section
/- code.Num, the document's Num. -/
set_option linter.unusedVariables false
set_option linter.unusedSimpArgs false
set_option maxRecDepth 100000
namespace Go.Pv
open Go.Proofs
theorem rightN_exp {x : Nm} (h : rightN x = true) : -65536 ≤ x.exp ∧ x.exp ≤ 65536 ∧ x.w.length ≤ 64 := by
  unfold rightN at h
  split at h
  · rename_i hw
    simp at h
    rw [hw]; simp; omega
  · simp only [Bool.and_eq_true, decide_eq_true_eq] at h
    omega
end Go.Pv
end
