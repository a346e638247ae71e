/- Parts of the walk: PvAe. -/
import Derived.Test.YthllcnigcnoghaaGreatDoorZP
set_option linter.unusedVariables false
set_option linter.unusedSimpArgs false
section
/- An object of scalars lent to a function that only reads it and hands back a new slice of scalars. -/
namespace Go.Pv
theorem rep_scalars {w : World} {g g' : Gh} {v : Value} {rs : List PV} (hrs : ∀ j, j < rs.length → ∃ x, rs.getD j .junk = .sc x) (h : Rep w g v (.sl .no rs))
  (hv : ∀ b off n cap, v = .slice (some ⟨b, off, none⟩) n cap → g'.vis b = g.vis b) : Rep w g' v (.sl .no rs) := by
 cases h with
 | nil t ad ht => exact .nil _ _ rfl
 | sl t es b off sz cap cf ht hfull hcap hsz hvis hc hr =>
  refine .sl _ _ b off sz cap cf rfl hfull hcap hsz (by rw [hv b off _ cap rfl]; exact hvis) hc fun i j hi hj => ?_
  have := hr i j hi hj
  obtain ⟨x, hx⟩ := hrs i hi
  have e : (rs.getD i .junk).cells = [.sc x] := by rw [hx]; rfl
  have hs := hsz i hi
  rw [e] at this hs ⊢
  have : j = 0 := by simp at hs; omega
  subst this
  rw [show cf i 0 = x from Rep.sc_inv (by assumption)]
  exact .sc _
theorem PCalls.lent {P : Program} {f : FuncId} {es rs : List PV} (hes : ∀ j, j < es.length → ∃ v, es.getD j .junk = .sc v) (hrs : ∀ j, j < rs.length → ∃ v, rs.getD j .junk = .sc v)
  (h : PCalls P f [.sl .no es] [] (fun r st' => r = .sl (.fresh 1) rs ∧ st' = [])) (st : Store) (k off : Nat) (hk : k < st.length) (ho : off + es.length ≤ (st.getD k []).length)
  (he : ∀ j, j < es.length → (st.getD k []).getD (off + j) .junk = es.getD j .junk) :
  PCalls P f [.ms true k off es.length] st (fun r st' => r = .sl (.fresh 1) rs ∧ st' = st) := by
 intro w g vs hs hr
 have hkn : k < g.n := by rw [hs.n]; exact hk
 let g0 : Gh := ⟨0, fun _ => 0, fun b => if b = g.mu k then max (st.getD k []).length (g.vis b) else g.vis b⟩
 have hv0 : ∀ b, g.vis b ≤ g0.vis b := fun b => by
  show _ ≤ if _ then _ else _
  split
  · exact Nat.le_max_right _ _
  · exact Nat.le_refl _
 have hs0 : StoreOK w g0 [] := by
  refine ⟨rfl, fun i j hi => by simp [g0] at hi, fun i hi => by simp [g0] at hi, fun i hi => by simp [g0] at hi, fun i hi => by simp [g0] at hi, fun b hb => ?_, fun t ht => ⟨Nat.le_trans (hs.tab t ht).1 (hv0 _), (hs.tab t ht).2⟩⟩
  show (if b = g.mu k then _ else _) = 0
  have := hs.lt k hkn
  rw [if_neg (by omega)]; exact hs.none b hb
 have hr0 : Reps w g0 vs [.sl .no es] := by
  refine ⟨hr.1, fun j hj => ?_⟩
  have hj0 : j = 0 := by simp at hj; omega
  subst hj0
  have hv := hr.2 0 (by simp)
  simp only [List.getD_cons_zero] at hv ⊢
  generalize vs.getD 0 undef = v at hv ⊢
  cases hv with
  | gms _ _ _ cap hi hcap =>
   have hh := hs.holds k hkn
   refine .sl .no es (g.mu k) off 1 cap (fun a _ => match es.getD a .junk with | .sc v => v | _ => undef) rfl (fun h => by cases h) hcap (fun i hi => ?_) ?_ (fun i j hi hj => ?_) (fun i j hi hj => ?_)
   · obtain ⟨x, hx⟩ := hes i hi; rw [hx]; rfl
   · show _ ≤ if g.mu k = g.mu k then max (st.getD k []).length (g.vis (g.mu k)) else _
     rw [if_pos rfl]
     have := Nat.le_max_left (st.getD k []).length (g.vis (g.mu k))
     omega
   · have : j = 0 := by omega
     subst this
     obtain ⟨x, hx⟩ := hes i hi
     obtain ⟨_, c, q1, q2⟩ := hh (off + i) (by omega)
     rw [he i hi, hx] at q2
     rw [hx]
     have e : c = x := Rep.sc_inv q2
     subst e
     simpa using q1
   · have : j = 0 := by omega
     subst this
     obtain ⟨x, hx⟩ := hes i hi
     rw [hx]
     exact .sc _
 refine (h w g0 vs hs0 hr0).mono ?_
 rintro e w' ⟨v, g1, r, st1, rfl, hx, hoo, hrr, rfl, rfl⟩
 have hold : ∀ c, c < w.heap.size → w'.heap[c]? = w.heap[c]? ∧ g1.vis c = g0.vis c := fun c hc => hx.old c hc (fun i hi => by simp [g0] at hi)
 let g2 : Gh := ⟨g.n, g.mu, fun c => if c < w.heap.size then g.vis c else g1.vis c⟩
 have hle : Le w g w' g2 := by
  refine ⟨Nat.le_refl _, fun _ _ => rfl, fun c => ?_, fun c o v ho hc => hx.le.cell c o v (Nat.lt_of_lt_of_le ho (hv0 c)) hc⟩
  show g.vis c ≤ if c < w.heap.size then g.vis c else g1.vis c
  split
  · exact Nat.le_refl _
  · rename_i hn; rw [hs.none c (by omega)]; exact Nat.zero_le _
 have hext : Ext w g w' g2 := by
  refine ⟨hle, hx.os, hx.tape, hx.output, hx.size, fun c hc _ => ⟨(hold c hc).1, if_pos hc⟩, fun i h1 h2 => ?_⟩
  have h2' : i < g.n := h2
  omega
 have hst : StoreOK w' g2 st := by
  refine ⟨hs.n, hs.inj, fun i hi => Nat.lt_of_lt_of_le (hs.lt i hi) hx.size, fun i hi h0 => ?_, fun i hi => ?_, fun c hc => ?_, hs.tab.mono hle⟩
  · show (if g.mu i < w.heap.size then g.vis (g.mu i) else _) = 0
    rw [if_pos (hs.lt i hi)]; exact hs.vis i hi h0
  · exact (hs.holds i hi).mono (hold _ (hs.lt i hi)).1 fun v p hp => hp.mono hle
  · show (if c < w.heap.size then g.vis c else g1.vis c) = 0
    have := hx.size
    rw [if_neg (by omega)]; exact hoo.none c hc
 obtain ⟨hrep, hfr⟩ := hrr
 refine ⟨v, g2, .sl (.fresh 1) rs, st, rfl, hext, hst, ?_, rfl, rfl⟩
 rcases hfr with ⟨b, ⟨off', cap, hv, hsz, hvis, hcap, hex⟩, hb1, hb2, _, c0, el, hblk⟩ | ⟨hz, hz2⟩
 · have hvb : g2.vis b = g1.vis b := if_neg (by omega)
   refine ⟨rep_scalars hrs hrep fun b' off2 n' cap' hv' => ?_, .inl ⟨b, ⟨off', cap, hv, hsz, by rw [hvb]; exact hvis, hcap, hex⟩, hb1, hb2, fun i hi e => ?_, c0, el, hblk⟩⟩
   · rw [hv] at hv'
     simp only [Value.slice.injEq, Option.some.injEq, Addr.mk.injEq, and_true] at hv'
     rw [← hv'.1.1]; exact hvb
   · have := hs.lt i hi
     have e' : g.mu i = b := e
     omega
 · have : rs = [] := List.length_eq_zero_iff.1 hz2
   subst this
   refine ⟨?_, .inr ⟨hz, rfl⟩⟩
   rcases hz with rfl | ⟨a, rfl⟩
   · exact .nil _ _ rfl
   · exact .nil _ _ rfl
end Go.Pv
end
