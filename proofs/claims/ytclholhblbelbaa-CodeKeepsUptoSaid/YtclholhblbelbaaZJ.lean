/- Parts of the walk: F24, F25, F26. -/
import Derived.Test.YtclholhblbelbaaZI
import Derived.Test.YtclholhblbelbaaZE
set_option linter.unusedVariables false
set_option linter.unusedSimpArgs false
section
/- merge.Hull, merge.group, merge.Groups. -/
set_option linter.unusedVariables false
set_option linter.unusedSimpArgs false
set_option maxRecDepth 100000
namespace Go.Pv
open Go.Proofs
attribute [go_sem] List.take_length
def zcells : List PV := [.sc (.int .i64 0), .sc (.int .i64 0), .sc (.bool false), .sc (.int .i64 0), .sl .full [], .sc (.bool false), .sc (.int .i64 0), .sl .full [], .sl .full []]
attribute [go_sem] zcells
theorem mergeHull_c (l : List Sg) (st : Store) (hw : wSs l) : PCalls Try.prog 52 [.sl .no (encSs l)] st (fun r st' => r = .tup [.agg (encS (hullS l).1), .sc (.int .i64 (hullS l).2)] ∧ st' = st) := by
  have hl := hw.1
  refine pcalls_enter none Try.func52 rfl fun E => pwp_of_vc ?_
  have bad : ¬ (l.length ≠ 0 ∧ rowF l = true) → hullS l = (default, 1) := fun h => if_neg h
  simp -dsimp only [go_sem]
  refine gkF (fun h1 => ?_) (fun h1 => ?_)
  · have hn := nbeq_f (b := 0) h1
    simp -dsimp only [go_sem, h1]
    refine (row_c l st hw).mono ?_
    rintro r st ⟨rfl, rfl⟩
    simp -dsimp only [go_sem, h1]
    refine ck (fun h2 => ?_) (fun h2 => ?_)
    · have hr : rowF l = false := by simpa using h2
      simp -dsimp only [go_sem]
      rw [bad (fun h => by simp [hr] at h)]; rfl
    · have hr : rowF l = true := by simpa using h2
      have e0 := encSs_get l 0 (by omega)
      simp -dsimp only [go_sem, e0]
      refine ⟨by omega, ?_⟩
      refine (segCopied_c _ st (hw.2 0 (by omega))).mono ?_
      rintro r st ⟨rfl, rfl⟩
      simp -dsimp only [go_sem]
      refine ⟨⟨by omega, by omega⟩, ?_⟩
      have hlen : (l.drop 1).length = l.length - 1 := by simp
      refine pwp_loop_mask [false, false, true, false, true, false, false, false, false, false, false, false, false, false, false, false, false, false, false, false, false, false, false, true, true, true] 2 0 (fun n s => ∃ i, n = l.length - 1 - i ∧ i ≤ l.length - 1 ∧ s = ⟨[.junk, .junk, .lp 0 0, .junk, .lp 1 0, .junk, .junk, .junk, .junk, .junk, .junk, .junk, .junk, .junk, .junk, .junk, .junk, .junk, .junk, .junk, .junk, .junk, .junk, .sl .no (encSs (l.drop 1)), .sc (.int .i64 (l.drop 1).length), .sc (.int .i64 i)] ++ List.replicate 26 .junk, [zcells, encS (foldS (l.getD 0 default) ((l.drop 1).take i))], [], st⟩) (l.length - 1) ?_ ?_
      · simp -dsimp only [go_sem]
        refine ⟨0, by omega, by omega, rfl⟩
      · rintro n s ⟨i, rfl, hi, rfl⟩
        simp -dsimp only [go_sem]
        refine ck (fun h3 => ?_) (fun h3 => ?_)
        · have hlt : i < (l.drop 1).length := by have := of_decide_eq_true h3; omega
          have e1 := encSs_get (l.drop 1) i hlt
          have e3 := succ_wrap i (by omega)
          have hwx := (wSs_drop hw 1).2 i hlt
          have hwf := wS_foldT (hw.2 0 (by omega)) (wSs_drop hw 1) i (by omega)
          obtain ⟨b1, b2⟩ := fold_box hr i (by omega)
          have b3 := (rightS_parts (rowAt_right (rowF_true.1 hr (1 + i) (by omega)))).2.2.2.2.2.2.2
          have b4 := row_len l.length (fun j hj => rowF_true.1 hr j hj) (1 + i) (by omega)
          have hok : (hullB (foldS (l.getD 0 default) ((l.drop 1).take i)).box ((l.drop 1).getD i default).box).2 = 0 := by
            rw [getD_drop', hullB_ok b1 b3 (by rw [b2, b4])]
          have hst := foldS_take (l.getD 0 default) (l.drop 1) i hlt
          simp -dsimp only [go_sem, e1]
          refine ⟨by omega, ?_⟩
          refine (boxHull_c _ _ st hwf.2.2 hwx.2.2).mono ?_
          rintro r st ⟨rfl, rfl⟩
          simp -dsimp only [go_sem, hok]
          refine pwp_draw mixed 52 (.step 0 [] (.step 1 [] (.step 2 [] (.step 3 [] (.step 4 [] (.step 5 [] (.step 6 [3] (.step 7 [] (.step 8 [] (.step 9 [] (.step 10 [] (.done)))))))))))) (by decide +kernel) (by simp) ?_
          simp -dsimp only [go_sem, e3]
          refine ⟨l.length - 1 - (i + 1), by omega, i + 1, rfl, by omega, ?_⟩
          rw [hst]; rfl
        · have hge : i = (l.drop 1).length := by have := of_decide_eq_false h3; omega
          have hwf := wS_foldT (hw.2 0 (by omega)) (wSs_drop hw 1) i (by omega)
          simp -dsimp only [go_sem]
          refine pwp_of_vc ?_
          simp -dsimp only [go_sem]
          refine (segCopied_c _ st hwf).mono ?_
          rintro r st ⟨rfl, rfl⟩
          simp -dsimp only [go_sem]
          rw [hullS, if_pos ⟨hn, hr⟩, hge, List.take_length]
  · have hn := nbeq_t (b := 0) h1
    simp -dsimp only [go_sem, h1]
    rw [bad (fun h => h.1 hn)]; rfl
theorem group_c (l : List Sg) (size upto : Int) (st : Store) (hw : wSs l) (h0 : 0 < l.length) (hs : 2 ≤ size) (hs2 : size ≤ 64) : PCalls Try.prog 62 [.sl .no (encSs l), .sc (.int .i64 size), .sc (.int .i64 upto)] st (fun r st' => r = .sc (.int .i64 (grp0 l size upto)) ∧ st' = st) := by
  have hl := hw.1
  have e0 := encSs_get l 0 (by omega)
  have hsz : (size != 0) = true := bne_iff_ne.2 (by omega)
  refine pcalls_enter none Try.func62 rfl fun E => pwp_of_vc ?_
  simp -dsimp only [go_sem, e0, hsz]
  have spec : ∀ to, to = IntKind.i64.wrap (IntKind.i64.wrap ((l.getD 0 default).fr + size) - 1) → grp0 l size upto = if (IntKind.i64.wrap ((l.getD 0 default).fr - 1)).tmod size ≠ 0 ∨ to > upto then 0 else
    if (l.takeWhile fun s => decide (s.to < to)).length = l.length ∨ (l.getD (l.takeWhile fun s => decide (s.to < to)).length default).to ≠ to then 0 else (l.takeWhile fun s => decide (s.to < to)).length + 1 := fun to h => by subst h; rfl
  generalize hto : IntKind.i64.wrap (IntKind.i64.wrap ((l.getD 0 default).fr + size) - 1) = to at *
  have spec := spec to rfl
  generalize (IntKind.i64.wrap ((l.getD 0 default).fr - 1)).tmod size = md at *
  refine ⟨by omega, ?_⟩
  have stop : md ≠ 0 ∨ to > upto → grp0 l size upto = 0 := fun h => by rw [spec, if_pos h]
  refine gkF (fun h1 => ?_) (fun h1 => ?_)
  · have h1' := zbne_f h1
    simp -dsimp only [go_sem, h1]
    refine ck (fun h2 => ?_) (fun h2 => ?_)
    · have h2' := of_decide_eq_true h2
      simp -dsimp only [go_sem]
      rw [stop (.inr h2')]; rfl
    · have h2' := of_decide_eq_false h2
      have spec : grp0 l size upto = if (l.takeWhile fun s => decide (s.to < to)).length = l.length ∨ (l.getD (l.takeWhile fun s => decide (s.to < to)).length default).to ≠ to then 0 else (l.takeWhile fun s => decide (s.to < to)).length + 1 := by
        rw [spec, if_neg (by simp [h1', h2'])]
      simp -dsimp only [go_sem]
      refine pwp_loop_mask [true, false, false, false, false, false, false, false, true, true] 0 0 (fun n s => ∃ i, n = l.length - i ∧ i ≤ l.length ∧ (∀ j, j < i → (l.getD j default).to < to) ∧ s = ⟨[.sl .no (encSs l), .junk, .junk, .junk, .junk, .junk, .junk, .junk, .sc (.int .i64 to), .sc (.int .i64 i)] ++ List.replicate 48 .junk, [], [], st⟩) l.length ?_ ?_
      · simp -dsimp only [go_sem]
        exact ⟨0, by omega, by omega, fun j hj => by omega, rfl⟩
      · rintro n s ⟨i, rfl, hi, hr, rfl⟩
        have e3 := succ_wrap i (by omega)
        have fin : (i = l.length ∨ ¬ (l.getD i default).to < to) → (l.takeWhile fun s => decide (s.to < to)).length = i := fun h =>
          takeWhile_len _ default l i (fun j hj => decide_eq_true (hr j hj)) hi (h.imp id fun h => decide_eq_false h)
        simp -dsimp only [go_sem]
        refine gkT (fun h3 => ?_) (fun h3 => ?_)
        · have hlt : i < l.length := by have := of_decide_eq_true h3; omega
          have e1 := encSs_get l i hlt
          simp -dsimp only [go_sem, h3, e1]
          refine ⟨by omega, ck (fun h4 => ?_) (fun h4 => ?_)⟩
          · have h4' := of_decide_eq_true h4
            simp -dsimp only [go_sem, e3]
            refine ⟨l.length - (i + 1), by omega, i + 1, rfl, by omega, fun j hj => ?_, rfl⟩
            by_cases e : j = i
            · subst e; exact h4'
            · exact hr j (by omega)
          · have h4' := of_decide_eq_false h4
            have hf := fin (.inr h4')
            have hne : ((i : Int) == l.length) = false := beq_eq_false_iff_ne.2 (by omega)
            simp -dsimp only [go_sem]
            refine pwp_of_vc ?_
            simp -dsimp only [go_sem, hne, e1]
            refine ⟨by omega, ck (fun h5 => ?_) (fun h5 => ?_)⟩
            · have h5' := zbne_t h5
              simp -dsimp only [go_sem]
              rw [spec, hf, if_pos (.inr h5')]; rfl
            · have h5' := zbne_f h5
              simp -dsimp only [go_sem, e3]
              rw [spec, hf, if_neg (by rintro (h | h); omega; exact h h5')]
        · have hge : i = l.length := by have := of_decide_eq_false h3; omega
          have hf := fin (.inl hge)
          have hne : ((i : Int) == l.length) = true := beq_iff_eq.2 (by omega)
          simp -dsimp only [go_sem, h3]
          refine pwp_of_vc ?_
          simp -dsimp only [go_sem, hne]
          rw [spec, hf, if_pos (.inl hge)]; rfl
  · have h1' := zbne_t h1
    simp -dsimp only [go_sem, h1]
    rw [stop (.inl h1')]; rfl
theorem tubeF_row {l : List Sg} (h : tubeF l = true) : rowF l = true := by unfold tubeF at h; simp at h; exact h.1
theorem groups_c (l0 : List Sg) (size upto : Int) (st : Store) (hw : wSs l0) : PCalls Try.prog 18 [.sl .no (encSs l0), .sc (.int .i64 size), .sc (.int .i64 upto)] st (fun r st' => r = .tup [.sl .no (encSs (groupsS l0 size upto).1), .sc (.int .i64 (groupsS l0 size upto).2)] ∧ st' = st) := by
  have hl0 := hw.1
  refine pcalls_enter none Try.func18 rfl fun E => pwp_of_vc ?_
  have bad : ¬ (tubeF l0 = true ∧ 2 ≤ size ∧ size ≤ 64) → groupsS l0 size upto = ([], 1) := fun h => if_neg h
  simp -dsimp only [go_sem]
  refine (tubeRight_c l0 st hw).mono ?_
  rintro r st ⟨rfl, rfl⟩
  simp -dsimp only [go_sem]
  refine gkF (fun h1 => ?_) (fun h1 => ?_)
  · have ht : tubeF l0 = true := by simpa using h1
    simp -dsimp only [go_sem, ht]
    refine gkF (fun h2 => ?_) (fun h2 => ?_)
    · have h2' : 2 ≤ size := by have := of_decide_eq_false h2; omega
      simp -dsimp only [go_sem, ht, h2]
      refine ck (fun h3 => ?_) (fun h3 => ?_)
      · have h3' := of_decide_eq_true h3
        simp -dsimp only [go_sem]
        rw [bad (by omega)]; rfl
      · have h3' : size ≤ 64 := by have := of_decide_eq_false h3; omega
        have hr0 := tubeF_row ht
        have hg : groupsS l0 size upto = (groupsL size upto l0, 0) := if_pos ⟨ht, h2', h3'⟩
        simp -dsimp only [go_sem]
        refine pwp_claim 8 9 ?_
        simp -dsimp only [go_sem]
        refine pwp_loop_mask [true, true, true, false, false, false, false, false, true] 0 1 (fun n s => ∃ k o, n = l0.length - k ∧ k ≤ l0.length ∧ o.length ≤ k ∧ groupsL size upto l0 = o ++ groupsL size upto (l0.drop k) ∧ s = ⟨[.sl .no (encSs (l0.drop k)), .sc (.int .i64 size), .sc (.int .i64 upto), .junk, .junk, .junk, .junk, .junk, .sl (.own 0) (encSs o)] ++ List.replicate 50 .junk, [], [(o.length, 9)], st⟩) l0.length ?_ ?_
        · simp -dsimp only [go_sem]
          exact ⟨0, [], by omega, by omega, by simp, by simp, rfl⟩
        · rintro n s ⟨k, o, rfl, hk, ho, hgo, rfl⟩
          have hwk := wSs_drop hw k
          have hrk := rowF_drop hr0 k
          have hlk : (l0.drop k).length = l0.length - k := by simp
          have hdd : ∀ j, (l0.drop k).drop j = l0.drop (k + j) := fun j => by rw [List.drop_drop]
          generalize hlq : l0.drop k = l at *
          simp -dsimp only [go_sem]
          refine ck (fun h4 => ?_) (fun h4 => ?_)
          · have hpos : 0 < l.length := by have := of_decide_eq_true h4; omega
            have e0 := encSs_get l 0 hpos
            have hgl := grp0_le l size upto
            have hcons := groupsL_cons size upto l hpos
            simp -dsimp only [go_sem]
            refine (group_c l size upto st hwk hpos h2' h3').mono ?_
            rintro r st ⟨rfl, rfl⟩
            simp -dsimp only [go_sem]
            refine ck (fun h5 => ?_) (fun h5 => ?_)
            · have h5' : grp0 l size upto < 2 := by have := of_decide_eq_true h5; omega
              have hg1 : grp l size upto = 1 := by rw [grp_of0, if_pos h5']
              simp -dsimp only [go_sem, e0]
              refine ⟨by omega, ?_⟩
              refine (segCopied_c _ st (hwk.2 0 hpos)).mono ?_
              rintro r st ⟨rfl, rfl⟩
              simp -dsimp only [go_sem]
              refine ⟨by omega, ⟨by omega, by omega⟩, l0.length - (k + 1), by omega, k + 1, o ++ [l.getD 0 default], rfl, by omega, by simp; omega, ?_, ?_⟩
              · rw [hgo, hcons, hg1, hdd]
                have : (l.take 1).drop 1 = [] := by apply List.eq_nil_of_length_eq_zero; simp
                rw [this]; simp [foldS]
              · rw [hdd]; simp [encSs, encS]
            · have h5' : ¬ grp0 l size upto < 2 := by have := of_decide_eq_false h5; omega
              have hg1 : grp l size upto = grp0 l size upto := by rw [grp_of0, if_neg h5']
              have hht := hullS_take hrk (grp0 l size upto) (by omega) hpos
              simp -dsimp only [go_sem]
              refine ⟨⟨by omega, by omega⟩, ?_⟩
              refine (mergeHull_c _ st (wSs_take hwk _)).mono ?_
              rintro r st ⟨rfl, rfl⟩
              rw [hht]
              simp -dsimp only [go_sem]
              refine ⟨by omega, ⟨by omega, by omega⟩, l0.length - (k + grp0 l size upto), by omega, k + grp0 l size upto, o ++ [foldS (l.getD 0 default) ((l.take (grp0 l size upto)).drop 1)], rfl, by omega, by simp; omega, ?_, ?_⟩
              · rw [hgo, hcons, hg1, hdd]; simp
              · rw [hdd]; simp [encSs, encS]
          · have hz : l.length = 0 := by have := of_decide_eq_false h4; omega
            have hnil : l = [] := List.length_eq_zero_iff.1 hz
            simp -dsimp only [go_sem]
            refine pwp_of_vc ?_
            simp -dsimp only [go_sem]
            rw [hg, hgo, hnil, groupsL_nil, List.append_nil]
    · have h2' : ¬ 2 ≤ size := by have := of_decide_eq_true h2; omega
      simp -dsimp only [go_sem, ht, h2]
      rw [bad (by omega)]; rfl
  · have ht : tubeF l0 = false := by simpa using h1
    simp -dsimp only [go_sem, ht]
    rw [bad (fun h => by simp [ht] at h)]; rfl
end Go.Pv
end

section
/- The document's Hull and Groups. -/
set_option linter.unusedVariables false
set_option linter.unusedSimpArgs false
set_option maxRecDepth 100000
namespace Go.Pv
open Go.Proofs
/-- What the document's hull holds after i pieces. -/
def curS (l : List Sg) (i : Nat) : Sg := foldS (l.getD 0 default) ((l.drop 1).take (i - 1))
theorem curS_succ {l : List Sg} {i : Nat} (hr : ∀ j, j < i + 1 → rowAt l j = true) (h : i < l.length) : curS l (i + 1) = stepS (curS l i) (l.getD i default) := by
  unfold curS
  cases i with
  | zero =>
    have := (rightS_parts (rowAt_right (hr 0 (by omega)))).2.2.2.2.2.2.2
    simp only [Nat.add_sub_cancel, Nat.zero_sub, List.take_zero, foldS, List.foldl_nil]
    rw [stepS_self this]
  | succ i =>
    rw [Nat.add_sub_cancel, Nat.add_sub_cancel, foldS_take _ _ i (by simp; omega), getD_drop', Nat.add_comm 1 i]
theorem curS_box {l : List Sg} : ∀ {i : Nat}, (∀ j, j < i → rowAt l j = true) → i ≤ l.length → (curS l i).box.length = (l.getD 0 default).box.length ∧ (0 < i → rightB (curS l i).box = true)
  | 0, _, _ => ⟨by simp [curS, foldS], fun h => by omega⟩
  | 1, hr, h => ⟨by simp [curS, foldS], fun _ => by
      have := (rightS_parts (rowAt_right (hr 0 (by omega)))).2.2.2.2.2.2.2
      simpa [curS, foldS] using this⟩
  | i + 2, hr, h => by
    obtain ⟨h1, h2⟩ := curS_box (i := i + 1) (fun j hj => hr j (by omega)) (by omega)
    have h3 := (rightS_parts (rowAt_right (hr (i + 1) (by omega)))).2.2.2.2.2.2.2
    have h4 := row_len (i + 2) hr (i + 1) (by omega)
    rw [curS_succ hr (by omega)]
    obtain ⟨a, b⟩ := hullB_right (h2 (by omega)) h3 (by rw [h1, h4])
    exact ⟨by show (hullB _ _).1.length = _; rw [b, h1], fun _ => a⟩
theorem curS_w {l : List Sg} (hw : wSs l) (h0 : 0 < l.length) (i : Nat) (h : i ≤ l.length) : wS (curS l i) := wS_foldT (hw.2 0 h0) (wSs_drop hw 1) _ (by simp; omega)
theorem refMHull_c (l : List Sg) (st : Store) (hw : wSs l) : PCalls Try.prog 57 [.sl .no (encSs l)] st (fun r st' => r = .tup [.agg (encS (hullS l).1), .sc (.int .i64 (hullS l).2)] ∧ st' = st) := by
  have hl := hw.1
  refine pcalls_enter none Try.func57 rfl fun E => pwp_of_vc ?_
  have bad : ¬ (l.length ≠ 0 ∧ rowF l = true) → hullS l = (default, 1) := fun h => if_neg h
  simp -dsimp only [go_sem]
  refine ck (fun h1 => ?_) (fun h1 => ?_)
  · have hn := nbeq_t (b := 0) h1
    simp -dsimp only [go_sem]
    rw [bad (fun h => h.1 hn)]; rfl
  · have hn := nbeq_f (b := 0) h1
    have e0 := encSs_get l 0 (by omega)
    simp -dsimp only [go_sem, e0]
    refine ⟨by omega, ?_⟩
    refine pwp_loop_mask [true, false, true, false, true, true] 2 0 (fun n s => ∃ i, n = l.length - i ∧ i ≤ l.length ∧ (∀ j, j < i → rowAt l j = true) ∧ s = ⟨[.sl .no (encSs l), .junk, .lp 0 0, .junk, .lp 1 0, .sc (.int .i64 i)] ++ List.replicate 69 .junk, [zcells, encS (curS l i)], [], st⟩) l.length ?_ ?_
    · simp -dsimp only [go_sem]
      exact ⟨0, by omega, by omega, fun j hj => by omega, rfl⟩
    · rintro n s ⟨i, rfl, hi, hr, rfl⟩
      simp -dsimp only [go_sem]
      refine ck (fun h2 => ?_) (fun h2 => ?_)
      · have hlt : i < l.length := by have := of_decide_eq_true h2; omega
        have e1 := encSs_get l i hlt
        have e3 := succ_wrap i (by omega)
        have badi : rowAt l i = false → hullS l = (default, 1) := fun h => bad (fun hh => by rw [rowF_false i hlt h] at hh; cases hh.2)
        have hcw := curS_w hw (by omega) i hi
        have good : ∀ K : Prop, rowAt l i = true → True := fun _ _ => trivial
        simp -dsimp only [go_sem]
        refine pwp_draw mixed 75 (.step 0 [] (.step 1 [] (.step 2 [] (.step 3 [] (.step 4 [] (.step 5 [] (.step 6 [] (.step 7 [] (.step 8 [] (.step 9 [] (.step 10 [] (.step 11 [] (.step 12 [] (.step 13 [] (.step 14 [] (.step 15 [] (.step 16 [] (.step 17 [] (.step 18 [] (.step 19 [3] (.step 20 [] (.step 21 [] (.step 22 [] (.done)))))))))))))))))))))))) (by decide +kernel) (by simp) ?_
        simp -dsimp only [go_sem, e1]
        refine ⟨by omega, ?_⟩
        refine (refRightSeg_c _ st (hw.2 i hlt)).mono ?_
        rintro r st ⟨rfl, rfl⟩
        simp -dsimp only [go_sem, e1]
        refine gkF (fun h3 => ?_) (fun h3 => ?_)
        · have ht : rightS (l.getD i default) = true := by simpa using h3
          simp -dsimp only [go_sem, h3]
          refine gkT (fun h4 => ?_) (fun h4 => ?_)
          case' refine_1 =>
            have hp : 0 < i := by have := of_decide_eq_true h4; omega
            have e4 := pred_wrap i (by omega) hp
            have e5 := encSs_get l (i - 1) (by omega)
            have hb : rowAt l i = behindS (l.getD (i - 1) default) (l.getD i default) := by
              unfold rowAt; rw [ht, decide_eq_false (by omega : ¬ i = 0)]; rfl
            simp -dsimp only [go_sem, h3, h4, e1, e4, e5]
            refine ⟨by omega, by omega, ?_⟩
            refine (behind_c _ _ st (hw.2 (i - 1) (by omega)) (hw.2 i hlt)).mono ?_
            rintro r st ⟨rfl, rfl⟩
            simp -dsimp only [go_sem, h3, h4]
            refine ck (fun h5 => ?_) (fun h5 => ?_)
            case' refine_1 =>
              have h5' : behindS (l.getD (i - 1) default) (l.getD i default) = false := by simpa using h5
              simp -dsimp only [go_sem]
              rw [badi (by rw [hb]; exact h5')]; rfl
            case' refine_2 =>
              have hat : rowAt l i = true := by rw [hb]; simpa using h5
              simp -dsimp only [go_sem]
          case' refine_2 =>
            have h0 : i = 0 := by have := of_decide_eq_false h4; omega
            have hat : rowAt l i = true := by unfold rowAt; rw [ht, decide_eq_true h0]; rfl
            simp -dsimp only [go_sem, h3, h4]
          all_goals
            have hr' : ∀ j, j < i + 1 → rowAt l j = true := fun j hj => by
              by_cases e : j = i
              · subst e; exact hat
              · exact hr j (by omega)
            obtain ⟨b1, b2⟩ := curS_box hr hi
            have b3 := (rightS_parts ht).2.2.2.2.2.2.2
            have b4 := row_len (i + 1) hr' i (by omega)
            have hok : (hullB (curS l i).box (l.getD i default).box).2 = 0 := by
              by_cases h0 : i = 0
              · subst h0
                have : curS l 0 = l.getD 0 default := by simp [curS, foldS]
                rw [this, hullB_self b3]
              · rw [hullB_ok (b2 (by omega)) b3 (by rw [b1, b4])]
            have hsucc := curS_succ hr' hlt
            refine pwp_draw mixed 75 (.step 0 [] (.step 1 [] (.step 2 [] (.step 3 [] (.step 4 [] (.step 5 [] (.step 6 [] (.step 7 [] (.step 8 [] (.step 9 [] (.step 10 [] (.step 11 [] (.step 12 [] (.done)))))))))))))) (by decide +kernel) (by simp) ?_
            simp -dsimp only [go_sem, e1]
            refine ⟨by omega, ?_⟩
            refine (hullBox_c _ _ st hcw.2.2 (hw.2 i hlt).2.2).mono ?_
            rintro r st ⟨rfl, rfl⟩
            simp -dsimp only [go_sem, hok]
            refine pwp_draw mixed 75 (.step 0 [] (.step 1 [] (.step 2 [] (.step 3 [] (.step 4 [] (.step 5 [] (.step 6 [] (.step 7 [] (.step 8 [] (.step 9 [] (.step 10 [] (.step 11 [] (.step 12 [5, 10] (.step 13 [] (.step 14 [10] (.step 15 [] (.step 16 [] (.done)))))))))))))))))) (by decide +kernel) (by simp) ?_
            simp -dsimp only [go_sem, e1, e3]
            refine ⟨by omega, by omega, l.length - (i + 1), by omega, i + 1, rfl, by omega, hr', ?_⟩
            rw [hsucc]; rfl
        · have hf : rightS (l.getD i default) = false := by simpa using h3
          simp -dsimp only [go_sem, h3]
          rw [badi (by unfold rowAt; rw [hf]; rfl)]; rfl
      · have hge : i = l.length := by have := of_decide_eq_false h2; omega
        simp -dsimp only [go_sem]
        refine pwp_of_vc ?_
        simp -dsimp only [go_sem]
        have hr2 := rowF_true.2 (fun j hj => hr j (by omega))
        have hc : curS l i = foldS (l.getD 0 default) (l.drop 1) := by
          rw [curS, hge, List.take_of_length_le (by simp)]
        rw [hullS, if_pos ⟨hn, hr2⟩, hc]
set_option maxHeartbeats 1000000 in
theorem refGroups_c (l : List Sg) (size upto : Int) (st : Store) (hw : wSs l) : PCalls Try.prog 58 [.sl .no (encSs l), .sc (.int .i64 size), .sc (.int .i64 upto)] st (fun r st' => r = .tup [.sl .no (encSs (groupsS l size upto).1), .sc (.int .i64 (groupsS l size upto).2)] ∧ st' = st) := by
  have hl := hw.1
  refine pcalls_enter none Try.func58 rfl fun E => pwp_of_vc ?_
  have bad : ¬ (tubeF l = true ∧ 2 ≤ size ∧ size ≤ 64) → groupsS l size upto = ([], 1) := fun h => if_neg h
  simp -dsimp only [go_sem]
  refine (tube_c l st hw).mono ?_
  rintro r st ⟨rfl, rfl⟩
  simp -dsimp only [go_sem]
  refine gkF (fun h1 => ?_) (fun h1 => ?_)
  · have ht : tubeF l = true := by simpa using h1
    simp -dsimp only [go_sem, ht]
    refine gkF (fun h2 => ?_) (fun h2 => ?_)
    · have h2' : 2 ≤ size := by have := of_decide_eq_false h2; omega
      simp -dsimp only [go_sem, ht, h2]
      refine ck (fun h3 => ?_) (fun h3 => ?_)
      · have h3' := of_decide_eq_true h3
        simp -dsimp only [go_sem]
        rw [bad (by omega)]; rfl
      · have h3' : size ≤ 64 := by have := of_decide_eq_false h3; omega
        have hr0 := tubeF_row ht
        have hsz : (size != 0) = true := bne_iff_ne.2 (by omega)
        have hg : groupsS l size upto = (groupsL size upto l, 0) := if_pos ⟨ht, h2', h3'⟩
        simp -dsimp only [go_sem]
        refine pwp_claim 8 9 ?_
        simp -dsimp only [go_sem]
        refine pwp_loop_mask [true, true, true, false, false, false, false, false, true, true] 0 1 (fun n s => ∃ i o, n = l.length - i ∧ i ≤ l.length ∧ o.length ≤ i ∧ groupsL size upto l = o ++ groupsL size upto (l.drop i) ∧ s = ⟨[.sl .no (encSs l), .sc (.int .i64 size), .sc (.int .i64 upto), .junk, .junk, .junk, .junk, .junk, .sl (.own 0) (encSs o), .sc (.int .i64 i)] ++ List.replicate 86 .junk, [], [(o.length, 9)], st⟩) l.length ?_ ?_
        · simp -dsimp only [go_sem]
          exact ⟨0, [], by omega, by omega, by simp, by simp, rfl⟩
        · rintro n s ⟨i, o, rfl, hi, ho, hgo, rfl⟩
          simp -dsimp only [go_sem]
          refine ck (fun h4 => ?_) (fun h4 => ?_)
          · have hlt : i < l.length := by have := of_decide_eq_true h4; omega
            have e1 := encSs_get l i hlt
            have e3 := succ_wrap i (by omega)
            have hpos : 0 < (l.drop i).length := by simp; omega
            have hcons := groupsL_cons size upto (l.drop i) hpos
            have hgle := grp_le (l.drop i) size upto hpos
            have hgpos := grp_pos (l.drop i) size upto
            have hlk : (l.drop i).length = l.length - i := by simp
            have hht := hullS_take (rowF_drop hr0 i) (grp (l.drop i) size upto) (by omega) hpos
            have hspec : grp (l.drop i) size upto = if (IntKind.i64.wrap ((l.getD i default).fr - 1)).tmod size ≠ 0 ∨ IntKind.i64.wrap (IntKind.i64.wrap ((l.getD i default).fr + size) - 1) > upto then 1 else
              if ((l.drop i).takeWhile fun s => decide (s.to < IntKind.i64.wrap (IntKind.i64.wrap ((l.getD i default).fr + size) - 1))).length = (l.drop i).length ∨ ((l.drop i).getD ((l.drop i).takeWhile fun s => decide (s.to < IntKind.i64.wrap (IntKind.i64.wrap ((l.getD i default).fr + size) - 1))).length default).to ≠ IntKind.i64.wrap (IntKind.i64.wrap ((l.getD i default).fr + size) - 1) then 1 else ((l.drop i).takeWhile fun s => decide (s.to < IntKind.i64.wrap (IntKind.i64.wrap ((l.getD i default).fr + size) - 1))).length + 1 := by
              conv => lhs; unfold grp
              simp only [getD_drop', Nat.add_zero]
            have hseg : (l.take (i + grp (l.drop i) size upto)).drop i = (l.drop i).take (grp (l.drop i) size upto) := by rw [List.drop_take]; congr 1; omega
            have hww := wSs_take (wSs_drop hw i) (grp (l.drop i) size upto)
            obtain ⟨g, hgg⟩ : ∃ g, grp (l.drop i) size upto = g := ⟨_, rfl⟩
            rw [hgg] at hspec hcons hgle hgpos hht hseg hww
            obtain ⟨last, hlast⟩ : ∃ x, IntKind.i64.wrap (IntKind.i64.wrap ((l.getD i default).fr + size) - 1) = x := ⟨_, rfl⟩
            obtain ⟨md, hmd⟩ : ∃ x, (IntKind.i64.wrap ((l.getD i default).fr - 1)).tmod size = x := ⟨_, rfl⟩
            simp only [hlast, hmd] at hspec
            simp -dsimp only [go_sem, e1, e3, hsz, hlast, hmd]
            refine ⟨by omega, by omega, ?_⟩
            refine gkT (fun h5 => ?a) (fun h5 => ?b)
            case' b =>
              have h5' := zbeq_f h5
              have hg1 : g = 1 := by rw [hspec, if_pos (.inl h5')]
              subst hg1
              simp -dsimp only [go_sem, h5]
            case' a =>
              have h5' := zbeq_t h5
              simp -dsimp only [go_sem, h5, hlast]
              refine ck (fun h6 => ?c) (fun h6 => ?d)
            case' d =>
              have h6' := of_decide_eq_false h6
              have hg1 : g = 1 := by rw [hspec, if_pos (.inr (by omega))]
              subst hg1
              simp -dsimp only [go_sem, h6]
            case' c =>
              have h6' := of_decide_eq_true h6
              have hspec : g = if ((l.drop i).takeWhile fun s => decide (s.to < last)).length = (l.drop i).length ∨ ((l.drop i).getD ((l.drop i).takeWhile fun s => decide (s.to < last)).length default).to ≠ last then 1 else ((l.drop i).takeWhile fun s => decide (s.to < last)).length + 1 := by
                rw [hspec, if_neg (by simp [h5']; omega)]
              simp -dsimp only [go_sem, h6]
              refine pwp_loop_mask [true, true, true, false, false, false, false, false, true, true, true, true] 0 1 (fun n s => ∃ k, n = l.length - k ∧ i + 1 ≤ k ∧ k ≤ l.length ∧ (∀ j, i + j < k - 1 → (l.getD (i + j) default).to < last) ∧ s = ⟨[.sl .no (encSs l), .sc (.int .i64 size), .sc (.int .i64 upto), .junk, .junk, .junk, .junk, .junk, .sl (.own 0) (encSs o), .sc (.int .i64 i), .sc (.int .i64 k), .sc (.int .i64 last)] ++ List.replicate 84 .junk, [], [(o.length, 9)], st⟩) (l.length - (i + 1)) ?_ ?_
              · simp -dsimp only [go_sem]
                exact ⟨i + 1, rfl, by omega, by omega, fun j hj => by omega, rfl⟩
              · rintro n s ⟨k, rfl, hk1, hk2, hkr, rfl⟩
                have f3 := succ_wrap k (by omega)
                have f4 := pred_wrap k (by omega) (by omega)
                have g5 := encSs_get l (k - 1) (by omega)
                have fin : ¬ (l.getD (k - 1) default).to < last → ((l.drop i).takeWhile fun s => decide (s.to < last)).length = k - 1 - i := fun h =>
                  takeWhile_len _ default (l.drop i) (k - 1 - i) (fun j hj => by rw [getD_drop']; exact decide_eq_true (hkr j (by omega))) (by omega) (.inr (by rw [getD_drop', show i + (k - 1 - i) = k - 1 from by omega]; exact decide_eq_false h))
                have fin2 : (l.getD (k - 1) default).to < last → k = l.length → ((l.drop i).takeWhile fun s => decide (s.to < last)).length = (l.drop i).length := fun h hk =>
                  takeWhile_len _ default (l.drop i) _ (fun j hj => by
                    rw [getD_drop']
                    by_cases e : i + j = k - 1
                    · rw [e]; exact decide_eq_true h
                    · exact decide_eq_true (hkr j (by omega))) (Nat.le_refl _) (.inl rfl)
                have tail : (k = l.length ∨ ¬ (l.getD (k - 1) default).to < last) → ((l.getD (k - 1) default).to ≠ last → g = 1) ∧ ((l.getD (k - 1) default).to = last → k = i + g) := fun h => by
                  by_cases hlt' : (l.getD (k - 1) default).to < last
                  · have hk : k = l.length := h.resolve_right (fun hh => hh hlt')
                    refine ⟨fun _ => by rw [hspec, if_pos (.inl (fin2 hlt' hk))], fun he => by omega⟩
                  · have hf := fin hlt'
                    have hd : (l.drop i).getD (k - 1 - i) default = l.getD (k - 1) default := by rw [getD_drop', show i + (k - 1 - i) = k - 1 from by omega]
                    refine ⟨fun hne => by rw [hspec, hf, hd, if_pos (.inr hne)], fun he => ?_⟩
                    rw [hspec, hf, hd, if_neg (by rintro (h | h); omega; exact h he)]; omega
                simp -dsimp only [go_sem]
                refine gkT (fun h7 => ?_) (fun h7 => ?_)
                · have h7' : k < l.length := by have := of_decide_eq_true h7; omega
                  simp -dsimp only [go_sem, h7, f4, g5]
                  refine ⟨by omega, ck (fun h8 => ?_) (fun h8 => ?_)⟩
                  · have h8' := of_decide_eq_true h8
                    simp -dsimp only [go_sem, f3]
                    refine ⟨l.length - (k + 1), by omega, k + 1, rfl, by omega, by omega, fun j hj => ?_, rfl⟩
                    by_cases e : i + j = k - 1
                    · rw [e]; exact h8'
                    · exact hkr j (by omega)
                  · have h8' := of_decide_eq_false h8
                    have ht := tail (.inr h8')
                    simp -dsimp only [go_sem]
                    refine pwp_of_vc ?_
                    simp -dsimp only [go_sem, f4, g5]
                    refine ⟨by omega, ck (fun h9 => ?_) (fun h9 => ?_)⟩
                    · have h9' := ht.1 (zbne_t h9)
                      subst h9'
                      simp -dsimp only [go_sem, e3]
                      refine pwp_of_vc ?_
                      simp -dsimp only [go_sem, hseg]
                      refine ⟨⟨by omega, by omega⟩, ?_⟩
                      refine (refMHull_c _ st hww).mono ?_
                      rintro r st ⟨rfl, rfl⟩
                      rw [hht]
                      simp -dsimp only [go_sem]
                      refine ⟨by omega, l.length - (i + 1), by omega, i + 1, o ++ [foldS ((l.drop i).getD 0 default) (((l.drop i).take 1).drop 1)], rfl, by omega, by simp; omega, ?_, ?_⟩
                      · rw [hgo, hcons, List.drop_drop]; simp
                      · simp [encSs, encS]
                    · have h9' := ht.2 (zbne_f h9)
                      subst h9'
                      simp -dsimp only [go_sem, e3]
                      refine pwp_of_vc ?_
                      simp -dsimp only [go_sem, hseg]
                      refine ⟨⟨by omega, by omega⟩, ?_⟩
                      refine (refMHull_c _ st hww).mono ?_
                      rintro r st ⟨rfl, rfl⟩
                      rw [hht]
                      simp -dsimp only [go_sem]
                      refine ⟨by omega, l.length - (i + g), by omega, i + g, o ++ [foldS ((l.drop i).getD 0 default) (((l.drop i).take g).drop 1)], rfl, by omega, by simp; omega, ?_, ?_⟩
                      · rw [hgo, hcons, List.drop_drop]; simp
                      · simp [encSs, encS]
                · have h7' : k = l.length := by have := of_decide_eq_false h7; omega
                  have ht := tail (.inl h7')
                  simp -dsimp only [go_sem, h7]
                  refine pwp_of_vc ?_
                  simp -dsimp only [go_sem, f4, g5]
                  refine ⟨by omega, ck (fun h9 => ?_) (fun h9 => ?_)⟩
                  · have h9' := ht.1 (zbne_t h9)
                    subst h9'
                    simp -dsimp only [go_sem, e3]
                    refine pwp_of_vc ?_
                    simp -dsimp only [go_sem, hseg]
                    refine ⟨⟨by omega, by omega⟩, ?_⟩
                    refine (refMHull_c _ st hww).mono ?_
                    rintro r st ⟨rfl, rfl⟩
                    rw [hht]
                    simp -dsimp only [go_sem]
                    refine ⟨by omega, l.length - (i + 1), by omega, i + 1, o ++ [foldS ((l.drop i).getD 0 default) (((l.drop i).take 1).drop 1)], rfl, by omega, by simp; omega, ?_, ?_⟩
                    · rw [hgo, hcons, List.drop_drop]; simp
                    · simp [encSs, encS]
                  · have h9' := ht.2 (zbne_f h9)
                    subst h9'
                    simp -dsimp only [go_sem, e3]
                    refine pwp_of_vc ?_
                    simp -dsimp only [go_sem, hseg]
                    refine ⟨⟨by omega, by omega⟩, ?_⟩
                    refine (refMHull_c _ st hww).mono ?_
                    rintro r st ⟨rfl, rfl⟩
                    rw [hht]
                    simp -dsimp only [go_sem]
                    refine ⟨by omega, l.length - (i + g), by omega, i + g, o ++ [foldS ((l.drop i).getD 0 default) (((l.drop i).take g).drop 1)], rfl, by omega, by simp; omega, ?_, ?_⟩
                    · rw [hgo, hcons, List.drop_drop]; simp
                    · simp [encSs, encS]
            all_goals
              refine pwp_of_vc ?_
              simp -dsimp only [go_sem, hseg]
              refine ⟨⟨by omega, by omega⟩, ?_⟩
              refine (refMHull_c _ st hww).mono ?_
              rintro r st ⟨rfl, rfl⟩
              rw [hht]
              simp -dsimp only [go_sem]
              refine ⟨by omega, l.length - (i + 1), by omega, i + 1, o ++ [foldS ((l.drop i).getD 0 default) (((l.drop i).take 1).drop 1)], rfl, by omega, by simp; omega, ?_, ?_⟩
              · rw [hgo, hcons, List.drop_drop]; simp
              · simp [encSs, encS]
          · have hge : i = l.length := by have := of_decide_eq_false h4; omega
            simp -dsimp only [go_sem]
            refine pwp_of_vc ?_
            simp -dsimp only [go_sem]
            rw [hg, hgo, hge, List.drop_length, groupsL_nil, List.append_nil]
    · have h2' : ¬ 2 ≤ size := by have := of_decide_eq_true h2; omega
      simp -dsimp only [go_sem, ht, h2]
      rw [bad (by omega)]; rfl
  · have ht : tubeF l = false := by simpa using h1
    simp -dsimp only [go_sem, ht]
    rw [bad (fun h => by simp [ht] at h)]; rfl
end Go.Pv
end

section
/- The law's told and known; MergeAny. -/
set_option linter.unusedVariables false
set_option linter.unusedSimpArgs false
set_option maxRecDepth 100000
namespace Go.Pv
open Go.Proofs
theorem wSs_nil : wSs [] := ⟨by simp, fun i hi => by simp at hi⟩
theorem getD_append' {α : Type} (a b : List α) (i : Nat) (d : α) : (a ++ b).getD i d = if i < a.length then a.getD i d else b.getD (i - a.length) d := by
  split
  · rename_i h; simp [List.getD_eq_getElem?_getD, List.getElem?_append_left h]
  · rename_i h; rw [List.getD_eq_getElem?_getD, List.getElem?_append_right (by omega), ← List.getD_eq_getElem?_getD]
/-- What comes out of the groups is no longer than what went in. -/
theorem w_groupsL (size upto : Int) : ∀ (n : Nat) (l : List Sg), l.length = n → (∀ i, i < l.length → wS (l.getD i default)) → l.length ≤ 100000000000 → (groupsL size upto l).length ≤ l.length ∧ ∀ i, i < (groupsL size upto l).length → wS ((groupsL size upto l).getD i default) := by
  intro n
  induction n using Nat.strongRecOn with
  | _ n ih =>
    intro l hl hw hb
    by_cases h0 : l.length = 0
    · have : l = [] := List.length_eq_zero_iff.1 h0
      subst this
      rw [groupsL_nil]; exact ⟨by simp, fun i hi => by simp at hi⟩
    · rw [groupsL_cons size upto l (by omega)]
      have hg := grp_pos l size upto
      have hws : wSs l := ⟨hb, hw⟩
      obtain ⟨h1, h2⟩ := ih (l.drop (grp l size upto)).length (by simp; omega) (l.drop (grp l size upto)) rfl (wSs_drop hws _).2 (wSs_drop hws _).1
      refine ⟨by simp at h1 ⊢; omega, fun i hi => ?_⟩
      cases i with
      | zero =>
        rw [List.getD_cons_zero]
        have := wS_fold (hw 0 (by omega)) (wSs_drop (wSs_take hws (grp l size upto)) 1)
        exact this
      | succ i => rw [List.getD_cons_succ]; exact h2 i (by simpa using hi)
theorem w_groupsS {l : List Sg} (hw : wSs l) (size upto : Int) : wSs (groupsS l size upto).1 := by
  unfold groupsS
  split
  · obtain ⟨h1, h2⟩ := w_groupsL size upto l.length l rfl hw.2 hw.1
    exact ⟨Nat.le_trans h1 hw.1, h2⟩
  · exact wSs_nil
theorem told_c (l : List Sg) (size upto : Int) (st : Store) (hw : wSs l) : PCalls Try.prog 14 [.sl .no (encSs l), .sc (.int .i64 size), .sc (.int .i64 upto)] st (fun r st' => r = .sc (.bool true) ∧ st' = st) := by
  refine pcalls_enter none Try.func14 rfl fun E => pwp_of_vc ?_
  simp -dsimp only [go_sem]
  refine (mergeHull_c l st hw).mono ?_
  rintro r st ⟨rfl, rfl⟩
  simp -dsimp only [go_sem]
  refine (refMHull_c l st hw).mono ?_
  rintro r st ⟨rfl, rfl⟩
  simp -dsimp only [go_sem]
  refine (groups_c l size upto st hw).mono ?_
  rintro r st ⟨rfl, rfl⟩
  simp -dsimp only [go_sem]
  refine (refGroups_c l size upto st hw).mono ?_
  rintro r st ⟨rfl, rfl⟩
  have t1 : ((hullS l).2 == (hullS l).2) = true := by simp
  have t2 : ((groupsS l size upto).2 == (groupsS l size upto).2) = true := by simp
  simp -dsimp only [go_sem, t1, t2]
  refine (refSameSeg_c _ _ st (wS_hullS hw) (wS_hullS hw)).mono ?_
  rintro r st ⟨rfl, rfl⟩
  simp -dsimp only [go_sem]
  refine (sameTube_c _ _ st (w_groupsS hw _ _) (w_groupsS hw _ _)).mono ?_
  rintro r st ⟨rfl, rfl⟩
  simp -dsimp only [go_sem]
def kOne : Nm := ⟨false, 0, [1]⟩
def kTwo : Nm := ⟨false, 1, [1]⟩
def kL : List Sg := [⟨1, 1, default, kOne, [default]⟩, ⟨2, 2, kOne, kTwo, [⟨default, kOne⟩]⟩]
def kS : Sg := ⟨1, 2, default, kTwo, [⟨default, kOne⟩]⟩
theorem kHull : hullS kL = (kS, 0) := by decide +kernel
theorem kG1 : groupsS kL 2 2 = ([kS], 0) := by
  have h : tubeF kL = true ∧ (2 : Int) ≤ 2 ∧ (2 : Int) ≤ 64 := by decide +kernel
  have g : grp kL 2 2 = 2 := by decide +kernel
  rw [groupsS, if_pos h, groupsL_cons _ _ _ (by decide), g]
  have e : kL.drop 2 = [] := rfl
  rw [e, groupsL_nil]
  decide +kernel
theorem kG2 : groupsS kL 2 1 = (kL, 0) := by
  have h : tubeF kL = true ∧ (2 : Int) ≤ 2 ∧ (2 : Int) ≤ 64 := by decide +kernel
  have g : grp kL 2 1 = 1 := by decide +kernel
  have g2 : grp (kL.drop 1) 2 1 = 1 := by decide +kernel
  rw [groupsS, if_pos h, groupsL_cons _ _ _ (by decide), g, groupsL_cons _ _ (kL.drop 1) (by decide), g2]
  have e : (kL.drop 1).drop 1 = [] := rfl
  rw [e, groupsL_nil]
  decide +kernel
theorem kG3 : groupsS kL 1 2 = ([], 1) := by
  rw [groupsS, if_neg (by omega)]
theorem wN_of {x : Nm} (h : x.w.length ≤ 5) : wN x := by unfold wN; omega
theorem kW : wSs kL := by
  refine ⟨by decide, fun i hi => ?_⟩
  have : i = 0 ∨ i = 1 := by have : kL.length = 2 := rfl
                             omega
  rcases this with rfl | rfl
  · refine ⟨wN_of (by decide), wN_of (by decide), by decide, fun i hi => ?_⟩
    have : i = 0 := by have : (kL.getD 0 default).box.length = 1 := rfl
                       omega
    subst this
    exact ⟨wN_of (by decide), wN_of (by decide)⟩
  · refine ⟨wN_of (by decide), wN_of (by decide), by decide, fun i hi => ?_⟩
    have : i = 0 := by have : (kL.getD 1 default).box.length = 1 := rfl
                       omega
    subst this
    exact ⟨wN_of (by decide), wN_of (by decide)⟩
theorem kEnc : encSs kL = [.agg [.sc (.int .i64 1), .sc (.int .i64 1), .sc (.bool false), .sc (.int .i64 0), .sl .no [], .sc (.bool false), .sc (.int .i64 0), .sl .no [.sc (.int .u64 1)], .sl .no [.agg [.sc (.bool false), .sc (.int .i64 0), .sl .no [], .sc (.bool false), .sc (.int .i64 0), .sl .no []]]],
    .agg [.sc (.int .i64 2), .sc (.int .i64 2), .sc (.bool false), .sc (.int .i64 0), .sl .no [.sc (.int .u64 1)], .sc (.bool false), .sc (.int .i64 1), .sl .no [.sc (.int .u64 1)], .sl .no [.agg [.sc (.bool false), .sc (.int .i64 0), .sl .no [], .sc (.bool false), .sc (.int .i64 0), .sl .no [.sc (.int .u64 1)]]]]] := rfl
theorem known_c (st : Store) : PCalls Try.prog 13 [] st (fun r st' => r = .sc (.bool true) ∧ st' = st) := by
  refine pcalls_enter none Try.func13 rfl fun E => pwp_of_vc ?_
  simp -dsimp only [go_sem]
  rw [← kEnc]
  refine (mergeHull_c kL st kW).mono ?_
  rintro r st ⟨rfl, rfl⟩
  rw [kHull]
  simp -dsimp only [go_sem]
  refine (groups_c kL 2 2 st kW).mono ?_
  rintro r st ⟨rfl, rfl⟩
  rw [kG1]
  simp -dsimp only [go_sem]
  refine (groups_c kL 2 1 st kW).mono ?_
  rintro r st ⟨rfl, rfl⟩
  rw [kG2]
  simp -dsimp only [go_sem]
  refine (groups_c kL 1 2 st kW).mono ?_
  rintro r st ⟨rfl, rfl⟩
  rw [kG3]
  simp -dsimp only [go_sem]
  refine pwp_draw mixed 94 (.step 0 [] (.step 1 [] (.step 2 [] (.step 3 [] (.step 4 [] (.step 5 [] (.step 6 [] (.step 7 [] (.step 8 [] (.step 9 [] (.step 10 [] (.step 11 [] (.step 12 [] (.step 13 [] (.step 14 [] (.step 15 [] (.step 16 [] (.step 17 [] (.step 18 [] (.step 19 [] (.step 20 [] (.step 21 [] (.step 22 [] (.step 23 [] (.step 24 [] (.step 25 [] (.step 26 [] (.step 27 [] (.step 28 [16, 21] (.step 29 [] (.step 30 [] (.step 31 [] (.step 32 [] (.step 33 [] (.step 34 [] (.step 35 [] (.step 36 [] (.step 37 [] (.step 38 [] (.step 39 [] (.step 40 [16, 21, 26, 27] (.step 41 [] (.step 42 [] (.step 43 [] (.step 44 [] (.step 45 [16, 21, 26, 27] (.step 46 [] (.step 47 [] (.done))))))))))))))))))))))))))))))))))))))))))))))))) (by decide +kernel) (by simp) ?_
  have d1 : (kS.fr == 1) = true := by decide
  have d2 : (kS.to == 2) = true := by decide
  have e0 := encSs_get [kS] 0 (by decide)
  have d3 : ((([kS] : List Sg).length : Int) == 1) = true := by decide
  have d4 : ([kS] : List Sg).getD 0 default = kS := rfl
  have hS : wS kS := by
    refine ⟨wN_of (by decide), wN_of (by decide), by decide, fun i hi => ?_⟩
    have : i = 0 := by have : kS.box.length = 1 := rfl
                       omega
    subst this
    exact ⟨wN_of (by decide), wN_of (by decide)⟩
  have b0 : ((0 : Int) == 0) = true := rfl
  have b1 : ((1 : Int) == 1) = true := rfl
  simp -dsimp only [go_sem, d1, d2, b0, b1]
  refine (refSame_c kS.t1 kTwo st (by decide) (by decide)).mono ?_
  rintro r st ⟨rfl, rfl⟩
  have d5 : decide (kS.t1 = kTwo) = true := by decide
  have d6 : (((1 : Nat) : Int) == 1) = true := rfl
  simp -dsimp only [go_sem, d5, d3, e0, d4, d6]
  refine (refSameSeg_c kS kS st hS hS).mono ?_
  rintro r st ⟨rfl, rfl⟩
  simp -dsimp only [go_sem]
  refine (sameTube_c kL kL st kW kW).mono ?_
  rintro r st ⟨rfl, rfl⟩
  simp -dsimp only [go_sem]
theorem mergeAny_c (l : List Sg) (size upto : Int) (st : Store) (hw : wSs l) : PCalls Try.prog 3 [.sl .no (encSs l), .sc (.int .i64 size), .sc (.int .i64 upto)] st (fun r st' => r = .sc (.bool true) ∧ st' = st) := by
  have hl := hw.1
  refine pcalls_enter none Try.func3 rfl fun E => pwp_of_vc ?_
  simp -dsimp only [go_sem]
  refine (known_c st).mono ?_
  rintro r st ⟨rfl, rfl⟩
  simp -dsimp only [go_sem]
  refine ck (fun h1 => ?_) (fun h1 => ?_)
  · simp -dsimp only [go_sem]
  · simp -dsimp only [go_sem]
    refine pwp_loop_mask [true, true, true, false, false, false, false, true] 0 0 (fun n s => ∃ i, n = l.length - i ∧ i ≤ l.length ∧ s = ⟨[.sl .no (encSs l), .sc (.int .i64 size), .sc (.int .i64 upto), .junk, .junk, .junk, .junk, .sc (.int .i64 i)] ++ List.replicate 42 .junk, [], [], st⟩) l.length ?_ ?_
    · simp -dsimp only [go_sem]
      exact ⟨0, by omega, by omega, rfl⟩
    · rintro n s ⟨i, rfl, hi, rfl⟩
      simp -dsimp only [go_sem]
      refine ck (fun h2 => ?_) (fun h2 => ?_)
      · have hlt : i < l.length := by have := of_decide_eq_true h2; omega
        have e1 := encSs_get l i hlt
        have e3 := succ_wrap i (by omega)
        simp -dsimp only [go_sem, e1]
        refine ⟨by omega, ?_⟩
        refine gkF (fun h3 => ?_) (fun h3 => ?_)
        · simp -dsimp only [go_sem, h3, e1]
          refine ⟨by omega, ?_⟩
          refine gkF (fun h4 => ?_) (fun h4 => ?_)
          · simp -dsimp only [go_sem, h3, h4, e1]
            refine ⟨by omega, ck (fun h5 => ?_) (fun h5 => ?_)⟩
            · simp -dsimp only [go_sem]
            · simp -dsimp only [go_sem, e3]
              exact ⟨l.length - (i + 1), by omega, i + 1, rfl, by omega, rfl⟩
          · simp -dsimp only [go_sem, h3, h4, e1]
        · simp -dsimp only [go_sem, h3, e1]
      · simp -dsimp only [go_sem]
        refine pwp_of_vc ?_
        simp -dsimp only [go_sem]
        refine (told_c l size upto st hw).mono ?_
        rintro r st ⟨rfl, rfl⟩
        simp -dsimp only [go_sem]
end Go.Pv
end
