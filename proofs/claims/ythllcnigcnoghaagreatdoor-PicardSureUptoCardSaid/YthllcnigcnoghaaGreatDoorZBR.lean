/- Parts of the walk: N66, N67, N68, N69, N70, N71, N72, N73, N74, N75. -/
import Derived.Test.YthllcnigcnoghaaGreatDoorZBQ
import Derived.Test.YthllcnigcnoghaaGreatDoorZAD
import Derived.Test.YthllcnigcnoghaaGreatDoorZAH
import Derived.Test.YthllcnigcnoghaaGreatDoorZBF
import Derived.Test.YthllcnigcnoghaaGreatDoorZAE
import Derived.Test.YthllcnigcnoghaaGreatDoorZH
import Derived.Test.YthllcnigcnoghaaGreatDoorZBH
import Derived.Test.YthllcnigcnoghaaGreatDoorZBJ
set_option linter.unusedVariables false
set_option linter.unusedSimpArgs false
section
/- Products of series: the iterator over pairs, series.right, valid. -/
set_option maxRecDepth 100000
namespace Go.Pv
open Go.Proofs

end Go.Pv
end

section
/- Products of series: valid, right. -/
set_option maxRecDepth 100000
namespace Go.Pv
open Go.Proofs

end Go.Pv
end

section
/- A coefficient of a product of series. -/
set_option maxRecDepth 100000
namespace Go.Pv
open Go.Proofs

def coefL (p : Int) : List (Ivl × Ivl) → Bool → Ivl → Ivl × Int
 | [], _, s => (s, 0)
 | x :: l, sm, s =>
  if (opI 2 x.1 x.2 p).2 = 0 then
   if sm = true then
    if (opI 0 s (opI 2 x.1 x.2 p).1 p).2 = 0 then coefL p l true (opI 0 s (opI 2 x.1 x.2 p).1 p).1 else (default, (opI 0 s (opI 2 x.1 x.2 p).1 p).2)
   else coefL p l true (opI 2 x.1 x.2 p).1
  else (default, (opI 2 x.1 x.2 p).2)
def pairL (a b : List Ivl) (k : Nat) : List (Ivl × Ivl) := (List.range (k + 1)).map fun i => (a.getD i default, b.getD (k - i) default)
def hasUp (a : List Ivl) (k : Nat) : Bool := decide (k < a.length) && (a.take (k + 1)).all rightI
def coefF (a b : List Ivl) (k : Nat) (p : Int) : Ivl × Int := if precF p = true ∧ hasUp a k = true ∧ hasUp b k = true then coefL p (pairL a b k) false default else (default, 1)
def pairE (a b : List Ivl) (k : Nat) : List (List PV) := (List.range (k + 1)).map fun i => [.agg (encI (a.getD i default)), .agg (encI (b.getD (k - i) default))]
theorem app_get (st X : Store) (i : Nat) : (st ++ X).getD (st.length + i) [] = X.getD i [] := by
 rw [List.getD_eq_getElem?_getD, List.getElem?_append_right (by omega), Nat.add_sub_cancel_left, ← List.getD_eq_getElem?_getD]
theorem app_get0 (st X : Store) : (st ++ X).getD st.length [] = X.getD 0 [] := app_get st X 0
theorem app_set (st X : Store) (i : Nat) (v : List PV) : (st ++ X).set (st.length + i) v = st ++ X.set i v := by simp [List.set_append]
theorem app_set0 (st X : Store) (v : List PV) : (st ++ X).set st.length v = st ++ X.set 0 v := app_set st X 0 v
theorem low_encW (n : Nat) (l : List UInt64) : Low n (.sl .no (encW l)) := low_sl fun e he c hc => by
 obtain ⟨x, _, rfl⟩ := List.mem_map.1 he
 simp only [PV.cells, List.mem_singleton] at hc
 subst hc; exact low_sc _ _
def coefJ (a b : List Ivl) (k : Nat) (p : Int) (st : Store) (i : Nat) (st' : Store) : Prop := ∃ sm s, wI s ∧ coefL p ((pairL a b k).drop i) sm s = coefL p (pairL a b k) false default ∧ st' = st ++ [[.sc (.int .i64 p)], encI default, [.sc (.int .i64 0)], encI s, [.sc (.bool sm)], [.sl .no (encIs a)], [.sl .no (encIs b)], [.sc (.int .i64 k)]]
def coefX (a b : List Ivl) (k : Nat) (p : Int) (st : Store) (c : Code) (st' : Store) : Prop := c = .ret ∧ ∃ e X, coefL p (pairL a b k) false default = (default, e) ∧ st' = st ++ ([.sc (.int .i64 p)] :: encI default :: [.sc (.int .i64 e)] :: X)
end Go.Pv
end

section
/- picard.Next, Sure, wider, next. -/
set_option maxRecDepth 100000
namespace Go.Pv
open Go.Proofs

def nextP (f : List (List Mn)) (x a : List Ivl) (h : Nm) (p : Int) : List Ivl × Int :=
 if rightF f = true ∧ rightB x = true ∧ rightB a = true ∧ x.length = f.length ∧ a.length = f.length ∧ rightN h = true ∧ ¬ sgnN (ownN h) ≤ 0 ∧ precF p = true then
  if (rangeFd f a p).2 = 0 then
   if (timesB ⟨default, h⟩ (rangeFd f a p).1 p).2 = 0 then opB 0 x (timesB ⟨default, h⟩ (rangeFd f a p).1 p).1 p else ([], (timesB ⟨default, h⟩ (rangeFd f a p).1 p).2)
  else ([], (rangeFd f a p).2)
 else ([], 1)
theorem picNext_c (f : List (List Mn)) (x a : List Ivl) (h : Nm) (p : Int) (st : Store) (hf : wF f) (hx : wB x) (ha : wB a) (hh : wN h) :
  PCalls Tryz.prog 42 [.sl .no (encFs f), .sl .no (encIs x), .sl .no (encIs a), .agg (encN h), .sc (.int .i64 p)] st
  (fun r st' => r = .tup [.sl .no (encIs (nextP f x a h p).1), .sc (.int .i64 (nextP f x a h p).2)] ∧ st' = st) := by
 refine pcalls_enter none Tryz.func42 rfl fun E => pwp_of_vc ?_
 simp -dsimp only [go_sem]
 refine (fieldRight_c f st hf).mono ?_
 rintro r st ⟨rfl, rfl⟩
 cases h1 : rightF f with
 | false => simp -dsimp only [go_sem]; simp [nextP, h1, encIs]
 | true =>
 simp -dsimp only [go_sem]
 refine (boxRight_c x st hx).mono ?_
 rintro r st ⟨rfl, rfl⟩
 cases h2 : rightB x with
 | false => simp -dsimp only [go_sem]; simp [nextP, h2, encIs]
 | true =>
 simp -dsimp only [go_sem]
 refine (boxRight_c a st ha).mono ?_
 rintro r st ⟨rfl, rfl⟩
 cases h3 : rightB a with
 | false => simp -dsimp only [go_sem]; simp [nextP, h3, encIs]
 | true =>
 have bne : ∀ {m n : Nat}, m ≠ n → ((m : Int) != (n : Int)) = true := fun h => by rw [bne_iff_ne]; omega
 have beq : ∀ {m n : Nat}, m = n → ((m : Int) != (n : Int)) = false := fun h => by subst h; simp
 by_cases h4 : x.length = f.length
 rotate_left
 · simp -dsimp only [go_sem, bne h4]
   simp [nextP, h4, encIs]
 by_cases h5 : a.length = f.length
 rotate_left
 · simp -dsimp only [go_sem, beq h4, bne h5]
   simp [nextP, h5, encIs]
 simp -dsimp only [go_sem, beq h4, beq h5]
 refine (numRight_c h st (by have := hh; unfold wN at this; omega)).mono ?_
 rintro r st ⟨rfl, rfl⟩
 cases h6 : rightN h with
 | false => simp -dsimp only [go_sem]; simp [nextP, h6, encIs]
 | true =>
 simp -dsimp only [go_sem]
 refine (numSign_c h st (by have := hh; unfold wN at this; omega)).mono ?_
 rintro r st ⟨rfl, rfl⟩
 by_cases h7 : sgnN (ownN h) ≤ 0
 · simp -dsimp only [go_sem, decide_eq_true h7]
   simp [nextP, h7, encIs]
 simp -dsimp only [go_sem, decide_eq_false h7]
 refine (rndValid_c p st).mono ?_
 rintro r st ⟨rfl, rfl⟩
 cases h8 : precF p with
 | false => simp -dsimp only [go_sem]; simp [nextP, h8, encIs]
 | true =>
 simp -dsimp only [go_sem]
 have hall : nextP f x a h p = if (rangeFd f a p).2 = 0 then
   if (timesB ⟨default, h⟩ (rangeFd f a p).1 p).2 = 0 then opB 0 x (timesB ⟨default, h⟩ (rangeFd f a p).1 p).1 p else ([], (timesB ⟨default, h⟩ (rangeFd f a p).1 p).2)
  else ([], (rangeFd f a p).2) := by unfold nextP; rw [if_pos ⟨h1, h2, h3, h4, h5, h6, h7, h8⟩]
 rw [hall]
 refine (fieldRange_c f a p st hf ha).mono ?_
 rintro r st ⟨rfl, rfl⟩
 have w1 := rangeFd_wB f a p hf.1
 generalize rangeFd f a p = z at w1 ⊢
 by_cases hz : z.2 = 0
 rotate_left
 · have e : (z.2 != 0) = true := by simp [hz]
   simp -dsimp only [go_sem, e]
   simp [hz, encIs]
 have e : (z.2 != 0) = false := by simp [hz]
 simp -dsimp only [go_sem, e]
 rw [if_pos hz]
 refine (boxTimes_c ⟨default, h⟩ z.1 p st ⟨by show wN ⟨false, 0, []⟩; simp [wN], hh⟩ w1).mono ?_
 rintro r st ⟨rfl, rfl⟩
 have w2 := wB_times ⟨default, h⟩ z.1 p w1
 generalize timesB ⟨default, h⟩ z.1 p = u at w2 ⊢
 by_cases hu : u.2 = 0
 rotate_left
 · have e : (u.2 != 0) = true := by simp [hu]
   simp -dsimp only [go_sem, e]
   simp [hu, encIs]
 have e : (u.2 != 0) = false := by simp [hu]
 simp -dsimp only [go_sem, e]
 rw [if_pos hu]
 refine (boxAdd_c x u.1 p st hx w2).mono ?_
 rintro r st ⟨rfl, rfl⟩
 simp -dsimp only [go_sem]

theorem nextP_wB (f : List (List Mn)) (x a : List Ivl) (h : Nm) (p : Int) (hx : wB x) : wB (nextP f x a h p).1 := by
 unfold nextP
 split
 · split
   · split
     · exact wB_op 0 x _ p hx
     · exact wB_nil
   · exact wB_nil
 · exact wB_nil
def sureP (f : List (List Mn)) (x a : List Ivl) (h : Nm) (p : Int) : Bool := decide ((nextP f x a h p).2 = 0) && inB (nextP f x a h p).1 a
theorem picSure_c (f : List (List Mn)) (x a : List Ivl) (h : Nm) (p : Int) (st : Store) (hf : wF f) (hx : wB x) (ha : wB a) (hh : wN h) :
  PCalls Tryz.prog 22 [.sl .no (encFs f), .sl .no (encIs x), .sl .no (encIs a), .agg (encN h), .sc (.int .i64 p)] st
  (fun r st' => r = .sc (.bool (sureP f x a h p)) ∧ st' = st) := by
 refine pcalls_enter none Tryz.func22 rfl fun E => pwp_of_vc ?_
 simp -dsimp only [go_sem]
 refine (picNext_c f x a h p st hf hx ha hh).mono ?_
 rintro r st ⟨rfl, rfl⟩
 have w := nextP_wB f x a h p hx
 unfold sureP
 generalize nextP f x a h p = z at w ⊢
 by_cases hz : z.2 = 0
 · have e : (z.2 == 0) = true := by simp [hz]
   simp -dsimp only [go_sem, e]
   refine (boxIn_c z.1 a st w ha).mono ?_
   rintro r st ⟨rfl, rfl⟩
   simp -dsimp only [go_sem]
   simp [hz]
 · have e : (z.2 == 0) = false := by simp [hz]
   simp -dsimp only [go_sem, e]
   simp [hz]
def widerP (a b : List Ivl) (p : Int) : List Ivl × Int := if (hullB a b).2 = 0 then blowB (hullB a b).1 p else ([], (hullB a b).2)
theorem picWider_c (a b : List Ivl) (p : Int) (st : Store) (ha : wB a) (hb : wB b) : PCalls Tryz.prog 102 [.sl .no (encIs a), .sl .no (encIs b), .sc (.int .i64 p)] st
  (fun r st' => r = .tup [.sl .no (encIs (widerP a b p).1), .sc (.int .i64 (widerP a b p).2)] ∧ st' = st) := by
 refine pcalls_enter none Tryz.func102 rfl fun E => pwp_of_vc ?_
 simp -dsimp only [go_sem]
 refine (boxHull_c a b st ha hb).mono ?_
 rintro r st ⟨rfl, rfl⟩
 have w := wB_hull ha hb
 unfold widerP
 generalize hullB a b = z at w ⊢
 by_cases hz : z.2 = 0
 · have e : (z.2 != 0) = false := by simp [hz]
   simp -dsimp only [go_sem, e]
   refine (boxBlow_c z.1 p st w).mono ?_
   rintro r st ⟨rfl, rfl⟩
   simp -dsimp only [go_sem]
   rw [if_pos hz]
 · have e : (z.2 != 0) = true := by simp [hz]
   simp -dsimp only [go_sem, e]
   simp [hz, encIs]
theorem widerP_wB (a b : List Ivl) (p : Int) (ha : wB a) (hb : wB b) : wB (widerP a b p).1 := by
 unfold widerP
 split
 · exact wB_blow _ _ (wB_hull ha hb)
 · exact wB_nil
def encSk (f : List (List Mn)) (x : List Ivl) (h : Nm) (p : Int) : List PV := [.sl .no (encFs f), .sl .no (encIs x)] ++ encN h ++ [.sc (.int .i64 p)]
theorem seekNext_c (f : List (List Mn)) (x a : List Ivl) (h : Nm) (p : Int) (st : Store) (hf : wF f) (hx : wB x) (ha : wB a) (hh : wN h) :
  PCalls Tryz.prog 101 [.agg (encSk f x h p), .sl .no (encIs a)] st
  (fun r st' => r = .tup [.sl .no (encIs (nextP f x a h p).1), .sc (.int .i64 (nextP f x a h p).2)] ∧ st' = st) := by
 refine pcalls_enter none Tryz.func101 rfl fun E => pwp_of_vc ?_
 simp -dsimp only [go_sem, encSk, List.cons_append, List.nil_append]
 refine (picNext_c f x a h p st hf hx ha hh).mono ?_
 rintro r st ⟨rfl, rfl⟩
 simp -dsimp only [go_sem]
end Go.Pv
end

section
/- picard's tries. -/
set_option maxRecDepth 100000
namespace Go.Pv
open Go.Proofs

def triesL (f : List (List Mn)) (x : List Ivl) (h : Nm) (p : Int) : Nat → Bool → List Ivl → List (List Ivl × List Ivl)
 | 0, _, _ => []
 | n + 1, yl, a =>
  if (nextP f x a h p).2 = 0 then
   (if yl = true then [(a, (nextP f x a h p).1)] else []) ++ (if (widerP a (nextP f x a h p).1 p).2 = 0 then triesL f x h p n true (widerP a (nextP f x a h p).1 p).1 else [])
  else []
theorem triesL_succ (f : List (List Mn)) (x : List Ivl) (h : Nm) (p : Int) (n : Nat) (yl : Bool) (a : List Ivl) : triesL f x h p (n + 1) yl a =
  if (nextP f x a h p).2 = 0 then
   (if yl = true then [(a, (nextP f x a h p).1)] else []) ++ (if (widerP a (nextP f x a h p).1 p).2 = 0 then triesL f x h p n true (widerP a (nextP f x a h p).1 p).1 else [])
  else [] := rfl
theorem tries_c (f : List (List Mn)) (x : List Ivl) (h : Nm) (p : Int) (st : Store) : PCalls Tryz.prog 53 [.agg (encSk f x h p)] st
  (fun r st' => r = .fn (.func 100) [] [.gp st.length 0] ∧ st' = st ++ [encSk f x h p]) := by
 refine pcalls_enter none Tryz.func53 rfl fun E => pwp_seq (pwp_of_vc ?_)
 simp -dsimp only [go_sem, encSk, List.cons_append, List.nil_append]
 refine pwp_seq (pwp_give 0 (by simp [go_sem]) (by simp) (pwp_of_vc ?_))
 simp -dsimp only [go_sem]
 refine pwp_of_vc ?_
 simp -dsimp only [go_sem]
theorem tries1_it (f : List (List Mn)) (x : List Ivl) (h : Nm) (p : Int) (ks l : Nat) (r : Loop) (w : World) (g : Gh) (J : Nat → Store → Prop) (Jx : Code → Store → Prop) (hf : wF f) (hx : wB x) (hh : wN h)
  (hJ : ∀ i st, J i st → st.getD ks [] = encSk f x h p)
  (hy : ∀ i, i < (triesL f x h p 9 false x).length → ∀ st, J i st → PYields Tryz.prog l r w g [.sl .no (encIs ((triesL f x h p 9 false x).getD i default).1), .sl .no (encIs ((triesL f x h p 9 false x).getD i default).2)] st (J (i + 1)) Jx) (st : Store) (h0 : J 0 st) :
  PIter Tryz.prog 100 l r w g [.fn (.yield l) [] [], .gp ks 0] st (J (triesL f x h p 9 false x).length) Jx := by
 generalize hT : triesL f x h p 9 false x = T at hy ⊢
 refine piter_enter Tryz.func100 rfl rfl fun E hrd hw hg hl => ?_
 subst hw hg
 have q1 := hJ 0 st h0
 refine pw2_seq (pw2_of (pwp_of_vc ?_))
 simp -dsimp only [go_sem, q1, encSk, List.cons_append, List.nil_append]
 refine pw2_seq (pw2_of (pwp_of_vc ?_))
 simp -dsimp only [go_sem]
 refine pw2_block ?_
 refine pw2_loop_mask [true, true, false, true, false, false, false, false, false, true] 0 0 (fun n s => ∃ i j a st, i ≤ 9 ∧ n = 9 - i ∧ wB a ∧ J j st ∧ j ≤ T.length ∧ T.drop j = triesL f x h p (9 - i) (decide (0 < i)) a ∧
  s = ⟨[.fn (.yield l) [] [], .gp ks 0, .junk, .sl .no (encIs a), .junk, .junk, .junk, .junk, .junk, .sc (.int .i64 (i : Nat))] ++ List.replicate 32 .junk, [], [], st⟩) 9 ?_ ?_
 · simp -dsimp only [go_sem]
   exact ⟨0, 0, x, st, by omega, rfl, hx, h0, by omega, hT.symm, rfl⟩
 rintro n s ⟨i, j, a, st, hi, rfl, wa, hj, hjl, hd, rfl⟩
 have q1 := hJ j st hj
 refine pw2_seq (pw2_of (pwp_of_vc ?_))
 simp -dsimp only [go_sem]
 refine pw2_seq (pw2_of (pwp_of_vc ?_))
 simp -dsimp only [go_sem]
 have fin' : ∀ j, j ≤ T.length → T.drop j = [] → j = T.length := fun j hjl h => by have := congrArg List.length h; simp at this; omega
 have fin := fin' j hjl
 have e4 : i < 9 → IntKind.i64.wrap ((i : Int) + 1) = ((i + 1 : Nat) : Int) := fun h => by rw [wrap_i64 _ (by omega) (by omega)]; omega
 refine ck (fun h' => ?_) (fun h' => ?_)
 · have hlt : i < 9 := by simp at h'; omega
   simp -dsimp only [go_sem]
   refine pw2_seq (pw2_block ?_)
   refine pw2_seq (pw2_of (pwp_of_vc ?_))
   simp -dsimp only [go_sem]
   refine pw2_seq (pw2_of (pwp_of_vc ?_))
   simp -dsimp only [go_sem, q1, encSk, List.cons_append, List.nil_append]
   refine (seekNext_c f x a h p st hf hx wa hh).mono ?_
   rintro r st ⟨rfl, rfl⟩
   simp -dsimp only [go_sem]
   have e9 : 9 - i = (8 - i) + 1 := by omega
   have e4 := e4 hlt
   have hi9 := hlt
   rw [e9, triesL_succ] at hd
   have wb := nextP_wB f x a h p hx
   generalize nextP f x a h p = b at hd wb ⊢
   by_cases hb : b.2 = 0
   · have eb : (b.2 != 0) = false := by simp [hb]
     rw [if_pos hb] at hd
     by_cases h0i : 0 < i
     · have gi : decide ((i : Int) > 0) = true := by simp; omega
       rw [if_pos (by simpa using h0i)] at hd
       have hlt : j < T.length := Nat.lt_of_not_le fun hle => by rw [List.drop_eq_nil_of_le hle] at hd; cases hd
       rw [List.drop_eq_getElem_cons hlt] at hd
       simp only [List.cons_append, List.nil_append, List.cons.injEq] at hd
       obtain ⟨hd1, hd2⟩ := hd
       have hget : T.getD j default = (a, b.1) := by rw [List.getD_eq_getElem?_getD, List.getElem?_eq_getElem hlt]; exact hd1
       have hyj := hy j hlt st hj
       rw [hget] at hyj
       refine pw2_seq (pw2_seq (pw2_yield hl hrd 9 ?_))
       simp -dsimp only [go_sem, eb, gi]
       refine ylds hyj (fun st' hj' => ?_) (fun c st' hx => ?_)
       · simp -dsimp only [go_sem]
         refine pw2_of (pwp_of_vc ?_)
         simp -dsimp only [go_sem]
         refine pw2_seq (pw2_of (pwp_of_vc ?_))
         simp -dsimp only [go_sem, hJ _ _ hj', encSk, List.cons_append, List.nil_append]
         refine (picWider_c a b.1 p _ wa wb).mono ?_
         rintro r st2 ⟨rfl, rfl⟩
         have wc := widerP_wB a b.1 p wa wb
         generalize widerP a b.1 p = c at hd2 wc ⊢
         by_cases hc : c.2 = 0
         · have ec : (c.2 != 0) = false := by simp [hc]
           rw [if_pos hc] at hd2
           simp -dsimp only [go_sem]
           refine pw2_of (pwp_of_vc ?_)
           simp -dsimp only [go_sem, ec]
           refine pw2_of (pwp_of_vc ?_)
           simp -dsimp only [go_sem, e4]
           exact ⟨9 - (i + 1), by omega, i + 1, (j + 1), c.1, _, by omega, rfl, wc, hj', (by omega), by rw [hd2, show 8 - i = 9 - (i + 1) from by omega]; simp, rfl⟩
         · have ec : (c.2 != 0) = true := by simp [hc]
           rw [if_neg hc] at hd2
           simp -dsimp only [go_sem]
           refine pw2_of (pwp_of_vc ?_)
           simp -dsimp only [go_sem, ec]
           simp only [eblk, iterQ, ethen]
           rw [← fin' _ (by omega) hd2]
           exact hj'
       · simp -dsimp only [go_sem]
         refine pwp_of_vc ?_
         simp -dsimp only [go_sem]
         exact hx
     · have gi : decide ((i : Int) > 0) = false := by simp; omega
       have hi0 : decide (0 < i) = false := by simp; omega
       refine pw2_seq (pw2_of (pwp_of_vc ?_))
       simp -dsimp only [go_sem, eb, gi]
       simp only [hi0, Bool.false_eq_true, if_false, List.nil_append] at hd
       refine pw2_seq (pw2_of (pwp_of_vc ?_))
       simp -dsimp only [go_sem, hJ _ _ hj, encSk, List.cons_append, List.nil_append]
       refine (picWider_c a b.1 p _ wa wb).mono ?_
       rintro r st2 ⟨rfl, rfl⟩
       have wc := widerP_wB a b.1 p wa wb
       generalize widerP a b.1 p = c at hd wc ⊢
       by_cases hc : c.2 = 0
       · have ec : (c.2 != 0) = false := by simp [hc]
         rw [if_pos hc] at hd
         simp -dsimp only [go_sem]
         refine pw2_of (pwp_of_vc ?_)
         simp -dsimp only [go_sem, ec]
         refine pw2_of (pwp_of_vc ?_)
         simp -dsimp only [go_sem, e4]
         exact ⟨9 - (i + 1), by omega, i + 1, j, c.1, _, by omega, rfl, wc, hj, hjl, by rw [hd, show 8 - i = 9 - (i + 1) from by omega]; simp, rfl⟩
       · have ec : (c.2 != 0) = true := by simp [hc]
         rw [if_neg hc] at hd
         simp -dsimp only [go_sem]
         refine pw2_of (pwp_of_vc ?_)
         simp -dsimp only [go_sem, ec]
         simp only [eblk, iterQ, ethen]
         rw [← fin' _ hjl hd]
         exact hj
   · have eb : (b.2 != 0) = true := by simp [hb]
     rw [if_neg hb] at hd
     refine pw2_seq (pw2_of (pwp_of_vc ?_))
     simp -dsimp only [go_sem, eb]
     simp only [eblk, iterQ, ethen]
     rw [← fin hd]
     exact hj
 · simp -dsimp only [go_sem]
   have : i = 9 := by simp at h'; omega
   subst this
   simp only [eblk, if_true, iterQ]
   rw [← fin (by rw [hd]; rfl)]
   exact hj
end Go.Pv
end

section
/- picard.Box. -/
set_option maxRecDepth 100000
namespace Go.Pv
open Go.Proofs

def boxL (f : List (List Mn)) (x : List Ivl) (h : Nm) (p : Int) : List (List Ivl × List Ivl) → List Ivl × Bool
 | [] => ([], false)
 | e :: l => if inB e.2 e.1 = true then (if sureP f x e.2 h p = true then e.2 else e.1, true) else boxL f x h p l
theorem boxL_cons (f : List (List Mn)) (x : List Ivl) (h : Nm) (p : Int) (e : List Ivl × List Ivl) (l : List (List Ivl × List Ivl)) : boxL f x h p (e :: l) = if inB e.2 e.1 = true then (if sureP f x e.2 h p = true then e.2 else e.1, true) else boxL f x h p l := rfl
def boxP (f : List (List Mn)) (x : List Ivl) (h : Nm) (p : Int) : List Ivl × Bool := boxL f x h p (triesL f x h p 9 false x)
theorem triesL_wB (f : List (List Mn)) (x : List Ivl) (h : Nm) (p : Int) (hx : wB x) : ∀ (n : Nat) (yl : Bool) (a : List Ivl), wB a → ∀ e ∈ triesL f x h p n yl a, wB e.1 ∧ wB e.2
 | 0, _, _, _, e, he => by cases he
 | n + 1, yl, a, ha, e, he => by
  rw [triesL_succ] at he
  have hb := nextP_wB f x a h p hx
  split at he
  · rcases List.mem_append.1 he with he | he
    · split at he
      · have : e = (a, (nextP f x a h p).1) := by simpa using he
        rw [this]; exact ⟨ha, hb⟩
      · cases he
    · split at he
      · exact triesL_wB f x h p hx n true _ (widerP_wB a _ p ha hb) e he
      · cases he
  · cases he
def boxJ (f : List (List Mn)) (x : List Ivl) (h : Nm) (p : Int) (st : Store) (i : Nat) (st' : Store) : Prop := boxL f x h p ((triesL f x h p 9 false x).drop i) = boxP f x h p ∧
 st' = st ++ [[.sl .no (encFs f)], [.sl .no (encIs x)], encN h, [.sc (.int .i64 p)], [.sl .no (encIs [])], [.sc (.bool false)], encSk f x h p]
def boxX (f : List (List Mn)) (x : List Ivl) (h : Nm) (p : Int) (st : Store) (c : Code) (st' : Store) : Prop := c = .exit 0 ∧ ∃ o X, boxP f x h p = (o, true) ∧
 st' = st ++ ([.sl .no (encFs f)] :: [.sl .no (encIs x)] :: encN h :: [.sc (.int .i64 p)] :: [.sl .no (encIs o)] :: [.sc (.bool true)] :: X)
def triesE (l : List (List Ivl × List Ivl)) : List (List PV) := l.map fun e => [.sl .no (encIs e.1), .sl .no (encIs e.2)]
theorem triesE_len (l : List (List Ivl × List Ivl)) : (triesE l).length = l.length := by simp [triesE]
theorem triesE_get (l : List (List Ivl × List Ivl)) (i : Nat) (h : i < l.length) : (triesE l).getD i [] = [.sl .no (encIs (l.getD i default).1), .sl .no (encIs (l.getD i default).2)] := by simp [triesE, List.getD_eq_getElem?_getD, h]

theorem lowR_box (n : Nat) (l : List Ivl) (v : Value) : LowR n (.tup [.sl .no (encIs l), .sc v]) := low_tup fun c hc => by
 simp only [List.mem_cons, List.not_mem_nil, or_false] at hc
 rcases hc with rfl | rfl
 · refine low_sl fun e he c hc => ?_
   obtain ⟨x, _, rfl⟩ := List.mem_map.1 he
   have hc : c ∈ encI x := hc
   simp only [encI, encN, List.cons_append, List.nil_append, List.mem_cons, List.not_mem_nil, or_false] at hc
   rcases hc with rfl | rfl | rfl | rfl | rfl | rfl <;> first | exact low_sc _ _ | exact low_encW _ _
 · exact low_sc _ _
theorem picBox_c (f : List (List Mn)) (x : List Ivl) (h : Nm) (p : Int) (st : Store) (hf : wF f) (hx : wB x) (hh : wN h) :
  PCalls Tryz.prog 21 [.sl .no (encFs f), .sl .no (encIs x), .agg (encN h), .sc (.int .i64 p)] st
  (fun r st' => r = .tup [.sl .no (encIs (boxP f x h p).1), .sc (.bool (boxP f x h p).2)] ∧ st' = st) := by
 refine pcalls_drop (Q := fun r _ => r = .tup [.sl .no (encIs (boxP f x h p).1), .sc (.bool (boxP f x h p).2)]) ?_
 refine pcalls_enterD none Tryz.func21 rfl fun E => ?_
 refine pwd_seq (pwp_of_vc ?_)
 simp -dsimp only [go_sem]
 refine pwd_scope ?_
 refine pwd_seq (pwp_of_vc ?_)
 simp -dsimp only [go_sem]
 refine pwd_seq (pwp_of_vc ?_)
 simp -dsimp only [go_sem]
 refine pwd_seq (pwp_of_vc ?_)
 simp -dsimp only [go_sem]
 refine pwd_weak (weak_plainBox 4) ?_
 simp -dsimp only [go_sem]
 refine pwd_weak (weak_give 0 (by simp [go_sem]) (by simp)) ?_
 simp -dsimp only [go_sem]
 refine pwd_weak (weak_give 1 (by simp [go_sem]) (by simp)) ?_
 simp -dsimp only [go_sem]
 refine pwd_weak (weak_give 2 (by simp [go_sem]) (by simp)) ?_
 simp -dsimp only [go_sem]
 refine pwd_weak (weak_give 3 (by simp [go_sem]) (by simp)) ?_
 simp -dsimp only [go_sem]
 refine pwd_weak (weak_give 4 (by simp [go_sem]) (by simp)) ?_
 simp -dsimp only [go_sem]
 refine pwd_weak (weak_give 5 (by simp [go_sem]) (by simp)) ?_
 simp -dsimp only [go_sem]
 refine pwd_seq' (pwd_seq (pwp_of_vc ?_))
 simp -dsimp only [go_sem, List.append_assoc, List.cons_append, List.nil_append, Nat.add_assoc, Nat.reduceAdd, app_get, app_get0]
 refine (tries_c f x h p _).mono ?_
 rintro r st' ⟨rfl, rfl⟩
 simp -dsimp only [go_sem]
 refine pwd_block ?_
 refine pwd_weak (weak_mask (bs := [false, false, false, false, true, true, true, true, false, false, true, true, false, false, false, false, false, false, false, true]) (nL := 0) (nT := 0) (by simp [go_sem])) ?_
 simp -dsimp only [go_sem, List.append_assoc, List.cons_append, List.nil_append, Nat.add_assoc, Nat.reduceAdd]
 refine pwd_range rfl rfl rfl (by simp only [go_sem]) (triesE (triesL f x h p 9 false x)) (fun i hi => ?_) (boxJ f x h p st) (boxX f x h p st) ?_ ?_ ?_ ?_ ?_
 · rw [triesE_get _ _ (by rw [triesE_len] at hi; exact hi)]; rfl
 · exact ⟨rfl, rfl⟩
 · intro l r w g hy
   rw [triesE_len]
   refine tries1_it f x h p (st.length + 6) l r w g (boxJ f x h p st) (boxX f x h p st) hf hx hh (fun i st' ⟨_, e⟩ => ?_) (fun i hi st' hj => ?_) _ ⟨rfl, rfl⟩
   · subst e
     simp only [app_get]
     rfl
   · have := hy i (by rw [triesE_len]; exact hi) st' hj
     rw [triesE_get _ _ hi] at this
     exact this
 · rintro i st' hi ⟨hc, rfl⟩ E
   have hi : i < (triesL f x h p 9 false x).length := by rw [triesE_len] at hi; exact hi
   rw [triesE_get _ _ hi]
   have hw := triesL_wB f x h p hx 9 false x hx _ (mem_getD _ i default hi)
   have hc : boxL f x h p ((triesL f x h p 9 false x).getD i default :: (triesL f x h p 9 false x).drop (i + 1)) = boxP f x h p := by
    rw [← hc, List.drop_eq_getElem_cons hi, List.getD_eq_getElem?_getD, List.getElem?_eq_getElem hi]; rfl
   rw [boxL_cons] at hc
   generalize (triesL f x h p 9 false x).getD i default = e at hw hc ⊢
   obtain ⟨wa, wb⟩ := hw
   refine pwp_of_vc ?_
   simp -dsimp only [go_sem, List.zip_cons_cons, List.zip_nil_right, List.foldl_cons, List.foldl_nil]
   intro E
   refine pwp_of_vc ?_
   simp -dsimp only [go_sem, app_get, app_get0]
   refine (boxIn_c e.2 e.1 _ wb wa).mono ?_
   rintro r st2 ⟨rfl, rfl⟩
   cases hin : inB e.2 e.1 with
   | false =>
    rw [hin, if_neg (by simp)] at hc
    simp -dsimp only [go_sem]
    exact ⟨hc, rfl⟩
   | true =>
    rw [hin, if_pos rfl] at hc
    simp -dsimp only [go_sem, app_get, app_get0, app_set, app_set0]
    refine (picSure_c f x e.2 h p _ hf hx wb hh).mono ?_
    rintro r st2 ⟨rfl, rfl⟩
    cases hs : sureP f x e.2 h p with
    | false =>
     rw [hs, if_neg (by simp)] at hc
     simp -dsimp only [go_sem, app_get, app_get0, app_set, app_set0]
     exact ⟨rfl, e.1, _, hc.symm, rfl⟩
    | true =>
     rw [hs, if_pos rfl] at hc
     simp -dsimp only [go_sem, app_get, app_get0, app_set, app_set0]
     exact ⟨rfl, e.2, _, hc.symm, rfl⟩
 · rintro st' ⟨hc, rfl⟩
   show ∀ E', PWP _ E' _ _ _
   intro E'
   refine pwp_seq (pwp_draw mixed 36 (.step 0 [] (.step 1 [] (.step 2 [] (.step 3 [] (.done))))) (by decide +kernel) (by simp) ?_)
   simp -dsimp only [go_sem, app_get, app_get0]
   refine pwp_of_vc ?_
   simp -dsimp only [go_sem]
   rw [triesE_len, List.drop_length] at hc
   rw [← hc]
   exact ⟨⟨_, rfl⟩, lowR_box _ [] _, rfl⟩
 · rintro c st' ⟨rfl, o, X, hc, rfl⟩
   simp -dsimp only [go_sem, jumpQ, eblk, ethen, if_true]
   intro E'
   refine pwp_seq (pwp_draw mixed 36 (.step 0 [] (.step 1 [] (.step 2 [] (.step 3 [] (.done))))) (by decide +kernel) (by simp) ?_)
   simp -dsimp only [go_sem, app_get, app_get0]
   refine pwp_of_vc ?_
   simp -dsimp only [go_sem]
   rw [hc]
   exact ⟨⟨_, rfl⟩, lowR_box _ o _, rfl⟩
end Go.Pv
end

section
/- The document's Next, Sure, blown. -/
set_option maxRecDepth 100000
namespace Go.Pv
open Go.Proofs

end Go.Pv
end

section
/- The document's Box. -/
set_option maxRecDepth 100000
namespace Go.Pv
open Go.Proofs

end Go.Pv
end

section
/- Layer 17: told. -/
set_option maxRecDepth 100000
namespace Go.Pv
open Go.Proofs

theorem boxL_wB (f : List (List Mn)) (x : List Ivl) (h : Nm) (p : Int) : ∀ (l : List (List Ivl × List Ivl)), (∀ e ∈ l, wB e.1 ∧ wB e.2) → wB (boxL f x h p l).1
 | [], _ => wB_nil
 | e :: l, hl => by
  rw [boxL_cons]
  split
  · split
    · exact (hl e (by simp)).2
    · exact (hl e (by simp)).1
  · exact boxL_wB f x h p l fun e he => hl e (by simp [he])
theorem boxP_wB (f : List (List Mn)) (x : List Ivl) (h : Nm) (p : Int) (hx : wB x) : wB (boxP f x h p).1 := boxL_wB f x h p _ (triesL_wB f x h p hx 9 false x hx)
end Go.Pv
end

section
/- Layer 17: known. -/
set_option maxRecDepth 100000
namespace Go.Pv
open Go.Proofs
def k7F : List (List Mn) := [[⟨⟨false, 0, [1]⟩, [0]⟩]]
def k7x : List Ivl := [⟨default, ⟨false, 0, [1]⟩⟩]
def k7h : Nm := ⟨false, -1, [1]⟩
theorem k7_next : nextP k7F k7x k7x k7h 16 = ([⟨default, ⟨false, -1, [3]⟩⟩], 0) := by decide +kernel
theorem k7_box : (boxP k7F k7x k7h 16).2 = true ∧ (boxP k7F k7x k7h 16).1.length = 1 ∧ inB [⟨default, ⟨false, -1, [3]⟩⟩] (boxP k7F k7x k7h 16).1 = true ∧ sureP k7F k7x (boxP k7F k7x k7h 16).1 k7h 16 = true ∧ sureP k7F k7x k7x k7h 16 = false := by decide +kernel
theorem k7F_w : wF k7F := by unfold wF wP wMn wN wK; decide
theorem k7x_w : wB k7x := by unfold wB wI wN; decide
theorem k7h_w : wN k7h := by unfold wN; decide
set_option maxHeartbeats 4000000 in
theorem known17_c (st : Store) : PCalls Tryz.prog 10 [] st (fun r st' => r = .sc (.bool true) ∧ st' = st) := by
 have hb := boxP_wB k7F k7x k7h 16 k7x_w
 have h1 := k7_next
 obtain ⟨h2, h3, h4, h5, h6⟩ := k7_box
 refine pcalls_enter none Tryz.func10 rfl fun E => pwp_of_vc ?_
 simp -dsimp only [go_sem]
 refine (picNext_c k7F k7x k7x k7h 16 _ k7F_w k7x_w k7x_w k7h_w).mono ?_
 rintro r st ⟨rfl, rfl⟩
 rw [h1]
 simp -dsimp only [go_sem]
 refine (picBox_c k7F k7x k7h 16 _ k7F_w k7x_w k7h_w).mono ?_
 rintro r st ⟨rfl, rfl⟩
 generalize boxP k7F k7x k7h 16 = b at hb h2 h3 h4 h5 ⊢
 rw [h2]
 have z0 : ((0 : Int) == 0) = true := rfl
 have z1 : (((1 : Nat) : Int) == 1) = true := rfl
 have z2 : ((-1 : Int) == -1) = true := rfl
 have q0 : (encIs [⟨default, ⟨false, -1, [3]⟩⟩]).getD 0 .junk = .agg (encI ⟨default, ⟨false, -1, [3]⟩⟩) := rfl
 have d1 : decide (([3] : List UInt64) = [3]) = true := rfl
 simp -dsimp only [go_sem, z0, z1, z2, h3, q0, List.append_eq, List.cons_append, List.nil_append]
 refine (helpWords_c [3] [3] _ (by decide) (by decide)).mono ?_
 rintro r st ⟨rfl, rfl⟩
 simp -dsimp only [go_sem, z0, z1, z2, h3, q0, d1, List.append_eq, List.cons_append, List.nil_append]
 refine (boxIn_c [⟨default, ⟨false, -1, [3]⟩⟩] b.1 _ (by unfold wB wI wN; decide) hb).mono ?_
 rintro r st ⟨rfl, rfl⟩
 rw [h4]
 simp -dsimp only [go_sem, z0, z1, z2, h3, q0, d1, List.append_eq, List.cons_append, List.nil_append]
 refine (picSure_c k7F k7x b.1 k7h 16 _ k7F_w k7x_w hb k7h_w).mono ?_
 rintro r st ⟨rfl, rfl⟩
 rw [h5]
 simp -dsimp only [go_sem, z0, z1, z2, h3, q0, d1, List.append_eq, List.cons_append, List.nil_append]
 refine (picSure_c k7F k7x k7x k7h 16 _ k7F_w k7x_w k7x_w k7h_w).mono ?_
 rintro r st ⟨rfl, rfl⟩
 rw [h6]
 simp -dsimp only [go_sem, z0, z1, z2, h3, q0, d1, List.append_eq, List.cons_append, List.nil_append]
end Go.Pv
end
