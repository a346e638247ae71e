/- Parts of the walk: M34. -/
import Derived.Test.YthllcnigcnoghaaGreatDoorZY
import Derived.Test.YthllcnigcnoghaaGreatDoorZL
set_option linter.unusedVariables false
set_option linter.unusedSimpArgs false
section
/- Small intervals: nothing that is reckoned of them fails. No program in it. -/
namespace Go.Pv
def smN (x : Nm) : Prop := rightN x = true ∧ bdV 6 12 (ofN x)
def smI (a : Ivl) : Prop := rightI a = true ∧ bdV 6 12 (ofN a.lo) ∧ bdV 6 12 (ofN a.hi)
theorem bdV_zero {n k : Nat} : bdV n k (ofN default) := by
 refine ⟨?_, ?_, ?_⟩
 · show bitlen 0 ≤ n; rw [bitlen_zero]; omega
 · show -(k : Int) ≤ 0; omega
 · show (0 : Int) ≤ k; omega
theorem smN_make {neg : Bool} {w : List UInt64} {e : Int} (hw : bitlen (valW w) ≤ 6) (h1 : -6 ≤ e) (h2 : e ≤ 6) : smN (makeN neg w e).1 := by
 refine ⟨rightN_makeN _ _ _, ?_⟩
 unfold makeN
 split
 · exact bdV_zero
 · split
   · exact bdV_zero
   · have hb := bdV_odd (neg := neg) (m := valW w) (e := e) (n := 6) (k := 6) hw (by omega) (by omega)
     have hf := numV_fits hb (by omega) (by omega)
     have hc : canV (oddV neg (valW w) e) := by
      rename_i h0 _
      exact canV_odd _ _ _
     rw [(numV_val hc hf).1]
     exact hb
theorem smI_point {x : Nm} (h : smN x) : smI ⟨x, x⟩ := ⟨point_right h.1, h.2, h.2⟩
theorem smI_betw {x y : Nm} (hx : smN x) (hy : smN y) : smI (betw x y) := by
 refine ⟨betw_right hx.1 hy.1, ?_⟩
 unfold betw
 split
 · exact ⟨hy.2, hx.2⟩
 · exact ⟨hx.2, hy.2⟩
theorem p2_two : p2 2 = 4 := by
 have := p2_int 2
 rw [← show ((2 : Nat) : Int) = 2 from rfl, ← this]; rfl
end Go.Pv
end
