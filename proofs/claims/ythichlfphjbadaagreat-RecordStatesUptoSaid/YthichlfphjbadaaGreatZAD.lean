/- Parts of the walk: N13, N14. -/
import Derived.Test.YthichlfphjbadaaGreatZAB
import Derived.Test.YthichlfphjbadaaGreatZY
import Derived.Test.YthichlfphjbadaaGreatZH
import Derived.Test.YthichlfphjbadaaGreatZK
import Derived.Test.YthichlfphjbadaaGreatZP
set_option linter.unusedVariables false
set_option linter.unusedSimpArgs false
section
/-iv.Has,Make,Meet,valid,outward,Add,Sub,Wide,Mid,Mul. -/
set_option maxRecDepth 100000
namespace Go.Pv
open Go.Proofs
theorem X3n (a:Ivl) (x:Nm) (st:Q0g) (ha:wI a) (hx:wN x):PCalls Tryz.prog 98 [.agg (encI a),.agg (encN x)] st (fun r st'=>r= .sc (.bool (hasI a x))∧st'=st):=by
 refine Q0b none Tryz.func98 rfl fun E=>Q0a ?_
 unfold hasI
 simp -dsimp only [go_sem]
 refine(v0o a _ ha).mono ?_
 rintro r st ⟨rfl,rfl⟩
 cases r1:Q0l a with
 | false=>simp -dsimp only [go_sem];try rfl
 | true=>
  simp -dsimp only [go_sem]
  refine(X0x x _ (by unfold wN at hx;omega)).mono ?_
  rintro r st ⟨rfl,rfl⟩
  cases r2:Q0f x with
  | false=>simp -dsimp only [go_sem];try rfl
  | true=>
   have s1:=J0o (Q0x r1).1
   have s2:=J0o (Q0x r1).2.1
   have s3:=J0o r2
   simp -dsimp only [go_sem]
   refine(G1a a.lo x _ s1 s3).mono ?_
   rintro r st ⟨rfl,rfl⟩
   cases c1:decide (cmpN a.lo x≤0) with
   | false=>simp -dsimp only [go_sem,c1];try rfl
   | true=>
    simp -dsimp only [go_sem,c1]
    refine(G1a x a.hi _ s3 s2).mono ?_
    rintro r st ⟨rfl,rfl⟩
    simp -dsimp only [go_sem,c1]
    try rfl
end Go.Pv
end
