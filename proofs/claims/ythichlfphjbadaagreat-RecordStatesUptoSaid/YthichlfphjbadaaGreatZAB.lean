/- Parts of the walk: N1, N2, N3, N4, N5, N6, N7, N8, N9, N10, N11, N12. -/
import Derived.Test.YthichlfphjbadaaGreatZP
import Derived.Test.YthichlfphjbadaaGreatZF
import Derived.Laws.Externs
import Derived.Test.YthichlfphjbadaaGreatZE
import Derived.Test.YthichlfphjbadaaGreatZG
import Derived.Test.YthichlfphjbadaaGreatZY
set_option linter.unusedVariables false
set_option linter.unusedSimpArgs false
section
/-math/bits.TrailingZeros64. -/
set_option maxRecDepth 100000
namespace Go.Pv
open Go.Proofs
def W4h (v:Value) (z:Nat):Bool:=
 match v with
 | .int .u8 n=>n==(z:Int)
 | _=>false
def deb :List Value:=(theTab.getD 0 (0,[])).2
end Go.Pv
end
section
/-round.Valid,away,rounded,Exact,Value,both,Add,Sub. -/
set_option maxRecDepth 100000
namespace Go.Pv
open Go.Proofs
@[go_sem] theorem y3k {d:Option Tmp} {f:Fn} {bs cs:List PV} {pa:List PV} {L st st':Q0g} {T:List (Nat×Nat)} :(PFS.mk pa L T st).recv d (.fn f bs cs) st'=(PFS.mk pa L T st').put d (.fn f bs cs):=(rfl)
theorem q1j {p:Int} (h:Z0q p=true): ∃q:Nat,p=q∧8≤q∧q≤256∧p.toNat=q:=by
 unfold Z0q at h
 simp only [Bool.and_eq_true,decide_eq_true_eq] at h
 exact⟨p.toNat,by omega,by omega,by omega,rfl⟩
end Go.Pv
end
