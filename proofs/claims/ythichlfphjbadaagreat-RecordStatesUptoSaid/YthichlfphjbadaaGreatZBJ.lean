/- Parts of the walk: N60. -/
import Derived.Test.YthichlfphjbadaaGreatZBE
import Derived.Test.YthichlfphjbadaaGreatZBI
set_option linter.unusedVariables false
set_option linter.unusedSimpArgs false
section
/-Layer 11:known. -/
set_option maxRecDepth 100000
namespace Go.Pv
open Go.Proofs
def kF :List (List Mn):= [[⟨⟨false,0,[1]⟩,[1,1]⟩],[⟨⟨false,0,[1]⟩,[0,0]⟩]]
def kFx :List Nm:= [⟨false,1,[1]⟩,⟨false,0,[3]⟩]
def kFb :List Ivl:= [⟨default,⟨false,0,[1]⟩⟩,⟨⟨false,0,[1]⟩,⟨false,0,[1]⟩⟩]
end Go.Pv
end
