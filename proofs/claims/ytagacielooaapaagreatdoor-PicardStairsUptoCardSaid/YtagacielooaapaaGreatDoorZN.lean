/- Parts of the walk: M13, M14, M15, M16. -/
import Derived.Test.YtagacielooaapaaGreatDoorZE
set_option linter.unusedVariables false
set_option linter.unusedSimpArgs false
section
/-Groups of a row are a row;of a tube a tube. No program in it. -/
namespace Go.Pv
def q4m (b:List Sg) (g:Nat):Sg:=Y3q (b.getD 0 default) ((b.take g).drop 1)
end Go.Pv
end
section
/-Groups cover their pieces. No program in it. -/
namespace Go.Pv
theorem Y3g {a b:Ivl} :inI a b=true↔Q0h a=true∧Q0h b=true∧0≤cmpN a.lo b.lo∧0≤cmpN b.hi a.hi:=by
 unfold inI
 simp only [Bool.and_eq_true,decide_eq_true_eq]
 constructor
 · rintro⟨⟨⟨h1,h2⟩,h3⟩,h4⟩;exact⟨h1,h2,h3,h4⟩
 · rintro⟨h1,h2,h3,h4⟩;exact⟨⟨⟨h1,h2⟩,h3⟩,h4⟩
def K3f (s x:Sg):Bool:=decide (x.fr≤s.fr)&&(decide (s.to≤x.to)&&(decide (cmpR x.t0 s.t0≤0)&&(decide (cmpR s.t1 x.t1≤0)&&inB s.box x.box)))
def CovH (m a:List Sg):Prop:= ∀j,j<a.length→ ∃c,c<m.length∧K3f (a.getD j default) (m.getD c default)=true∧(a.getD j default).fr≤(m.getD c default).to∧ ∀i,i<c→(m.getD i default).to<(a.getD j default).fr
def q4r (l:List Sg):Sg:=l.getD (l.length-1) default
end Go.Pv
end
