/- Parts of the walk: M13, M14, M15, M16. -/
import Derived.Test.YthichlfphjbadaaGreatZE
set_option linter.unusedVariables false
set_option linter.unusedSimpArgs false
section
/-Groups of a row are a row;of a tube a tube. No program in it. -/
namespace Go.Pv
theorem G2b {a b:Nm} (ha:Q0f a=true) (hb:Q0f b=true):cmpR a b=cmpN a b:=if_pos ⟨ha,hb⟩
def V4q (b:List Sg) (g:Nat):Sg:=j2n (b.getD 0 default) ((b.take g).drop 1)
end Go.Pv
end
section
/-Groups cover their pieces. No program in it. -/
namespace Go.Pv
theorem X3r {a b:Ivl} :inI a b=true↔Q0l a=true∧Q0l b=true∧0≤cmpN a.lo b.lo∧0≤cmpN b.hi a.hi:=by
 unfold inI
 simp only [Bool.and_eq_true,decide_eq_true_eq]
 constructor
 · rintro⟨⟨⟨h1,h2⟩,h3⟩,h4⟩;exact⟨h1,h2,h3,h4⟩
 · rintro⟨h1,h2,h3,h4⟩;exact⟨⟨⟨h1,h2⟩,h3⟩,h4⟩
def y2q (s x:Sg):Bool:=decide (x.fr≤s.fr)&&(decide (s.to≤x.to)&&(decide (cmpR x.t0 s.t0≤0)&&(decide (cmpR s.t1 x.t1≤0)&&inB s.box x.box)))
def CovH (m a:List Sg):Prop:= ∀j,j<a.length→ ∃c,c<m.length∧y2q (a.getD j default) (m.getD c default)=true∧(a.getD j default).fr≤(m.getD c default).to∧ ∀i,i<c→(m.getD i default).to<(a.getD j default).fr
def V4w (l:List Sg):Sg:=l.getD (l.length-1) default
end Go.Pv
end
