/- Parts of the walk: N17, N18, N19, N20, N21, N22, N24, N25, N23, N26. -/
import Derived.Test.YtofoadghajnglaaGreatDoorZAE
import Derived.Test.YtofoadghajnglaaGreatDoorZAA
import Derived.Test.YtofoadghajnglaaGreatDoorZY
import Derived.Test.YtofoadghajnglaaGreatDoorZH
import Derived.Test.YtofoadghajnglaaGreatDoorZM
set_option linter.unusedVariables false
set_option linter.unusedSimpArgs false
section
/-The document's Wide,Mid,least,greatest,ends,Op. -/
set_option maxRecDepth 100000
namespace Go.Pv
open Go.Proofs
theorem w1m {v:Vl} {n k:Nat} (h:bdV n k v) (h1:n≤1000000000000) (h2:k≤100000000000):smV v:=⟨by have:=h.1;omega,by have:=h.2.1;omega,by have:=h.2.2;omega⟩
end Go.Pv
end
section
/-The law's known and light. -/
set_option maxRecDepth 100000
namespace Go.Pv
open Go.Proofs
def k1 :Nm:=⟨false,0,[1]⟩
def k2 :Nm:=⟨false,1,[1]⟩
def k4 :Nm:=⟨false,2,[1]⟩
theorem V0b (i:Nat) (h:i<100000000000000):IntKind.i64.wrap ((i:Int)+1)=((i+1:Nat):Int):=by rw [Q0v _ (by omega) (by omega)];omega
end Go.Pv
end
section
/-The deck:In,Part,InBox,PartBox,Prec. -/
set_option maxRecDepth 100000
namespace Go.Pv
open Go.Proofs
theorem y2o (l:List UInt64) (i k:Nat) (st:Q0d) (h:atD st k l i) (hi:i≤1000000000):PCalls Tryz.prog 21 [.gp k 0] st
 (fun r st'=> ∃(p j:Nat),8≤p∧p≤256∧i≤j∧j≤i+2∧r= .sc (.int .i64 p)∧st'=st.set k (dk l j)):=by
 refine Q0b none Tryz.func21 rfl fun E=>Q0a ?_
 simp -dsimp only [go_sem]
 refine(U1v l i k 6 st h (by omega) (by omega) (by omega)).mono ?_
 rintro r st' ⟨rfl,rfl⟩
 simp -dsimp only [go_sem]
 refine ck (fun h1=> ?_) (fun h1=> ?_)
 · simp -dsimp only [go_sem]
   exact⟨8,i+1,by omega,by omega,by omega,by omega,rfl,rfl⟩
 · simp -dsimp only [go_sem]
   refine ck (fun h2=> ?_) (fun h2=> ?_)
   · simp -dsimp only [go_sem]
     exact⟨256,i+1,by omega,by omega,by omega,by omega,rfl,rfl⟩
   · simp -dsimp only [go_sem]
     refine(U1v l (i+1) k 60 _ (h.set (i+1)) (by omega) (by omega) (by omega)).mono ?_
     rintro r st' ⟨rfl,rfl⟩
     have n1:=q3b l (i+1) (n:=60) (by omega)
     have x1:IntKind.i64.wrap (12+(nx l (i+1) 60:Int))=((12+nx l (i+1) 60:Nat):Int):=by rw [show(12+(nx l (i+1) 60:Int))=((12+nx l (i+1) 60:Nat):Int) from by omega,Q0j _ (by omega)]
     simp -dsimp only [go_sem,V2h,x1]
     exact⟨12+nx l (i+1) 60,i+2,by omega,by omega,by omega,by omega,rfl,rfl⟩
end Go.Pv
end
