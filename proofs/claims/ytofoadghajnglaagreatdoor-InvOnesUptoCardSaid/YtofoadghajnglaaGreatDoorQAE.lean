/- Parts of the walk: N15, N16, M38. -/
import Derived.Test.YtofoadghajnglaaGreatDoorQAD
import Derived.Test.YtofoadghajnglaaGreatDoorQE
import Derived.Test.YtofoadghajnglaaGreatDoorQM
import Derived.Test.YtofoadghajnglaaGreatDoorQY
set_option linter.unusedVariables false
set_option linter.unusedSimpArgs false
section
/-Boxes:Of,Has,widths,Wide,blown,Blow,with,Halve. -/
set_option maxRecDepth 100000
namespace Go.Pv
open Go.Proofs
def wNs (l:List Nm):Prop:=l.length≤100000000000∧ ∀i,i<l.length→wN (l.getD i default)
theorem H1b (q:List Nm) (i:Nat) (h:i<q.length):ofB (q.take (i+1))=ofB (q.take i)++ [⟨q.getD i default,q.getD i default⟩]:=by
 unfold ofB
 rw [H0p q i default h,List.map_append];rfl
theorem j2s (q:List Nm) (st:Q0c) (hq:wNs q):PCalls Tryz.prog 83 [.sl .no (Z0f q)] st (fun r st'=>r= .sl (.fresh 6) (Z0e (ofB q))∧st'=st):=by
 obtain⟨hl,hw⟩:=hq
 refine Q0b none Tryz.func83 rfl fun E=>Q0a ?_
 simp -dsimp only [go_sem]
 refine Y0y 3 6 ?_
 simp -dsimp only [go_sem]
 refine Q0e [false,false,false,true,false,false,true,true,true] 0 1
  (fun n s=> ∃i,n=q.length-i∧i≤q.length∧s=⟨[.junk,.junk,.junk,.sl (.own 0) (Z0e (ofB (q.take i))),.junk,.junk,.sl .no (Z0f q),.sc (.int .i64 q.length),.sc (.int .i64 (i:Nat))]++List.replicate 10 .junk,[],[((ofB (q.take i)).length,6)],st⟩) q.length ?_ ?_
 · simp -dsimp only [go_sem]
   exact⟨0,by omega,by omega,rfl⟩
 · rintro n s ⟨i,rfl,hi,rfl⟩
   simp -dsimp only [go_sem]
   refine ck (fun h'=> ?_) (fun h'=> ?_)
   · have hlt:i<q.length:=by have:=of_decide_eq_true h';omega
     have e1:=V0a q i hlt
     have e3:IntKind.i64.wrap ((i:Int)+1)=((i+1:Nat):Int):=by rw [Q0u _ (by omega) (by omega)];omega
     simp -dsimp only [go_sem,e1]
     refine⟨by omega,?_⟩
     refine(H1n _ _ (hw i hlt)).mono ?_
     rintro r st ⟨rfl,rfl⟩
     simp -dsimp only [go_sem,e3]
     have ll:(ofB (q.take i)).length=i:=by simp [ofB];omega
     refine⟨⟨by omega,by omega⟩,q.length-(i+1),by omega,i+1,rfl,by omega,?_⟩
     rw [H1b q i hlt]
     simp [Z0e,encI]
   · have hge:i=q.length:=by have:=of_decide_eq_false h';omega
     simp -dsimp only [go_sem]
     refine Q0a ?_
     simp -dsimp only [go_sem]
     rw [hge,List.take_length]
theorem j0a {x:Ivl} (h:Q0v x=true):wI x:=⟨j0w (Z0q (Z0a h).1),j0w (Z0q (Z0a h).2.1)⟩
end Go.Pv
end
section
/-The document's Bits,Mul,By,Whole,Round,Exact. -/
set_option maxRecDepth 100000
namespace Go.Pv
open Go.Proofs
theorem j1h (n:Nat) (h:n<18446744073709551616):IntKind.u64.wrap (n:Int)=(n:Int):=by rw [Z0k,Nat.mod_eq_of_lt h]
end Go.Pv
end
section
/-Lists of small intervals. No program in it. -/
namespace Go.Pv
theorem K1q {β:Type} [Inhabited β] (f:Nat→β) (n i:Nat) (h:i<n):((List.range n).map f).getD i default=f i:=by
 simp [List.getD_eq_getElem?_getD,h]
end Go.Pv
end
