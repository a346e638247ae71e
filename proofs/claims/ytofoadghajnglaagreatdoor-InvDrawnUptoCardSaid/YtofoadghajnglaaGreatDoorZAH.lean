/- Parts of the walk: N21, N22, N24, N25, N23, N26. -/
import Derived.Test.YtofoadghajnglaaGreatDoorZAF
set_option linter.unusedVariables false
set_option linter.unusedSimpArgs false
section
/-The document's Blow;Nums. -/
set_option maxRecDepth 100000
namespace Go.Pv
open Go.Proofs
theorem Q2m (a b:List Nm) (st:Q0f) (ha:wNs a) (hb:wNs b):PCalls Tryz.prog 93 [.sl .no (Z0b a),.sl .no (Z0b b)] st (fun r st'=>r= .sc (.bool (decide (a=b)))∧st'=st):=by
 have hal:=ha.1
 refine Q0b none Tryz.func93 rfl fun E=>Q0a ?_
 simp -dsimp only [go_sem]
 refine ck (fun h0=> ?_) (fun h0=> ?_)
 · have hne:=z0a h0
   simp -dsimp only [go_sem]
   rw [decide_eq_false (fun e=>hne (by rw [e]))]
 · have hl:=q0d h0
   simp -dsimp only [go_sem]
   refine Q0e [true,true,false,false,false,true] 0 0 (fun n s=> ∃i,n=a.length-i∧i≤a.length∧(∀j,j<i→a.getD j default=b.getD j default)∧s=⟨[.sl .no (Z0b a),.sl .no (Z0b b),.junk,.junk,.junk,.sc (.int .i64 (i:Nat))]++List.replicate 21 .junk,[],[],st⟩) a.length ?_ ?_
   · simp -dsimp only [go_sem]
     exact⟨0,by omega,by omega,fun j hj=>by omega,rfl⟩
   · rintro n s ⟨i,rfl,hi,hr,rfl⟩
     simp -dsimp only [go_sem]
     refine ck (fun h'=> ?_) (fun h'=> ?_)
     · have hlt:i<a.length:=by have:=of_decide_eq_true h';omega
       have e1:=J0w a i hlt
       have e2:=J0w b i (by omega)
       have e3:IntKind.i64.wrap ((i:Int)+1)=((i+1:Nat):Int):=by rw [Q0r _ (by omega) (by omega)];omega
       have w1:=ha.2 i hlt
       have w2:=hb.2 i (by omega)
       unfold wN at w1 w2
       simp -dsimp only [go_sem]
       refine Q0k Z0f 27 (.step 0 [] (.step 1 [] (.step 2 [] (.step 3 [] (.step 4 [] (.step 5 [] (.step 6 [] (.step 7 [] (.step 8 [] (.step 9 [] (.done))))))))))) (by decide+kernel) (by simp) ?_
       simp -dsimp only [go_sem,e1,e2]
       refine⟨⟨by omega,by omega⟩,⟨by omega,by omega⟩,?_⟩
       refine(Z1s _ _ _ (by omega) (by omega)).mono ?_
       rintro r st ⟨rfl,rfl⟩
       simp -dsimp only [go_sem]
       refine ck (fun h2=> ?_) (fun h2=> ?_)
       · have hf: ¬a.getD i default=b.getD i default:=by simpa using h2
         simp -dsimp only [go_sem]
         rw [decide_eq_false (fun e=>hf (by rw [e]))]
       · have ht:a.getD i default=b.getD i default:=by simpa using h2
         simp -dsimp only [go_sem,e3]
         refine⟨a.length-(i+1),by omega,i+1,rfl,by omega,fun j hj=> ?_,rfl⟩
         by_cases e:j=i
         · subst e;exact ht
         · exact hr j (by omega)
     · have hge:i=a.length:=by have:=of_decide_eq_false h';omega
       simp -dsimp only [go_sem]
       refine Q0a ?_
       simp -dsimp only [go_sem]
       rw [decide_eq_true (Y0s default hl fun j hj=>hr j (by omega))]
end Go.Pv
end
section
/-The law's known and light. -/
set_option maxRecDepth 100000
namespace Go.Pv
open Go.Proofs
def k1 :Nm:=⟨false,0,[1]⟩
def k2 :Nm:=⟨false,1,[1]⟩
def k4 :Nm:=⟨false,2,[1]⟩
theorem X0y (i:Nat) (h:i<100000000000000):IntKind.i64.wrap ((i:Int)+1)=((i+1:Nat):Int):=by rw [Q0r _ (by omega) (by omega)];omega
end Go.Pv
end
section
/-The deck:In,Part,InBox,PartBox,Prec. -/
set_option maxRecDepth 100000
namespace Go.Pv
open Go.Proofs
theorem V3h (l:List UInt64) (i k:Nat) (st:Q0f) (h:atD st k l i) (hi:i≤1000000000):PCalls Tryz.prog 21 [.gp k 0] st
 (fun r st'=> ∃(p j:Nat),8≤p∧p≤256∧i≤j∧j≤i+2∧r= .sc (.int .i64 p)∧st'=st.set k (dk l j)):=by
 refine Q0b none Tryz.func21 rfl fun E=>Q0a ?_
 simp -dsimp only [go_sem]
 refine(Y1q l i k 6 st h (by omega) (by omega) (by omega)).mono ?_
 rintro r st' ⟨rfl,rfl⟩
 simp -dsimp only [go_sem]
 refine ck (fun h1=> ?_) (fun h1=> ?_)
 · simp -dsimp only [go_sem]
   exact⟨8,i+1,by omega,by omega,by omega,by omega,rfl,rfl⟩
 · simp -dsimp only [go_sem]
   refine ck (fun h2=> ?_) (fun h2=> ?_)
   · simp -dsimp only [go_sem]
     exact⟨256,i+1,by omega,by omega,by omega,by omega,rfl,rfl⟩
   · simp -dsimp only [go_sem]
     refine(Y1q l (i+1) k 60 _ (h.set (i+1)) (by omega) (by omega) (by omega)).mono ?_
     rintro r st' ⟨rfl,rfl⟩
     have n1:=V3p l (i+1) (n:=60) (by omega)
     have x1:IntKind.i64.wrap (12+(nx l (i+1) 60:Int))=((12+nx l (i+1) 60:Nat):Int):=by rw [show(12+(nx l (i+1) 60:Int))=((12+nx l (i+1) 60:Nat):Int) from by omega,Q0m _ (by omega)]
     simp -dsimp only [go_sem,q0a,x1]
     exact⟨12+nx l (i+1) 60,i+2,by omega,by omega,by omega,by omega,rfl,rfl⟩
end Go.Pv
end
