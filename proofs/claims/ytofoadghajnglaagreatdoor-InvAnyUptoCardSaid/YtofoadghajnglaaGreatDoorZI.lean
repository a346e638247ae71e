/- Parts of the walk: F21, F22. -/
import Derived.Test.YtofoadghajnglaaGreatDoorZH
set_option linter.unusedVariables false
set_option linter.unusedSimpArgs false
section
/-The document's boxes:Meet,RightBox,HullBox,SameBox. -/
set_option maxRecDepth 100000
namespace Go.Pv
open Go.Proofs
theorem w0h (l:List Ivl) (st:Q0f) (hw:wB l):PCalls Tryz.prog 166 [.sl .no (Z0d l)] st (fun r st'=>r= .sc (.bool (rightB l))∧st'=st):=by
 obtain⟨hl,hw⟩:=hw
 refine Q0b none Tryz.func166 rfl fun E=>Q0a ?_
 simp -dsimp only [go_sem]
 refine Q0e [true,false,false,true] 0 0 (fun n s=> ∃i,n=l.length-i∧i≤l.length∧(l.take i).all Q0v=true∧s=⟨[.sl .no (Z0d l),.junk,.junk,.sc (.int .i64 i)]++List.replicate 24 .junk,[],[],st⟩) l.length ?_ ?_
 · simp -dsimp only [go_sem]
   exact⟨0,by omega,by omega,rfl,rfl⟩
 · rintro n s ⟨i,rfl,hi,hr,rfl⟩
   have fin:i=l.length∨ ¬(i:Int)<4→decide ((l.length:Int)>0)=true→decide ((l.length:Int)≤4)=rightB l:=fun h h1=>by
    have h1:=of_decide_eq_true h1
    unfold rightB
    rcases h with h | h
    · have hall:l.all Q0v=true:=by rw [←List.take_length (l:=l),←h];exact hr
      rw [hall,decide_eq_true (by omega:1≤l.length)]
      simp only [Bool.true_and]
      exact decide_eq_decide.2 (by omega)
    · by_cases h4:l.length≤4
      · have:i=l.length:=by omega
        have hall:l.all Q0v=true:=by rw [←List.take_length (l:=l),←this];exact hr
        rw [hall,decide_eq_true (by omega:1≤l.length)]
        simp only [Bool.true_and]
        exact decide_eq_decide.2 (by omega)
      · rw [decide_eq_false h4,decide_eq_false (by omega)];simp
   have fin0:decide ((l.length:Int)>0)=false→rightB l=false:=fun h=>by
    have:=of_decide_eq_false h
    unfold rightB;rw [decide_eq_false (by omega: ¬1≤l.length)];simp
   simp -dsimp only [go_sem]
   refine gkT (fun h=> ?_) (fun h=> ?_)
   · have hlt:i<l.length:=by have:=of_decide_eq_true h;omega
     simp -dsimp only [go_sem,h]
     refine ck (fun h4=> ?_) (fun h4=> ?_)
     · have e1:=X0d l i hlt
       have e3:IntKind.i64.wrap ((i:Int)+1)=((i+1:Nat):Int):=by rw [Q0t _ (by omega) (by omega)];omega
       have e4:=v1z Q0v l i default hlt
       simp -dsimp only [go_sem,e1]
       refine⟨by omega,?_⟩
       refine(J0v _ st (hw i hlt)).mono ?_
       rintro r st ⟨rfl,rfl⟩
       simp -dsimp only [go_sem,e1]
       refine ck (fun h=> ?_) (fun h=> ?_)
       · have hf:Q0v (l.getD i default)=false:=by simpa using h
         simp -dsimp only [go_sem]
         have:rightB l=false:=by
          cases hb:rightB l with
          | false=>rfl
          | true=>
           unfold rightB at hb
           simp only [Bool.and_eq_true] at hb
           have:=(H0t default Q0v l).1 hb.1.1 i hlt
           rw [this] at hf;cases hf
         rw [this]
       · have ht:Q0v (l.getD i default)=true:=by simpa using h
         simp -dsimp only [go_sem,e3]
         exact⟨l.length-(i+1),by omega,i+1,rfl,by omega,by rw [e4,hr,ht];rfl,rfl⟩
     · have h4':=of_decide_eq_false h4
       simp -dsimp only [go_sem]
       refine Q0a ?_
       simp -dsimp only [go_sem]
       refine gkT (fun h=> ?_) (fun h=> ?_)
       · simp -dsimp only [go_sem,h]
         rw [fin (.inr h4') h]
       · simp -dsimp only [go_sem,h]
         rw [fin0 h]
   · have hge:i=l.length:=by have:=of_decide_eq_false h;omega
     simp -dsimp only [go_sem,h]
     refine Q0a ?_
     simp -dsimp only [go_sem]
     refine gkT (fun h=> ?_) (fun h=> ?_)
     · simp -dsimp only [go_sem,h]
       rw [fin (.inl hge) h]
     · simp -dsimp only [go_sem,h]
       rw [fin0 h]
theorem Z2z (a b:List Ivl) (st:Q0f) (ha:wB a) (hb:wB b):PCalls Tryz.prog 107 [.sl .no (Z0d a),.sl .no (Z0d b)] st (fun r st'=>r= .sc (.bool (decide (a=b)))∧st'=st):=by
 have hla:=ha.1
 have hlb:=hb.1
 refine Q0b none Tryz.func107 rfl fun E=>Q0a ?_
 simp -dsimp only [go_sem]
 refine ck (fun h0=> ?_) (fun h0=> ?_)
 · have hne:=q0t h0
   simp -dsimp only [go_sem]
   rw [decide_eq_false (fun e=>hne (by rw [e]))]
 · have hl:=H0x h0
   simp -dsimp only [go_sem]
   refine Q0e [true,true,false,false,false,true] 0 0 (fun n s=> ∃i,n=a.length-i∧i≤a.length∧(∀j,j<i→a.getD j default=b.getD j default)∧s=⟨[.sl .no (Z0d a),.sl .no (Z0d b),.junk,.junk,.junk,.sc (.int .i64 i)]++List.replicate 21 .junk,[],[],st⟩) a.length ?_ ?_
   · simp -dsimp only [go_sem]
     exact⟨0,by omega,by omega,fun j hj=>by omega,rfl⟩
   · rintro n s ⟨i,rfl,hi,hr,rfl⟩
     simp -dsimp only [go_sem]
     refine ck (fun h'=> ?_) (fun h'=> ?_)
     · have hlt:i<a.length:=by have:=of_decide_eq_true h';omega
       have e1:=X0d a i hlt
       have e2:=X0d b i (by omega)
       have e3:IntKind.i64.wrap ((i:Int)+1)=((i+1:Nat):Int):=by rw [Q0t _ (by omega) (by omega)];omega
       simp -dsimp only [go_sem]
       refine Q0j Z0g 27 (.step 0 [] (.step 1 [] (.step 2 [] (.step 3 [] (.step 4 [] (.step 5 [] (.step 6 [] (.step 7 [] (.step 8 [] (.step 9 [] (.done))))))))))) (by decide+kernel) (by simp) ?_
       simp -dsimp only [go_sem,e1,e2]
       refine⟨by omega,by omega,?_⟩
       refine(U2h _ _ st (ha.2 i hlt) (hb.2 i (by omega))).mono ?_
       rintro r st ⟨rfl,rfl⟩
       simp -dsimp only [go_sem]
       refine ck (fun h2=> ?_) (fun h2=> ?_)
       · have hf:a.getD i default≠b.getD i default:=by
          intro e;rw [e] at h2;simp at h2
         simp -dsimp only [go_sem]
         rw [decide_eq_false (fun e=>hf (by rw [e]))]
       · have ht:a.getD i default=b.getD i default:=by
          apply Decidable.byContradiction;intro e;rw [decide_eq_false e] at h2;cases h2
         simp -dsimp only [go_sem,e3]
         refine⟨a.length-(i+1),by omega,i+1,rfl,by omega,fun j hj=> ?_,rfl⟩
         by_cases e:j=i
         · subst e;exact ht
         · exact hr j (by omega)
     · have hge:i=a.length:=by have:=of_decide_eq_false h';omega
       simp -dsimp only [go_sem]
       refine Q0a ?_
       simp -dsimp only [go_sem]
       rw [decide_eq_true (Y0o default hl fun j hj=>hr j (by omega))]
end Go.Pv
end
