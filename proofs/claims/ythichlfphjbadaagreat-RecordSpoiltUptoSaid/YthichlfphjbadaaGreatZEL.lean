/- Parts of the walk: N125. -/
import Derived.Test.YthichlfphjbadaaGreatZEC
set_option linter.unusedVariables false
set_option linter.unusedSimpArgs false
section
/-The document's SameFrame,SameState. -/
set_option maxRecDepth 100000
namespace Go.Pv
open Go.Proofs
theorem Q3m {a b:List Nm} (h:a.length=b.length) (he: ∀i,i<a.length→a.getD i default=b.getD i default):a=b:=by
 refine List.ext_getElem h fun i h1 h2=> ?_
 have:=he i h1
 rwa [List.getD_eq_getElem?_getD,List.getD_eq_getElem?_getD,List.getElem?_eq_getElem h1,List.getElem?_eq_getElem h2] at this
theorem H3q {a b:List (List Nm)} (h:a.length=b.length) (he: ∀i,i<a.length→a.getD i []=b.getD i []):a=b:=by
 refine List.ext_getElem h fun i h1 h2=> ?_
 have:=he i h1
 rwa [List.getD_eq_getElem?_getD,List.getD_eq_getElem?_getD,List.getElem?_eq_getElem h1,List.getElem?_eq_getElem h2] at this
set_option maxHeartbeats 2000000 in
theorem v1b (a b:Fm) (st:Q0g) (ha:wFm a) (hb:wFm b):PCalls Tryz.prog 68 [.agg (H0v a),.agg (H0v b)] st (fun r st'=>r= .sc (.bool (decide (a=b)))∧st'=st):=by
 obtain⟨⟨am,am2⟩,⟨aa,aa2⟩,ar⟩:=ha
 obtain⟨⟨bm,bm2⟩,⟨ba,ba2⟩,br⟩:=hb
 have no: ¬a=b→decide (a=b)=false:=fun h=>decide_eq_false h
 refine Q0b none Tryz.func68 rfl fun E=>Q0h (Q0a ?_)
 simp -dsimp only [go_sem]
 refine Q0h (Q0a ?_)
 by_cases h1:a.m.length=b.m.length
 rotate_left
 · have d1:((a.m.length:Int) !=(b.m.length:Int))=true:=bne_iff_ne.2 (by omega)
   simp -dsimp only [go_sem,d1]
   rw [no fun e=>h1 (by rw [e])]
 have d1:((a.m.length:Int) !=(b.m.length:Int))=false:=by rw [h1];simp
 by_cases h2:a.a.length=b.a.length
 rotate_left
 · have d2:((a.a.length:Int) !=(b.a.length:Int))=true:=bne_iff_ne.2 (by omega)
   simp -dsimp only [go_sem,d1,d2]
   rw [no fun e=>h2 (by rw [e])]
 have d2:((a.a.length:Int) !=(b.a.length:Int))=false:=by rw [h2];simp
 simp -dsimp only [go_sem,d1,d2]
 refine(q1w a.r b.r st ar br).mono ?_
 rintro r st ⟨rfl,rfl⟩
 by_cases h3:a.r=b.r
 rotate_left
 · simp -dsimp only [go_sem,d1,d2,decide_eq_false h3]
   rw [no fun e=>h3 (by rw [e])]
 simp -dsimp only [go_sem,d1,d2,decide_eq_true h3]
 refine Q0x [false,false,true,true] 2 0 (fun s=>a.m=b.m∧s=⟨[.junk,.junk,.lp 0 0,.lp 1 0]++List.replicate 95 .junk,[H0v a,H0v b],[],st⟩) ?_ ?_
 · simp -dsimp only [go_sem]
   refine Q0e [false,false,true,true,false,true] 2 0 (fun c s=> ∃i,c=a.m.length-i∧i≤a.m.length∧(∀j,j<i→a.m.getD j default=b.m.getD j default)∧s=⟨[.junk,.junk,.lp 0 0,.lp 1 0,.junk,.sc (.int .i64 (i:Nat))]++List.replicate 93 .junk,[H0v a,H0v b],[],st⟩) a.m.length ?_ ?_
   · simp -dsimp only [go_sem]
     exact⟨0,by omega,by omega,fun j hj=>absurd hj (Nat.not_lt_zero j),rfl⟩
   · rintro c s ⟨i,rfl,hi,hr,rfl⟩
     simp -dsimp only [go_sem]
     refine ck (fun h4=> ?_) (fun h4=> ?_)
     · have hlt:i<a.m.length:=by have:=of_decide_eq_true h4;omega
       have g1:=K0v a.m i hlt
       have g2:=K0v b.m i (by omega)
       have x1:=G0k i (by omega)
       have w1:=am2 i hlt
       have w2:=bm2 i (by omega)
       unfold wN at w1 w2
       simp -dsimp only [go_sem]
       refine Q0o Z0p 99 (.step 0 [] (.step 1 [] (.step 2 [] (.step 3 [] (.step 4 [] (.step 5 [] (.step 6 [] (.step 7 [] (.step 8 [] (.step 9 [] (.step 10 [] (.step 11 [] (.done))))))))))))) (by decide+kernel) (by simp) ?_
       simp -dsimp only [go_sem,g1,g2]
       refine⟨by omega,by omega,?_⟩
       refine(Y0p (a.m.getD i default) (b.m.getD i default) st (by omega) (by omega)).mono ?_
       rintro r st ⟨rfl,rfl⟩
       by_cases h5:a.m.getD i default=b.m.getD i default
       · simp -dsimp only [go_sem,decide_eq_true h5,x1]
         refine⟨a.m.length-(i+1),by omega,i+1,rfl,by omega,fun j hj=> ?_,rfl⟩
         by_cases e:j=i
         · subst e;exact h5
         · exact hr j (by omega)
       · simp -dsimp only [go_sem,decide_eq_false h5]
         rw [no fun e=>h5 (by rw [e])]
     · have hge:i=a.m.length:=by have:=of_decide_eq_false h4;omega
       simp -dsimp only [go_sem]
       exact Q3m h1 fun j hj=>hr j (by omega)
 rintro s ⟨hm,rfl⟩
 refine Q0a ?_
 simp -dsimp only [go_sem]
 refine Q0e [false,false,true,true,false,false,true] 2 0 (fun c s=> ∃i,c=a.a.length-i∧i≤a.a.length∧(∀j,j<i→a.a.getD j []=b.a.getD j [])∧s=⟨[.junk,.junk,.lp 0 0,.lp 1 0,.junk,.junk,.sc (.int .i64 (i:Nat))]++List.replicate 92 .junk,[H0v a,H0v b],[],st⟩) a.a.length ?_ ?_
 · simp -dsimp only [go_sem]
   exact⟨0,by omega,by omega,fun j hj=>absurd hj (Nat.not_lt_zero j),rfl⟩
 · rintro c s ⟨i,rfl,hi,hr,rfl⟩
   simp -dsimp only [go_sem]
   refine ck (fun h4=> ?_) (fun h4=> ?_)
   · have hlt:i<a.a.length:=by have:=of_decide_eq_true h4;omega
     have g1:=j0e a.a i hlt
     have g2:=j0e b.a i (by omega)
     have x1:=G0k i (by omega)
     obtain⟨w1,w1'⟩:=aa2 i hlt
     obtain⟨w2,w2'⟩:=ba2 i (by omega)
     simp -dsimp only [go_sem]
     refine Q0o Z0p 99 (.step 0 [] (.step 1 [] (.step 2 [] (.step 3 [] (.step 4 [] (.step 5 [] (.step 6 [] (.step 7 [] (.step 8 [] (.step 9 [] (.step 10 [] (.step 11 [] (.step 12 [] (.done)))))))))))))) (by decide+kernel) (by simp) ?_
     simp -dsimp only [go_sem,g1,g2]
     refine⟨by omega,by omega,?_⟩
     refine ck (fun h5=> ?_) (fun h5=> ?_)
     · have hne:=Y1t h5
       simp -dsimp only [go_sem]
       rw [no fun e=>hne (by rw [e])]
     · have heq:=w0h h5
       simp -dsimp only [go_sem]
       refine Q0e [false,false,true,true,false,false,true,true] 2 0 (fun c s=> ∃k,c=(a.a.getD i []).length-k∧k≤(a.a.getD i []).length∧(∀j,j<k→(a.a.getD i []).getD j default=(b.a.getD i []).getD j default)∧s=⟨[.junk,.junk,.lp 0 0,.lp 1 0,.junk,.junk,.sc (.int .i64 (i:Nat)),.sc (.int .i64 (k:Nat))]++List.replicate 91 .junk,[H0v a,H0v b],[],st⟩) (a.a.getD i []).length ?_ ?_
       · simp -dsimp only [go_sem]
         exact⟨0,by omega,by omega,fun j hj=>absurd hj (Nat.not_lt_zero j),rfl⟩
       · rintro c s ⟨k,rfl,hk,hrk,rfl⟩
         simp -dsimp only [go_sem,g1]
         refine⟨by omega,?_⟩
         refine ck (fun h6=> ?_) (fun h6=> ?_)
         · have hklt:k<(a.a.getD i []).length:=by have:=of_decide_eq_true h6;omega
           have e1:=K0v (a.a.getD i []) k hklt
           have e2:=K0v (b.a.getD i []) k (by omega)
           have x2:=G0k k (by omega)
           have v1:=w1' k hklt
           have v2:=w2' k (by omega)
           unfold wN at v1 v2
           simp -dsimp only [go_sem]
           refine Q0o Z0p 99 (.step 0 [] (.step 1 [] (.step 2 [] (.step 3 [] (.step 4 [] (.step 5 [] (.step 6 [] (.step 7 [] (.step 8 [] (.step 9 [] (.step 10 [] (.step 11 [] (.step 12 [] (.step 13 [] (.step 14 [] (.step 15 [] (.step 16 [1,9] (.step 17 [] (.done))))))))))))))))))) (by decide+kernel) (by simp) ?_
           simp -dsimp only [go_sem,g1,g2,e1,e2]
           refine⟨by omega,by omega,by omega,by omega,?_⟩
           refine(Y0p ((a.a.getD i []).getD k default) ((b.a.getD i []).getD k default) st (by omega) (by omega)).mono ?_
           rintro r st ⟨rfl,rfl⟩
           by_cases h7:(a.a.getD i []).getD k default=(b.a.getD i []).getD k default
           · simp -dsimp only [go_sem,decide_eq_true h7,x2]
             refine⟨(a.a.getD i []).length-(k+1),by omega,k+1,rfl,by omega,fun j hj=> ?_,rfl⟩
             by_cases e:j=k
             · subst e;exact h7
             · exact hrk j (by omega)
           · simp -dsimp only [go_sem,decide_eq_false h7]
             rw [no fun e=>h7 (by rw [e])]
         · have hge:k=(a.a.getD i []).length:=by have:=of_decide_eq_false h6;omega
           simp -dsimp only [go_sem]
           refine Q0a ?_
           simp -dsimp only [go_sem,x1]
           refine⟨a.a.length-(i+1),by omega,i+1,rfl,by omega,fun j hj=> ?_,rfl⟩
           by_cases e:j=i
           · subst e;exact Q3m heq fun j hj=>hrk j (by omega)
           · exact hr j (by omega)
   · have hge:i=a.a.length:=by have:=of_decide_eq_false h4;omega
     simp -dsimp only [go_sem]
     refine Q0a ?_
     simp -dsimp only [go_sem]
     rw [decide_eq_true (fm_eq.2 ⟨hm,H3q h2 fun j hj=>hr j (by omega),h3⟩)]
theorem k0b (a b:Sx) (st:Q0g) (ha:wSx a) (hb:wSx b):PCalls Tryz.prog 27 [.agg (J0v a),.agg (J0v b)] st (fun r st'=>r= .sc (.bool (decide (a=b)))∧st'=st):=by
 obtain⟨a1,a2,a3⟩:=ha
 obtain⟨b1,b2,b3⟩:=hb
 unfold wN at a1 a2 b1 b2
 have no: ¬a=b→decide (a=b)=false:=fun h=>decide_eq_false h
 refine Q0b none Tryz.func27 rfl fun E=>Q0a ?_
 by_cases h1:a.idx=b.idx
 rotate_left
 · have d1:(a.idx==b.idx)=false:=beq_eq_false_iff_ne.2 h1
   simp -dsimp only [go_sem,d1]
   rw [no fun e=>h1 (by rw [e])]
 have d1:(a.idx==b.idx)=true:=beq_iff_eq.2 h1
 simp -dsimp only [go_sem,d1]
 refine(Y0p a.t b.t st (by omega) (by omega)).mono ?_
 rintro r st ⟨rfl,rfl⟩
 by_cases h2:a.t=b.t
 rotate_left
 · simp -dsimp only [go_sem,d1,decide_eq_false h2]
   rw [no fun e=>h2 (by rw [e])]
 simp -dsimp only [go_sem,d1,decide_eq_true h2]
 refine(Y0p a.h b.h st (by omega) (by omega)).mono ?_
 rintro r st ⟨rfl,rfl⟩
 by_cases h3:a.h=b.h
 rotate_left
 · simp -dsimp only [go_sem,d1,decide_eq_true h2,decide_eq_false h3]
   rw [no fun e=>h3 (by rw [e])]
 simp -dsimp only [go_sem,d1,decide_eq_true h2,decide_eq_true h3]
 have hh:PCalls Tryz.prog 68 [.agg (H0v a.f),.agg (H0v b.f)] st (fun r st'=>r= .sc (.bool (decide (a.f=b.f)))∧st'=st):=v1b a.f b.f st a3 b3
 refine hh.mono ?_
 rintro r st ⟨rfl,rfl⟩
 simp -dsimp only [go_sem,d1,decide_eq_true h2,decide_eq_true h3]
 have:decide (a.f=b.f)=decide (a=b):=decide_eq_decide.2 ⟨fun e=>sx_eq.2 ⟨h1,h2,h3,e⟩,fun e=>by rw [e]⟩
 rw [this]
end Go.Pv
end
