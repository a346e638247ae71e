/- Parts of the walk: N61, N62, N64. -/
import Derived.Test.YthichlfphjbadaaGreatZBE
import Derived.Test.YthichlfphjbadaaGreatZBM
import Derived.Test.YthichlfphjbadaaGreatZBI
import Derived.Test.YthichlfphjbadaaGreatZAM
import Derived.Test.YthichlfphjbadaaGreatZBJ
import Derived.Test.YthichlfphjbadaaGreatZAR
set_option linter.unusedVariables false
set_option linter.unusedSimpArgs false
section
/-The document's gather,for any terms. -/
set_option maxRecDepth 100000
namespace Go.Pv
open Go.Proofs
theorem v0i (O:List Tm): ∀i,i<(Z0l O).length→((Z0l O).getD i .junk).cells.length=4:=fun i hi=>by
 rw [V0b] at hi
 rw [y0p O i hi];rfl
theorem G0m (O:List Tm):(flat (Z0l O)).length=O.length*4:=by rw [J0i (v0i O),V0b]
theorem X2p (O:List Tm) (R:List PV) (k m:Nat) (hk:k<O.length) (hm:m<4):(flat (Z0l O)++R).getD (k*4+m) .junk=(v0m (O.getD k default)).getD m .junk:=by
 have h:=G0m O
 rw [Q0r _ _ _ _ (by omega),W0u (v0i O) _ (by rw [V0b];omega),show(k*4+m)/4=k from by omega,show(k*4+m) % 4=m from by omega,y0p O k hk]
 rfl
theorem V2r (O:List Tm) (k:Nat):(flat (Z0l O)).drop (k*4)=flat (Z0l (O.drop k)):=by
 induction k generalizing O with
 | zero=>simp
 | succ k ih=>
  cases O with
  | nil=>simp [Z0l,flat]
  | cons o r=>
   have e:flat (Z0l (o::r))=v0m o++flat (Z0l r):=rfl
   rw [e,show(k+1)*4=4+k*4 from by omega,←List.drop_drop,List.drop_append_of_le_length (by simp [v0m]),show(v0m o).drop 4= [] from rfl,List.nil_append,ih r,List.drop_succ_cons]
theorem W3m (O:List Tm) (R:List PV) (k:Nat) (hk:k<O.length):((flat (Z0l O)++R).drop (k*4)).take 3=encV (O.getD k default).v:=by
 have h:=G0m O
 rw [List.drop_append_of_le_length (by omega),V2r,show O.drop k=O.getD k default::O.drop (k+1) from G1m O k hk]
 rfl
theorem q2g (O:List Tm) (R:List PV) (k:Nat) (v:Vl) (hk:k<O.length):over (flat (Z0l O)++R) (k*4) (encV v)=flat (Z0l (O.set k ⟨v,(O.getD k default).ks⟩))++R:=by
 have h:=G0m O
 induction k generalizing O with
 | zero=>
  cases O with
  | nil=>simp at hk
  | cons o r=>rfl
 | succ k ih=>
  cases O with
  | nil=>simp at hk
  | cons o r=>
   have e:flat (Z0l (o::r))=v0m o++flat (Z0l r):=rfl
   have ih':=ih r (by simpa using hk) (G0m r)
   have hl:(v0m o).length=4:=rfl
   have hget:(o::r).getD (k+1) default=r.getD k default:=rfl
   rw [hget,List.set_cons_succ,show flat (Z0l (o::r.set k ⟨v,(r.getD k default).ks⟩))=v0m o++flat (Z0l (r.set k ⟨v,(r.getD k default).ks⟩)) from rfl,e,List.append_assoc,List.append_assoc,←ih']
   unfold over
   rw [show(k+1)*4=4+k*4 from by omega,List.take_append,List.drop_append,hl,List.take_of_length_le (by rw [hl];omega),List.drop_of_length_le (by rw [hl];omega)]
   simp only [show 4+k*4-4=k*4 from by omega,show 4+k*4+(encV v).length-4=k*4+(encV v).length from by omega,List.nil_append,List.append_assoc]
theorem G0l (O:List Tm):(flat (Z0l O)).all PV.quiet=true:=by
 induction O with
 | nil=>rfl
 | cons o r ih=>
  have e:flat (Z0l (o::r))=v0m o++flat (Z0l r):=rfl
  rw [e,List.all_append,ih];rfl
theorem G1c (O:List Tm) (R:List PV) (n:Nat) (hn:n=O.length):(flat (Z0l O)++R).take (n*4)=flat (Z0l O):=Y2i (v0i O) (by rw [V0b];exact hn)
theorem G1d (O X:List Tm) (R:List PV):flat (Z0l O)++(flat (Z0l X)++R)=flat (Z0l (O++X))++R:=by
 rw [←List.append_assoc,←y1l,q2r]
theorem k1i (O:List Tm):(flat (Z0l O)).map PV.forget2=flat (Z0l O):=by
 induction O with
 | nil=>rfl
 | cons o r ih=>
  have e:flat (Z0l (o::r))=v0m o++flat (Z0l r):=rfl
  rw [e,List.map_append,ih];rfl
theorem k1j (O:List Tm) (R:List PV):Y0e 4 O.length (flat (Z0l O)++R)=Z0l O:=by
 have:=v0n (sz:=4) (ys:=Z0l O) R (fun y hy=>by
  unfold Z0l at hy
  obtain⟨t,_,rfl⟩:=List.mem_map.1 hy
  exact⟨rfl,rfl⟩)
 rw [V0b] at this
 exact this
theorem k1h (O:List Tm) (R:List PV):(flat (Z0l O)++R).map PV.forget2=flat (Z0l O)++R.map PV.forget2∧(O.length*4≤(flat (Z0l O)).length+(R.map PV.forget2).length)=True∧Y0e 4 O.length (flat (Z0l O)++R.map PV.forget2)=Z0l O:=
 ⟨by rw [List.map_append,k1i],eq_true (by have:=G0m O;omega),k1j O _⟩
theorem H1i {O X:List Tm} {R:List PV} {cap n:Nat} {id:TypeId} (hn:n=O.length) (hc:n≤cap) (hR:R.length=(cap-n)*4) (hq:R.all PV.quiet=true) (hl:n+X.length≤1000):
 v1p (flat (Z0l O)++R) n cap (Z0l X) ⟨id,4,64,true,true,false⟩:=by
 have h1:=G0m O
 refine⟨rfl,by show 0<4;decide,by show _=cap*4;rw [List.length_append,h1,hR];omega,by rw [V0b];omega,by show(n+(Z0l X).length)*64≤_;rw [V0b];omega,y2d X,by rw [List.all_append,G0l,hq];rfl,G0l X⟩
def X4t (O:List Tm) (cap:Nat) (R:List PV):Prop:=R.length=(cap-O.length)*4∧O.length≤cap∧R.all PV.quiet=true
set_option maxHeartbeats 4000000 in
theorem w2q (ts:List Tm) (st:Q0g) (hl:ts.length≤24) (hw: ∀i,i<ts.length→wK (ts.getD i default).ks∧smV (ts.getD i default).v)
 (hwT: ∀i,i≤ts.length→ ∀t∈gatT (ts.take i) [],wK t.ks∧smV t.v∧(Q0e t.v.m).length≤1000000000000):
 PCalls Tryz.prog 136 [.sl .no (Z0l ts)] st (fun r st'=>r= .tup [.sl .no (J0y (q0x (gatT ts []) []).1),.sc (.int .i64 (q0x (gatT ts []) []).2)]∧st'=st):=by
 refine Q0b none Tryz.func136 rfl fun E=>Q0a ?_
 simp -dsimp only [go_sem]
 refine j1d ?_
 refine Q1s 4 0 (by simp) (by rfl) ?_
 simp -dsimp only [go_sem]
 refine H0j [true,false,false,false,true,true] 1 0
  (fun c s=> ∃(i cap:Nat) (O:List Tm) (R:List PV),c=ts.length-i∧i≤ts.length∧O=gatT (ts.take i) []∧X4t O cap R∧s=⟨[.sl .no (Z0l ts),.junk,.junk,.junk,.mr 0 O.length cap,.sc (.int .i64 (i:Nat))]++List.replicate 122 .junk,[flat (Z0l O)++R],[],st⟩) ts.length ?_ ?_
 · simp -dsimp only [go_sem]
   exact⟨0,0,[],[],by omega,by omega,by simp [gatT],⟨rfl,Nat.le_refl _,rfl⟩,rfl⟩
 · rintro c s ⟨i,cap,O,R,rfl,hi,hO,hR,rfl⟩
   have hOl:O.length≤i:=by
    rw [hO]
    have: ∀(ts acc:List Tm),(gatT ts acc).length≤acc.length+ts.length:=by
     intro ts
     induction ts with
     | nil=>intro acc;exact Nat.le_refl _
     | cons t r ih=>
      intro acc
      have h1:=ih (insT t acc)
      have h2:=v0f t acc
      rw [gatT];simp only [List.length_cons];omega
    have h3:=this (ts.take i) []
    rw [List.length_take] at h3
    simp at h3;omega
   obtain⟨hR1,hR2,hR3⟩:=hR
   have hall:(flat (Z0l O)++R).all PV.quiet=true:=by rw [List.all_append,G0l,hR3];rfl
   have hlims:=V0h (a:=1) (b:=0) hall
   have hfl:=G0m O
   have hOw: ∀j,j<O.length→wK (O.getD j default).ks∧smV (O.getD j default).v∧(Q0e (O.getD j default).v.m).length≤1000000000000:=fun j hj=>by
    rw [show O.getD j default=O[j] by simp [List.getD_eq_getElem?_getD,hj]]
    exact hwT i hi _ (by rw [←hO];exact List.getElem_mem hj)
   have hnx:i<ts.length→gatT (ts.take (i+1)) []=insT (ts.getD i default) O:=fun h=>by rw [J2w ts i h,k1d,←hO]
   have hfin:i=ts.length→O=gatT ts []:=fun e=>by rw [hO,e,List.take_length]
   refine Q0h (Q0a ?_)
   simp -dsimp only [go_sem]
   refine ck (fun h'=> ?_) (fun h'=> ?_)
   · have hlt:i<ts.length:=by have:=of_decide_eq_true h';omega
     have e1:=y0p ts i hlt
     have e3:=Y0g i (by omega)
     simp -dsimp only [go_sem]
     refine Q0h (w0x (Q0h (Q0a ?_)))
     simp -dsimp only [go_sem]
     refine Z0a [true,false,false,false,true,true,true] 1 0
      (fun s=> ∃k,k≤O.length∧(∀q,q<k→ordK (O.getD q default).ks (ts.getD i default).ks>0)∧(k<O.length→ ¬ordK (O.getD k default).ks (ts.getD i default).ks>0)∧s=⟨[.sl .no (Z0l ts),.junk,.junk,.junk,.mr 0 O.length cap,.sc (.int .i64 (i:Nat)),.sc (.int .i64 (k:Nat))]++List.replicate 121 .junk,[flat (Z0l O)++R],[],st⟩) ?_ ?_
     · simp -dsimp only [go_sem]
       refine Q0d [true,false,false,false,true,true,true] 1 0
        (fun c s=> ∃j,c=O.length-j∧j≤O.length∧(∀q,q<j→ordK (O.getD q default).ks (ts.getD i default).ks>0)∧s=⟨[.sl .no (Z0l ts),.junk,.junk,.junk,.mr 0 O.length cap,.sc (.int .i64 (i:Nat)),.sc (.int .i64 (j:Nat))]++List.replicate 121 .junk,[flat (Z0l O)++R],[],st⟩) O.length ?_ ?_
       · simp -dsimp only [go_sem]
         exact⟨hlims,0,by omega,by omega,fun q hq=>absurd hq (by omega),rfl⟩
       · rintro c s ⟨j,rfl,hj,hq,rfl⟩
         have f3:=Y0g j (by omega)
         simp -dsimp only [go_sem]
         refine Q0o Z0n 128 (.step 0 [] (.step 1 [] (.step 2 [] (.step 3 [] (.step 4 [] (.step 5 [] (.step 6 [] (.step 7 [] (.step 8 [] (.step 9 [] (.step 10 [] (.step 11 [] (.step 12 [] (.step 13 [] (.step 14 [] (.step 15 [] (.step 16 [] (.step 17 [] (.done))))))))))))))))))) (by decide+kernel) (by simp) ?_
         simp -dsimp only [go_sem]
         refine gkT (fun h1=> ?_) (fun h1=> ?_)
         · have hlt2:j<O.length:=by have:=of_decide_eq_true h1;omega
           have e2:=X2p O R j 3 hlt2 (by omega)
           simp -dsimp only [go_sem,h1,e1,e2]
           refine⟨⟨by omega,hlt2⟩,by omega,⟨by omega,by omega⟩,?_⟩
           refine(Q1j (O.getD j default).ks (ts.getD i default).ks _ (hOw j hlt2).1 (hw i hlt).1).mono ?_
           rintro r st ⟨rfl,rfl⟩
           simp -dsimp only [go_sem,h1]
           refine ck (fun h2=> ?_) (fun h2=> ?_)
           · simp -dsimp only [go_sem,f3]
             exact⟨hlims,O.length-(j+1),by omega,j+1,rfl,by omega,fun q hq'=>by
              by_cases e:q=j
              · rw [e];exact of_decide_eq_true h2
              · exact hq q (by omega),rfl⟩
           · simp -dsimp only [go_sem]
             exact⟨hlims,j,by omega,hq,fun _=>of_decide_eq_false h2,rfl⟩
         · have hge:j=O.length:=by have:=of_decide_eq_false h1;omega
           subst hge
           simp -dsimp only [go_sem,h1]
           exact⟨hlims,O.length,by omega,hq,fun h=>absurd h (Nat.lt_irrefl _),rfl⟩
     · rintro s ⟨k,hk,hq,hnq,rfl⟩
       refine Z0a [true,false,false,false,true,true,true] 1 0
        (fun s=>insT (ts.getD i default) O=O.take k++ts.getD i default::O.drop k∧s=⟨[.sl .no (Z0l ts),.junk,.junk,.junk,.mr 0 O.length cap,.sc (.int .i64 (i:Nat)),.sc (.int .i64 (k:Nat))]++List.replicate 121 .junk,[flat (Z0l O)++R],[],st⟩) ?_ ?_
       rotate_left
       · rintro s ⟨hs,rfl⟩
         clear hq hnq
         obtain⟨f1,f2,f3⟩:=k1h O R
         refine v0a 0 4 (by simp only [q0y];exact H1y hall) ?_
         generalize R.map PV.forget2=R' at f1 f2 f3
         simp -dsimp only [go_sem,f1,f2,f3]
         refine Q0h (Q0a ?_)
         simp -dsimp only [go_sem]
         refine Q1s 7 0 (by simp) (by rfl) ?_
         simp -dsimp only [go_sem]
         refine Q0h ?_
         refine X1l [false,false,false,false,true,false] ?_
         have hA:(O.take k).length=k:=by rw [List.length_take];omega
         have hB:(O.drop k).length=O.length-k:=List.length_drop
         simp -dsimp only [go_sem]
         have hOO:O.take O.length=O:=List.take_length
         generalize O.take k=A at*
         generalize hBe:O.drop k=B at*
         refine⟨⟨⟨by omega,by omega⟩,by omega⟩,H1i (O:= []) rfl (by omega) rfl rfl (by omega),?_⟩
         intro c1 R1 g1 g2 g3
         have t1:=G1c A R1 A.length rfl
         refine Q0h ?_
         refine X1l [false,false,false,false,false,false,true,false] ?_
         have hone: [PV.agg [.sc (.bool (ts.getD i default).v.neg),.sl .no (encD (Q0e (ts.getD i default).v.m)),.sc (.int .i64 (ts.getD i default).v.e),.sl .no (encZ (ts.getD i default).ks)]]=Z0l [ts.getD i default]:=rfl
         simp -dsimp only [go_sem,e1,hone,t1,G1d]
         refine⟨⟨by omega,by omega⟩,H1i rfl g1 g2 g3 (by show A.length+1≤1000;omega),?_⟩
         intro c2 R2 k1 k2 k3
         have hA2:(A++ [ts.getD i default]).length=A.length+1:=by simp
         generalize hA3:A++ [ts.getD i default]=A2 at*
         have t2:=G1c A2 R2 (A.length+1) hA2.symm
         refine X1l [false,false,false,false,true,false] ?_
         simp -dsimp only [go_sem,hOO,hBe,t2,G1d]
         refine⟨⟨⟨by omega,by omega⟩,by omega⟩,H1i hA2.symm k1 k2 k3 (by omega),?_⟩
         intro c3 R3 l1 l2 l3
         have hall2:(flat (Z0l (A2++B))++R3).all PV.quiet=true:=by rw [List.all_append,G0l,l3];rfl
         have hl2:(A2++B).length=A.length+1+B.length:=by rw [List.length_append,hA2]
         refine Q0a ?_
         simp -dsimp only [go_sem,e3]
         exact⟨V0h hall2,ts.length-(i+1),by omega,i+1,c3,A2++B,R3,rfl,by omega,by rw [hnx hlt,hs,←hA3];simp,⟨by rw [hl2];exact l2,by rw [hl2];exact l1,l3⟩,by rw [hl2]⟩
       simp -dsimp only [go_sem]
       refine Q0o Z0n 128 (.step 0 [] (.step 1 [] (.step 2 [] (.step 3 [] (.step 4 [] (.step 5 [] (.step 6 [] (.step 7 [] (.step 8 [] (.step 9 [] (.step 10 [] (.step 11 [] (.step 12 [] (.step 13 [] (.step 14 [] (.step 15 [] (.step 16 [] (.step 17 [] (.done))))))))))))))))))) (by decide+kernel) (by simp) ?_
       simp -dsimp only [go_sem]
       refine gkT (fun h1=> ?_) (fun h1=> ?_)
       · have hlt2:k<O.length:=by have:=of_decide_eq_true h1;omega
         have e2:=X2p O R k 3 hlt2 (by omega)
         simp -dsimp only [go_sem,h1,e1,e2]
         refine⟨⟨by omega,hlt2⟩,by omega,⟨by omega,by omega⟩,?_⟩
         refine(Q1j (O.getD k default).ks (ts.getD i default).ks _ (hOw k hlt2).1 (hw i hlt).1).mono ?_
         rintro r st ⟨rfl,rfl⟩
         simp -dsimp only [go_sem,h1]
         refine ck (fun h2=> ?_) (fun h2=> ?_)
         · have hz:ordK (O.getD k default).ks (ts.getD i default).ks=0:=J1a h2
           have e4:=W3m O R k hlt2
           simp -dsimp only [go_sem]
           refine Q0o Z0n 128 (.step 0 [] (.step 1 [] (.step 2 [] (.step 3 [] (.step 4 [] (.step 5 [] (.step 6 [] (.step 7 [] (.step 8 [] (.step 9 [] (.step 10 [] (.step 11 [] (.step 12 [] (.step 13 [] (.step 14 [] (.step 15 [] (.done))))))))))))))))) (by decide+kernel) (by simp) ?_
           simp -dsimp only [go_sem,e1,e4]
           refine⟨⟨by omega,hlt2⟩,by omega,⟨by omega,by omega⟩,?_⟩
           refine(Z2m (O.getD k default).v (ts.getD i default).v _ (hOw k hlt2).2.1 (hw i hlt).2).mono ?_
           rintro r st ⟨rfl,rfl⟩
           have e5:=q2g O R k (J0p (O.getD k default).v (ts.getD i default).v) hlt2
           unfold encV at e5
           simp -dsimp only [go_sem,e5]
           have hs:insT (ts.getD i default) O=O.set k ⟨J0p (O.getD k default).v (ts.getD i default).v,(O.getD k default).ks⟩:=H2t hlt2 hq hz
           have hall2:(flat (Z0l (O.set k ⟨J0p (O.getD k default).v (ts.getD i default).v,(O.getD k default).ks⟩))++R).all PV.quiet=true:=by rw [List.all_append,G0l,hR3];rfl
           refine⟨⟨by omega,hlt2⟩,⟨by omega,by omega⟩,Q0a ?_⟩
           simp -dsimp only [go_sem,e3]
           exact⟨V0h hall2,ts.length-(i+1),by omega,i+1,cap,_,R,rfl,by omega,by rw [hnx hlt,hs],⟨by rw [List.length_set];exact hR1,by rw [List.length_set];exact hR2,hR3⟩,by rw [List.length_set]⟩
         · have hne:=J1b h2
           have hs:insT (ts.getD i default) O=O.take k++ts.getD i default::O.drop k:=H2u hlt2 hq (hnq hlt2) hne
           simp -dsimp only [go_sem]
           exact⟨hlims,hs⟩
       · have hge:k=O.length:=by have:=of_decide_eq_false h1;omega
         have hs:insT (ts.getD i default) O=O.take k++ts.getD i default::O.drop k:=by
          rw [w2i (by rw [←hge];exact hq),hge,List.take_length,List.drop_length]
         simp -dsimp only [go_sem,h1]
         exact⟨hlims,hs⟩
   · have hge:i=ts.length:=by have:=of_decide_eq_false h';omega
     have hO2:=hfin hge
     subst hO2
     have hO24:(gatT ts []).length≤24:=by omega
     clear hlims hnx hfin hge h' hi
     obtain⟨f1,f2,f3⟩:=k1h (gatT ts []) R
     generalize gatT ts []=O at*
     simp -dsimp only [go_sem]
     refine v0a 0 4 (by simp only [q0y];exact H1y hall) ?_
     generalize R.map PV.forget2=R' at f1 f2 f3
     simp -dsimp only [go_sem,f1,f2,f3]
     refine Q0a ?_
     simp -dsimp only [go_sem]
     refine X0b 8 4 ?_
     simp -dsimp only [go_sem]
     refine Q0d [false,false,false,false,true,false,false,false,true,true] 0 1
      (fun c s=> ∃(j:Nat) (o:List Mn),c=O.length-j∧j≤O.length∧o.length≤j∧q0x O []=q0x (O.drop j) o∧
       s=⟨[.junk,.junk,.junk,.junk,.sl .no (Z0l O),.junk,.junk,.junk,.sl (.own 0) (J0y o),.sc (.int .i64 (j:Nat))]++List.replicate 118 .junk,[],[(o.length,4)],st⟩) O.length ?_ ?_
     · simp -dsimp only [go_sem]
       exact⟨0,[],by omega,by omega,by simp,rfl,rfl⟩
     · rintro c s ⟨j,o,rfl,hj,ho,hr,rfl⟩
       simp -dsimp only [go_sem]
       refine ck (fun h1=> ?_) (fun h1=> ?_)
       · have hlt:j<O.length:=by have:=of_decide_eq_true h1;omega
         have e1:=y0p O j hlt
         have e3:=Y0g j (by omega)
         obtain⟨w1,_,w2⟩:=hOw j hlt
         have w3:=w1.1
         rw [G1m O j hlt,q0x] at hr
         simp -dsimp only [go_sem,e1]
         refine⟨by omega,?_⟩
         refine(Y2t (O.getD j default).v _).mono ?_
         rintro r st ⟨rfl,rfl⟩
         simp -dsimp only [go_sem]
         refine ck (fun h2=> ?_) (fun h2=> ?_)
         · rw [if_pos (J1a h2)] at hr
           simp -dsimp only [go_sem,e3]
           exact⟨O.length-(j+1),by omega,j+1,o,rfl,by omega,by omega,hr,rfl⟩
         · rw [if_neg (J1b h2)] at hr
           simp -dsimp only [go_sem,e1]
           refine⟨by omega,?_⟩
           refine(J1f (O.getD j default).v _ w2).mono ?_
           rintro r st ⟨rfl,rfl⟩
           simp -dsimp only [go_sem]
           refine ck (fun h3=> ?_) (fun h3=> ?_)
           · rw [if_pos (Y1h h3)] at hr
             simp -dsimp only [go_sem]
             rw [hr];rfl
           · rw [if_neg (by rw [z1k h3];decide)] at hr
             simp -dsimp only [go_sem]
             refine Q0o Z0n 128 (.step 0 [] (.step 1 [] (.step 2 [] (.step 3 [] (.step 4 [] (.step 5 [] (.step 6 [] (.step 7 [] (.step 8 [1] (.step 9 [] (.step 10 [] (.step 11 [] (.step 12 [] (.done)))))))))))))) (by decide+kernel) (by simp) ?_
             simp -dsimp only [go_sem,e1,e3]
             refine⟨by omega,⟨by omega,by omega⟩,⟨by omega,by omega⟩,O.length-(j+1),by omega,j+1,o++ [⟨(numV (O.getD j default).v).1,(O.getD j default).ks⟩],rfl,by omega,by simp;omega,hr,?_⟩
             simp [J0y,q1r]
       · have hge:j=O.length:=by have:=of_decide_eq_false h1;omega
         subst hge
         rw [List.drop_length,q0x] at hr
         have z1:decide ((o.length:Int)>24)=false:=decide_eq_false (by omega)
         simp -dsimp only [go_sem]
         refine J0x [false,false,false,false,false,false,false,false,true] (Q0a ?_)
         simp -dsimp only [go_sem,z1]
         rw [hr]
end Go.Pv
end
section
/-The document's Make;the deck's powers,monomials,polynomials,fields. -/
set_option maxRecDepth 100000
namespace Go.Pv
open Go.Proofs
theorem J3x (ks:List Int) (j:Nat) (x:Int) (hj:j<ks.length):(ks.set j x).sum=ks.sum-ks.getD j 0+x:=by
 induction ks generalizing j with
 | nil=>simp at hj
 | cons k r ih=>
  cases j with
  | zero=>simp;omega
  | succ j=>
   have:=ih j (by simpa using hj)
   simp only [List.set_cons_succ,List.sum_cons,List.getD_cons_succ,this];omega
def okKs (n:Nat) (D:Int) (ks:List Int):Prop:=ks.length=n∧(∀j,j<n→0≤ks.getD j 0)∧ks.sum≤D
theorem okKs.right {n:Nat} {D:Int} {ks:List Int} (h:okKs n D ks) (hD:D≤8):U0n ks=true:=(V0g ks).2 ⟨fun j hj=>h.2.1 j (by rw [←h.1];exact hj),by have:=h.2.2;omega⟩
theorem okKs.wK {n:Nat} {D:Int} {ks:List Int} (h:okKs n D ks) (hD:D≤8) (hn:n≤1000):wK ks:=⟨by rw [h.1];omega,fun i hi=>by
 have:=G0b (h.right hD) i hi
 omega⟩
theorem repZ (n:Nat):List.replicate n (PV.sc (.int .i64 0))=encZ (List.replicate n 0):=by simp [encZ]
theorem y2a (T:List Int) (q:Nat) (c:Int) (h:q<T.length):over (encZ T) q [.sc (.int .i64 c)]=encZ (T.set q c):=by
 have:=V3k 0 T q c h
 simpa using this
theorem J3y (n:Nat):(List.replicate n (0:Int)).sum=0:=by
 induction n with
 | zero=>rfl
 | succ n ih=>rw [List.replicate_succ,List.sum_cons,ih];rfl
theorem k2m (l:List UInt64) (i k n D:Nat) (st:Q0g) (h:atD st k l i) (hi:i≤900000000000) (hn:1≤n) (hn2:n≤1000) (hD:D≤8):PCalls Tryz.prog 137 [.gp k 0,.sc (.int .i64 n),.sc (.int .i64 D)] st
 (fun r st'=> ∃ks j,okKs n D ks∧i≤j∧j≤i+1+D∧r= .sl .no (encZ ks)∧st'=st.set k (dk l j)):=by
 refine Q0b none Tryz.func137 rfl fun E=>Q0a ?_
 have x1:IntKind.i64.wrap ((D:Int)+1)=((D+1:Nat):Int):=by
  rw [show((D:Int)+1)=((D+1:Nat):Int) from rfl,Q0i _ (by omega)]
 simp -dsimp only [go_sem,x1]
 refine⟨⟨by omega,by omega,by omega⟩,?_⟩
 refine(V0l l i k (D+1) st h (by omega) (by omega) (by omega)).mono ?_
 rintro r st' ⟨rfl,rfl⟩
 have hnx:=v0c l i (n:=D+1) (by omega)
 simp -dsimp only [go_sem]
 refine Q0d [true,true,false,false,false,false,false,true,true] 1 0 (fun m s=> ∃(ks:List Int) (c j:Nat),m=c∧c≤D∧okKs n (D-c) ks∧i≤j∧j+c≤i+1+D∧
  s=⟨[.gp k 0,.sc (.int .i64 n),.junk,.junk,.junk,.junk,.junk,.ms false 0 0 n,.sc (.int .i64 (c:Nat))]++List.replicate 19 .junk,[encZ ks],[],st.set k (dk l j)⟩) (nx l i (D+1)) ?_ ?_
 · simp -dsimp only [go_sem]
   refine⟨(by rw [repZ];exact y2b _ _ _),List.replicate n 0,nx l i (D+1),i+1,rfl,by omega,⟨by simp,fun j hj=>by simp [List.getD_eq_getElem?_getD,hj],by rw [J3y];omega⟩,by omega,by omega,?_⟩
   rw [repZ]
 · rintro m s ⟨ks,c,j,hm,hc,hks,hj1,hj2,rfl⟩
   subst hm
   obtain⟨k1,k2,k3⟩:=hks
   simp -dsimp only [go_sem]
   refine ck (fun h1=> ?_) (fun h1=> ?_)
   · have hpos:0<m:=by have:=of_decide_eq_true h1;omega
     have x2:IntKind.i64.wrap ((m:Int)-1)=((m-1:Nat):Int):=by rw [Q0p _ (by omega) (by omega)];omega
     simp -dsimp only [go_sem]
     refine(V0l l j k n _ (h.set j) (by omega) (by omega) (by omega)).mono ?_
     rintro r st' ⟨rfl,rfl⟩
     have hq:=v0c l j (n:=n) (by omega)
     generalize nx l j n=q at hq⊢
     have hg:=X1t ks q (by omega)
     have hv:=k2 q hq
     have hup:ks.getD q 0≤8:=by
      have:=G0b ((V0g ks).2 ⟨fun j hj=>k2 j (by omega),by omega⟩) q (by omega)
      exact this.2
     have x3:IntKind.i64.wrap (ks.getD q 0+1)=ks.getD q 0+1:=Q0p _ (by omega) (by omega)
     have hs:=y2a ks q (ks.getD q 0+1) (by omega)
     simp -dsimp only [go_sem,hg,x3,hs,x2,J0a]
     refine⟨⟨by omega,hq⟩,by omega,⟨by omega,hq⟩,⟨by omega,by omega⟩,m-1,by omega,ks.set q (ks.getD q 0+1),m-1,j+1,rfl,by omega,⟨by rw [List.length_set,k1],fun a ha=> ?_,?_⟩,by omega,by omega,rfl⟩
     · by_cases e:q=a
       · subst e;rw [Q0q _ _ _ _ (by omega)];omega
       · rw [Q0j _ _ _ _ _ e];exact k2 a ha
     · rw [J3x _ _ _ (by omega)];omega
   · have hz:m=0:=by have:=of_decide_eq_false h1;omega
     subst hz
     have ht:ks.take n=ks:=List.take_of_length_le (by omega)
     have hle:(n≤ks.length)=True:=eq_true (by omega)
     simp -dsimp only [go_sem]
     refine j0l 0 (by simp only [q0y];exact W3v _) (Q0a ?_)
     simp -dsimp only [go_sem,ht,hle]
     exact⟨ks,j,⟨k1,k2,by omega⟩,by omega,by omega,rfl,rfl⟩
def G2t (n:Nat) (D:Int) (m:Mn):Prop:=okKs n D m.ks∧smN m.c
theorem V3m (l:List UInt64) (i k n M D:Nat) (st:Q0g) (h:atD st k l i) (hi:i≤800000000000) (hn:1≤n) (hn2:n≤1000) (hM:M≤20) (hD:D≤8):PCalls Tryz.prog 90 [.gp k 0,.sc (.int .i64 n),.sc (.int .i64 M),.sc (.int .i64 D)] st
 (fun r st'=> ∃p j,p.length≤M∧(∀m∈p,G2t n D m)∧i≤j∧j≤i+1+10*M∧r= .sl .no (J0y p)∧st'=st.set k (dk l j)):=by
 refine Q0b none Tryz.func90 rfl fun E=>Q0a ?_
 have x1:IntKind.i64.wrap ((M:Int)+1)=((M+1:Nat):Int):=by
  rw [show((M:Int)+1)=((M+1:Nat):Int) from rfl,Q0i _ (by omega)]
 simp -dsimp only [go_sem,x1]
 refine(V0l l i k (M+1) st h (by omega) (by omega) (by omega)).mono ?_
 rintro r st' ⟨rfl,rfl⟩
 have hnx:=v0c l i (n:=M+1) (by omega)
 simp -dsimp only [go_sem]
 refine X0b 9 4 ?_
 simp -dsimp only [go_sem]
 refine Q0d [true,true,false,true,false,false,false,false,false,true,true] 0 1 (fun m s=> ∃(p:List Mn) (c j:Nat),m=c∧p.length+c≤M∧(∀m∈p,G2t n D m)∧i≤j∧j+10*c≤i+1+10*M∧
  s=⟨[.gp k 0,.sc (.int .i64 n),.junk,.sc (.int .i64 D),.junk,.junk,.junk,.junk,.junk,.sl (.own 0) (J0y p),.sc (.int .i64 (c:Nat))]++List.replicate 19 .junk,[],[(p.length,4)],st.set k (dk l j)⟩) (nx l i (M+1)) ?_ ?_
 · simp -dsimp only [go_sem]
   exact⟨[],nx l i (M+1),i+1,rfl,by simp;omega,(fun m hm=>by cases hm),by omega,by omega,rfl⟩
 · rintro m s ⟨p,c,j,hm,hc,hp,hj1,hj2,rfl⟩
   subst hm
   simp -dsimp only [go_sem]
   refine ck (fun h1=> ?_) (fun h1=> ?_)
   · have hpos:0<m:=by have:=of_decide_eq_true h1;omega
     have x2:IntKind.i64.wrap ((m:Int)-1)=((m-1:Nat):Int):=by rw [Q0p _ (by omega) (by omega)];omega
     simp -dsimp only [go_sem]
     refine(j2f l j k _ (h.set j) (by omega)).mono ?_
     rintro r st' ⟨x,hx,rfl,rfl⟩
     simp -dsimp only [go_sem,J0a]
     refine(k2m l (j+1) k n D _ (h.set (j+1)) (by omega) hn hn2 hD).mono ?_
     rintro r st' ⟨ks,j',hks,hj3,hj4,rfl,rfl⟩
     have hsn:J0y p++ [PV.agg [.sc (.bool x.neg),.sc (.int .i64 x.exp),.sl .no (encW x.w),.sl .no (encZ ks)]]=J0y (p++ [⟨x,ks⟩]):=V2v p ⟨x,ks⟩
     simp -dsimp only [go_sem,J0a,x2,hsn]
     refine⟨⟨by omega,by omega⟩,m-1,by omega,p++ [⟨x,ks⟩],m-1,j',rfl,by simp;omega,fun y hy=> ?_,by omega,by omega,by simp⟩
     rcases List.mem_append.1 hy with hy | hy
     · exact hp y hy
     · rw [List.mem_singleton.1 hy];exact⟨hks,hx⟩
   · have hz:m=0:=by have:=of_decide_eq_false h1;omega
     subst hz
     simp -dsimp only [go_sem]
     refine J0x [false,false,false,false,false,false,false,false,false,true] (Q0a ?_)
     simp -dsimp only [go_sem]
     exact⟨p,j,by omega,hp,by omega,by omega,rfl,rfl⟩
def tmOf (m:Mn):Tm:=⟨ofN m.c,m.ks⟩
theorem Z2s {n:Nat} {D:Int} {m:Mn} (h:G2t n D m) (hD:D≤8):okT n 12 18 D (tmOf m):=
 ⟨h.1.1,h.1.right hD,h.1.2.2,X0y h.2.1,z3r h.2.2⟩
theorem K2z {n:Nat} {D:Int} {m:Mn} (h:G2t n D m) (hD:D≤8):H0k m n=true:=(j1u _ _).2 ⟨by have:=h.1.1;omega,h.1.right hD,h.2.1⟩
theorem z3j {n L U:Nat} {D:Int} {t:Tm} (h:okT n L U D t) (hn:n≤4):wK t.ks:=⟨by rw [h.1];omega,fun i hi=>by
 have:=G0b h.2.1 i hi
 omega⟩
theorem V3g {n L U:Nat} {D:Int} {t:Tm} (h:okT n L U D t) (hb:L+U≤4000):smV t.v∧(Q0e t.v.m).length≤1000000000000:=by
 have:=H2g h.2.2.2.1 h.2.2.2.2
 refine⟨⟨by have:=this.1;omega,by have:=this.2.1;omega,by have:=this.2.2;omega⟩,q0f this (by omega)⟩
theorem x0i {α:Type} [Inhabited α] {l:List α} {P:α→Prop} (h: ∀x∈l,P x) {i:Nat} (hi:i<l.length):P (l.getD i default):=by
 rw [show l.getD i default=l[i] by simp [List.getD_eq_getElem?_getD,hi]]
 exact h _ (List.getElem_mem hi)
set_option maxHeartbeats 4000000 in
theorem U2k (p:List Mn) (n:Nat) (D:Int) (st:Q0g) (hn:1≤n) (hn4:n≤4) (hl:p.length≤24) (hD:D≤8) (hp: ∀m∈p,G2t n D m):PCalls Tryz.prog 89 [.sl .no (J0y p),.sc (.int .i64 n)] st
 (fun r st'=>r= .tup [.sl .no (J0y (q0x (gatT (p.map tmOf) []) []).1),.sc (.int .i64 (q0x (gatT (p.map tmOf) []) []).2)]∧st'=st):=by
 have hok: ∀t∈p.map tmOf,okT n 12 18 D t:=fun t ht=>by
  obtain⟨m,hm,rfl⟩:=List.mem_map.1 ht
  exact Z2s (hp m hm) hD
 refine Q0b none Tryz.func89 rfl fun E=>Q0a ?_
 simp -dsimp only [go_sem]
 have d1:decide ((n:Int)<1)=false:=decide_eq_false (by omega)
 have d2:decide ((n:Int)>4)=false:=decide_eq_false (by omega)
 simp -dsimp only [go_sem,d1,d2]
 refine X0b 6 4 ?_
 simp -dsimp only [go_sem]
 refine Q0d [true,true,false,false,false,false,true,true] 0 1 (fun c s=> ∃i,c=p.length-i∧i≤p.length∧
  s=⟨[.sl .no (J0y p),.sc (.int .i64 n),.junk,.junk,.junk,.junk,.sl (.own 0) (Z0l ((p.take i).map tmOf)),.sc (.int .i64 (i:Nat))]++List.replicate 38 .junk,[],[(i,4)],st⟩) p.length ?_ ?_
 · simp -dsimp only [go_sem]
   exact⟨0,by omega,by omega,rfl⟩
 · rintro c s ⟨i,rfl,hi,rfl⟩
   have htl:((p.take i).map tmOf).length=i:=by rw [List.length_map,List.length_take];omega
   simp -dsimp only [go_sem]
   refine ck (fun h1=> ?_) (fun h1=> ?_)
   · have hlt:i<p.length:=by have:=of_decide_eq_true h1;omega
     have e1:=V1y p i hlt
     have e3:=Y0g i (by omega)
     have hm:=x0i hp hlt
     have hsn2:(p.take (i+1)).map tmOf=(p.take i).map tmOf++ [tmOf (p.getD i default)]:=by
      rw [List.take_add_one,List.map_append,List.getElem?_eq_getElem hlt]
      simp [List.getD_eq_getElem?_getD,hlt]
     have hwm:wMn (p.getD i default):=⟨Q0t hm.2.1,hm.1.wK hD (by omega)⟩
     simp -dsimp only [go_sem,e1]
     refine⟨by omega,?_⟩
     refine(x1l (p.getD i default) n _ hwm (by omega)).mono ?_
     rintro r st ⟨rfl,rfl⟩
     rw [K2z hm hD]
     simp -dsimp only [go_sem,Bool.not_true]
     refine Q0o Z0n 46 (.step 0 [] (.step 1 [] (.step 2 [] (.step 3 [] (.step 4 [] (.step 5 [] (.step 7 [] (.step 8 [] (.step 9 [] (.step 10 [] (.step 11 [] (.step 6 [11] (.step 12 [] (.step 13 [] (.step 14 [] (.step 15 [] (.done))))))))))))))))) (by decide+kernel) (by simp) ?_
     generalize hT:(p.take i).map tmOf=T at*
     simp -dsimp only [go_sem,e1]
     refine⟨⟨by omega,by omega⟩,⟨by omega,by omega⟩,?_⟩
     refine(of_c (p.getD i default).c _ (by have:=Q0t hm.2.1;unfold wN at this;omega)).mono ?_
     rintro r st ⟨rfl,rfl⟩
     have hsn:Z0l T++ [PV.agg [.sc (.bool (ofN (p.getD i default).c).neg),.sl .no (encD (Q0e (ofN (p.getD i default).c).m)),.sc (.int .i64 (ofN (p.getD i default).c).e),.sl .no (encZ (p.getD i default).ks)]]=Z0l (T++ [tmOf (p.getD i default)]):=V2u T (tmOf (p.getD i default))
     simp -dsimp only [go_sem,e1,e3,hsn,htl]
     exact⟨⟨by omega,by omega⟩,p.length-(i+1),by omega,i+1,rfl,by omega,by rw [hsn2]⟩
   · have hge:i=p.length:=by have:=of_decide_eq_false h1;omega
     subst hge
     have hfull:p.take p.length=p:=List.take_length
     rw [hfull] at htl
     simp -dsimp only [go_sem,hfull]
     refine J0x [false,false,false,false,false,false,true] (Q0a ?_)
     simp -dsimp only [go_sem]
     have hw: ∀(T:List Tm) (i:Nat),(∀t∈T,okT n 12 (18+i) D t)→i≤100→ ∀t∈T,wK t.ks∧smV t.v∧(Q0e t.v.m).length≤1000000000000:=fun T i hT hi t ht=>by
      have:=V3g (hT t ht) (by omega)
      exact⟨z3j (hT t ht) hn4,this.1,this.2⟩
     refine(w2q (p.map tmOf) _ (by rw [htl];exact hl) (fun i hi=> ?_) (fun i hi t ht=> ?_)).mono ?_
     · have:=hw (p.map tmOf) 0 hok (by omega)
       exact⟨(x0i (P:=fun t=>wK t.ks) (fun t ht=>(this t ht).1) hi),(x0i (P:=fun t=>smV t.v) (fun t ht=>(this t ht).2.1) hi)⟩
     · have:=(y1k (n:=n) (L:=12) (D:=D) ((p.map tmOf).take i) [] 18 (fun t ht=>hok t (List.mem_of_mem_take ht)) (fun t ht=>by cases ht) List.Pairwise.nil).1
       exact hw _ ((p.map tmOf).take i).length this (by rw [List.length_take,htl];omega) t ht
     · rintro r st ⟨rfl,rfl⟩
       simp -dsimp only [go_sem]
def okPoly (n M:Nat) (D:Int) (p:List Mn):Prop:=V0w p n=true∧p.length≤M∧ ∀m∈p,okMn n 12 (18+M) D m
theorem z3f (l:List UInt64) (i k n M D:Nat) (st:Q0g) (h:atD st k l i) (hi:i≤800000000000) (hn:1≤n) (hn4:n≤4) (hM:M≤20) (hD:D≤8):PCalls Tryz.prog 48 [.gp k 0,.sc (.int .i64 n),.sc (.int .i64 M),.sc (.int .i64 D)] st
 (fun r st'=> ∃p j,okPoly n M D p∧i≤j∧j≤i+1+10*M∧r= .sl .no (J0y p)∧st'=st.set k (dk l j)):=by
 refine Q0b none Tryz.func48 rfl fun E=>Q0a ?_
 simp -dsimp only [go_sem]
 refine(V3m l i k n M D st h hi hn (by omega) hM hD).mono ?_
 rintro r st' ⟨p,j,hpl,hp,hj1,hj2,rfl,rfl⟩
 simp -dsimp only [go_sem]
 refine(U2k p n D _ hn hn4 (by omega) (by omega) hp).mono ?_
 rintro r st' ⟨rfl,rfl⟩
 have hok: ∀t∈p.map tmOf,okT n 12 18 D t:=fun t ht=>by
  obtain⟨m,hm,rfl⟩:=List.mem_map.1 ht
  exact Z2s (hp m hm) (by omega)
 obtain⟨g1,g2,g3,g4⟩:=V2p (n:=n) (L:=12) (U:=18) (D:=D) (ts:=p.map tmOf) (by rw [List.length_map];omega) hn hn4 (by rw [List.length_map];omega) hok
 rw [List.length_map] at g3 g4
 generalize (q0x (gatT (p.map tmOf) []) []).1=P at*
 generalize (q0x (gatT (p.map tmOf) []) []).2=e at*
 simp -dsimp only [go_sem]
 exact⟨P,j,⟨g2,by omega,fun m hm=>by
  obtain⟨a1,a2,a3,a4,a5,a6⟩:=g3 m hm
  exact⟨a1,a2,a3,a4,a5,a6.up (by omega)⟩⟩,hj1,hj2,rfl,rfl⟩
def okField (n M:Nat) (D:Int) (f:List (List Mn)):Prop:=f.length=n∧ ∀p∈f,okPoly n M D p
theorem okField.right {n M:Nat} {D:Int} {f:List (List Mn)} (h:okField n M D f) (hn:1≤n) (hn4:n≤4):W0n f=true:=(H0u f).2 ⟨by rw [h.1];exact⟨hn,hn4⟩,fun i hi=>by
 rw [show f.getD i []=f[i] by simp [List.getD_eq_getElem?_getD,hi],h.1]
 exact(h.2 _ (List.getElem_mem hi)).1⟩
theorem W1d (l:List UInt64) (i k n M D:Nat) (st:Q0g) (h:atD st k l i) (hi:i≤700000000000) (hn:1≤n) (hn4:n≤4) (hM:M≤20) (hD:D≤8):PCalls Tryz.prog 18 [.gp k 0,.sc (.int .i64 n),.sc (.int .i64 M),.sc (.int .i64 D)] st
 (fun r st'=> ∃f j,okField n M D f∧i≤j∧j≤i+1000∧r= .sl .no (K0n f)∧st'=st.set k (dk l j)):=by
 refine Q0b none Tryz.func18 rfl fun E=>Q0a ?_
 simp -dsimp only [go_sem]
 refine X0b 9 1 ?_
 simp -dsimp only [go_sem]
 refine Q0d [true,true,true,true,false,false,false,false,false,true,true] 0 1 (fun m s=> ∃(f:List (List Mn)) (j:Nat),m=n-f.length∧f.length≤n∧(∀p∈f,okPoly n M D p)∧i≤j∧j≤i+250*f.length∧
  s=⟨[.gp k 0,.sc (.int .i64 n),.sc (.int .i64 M),.sc (.int .i64 D),.junk,.junk,.junk,.junk,.junk,.sl (.own 0) (K0n f),.sc (.int .i64 (f.length:Nat))]++List.replicate 14 .junk,[],[(f.length,1)],st.set k (dk l j)⟩) n ?_ ?_
 · simp -dsimp only [go_sem]
   refine⟨[],i,by simp,by simp,(fun m hm=>by cases hm),by omega,by omega,?_⟩
   rw [h.same];rfl
 · rintro m s ⟨f,j,rfl,hf,hp,hj1,hj2,rfl⟩
   simp -dsimp only [go_sem]
   refine ck (fun h1=> ?_) (fun h1=> ?_)
   · have hlt:f.length<n:=by have:=of_decide_eq_true h1;omega
     have x2:=Y0g f.length (by omega)
     simp -dsimp only [go_sem]
     refine(z3f l j k n M D _ (h.set j) (by omega) hn hn4 hM hD).mono ?_
     rintro r st' ⟨p,j',hpo,hj3,hj4,rfl,rfl⟩
     simp -dsimp only [go_sem,J0a,x2]
     refine⟨⟨by omega,by omega⟩,n-(f.length+1),by omega,f++ [p],j',by simp,by simp;omega,fun y hy=> ?_,by omega,by simp;omega,by simp⟩
     rcases List.mem_append.1 hy with hy | hy
     · exact hp y hy
     · rw [List.mem_singleton.1 hy];exact hpo
   · have hge:f.length=n:=by have:=of_decide_eq_false h1;omega
     simp -dsimp only [go_sem]
     refine J0x [false,false,false,false,false,false,false,false,false,true] (Q0a ?_)
     simp -dsimp only [go_sem]
     exact⟨f,j,⟨hge,hp⟩,by omega,by omega,rfl,rfl⟩
end Go.Pv
end
section
/-Layer 11:FieldDrawn,FieldHolds. -/
set_option maxRecDepth 100000
namespace Go.Pv
open Go.Proofs
theorem okPoly.at {n M:Nat} {D:Int} {p:List Mn} (h:okPoly n M D p) {j:Nat} (hj:j<p.length):okMn n 12 (18+M) D (p.getD j default):=x0i h.2.2 hj
theorem okField.at {n M:Nat} {D:Int} {f:List (List Mn)} (h:okField n M D f) {i:Nat} (hi:i<f.length):okPoly n M D (f.getD i []):=by
 rw [show f.getD i []=f[i] by simp [List.getD_eq_getElem?_getD,hi]]
 exact h.2 _ (List.getElem_mem hi)
theorem okField.wF {n M:Nat} {D:Int} {f:List (List Mn)} (h:okField n M D f) (hn4:n≤4) (hM:M≤20):wF f:=⟨by have:=h.1;omega,fun i hi=>⟨by have:=(h.at hi).2.1;omega,fun j hj=>by
 obtain⟨a1,a2,a3,a4,a5,a6⟩:=(h.at hi).at hj
 exact⟨Q0t a4,by rw [a1];omega,fun k hk=>by
  have:=G0b a2 k hk
  omega⟩⟩⟩
theorem x1y {n M:Nat} {D:Int} {q:List Mn} {b:List Ivl} {p:Int} {L U:Nat} (hq:okPoly n M D q) (hM:M≤24) (hl:b.length=n) (hn1:1≤n) (hn4:n≤4) (hb: ∀j,j<b.length→luI L U (b.getD j default)) (hp:Z0w p=true) (hbd:154+8*L+8*U≤4096):
 w0u q b p=J0f q b p q.length∧(J0f q b p q.length).2=0∧luI (12+L*8) (26+M+U*8+2*q.length) (J0f q b p q.length).1:=by
 have hlu:=x1z (q:=q) (b:=b) (p:=p) (Lc:=12) (Uc:=18+M) (L:=L) (U:=U) hp (fun j hj=>by
  obtain⟨a1,a2,a3,a4,a5,a6⟩:=hq.at hj
  exact⟨a4,a6,a2,by omega⟩) (by omega) hb (by have:=hq.2.1;omega) (by omega) q.length (Nat.le_refl _)
 refine⟨?_,hlu.1,hlu.2.mono (by omega) (by omega)⟩
 unfold w0u
 have hr:=hq.1
 rw [←hl] at hr
 rw [if_pos ⟨hr,List.all_eq_true.2 fun x hx=>by
  obtain⟨j,hj,e⟩:=List.mem_iff_getElem.1 hx
  have:=(hb j hj).1
  rw [show b.getD j default=b[j] by simp [List.getD_eq_getElem?_getD,hj],e] at this
  exact this,hp⟩]
theorem H1w {n M:Nat} {D:Int} {f:List (List Mn)} {b:List Ivl} {p:Int} {L U:Nat} (hf:okField n M D f) (hM:M≤24) (hl:b.length=n) (hn1:1≤n) (hn4:n≤4) (hb: ∀j,j<b.length→luI L U (b.getD j default)) (hp:Z0w p=true) (hbd:154+8*L+8*U≤4096):
 (J0r f b p).2=0∧(J0r f b p).1.length=n∧ ∀i,i<n→(J0r f b p).1.getD i default=(J0f (f.getD i []) b p (f.getD i []).length).1∧(J0f (f.getD i []) b p (f.getD i []).length).2=0∧luI (12+L*8) (26+M+U*8+2*M) (J0f (f.getD i []) b p (f.getD i []).length).1:=by
 have hfl:=hf.1
 have key: ∀i,i<n→_:=fun i hi=>x1y (hf.at (i:=i) (by omega)) hM hl hn1 hn4 hb hp hbd
 have h0:(tabF (fun i=>w0u (f.getD i []) b p) 0 f.length []).2=0:=x0y _ _ _ fun j _ hj=>by
  show(w0u (f.getD j []) b p).2=0
  rw [(key j (by omega)).1];exact(key j (by omega)).2.1
 obtain⟨g1,g2,g3⟩:=x0x h0
 unfold J0r
 rw [if_pos ⟨hf.right hn1 hn4,by omega⟩]
 refine⟨h0,by omega,fun i hi=> ?_⟩
 obtain⟨k1,k2,k3⟩:=key i hi
 refine⟨?_,k2,k3.mono (by omega) (by have:=(hf.at (i:=i) (by omega)).2.1;omega)⟩
 rw [g3 i (by omega)]
 show(w0u (f.getD i []) b p).1=_
 rw [k1]
end Go.Pv
end
