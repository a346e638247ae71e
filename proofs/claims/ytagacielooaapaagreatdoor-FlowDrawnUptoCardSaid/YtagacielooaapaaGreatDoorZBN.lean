/- Parts of the walk: N61, N62, N64, N65. -/
import Derived.Test.YtagacielooaapaaGreatDoorZBE
import Derived.Test.YtagacielooaapaaGreatDoorZBM
import Derived.Test.YtagacielooaapaaGreatDoorZBI
import Derived.Test.YtagacielooaapaaGreatDoorZAM
import Derived.Test.YtagacielooaapaaGreatDoorZBJ
import Derived.Test.YtagacielooaapaaGreatDoorZAR
set_option linter.unusedVariables false
set_option linter.unusedSimpArgs false
section
/-The document's gather,for any terms. -/
set_option maxRecDepth 100000
namespace Go.Pv
open Go.Proofs
theorem v0g (O:List Tm): ∀i,i<(Z0l O).length→((Z0l O).getD i .junk).cells.length=4:=fun i hi=>by
 rw [K0y] at hi
 rw [y0g O i hi];rfl
theorem G0o (O:List Tm):(flat (Z0l O)).length=O.length*4:=by rw [K0x (v0g O),K0y]
theorem X2v (O:List Tm) (R:List PV) (k m:Nat) (hk:k<O.length) (hm:m<4):(flat (Z0l O)++R).getD (k*4+m) .junk=(v0j (O.getD k default)).getD m .junk:=by
 have h:=G0o O
 rw [Q0q _ _ _ _ (by omega),q0l (v0g O) _ (by rw [K0y];omega),show(k*4+m)/4=k from by omega,show(k*4+m) % 4=m from by omega,y0g O k hk]
 rfl
theorem W2f (O:List Tm) (k:Nat):(flat (Z0l O)).drop (k*4)=flat (Z0l (O.drop k)):=by
 induction k generalizing O with
 | zero=>simp
 | succ k ih=>
  cases O with
  | nil=>simp [Z0l,flat]
  | cons o r=>
   have e:flat (Z0l (o::r))=v0j o++flat (Z0l r):=rfl
   rw [e,show(k+1)*4=4+k*4 from by omega,←List.drop_drop,List.drop_append_of_le_length (by simp [v0j]),show(v0j o).drop 4= [] from rfl,List.nil_append,ih r,List.drop_succ_cons]
theorem W3u (O:List Tm) (R:List PV) (k:Nat) (hk:k<O.length):((flat (Z0l O)++R).drop (k*4)).take 3=encV (O.getD k default).v:=by
 have h:=G0o O
 rw [List.drop_append_of_le_length (by omega),W2f,show O.drop k=O.getD k default::O.drop (k+1) from U1x O k hk]
 rfl
theorem q2x (O:List Tm) (R:List PV) (k:Nat) (v:Vl) (hk:k<O.length):over (flat (Z0l O)++R) (k*4) (encV v)=flat (Z0l (O.set k ⟨v,(O.getD k default).ks⟩))++R:=by
 have h:=G0o O
 induction k generalizing O with
 | zero=>
  cases O with
  | nil=>simp at hk
  | cons o r=>rfl
 | succ k ih=>
  cases O with
  | nil=>simp at hk
  | cons o r=>
   have e:flat (Z0l (o::r))=v0j o++flat (Z0l r):=rfl
   have ih':=ih r (by simpa using hk) (G0o r)
   have hl:(v0j o).length=4:=rfl
   have hget:(o::r).getD (k+1) default=r.getD k default:=rfl
   rw [hget,List.set_cons_succ,show flat (Z0l (o::r.set k ⟨v,(r.getD k default).ks⟩))=v0j o++flat (Z0l (r.set k ⟨v,(r.getD k default).ks⟩)) from rfl,e,List.append_assoc,List.append_assoc,←ih']
   unfold over
   rw [show(k+1)*4=4+k*4 from by omega,List.take_append,List.drop_append,hl,List.take_of_length_le (by rw [hl];omega),List.drop_of_length_le (by rw [hl];omega)]
   simp only [show 4+k*4-4=k*4 from by omega,show 4+k*4+(encV v).length-4=k*4+(encV v).length from by omega,List.nil_append,List.append_assoc]
theorem G0n (O:List Tm):(flat (Z0l O)).all PV.quiet=true:=by
 induction O with
 | nil=>rfl
 | cons o r ih=>
  have e:flat (Z0l (o::r))=v0j o++flat (Z0l r):=rfl
  rw [e,List.all_append,ih];rfl
theorem U1r (O:List Tm) (R:List PV) (n:Nat) (hn:n=O.length):(flat (Z0l O)++R).take (n*4)=flat (Z0l O):=Y2n (v0g O) (by rw [K0y];exact hn)
theorem U1s (O X:List Tm) (R:List PV):flat (Z0l O)++(flat (Z0l X)++R)=flat (Z0l (O++X))++R:=by
 rw [←List.append_assoc,←y1k,z2j]
theorem j1k (O:List Tm):(flat (Z0l O)).map PV.forget2=flat (Z0l O):=by
 induction O with
 | nil=>rfl
 | cons o r ih=>
  have e:flat (Z0l (o::r))=v0j o++flat (Z0l r):=rfl
  rw [e,List.map_append,ih];rfl
theorem j1l (O:List Tm) (R:List PV):W0y 4 O.length (flat (Z0l O)++R)=Z0l O:=by
 have:=v0k (sz:=4) (ys:=Z0l O) R (fun y hy=>by
  unfold Z0l at hy
  obtain⟨t,_,rfl⟩:=List.mem_map.1 hy
  exact⟨rfl,rfl⟩)
 rw [K0y] at this
 exact this
theorem j1j (O:List Tm) (R:List PV):(flat (Z0l O)++R).map PV.forget2=flat (Z0l O)++R.map PV.forget2∧(O.length*4≤(flat (Z0l O)).length+(R.map PV.forget2).length)=True∧W0y 4 O.length (flat (Z0l O)++R.map PV.forget2)=Z0l O:=
 ⟨by rw [List.map_append,j1k],eq_true (by have:=G0o O;omega),j1l O _⟩
theorem G1u {O X:List Tm} {R:List PV} {cap n:Nat} {id:TypeId} (hn:n=O.length) (hc:n≤cap) (hR:R.length=(cap-n)*4) (hq:R.all PV.quiet=true) (hl:n+X.length≤1000):
 G1i (flat (Z0l O)++R) n cap (Z0l X) ⟨id,4,64,true,true,false⟩:=by
 have h1:=G0o O
 refine⟨rfl,by show 0<4;decide,by show _=cap*4;rw [List.length_append,h1,hR];omega,by rw [K0y];omega,by show(n+(Z0l X).length)*64≤_;rw [K0y];omega,y2s X,by rw [List.all_append,G0n,hq];rfl,G0n X⟩
def J4m (O:List Tm) (cap:Nat) (R:List PV):Prop:=R.length=(cap-O.length)*4∧O.length≤cap∧R.all PV.quiet=true
set_option maxHeartbeats 4000000 in
theorem w2z (ts:List Tm) (st:Q0g) (hl:ts.length≤24) (hw: ∀i,i<ts.length→wK (ts.getD i default).ks∧smV (ts.getD i default).v)
 (hwT: ∀i,i≤ts.length→ ∀t∈gatT (ts.take i) [],wK t.ks∧smV t.v∧(Q0c t.v.m).length≤1000000000000):
 PCalls Tryz.prog 126 [.sl .no (Z0l ts)] st (fun r st'=>r= .tup [.sl .no (Z0z (z0k (gatT ts []) []).1),.sc (.int .i64 (z0k (gatT ts []) []).2)]∧st'=st):=by
 refine Q0b none Tryz.func126 rfl fun E=>Q0a ?_
 simp -dsimp only [go_sem]
 refine K1e ?_
 refine Q1i 4 0 (by simp) (by rfl) ?_
 simp -dsimp only [go_sem]
 refine X0h [true,false,false,false,true,true] 1 0
  (fun c s=> ∃(i cap:Nat) (O:List Tm) (R:List PV),c=ts.length-i∧i≤ts.length∧O=gatT (ts.take i) []∧J4m O cap R∧s=⟨[.sl .no (Z0l ts),.junk,.junk,.junk,.mr 0 O.length cap,.sc (.int .i64 (i:Nat))]++List.replicate 122 .junk,[flat (Z0l O)++R],[],st⟩) ts.length ?_ ?_
 · simp -dsimp only [go_sem]
   exact⟨0,0,[],[],by omega,by omega,by simp [gatT],⟨rfl,Nat.le_refl _,rfl⟩,rfl⟩
 · rintro c s ⟨i,cap,O,R,rfl,hi,hO,hR,rfl⟩
   have hOl:O.length≤i:=by
    rw [hO]
    have: ∀(ts acc:List Tm),(gatT ts acc).length≤acc.length+ts.length:=by
     intro ts
     induction ts with
     | nil=>intro acc;exact Nat.le_refl _
     | cons t r ih=>
      intro acc
      have h1:=ih (insT t acc)
      have h2:=k0z t acc
      rw [gatT];simp only [List.length_cons];omega
    have h3:=this (ts.take i) []
    rw [List.length_take] at h3
    simp at h3;omega
   obtain⟨hR1,hR2,hR3⟩:=hR
   have hall:(flat (Z0l O)++R).all PV.quiet=true:=by rw [List.all_append,G0n,hR3];rfl
   have hlims:=J0w (a:=1) (b:=0) hall
   have hfl:=G0o O
   have hOw: ∀j,j<O.length→wK (O.getD j default).ks∧smV (O.getD j default).v∧(Q0c (O.getD j default).v.m).length≤1000000000000:=fun j hj=>by
    rw [show O.getD j default=O[j] by simp [List.getD_eq_getElem?_getD,hj]]
    exact hwT i hi _ (by rw [←hO];exact List.getElem_mem hj)
   have hnx:i<ts.length→gatT (ts.take (i+1)) []=insT (ts.getD i default) O:=fun h=>by rw [K2d ts i h,j1a,←hO]
   have hfin:i=ts.length→O=gatT ts []:=fun e=>by rw [hO,e,List.take_length]
   refine Q0v (Q0a ?_)
   simp -dsimp only [go_sem]
   refine ck (fun h'=> ?_) (fun h'=> ?_)
   · have hlt:i<ts.length:=by have:=of_decide_eq_true h';omega
     have e1:=y0g ts i hlt
     have e3:=k0n i (by omega)
     simp -dsimp only [go_sem]
     refine Q0v (V0l (Q0v (Q0a ?_)))
     simp -dsimp only [go_sem]
     refine Z1q [true,false,false,false,true,true,true] 1 0
      (fun s=> ∃k,k≤O.length∧(∀q,q<k→ordK (O.getD q default).ks (ts.getD i default).ks>0)∧(k<O.length→ ¬ordK (O.getD k default).ks (ts.getD i default).ks>0)∧s=⟨[.sl .no (Z0l ts),.junk,.junk,.junk,.mr 0 O.length cap,.sc (.int .i64 (i:Nat)),.sc (.int .i64 (k:Nat))]++List.replicate 121 .junk,[flat (Z0l O)++R],[],st⟩) ?_ ?_
     · simp -dsimp only [go_sem]
       refine Q0e [true,false,false,false,true,true,true] 1 0
        (fun c s=> ∃j,c=O.length-j∧j≤O.length∧(∀q,q<j→ordK (O.getD q default).ks (ts.getD i default).ks>0)∧s=⟨[.sl .no (Z0l ts),.junk,.junk,.junk,.mr 0 O.length cap,.sc (.int .i64 (i:Nat)),.sc (.int .i64 (j:Nat))]++List.replicate 121 .junk,[flat (Z0l O)++R],[],st⟩) O.length ?_ ?_
       · simp -dsimp only [go_sem]
         exact⟨hlims,0,by omega,by omega,fun q hq=>absurd hq (by omega),rfl⟩
       · rintro c s ⟨j,rfl,hj,hq,rfl⟩
         have f3:=k0n j (by omega)
         simp -dsimp only [go_sem]
         refine Q0l Z0k 128 (.step 0 [] (.step 1 [] (.step 2 [] (.step 3 [] (.step 4 [] (.step 5 [] (.step 6 [] (.step 7 [] (.step 8 [] (.step 9 [] (.step 10 [] (.step 11 [] (.step 12 [] (.step 13 [] (.step 14 [] (.step 15 [] (.step 16 [] (.step 17 [] (.done))))))))))))))))))) (by decide+kernel) (by simp) ?_
         simp -dsimp only [go_sem]
         refine gkT (fun h1=> ?_) (fun h1=> ?_)
         · have hlt2:j<O.length:=by have:=of_decide_eq_true h1;omega
           have e2:=X2v O R j 3 hlt2 (by omega)
           simp -dsimp only [go_sem,h1,e1,e2]
           refine⟨⟨by omega,hlt2⟩,by omega,⟨by omega,by omega⟩,?_⟩
           refine(Q1g (O.getD j default).ks (ts.getD i default).ks _ (hOw j hlt2).1 (hw i hlt).1).mono ?_
           rintro r st ⟨rfl,rfl⟩
           simp -dsimp only [go_sem,h1]
           refine ck (fun h2=> ?_) (fun h2=> ?_)
           · simp -dsimp only [go_sem,f3]
             exact⟨hlims,O.length-(j+1),by omega,j+1,rfl,by omega,fun q hq'=>by
              by_cases e:q=j
              · rw [e];exact of_decide_eq_true h2
              · exact hq q (by omega),rfl⟩
           · simp -dsimp only [go_sem]
             exact⟨hlims,j,by omega,hq,fun _=>of_decide_eq_false h2,rfl⟩
         · have hge:j=O.length:=by have:=of_decide_eq_false h1;omega
           subst hge
           simp -dsimp only [go_sem,h1]
           exact⟨hlims,O.length,by omega,hq,fun h=>absurd h (Nat.lt_irrefl _),rfl⟩
     · rintro s ⟨k,hk,hq,hnq,rfl⟩
       refine Z1q [true,false,false,false,true,true,true] 1 0
        (fun s=>insT (ts.getD i default) O=O.take k++ts.getD i default::O.drop k∧s=⟨[.sl .no (Z0l ts),.junk,.junk,.junk,.mr 0 O.length cap,.sc (.int .i64 (i:Nat)),.sc (.int .i64 (k:Nat))]++List.replicate 121 .junk,[flat (Z0l O)++R],[],st⟩) ?_ ?_
       rotate_left
       · rintro s ⟨hs,rfl⟩
         clear hq hnq
         obtain⟨f1,f2,f3⟩:=j1j O R
         refine q0z 0 4 (by simp only [W0a];exact G1z hall) ?_
         generalize R.map PV.forget2=R' at f1 f2 f3
         simp -dsimp only [go_sem,f1,f2,f3]
         refine Q0v (Q0a ?_)
         simp -dsimp only [go_sem]
         refine Q1i 7 0 (by simp) (by rfl) ?_
         simp -dsimp only [go_sem]
         refine Q0v ?_
         refine X1n [false,false,false,false,true,false] ?_
         have hA:(O.take k).length=k:=by rw [List.length_take];omega
         have hB:(O.drop k).length=O.length-k:=List.length_drop
         simp -dsimp only [go_sem]
         have hOO:O.take O.length=O:=List.take_length
         generalize O.take k=A at*
         generalize hBe:O.drop k=B at*
         refine⟨⟨⟨by omega,by omega⟩,by omega⟩,G1u (O:= []) rfl (by omega) rfl rfl (by omega),?_⟩
         intro c1 R1 g1 g2 g3
         have t1:=U1r A R1 A.length rfl
         refine Q0v ?_
         refine X1n [false,false,false,false,false,false,true,false] ?_
         have hone: [PV.agg [.sc (.bool (ts.getD i default).v.neg),.sl .no (encD (Q0c (ts.getD i default).v.m)),.sc (.int .i64 (ts.getD i default).v.e),.sl .no (encZ (ts.getD i default).ks)]]=Z0l [ts.getD i default]:=rfl
         simp -dsimp only [go_sem,e1,hone,t1,U1s]
         refine⟨⟨by omega,by omega⟩,G1u rfl g1 g2 g3 (by show A.length+1≤1000;omega),?_⟩
         intro c2 R2 k1 k2 k3
         have hA2:(A++ [ts.getD i default]).length=A.length+1:=by simp
         generalize hA3:A++ [ts.getD i default]=A2 at*
         have t2:=U1r A2 R2 (A.length+1) hA2.symm
         refine X1n [false,false,false,false,true,false] ?_
         simp -dsimp only [go_sem,hOO,hBe,t2,U1s]
         refine⟨⟨⟨by omega,by omega⟩,by omega⟩,G1u hA2.symm k1 k2 k3 (by omega),?_⟩
         intro c3 R3 l1 l2 l3
         have hall2:(flat (Z0l (A2++B))++R3).all PV.quiet=true:=by rw [List.all_append,G0n,l3];rfl
         have hl2:(A2++B).length=A.length+1+B.length:=by rw [List.length_append,hA2]
         refine Q0a ?_
         simp -dsimp only [go_sem,e3]
         exact⟨J0w hall2,ts.length-(i+1),by omega,i+1,c3,A2++B,R3,rfl,by omega,by rw [hnx hlt,hs,←hA3];simp,⟨by rw [hl2];exact l2,by rw [hl2];exact l1,l3⟩,by rw [hl2]⟩
       simp -dsimp only [go_sem]
       refine Q0l Z0k 128 (.step 0 [] (.step 1 [] (.step 2 [] (.step 3 [] (.step 4 [] (.step 5 [] (.step 6 [] (.step 7 [] (.step 8 [] (.step 9 [] (.step 10 [] (.step 11 [] (.step 12 [] (.step 13 [] (.step 14 [] (.step 15 [] (.step 16 [] (.step 17 [] (.done))))))))))))))))))) (by decide+kernel) (by simp) ?_
       simp -dsimp only [go_sem]
       refine gkT (fun h1=> ?_) (fun h1=> ?_)
       · have hlt2:k<O.length:=by have:=of_decide_eq_true h1;omega
         have e2:=X2v O R k 3 hlt2 (by omega)
         simp -dsimp only [go_sem,h1,e1,e2]
         refine⟨⟨by omega,hlt2⟩,by omega,⟨by omega,by omega⟩,?_⟩
         refine(Q1g (O.getD k default).ks (ts.getD i default).ks _ (hOw k hlt2).1 (hw i hlt).1).mono ?_
         rintro r st ⟨rfl,rfl⟩
         simp -dsimp only [go_sem,h1]
         refine ck (fun h2=> ?_) (fun h2=> ?_)
         · have hz:ordK (O.getD k default).ks (ts.getD i default).ks=0:=q1r h2
           have e4:=W3u O R k hlt2
           simp -dsimp only [go_sem]
           refine Q0l Z0k 128 (.step 0 [] (.step 1 [] (.step 2 [] (.step 3 [] (.step 4 [] (.step 5 [] (.step 6 [] (.step 7 [] (.step 8 [] (.step 9 [] (.step 10 [] (.step 11 [] (.step 12 [] (.step 13 [] (.step 14 [] (.step 15 [] (.done))))))))))))))))) (by decide+kernel) (by simp) ?_
           simp -dsimp only [go_sem,e1,e4]
           refine⟨⟨by omega,hlt2⟩,by omega,⟨by omega,by omega⟩,?_⟩
           refine(x1f (O.getD k default).v (ts.getD i default).v _ (hOw k hlt2).2.1 (hw i hlt).2).mono ?_
           rintro r st ⟨rfl,rfl⟩
           have e5:=q2x O R k (V0d (O.getD k default).v (ts.getD i default).v) hlt2
           unfold encV at e5
           simp -dsimp only [go_sem,e5]
           have hs:insT (ts.getD i default) O=O.set k ⟨V0d (O.getD k default).v (ts.getD i default).v,(O.getD k default).ks⟩:=q2k hlt2 hq hz
           have hall2:(flat (Z0l (O.set k ⟨V0d (O.getD k default).v (ts.getD i default).v,(O.getD k default).ks⟩))++R).all PV.quiet=true:=by rw [List.all_append,G0n,hR3];rfl
           refine⟨⟨by omega,hlt2⟩,⟨by omega,by omega⟩,Q0a ?_⟩
           simp -dsimp only [go_sem,e3]
           exact⟨J0w hall2,ts.length-(i+1),by omega,i+1,cap,_,R,rfl,by omega,by rw [hnx hlt,hs],⟨by rw [List.length_set];exact hR1,by rw [List.length_set];exact hR2,hR3⟩,by rw [List.length_set]⟩
         · have hne:=W2z h2
           have hs:insT (ts.getD i default) O=O.take k++ts.getD i default::O.drop k:=q2l hlt2 hq (hnq hlt2) hne
           simp -dsimp only [go_sem]
           exact⟨hlims,hs⟩
       · have hge:k=O.length:=by have:=of_decide_eq_false h1;omega
         have hs:insT (ts.getD i default) O=O.take k++ts.getD i default::O.drop k:=by
          rw [w2s (by rw [←hge];exact hq),hge,List.take_length,List.drop_length]
         simp -dsimp only [go_sem,h1]
         exact⟨hlims,hs⟩
   · have hge:i=ts.length:=by have:=of_decide_eq_false h';omega
     have hO2:=hfin hge
     subst hO2
     have hO24:(gatT ts []).length≤24:=by omega
     clear hlims hnx hfin hge h' hi
     obtain⟨f1,f2,f3⟩:=j1j (gatT ts []) R
     generalize gatT ts []=O at*
     simp -dsimp only [go_sem]
     refine q0z 0 4 (by simp only [W0a];exact G1z hall) ?_
     generalize R.map PV.forget2=R' at f1 f2 f3
     simp -dsimp only [go_sem,f1,f2,f3]
     refine Q0a ?_
     simp -dsimp only [go_sem]
     refine X0k 8 4 ?_
     simp -dsimp only [go_sem]
     refine Q0e [false,false,false,false,true,false,false,false,true,true] 0 1
      (fun c s=> ∃(j:Nat) (o:List Mn),c=O.length-j∧j≤O.length∧o.length≤j∧z0k O []=z0k (O.drop j) o∧
       s=⟨[.junk,.junk,.junk,.junk,.sl .no (Z0l O),.junk,.junk,.junk,.sl (.own 0) (Z0z o),.sc (.int .i64 (j:Nat))]++List.replicate 118 .junk,[],[(o.length,4)],st⟩) O.length ?_ ?_
     · simp -dsimp only [go_sem]
       exact⟨0,[],by omega,by omega,by simp,rfl,rfl⟩
     · rintro c s ⟨j,o,rfl,hj,ho,hr,rfl⟩
       simp -dsimp only [go_sem]
       refine ck (fun h1=> ?_) (fun h1=> ?_)
       · have hlt:j<O.length:=by have:=of_decide_eq_true h1;omega
         have e1:=y0g O j hlt
         have e3:=k0n j (by omega)
         obtain⟨w1,_,w2⟩:=hOw j hlt
         have w3:=w1.1
         rw [U1x O j hlt,z0k] at hr
         simp -dsimp only [go_sem,e1]
         refine⟨by omega,?_⟩
         refine(W0n (O.getD j default).v _).mono ?_
         rintro r st ⟨rfl,rfl⟩
         simp -dsimp only [go_sem]
         refine ck (fun h2=> ?_) (fun h2=> ?_)
         · rw [if_pos (q1r h2)] at hr
           simp -dsimp only [go_sem,e3]
           exact⟨O.length-(j+1),by omega,j+1,o,rfl,by omega,by omega,hr,rfl⟩
         · rw [if_neg (W2z h2)] at hr
           simp -dsimp only [go_sem,e1]
           refine⟨by omega,?_⟩
           refine(Y1m (O.getD j default).v _ w2).mono ?_
           rintro r st ⟨rfl,rfl⟩
           simp -dsimp only [go_sem]
           refine ck (fun h3=> ?_) (fun h3=> ?_)
           · rw [if_pos (v0q h3)] at hr
             simp -dsimp only [go_sem]
             rw [hr];rfl
           · rw [if_neg (by rw [Z1l h3];decide)] at hr
             simp -dsimp only [go_sem]
             refine Q0l Z0k 128 (.step 0 [] (.step 1 [] (.step 2 [] (.step 3 [] (.step 4 [] (.step 5 [] (.step 6 [] (.step 7 [] (.step 8 [1] (.step 9 [] (.step 10 [] (.step 11 [] (.step 12 [] (.done)))))))))))))) (by decide+kernel) (by simp) ?_
             simp -dsimp only [go_sem,e1,e3]
             refine⟨by omega,⟨by omega,by omega⟩,⟨by omega,by omega⟩,O.length-(j+1),by omega,j+1,o++ [⟨(numV (O.getD j default).v).1,(O.getD j default).ks⟩],rfl,by omega,by simp;omega,hr,?_⟩
             simp [Z0z,x0o]
       · have hge:j=O.length:=by have:=of_decide_eq_false h1;omega
         subst hge
         rw [List.drop_length,z0k] at hr
         have z1:decide ((o.length:Int)>24)=false:=decide_eq_false (by omega)
         simp -dsimp only [go_sem]
         refine J0m [false,false,false,false,false,false,false,false,true] (Q0a ?_)
         simp -dsimp only [go_sem,z1]
         rw [hr]
end Go.Pv
end
section
/-The document's Make;the deck's powers,monomials,polynomials,fields. -/
set_option maxRecDepth 100000
namespace Go.Pv
open Go.Proofs
theorem K3g (ks:List Int) (j:Nat) (x:Int) (hj:j<ks.length):(ks.set j x).sum=ks.sum-ks.getD j 0+x:=by
 induction ks generalizing j with
 | nil=>simp at hj
 | cons k r ih=>
  cases j with
  | zero=>simp;omega
  | succ j=>
   have:=ih j (by simpa using hj)
   simp only [List.set_cons_succ,List.sum_cons,List.getD_cons_succ,this];omega
def okKs (n:Nat) (D:Int) (ks:List Int):Prop:=ks.length=n∧(∀j,j<n→0≤ks.getD j 0)∧ks.sum≤D
theorem okKs.right {n:Nat} {D:Int} {ks:List Int} (h:okKs n D ks) (hD:D≤8):V0g ks=true:=(J0v ks).2 ⟨fun j hj=>h.2.1 j (by rw [←h.1];exact hj),by have:=h.2.2;omega⟩
theorem okKs.wK {n:Nat} {D:Int} {ks:List Int} (h:okKs n D ks) (hD:D≤8) (hn:n≤1000):wK ks:=⟨by rw [h.1];omega,fun i hi=>by
 have:=V0j (h.right hD) i hi
 omega⟩
theorem repZ (n:Nat):List.replicate n (PV.sc (.int .i64 0))=encZ (List.replicate n 0):=by simp [encZ]
theorem y2o (T:List Int) (q:Nat) (c:Int) (h:q<T.length):over (encZ T) q [.sc (.int .i64 c)]=encZ (T.set q c):=by
 have:=V3l 0 T q c h
 simpa using this
theorem K3h (n:Nat):(List.replicate n (0:Int)).sum=0:=by
 induction n with
 | zero=>rfl
 | succ n ih=>rw [List.replicate_succ,List.sum_cons,ih];rfl
theorem v2b (l:List UInt64) (i k n D:Nat) (st:Q0g) (h:atD st k l i) (hi:i≤900000000000) (hn:1≤n) (hn2:n≤1000) (hD:D≤8):PCalls Tryz.prog 124 [.gp k 0,.sc (.int .i64 n),.sc (.int .i64 D)] st
 (fun r st'=> ∃ks j,okKs n D ks∧i≤j∧j≤i+1+D∧r= .sl .no (encZ ks)∧st'=st.set k (dk l j)):=by
 refine Q0b none Tryz.func124 rfl fun E=>Q0a ?_
 have x1:IntKind.i64.wrap ((D:Int)+1)=((D+1:Nat):Int):=by
  rw [show((D:Int)+1)=((D+1:Nat):Int) from rfl,Q0k _ (by omega)]
 simp -dsimp only [go_sem,x1]
 refine⟨⟨by omega,by omega,by omega⟩,?_⟩
 refine(G0u l i k (D+1) st h (by omega) (by omega) (by omega)).mono ?_
 rintro r st' ⟨rfl,rfl⟩
 have hnx:=W1x l i (n:=D+1) (by omega)
 simp -dsimp only [go_sem]
 refine Q0e [true,true,false,false,false,false,false,true,true] 1 0 (fun m s=> ∃(ks:List Int) (c j:Nat),m=c∧c≤D∧okKs n (D-c) ks∧i≤j∧j+c≤i+1+D∧
  s=⟨[.gp k 0,.sc (.int .i64 n),.junk,.junk,.junk,.junk,.junk,.ms false 0 0 n,.sc (.int .i64 (c:Nat))]++List.replicate 19 .junk,[encZ ks],[],st.set k (dk l j)⟩) (nx l i (D+1)) ?_ ?_
 · simp -dsimp only [go_sem]
   refine⟨(by rw [repZ];exact y2p _ _ _),List.replicate n 0,nx l i (D+1),i+1,rfl,by omega,⟨by simp,fun j hj=>by simp [List.getD_eq_getElem?_getD,hj],by rw [K3h];omega⟩,by omega,by omega,?_⟩
   rw [repZ]
 · rintro m s ⟨ks,c,j,hm,hc,hks,hj1,hj2,rfl⟩
   subst hm
   obtain⟨k1,k2,k3⟩:=hks
   simp -dsimp only [go_sem]
   refine ck (fun h1=> ?_) (fun h1=> ?_)
   · have hpos:0<m:=by have:=of_decide_eq_true h1;omega
     have x2:IntKind.i64.wrap ((m:Int)-1)=((m-1:Nat):Int):=by rw [Q0h _ (by omega) (by omega)];omega
     simp -dsimp only [go_sem]
     refine(G0u l j k n _ (h.set j) (by omega) (by omega) (by omega)).mono ?_
     rintro r st' ⟨rfl,rfl⟩
     have hq:=W1x l j (n:=n) (by omega)
     generalize nx l j n=q at hq⊢
     have hg:=U0p ks q (by omega)
     have hv:=k2 q hq
     have hup:ks.getD q 0≤8:=by
      have:=V0j ((J0v ks).2 ⟨fun j hj=>k2 j (by omega),by omega⟩) q (by omega)
      exact this.2
     have x3:IntKind.i64.wrap (ks.getD q 0+1)=ks.getD q 0+1:=Q0h _ (by omega) (by omega)
     have hs:=y2o ks q (ks.getD q 0+1) (by omega)
     simp -dsimp only [go_sem,hg,x3,hs,x2,z0y]
     refine⟨⟨by omega,hq⟩,by omega,⟨by omega,hq⟩,⟨by omega,by omega⟩,m-1,by omega,ks.set q (ks.getD q 0+1),m-1,j+1,rfl,by omega,⟨by rw [List.length_set,k1],fun a ha=> ?_,?_⟩,by omega,by omega,rfl⟩
     · by_cases e:q=a
       · subst e;rw [Q0w _ _ _ _ (by omega)];omega
       · rw [Q0y _ _ _ _ _ e];exact k2 a ha
     · rw [K3g _ _ _ (by omega)];omega
   · have hz:m=0:=by have:=of_decide_eq_false h1;omega
     subst hz
     have ht:ks.take n=ks:=List.take_of_length_le (by omega)
     have hle:(n≤ks.length)=True:=eq_true (by omega)
     simp -dsimp only [go_sem]
     refine X0z 0 (by simp only [W0a];exact Y3e _) (Q0a ?_)
     simp -dsimp only [go_sem,ht,hle]
     exact⟨ks,j,⟨k1,k2,by omega⟩,by omega,by omega,rfl,rfl⟩
def G2u (n:Nat) (D:Int) (m:Mn):Prop:=okKs n D m.ks∧smN m.c
theorem V3t (l:List UInt64) (i k n M D:Nat) (st:Q0g) (h:atD st k l i) (hi:i≤800000000000) (hn:1≤n) (hn2:n≤1000) (hM:M≤20) (hD:D≤8):PCalls Tryz.prog 63 [.gp k 0,.sc (.int .i64 n),.sc (.int .i64 M),.sc (.int .i64 D)] st
 (fun r st'=> ∃p j,p.length≤M∧(∀m∈p,G2u n D m)∧i≤j∧j≤i+1+10*M∧r= .sl .no (Z0z p)∧st'=st.set k (dk l j)):=by
 refine Q0b none Tryz.func63 rfl fun E=>Q0a ?_
 have x1:IntKind.i64.wrap ((M:Int)+1)=((M+1:Nat):Int):=by
  rw [show((M:Int)+1)=((M+1:Nat):Int) from rfl,Q0k _ (by omega)]
 simp -dsimp only [go_sem,x1]
 refine(G0u l i k (M+1) st h (by omega) (by omega) (by omega)).mono ?_
 rintro r st' ⟨rfl,rfl⟩
 have hnx:=W1x l i (n:=M+1) (by omega)
 simp -dsimp only [go_sem]
 refine X0k 9 4 ?_
 simp -dsimp only [go_sem]
 refine Q0e [true,true,false,true,false,false,false,false,false,true,true] 0 1 (fun m s=> ∃(p:List Mn) (c j:Nat),m=c∧p.length+c≤M∧(∀m∈p,G2u n D m)∧i≤j∧j+10*c≤i+1+10*M∧
  s=⟨[.gp k 0,.sc (.int .i64 n),.junk,.sc (.int .i64 D),.junk,.junk,.junk,.junk,.junk,.sl (.own 0) (Z0z p),.sc (.int .i64 (c:Nat))]++List.replicate 19 .junk,[],[(p.length,4)],st.set k (dk l j)⟩) (nx l i (M+1)) ?_ ?_
 · simp -dsimp only [go_sem]
   exact⟨[],nx l i (M+1),i+1,rfl,by simp;omega,(fun m hm=>by cases hm),by omega,by omega,rfl⟩
 · rintro m s ⟨p,c,j,hm,hc,hp,hj1,hj2,rfl⟩
   subst hm
   simp -dsimp only [go_sem]
   refine ck (fun h1=> ?_) (fun h1=> ?_)
   · have hpos:0<m:=by have:=of_decide_eq_true h1;omega
     have x2:IntKind.i64.wrap ((m:Int)-1)=((m-1:Nat):Int):=by rw [Q0h _ (by omega) (by omega)];omega
     simp -dsimp only [go_sem]
     refine(X1k l j k _ (h.set j) (by omega)).mono ?_
     rintro r st' ⟨x,hx,rfl,rfl⟩
     simp -dsimp only [go_sem,z0y]
     refine(v2b l (j+1) k n D _ (h.set (j+1)) (by omega) hn hn2 hD).mono ?_
     rintro r st' ⟨ks,j',hks,hj3,hj4,rfl,rfl⟩
     have hsn:Z0z p++ [PV.agg [.sc (.bool x.neg),.sc (.int .i64 x.exp),.sl .no (encW x.w),.sl .no (encZ ks)]]=Z0z (p++ [⟨x,ks⟩]):=W2j p ⟨x,ks⟩
     simp -dsimp only [go_sem,z0y,x2,hsn]
     refine⟨⟨by omega,by omega⟩,m-1,by omega,p++ [⟨x,ks⟩],m-1,j',rfl,by simp;omega,fun y hy=> ?_,by omega,by omega,by simp⟩
     rcases List.mem_append.1 hy with hy | hy
     · exact hp y hy
     · rw [List.mem_singleton.1 hy];exact⟨hks,hx⟩
   · have hz:m=0:=by have:=of_decide_eq_false h1;omega
     subst hz
     simp -dsimp only [go_sem]
     refine J0m [false,false,false,false,false,false,false,false,false,true] (Q0a ?_)
     simp -dsimp only [go_sem]
     exact⟨p,j,by omega,hp,by omega,by omega,rfl,rfl⟩
def tmOf (m:Mn):Tm:=⟨ofN m.c,m.ks⟩
theorem Z2v {n:Nat} {D:Int} {m:Mn} (h:G2u n D m) (hD:D≤8):okT n 12 18 D (tmOf m):=
 ⟨h.1.1,h.1.right hD,h.1.2.2,J0g h.2.1,k0g h.2.2⟩
theorem V2o {n:Nat} {D:Int} {m:Mn} (h:G2u n D m) (hD:D≤8):W0q m n=true:=(x0f _ _).2 ⟨by have:=h.1.1;omega,h.1.right hD,h.2.1⟩
theorem z3m {n L U:Nat} {D:Int} {t:Tm} (h:okT n L U D t) (hn:n≤4):wK t.ks:=⟨by rw [h.1];omega,fun i hi=>by
 have:=V0j h.2.1 i hi
 omega⟩
theorem V3h {n L U:Nat} {D:Int} {t:Tm} (h:okT n L U D t) (hb:L+U≤4000):smV t.v∧(Q0c t.v.m).length≤1000000000000:=by
 have:=H2n h.2.2.2.1 h.2.2.2.2
 refine⟨⟨by have:=this.1;omega,by have:=this.2.1;omega,by have:=this.2.2;omega⟩,K0o this (by omega)⟩
theorem x0m {α:Type} [Inhabited α] {l:List α} {P:α→Prop} (h: ∀x∈l,P x) {i:Nat} (hi:i<l.length):P (l.getD i default):=by
 rw [show l.getD i default=l[i] by simp [List.getD_eq_getElem?_getD,hi]]
 exact h _ (List.getElem_mem hi)
set_option maxHeartbeats 4000000 in
theorem U2p (p:List Mn) (n:Nat) (D:Int) (st:Q0g) (hn:1≤n) (hn4:n≤4) (hl:p.length≤24) (hD:D≤8) (hp: ∀m∈p,G2u n D m):PCalls Tryz.prog 64 [.sl .no (Z0z p),.sc (.int .i64 n)] st
 (fun r st'=>r= .tup [.sl .no (Z0z (z0k (gatT (p.map tmOf) []) []).1),.sc (.int .i64 (z0k (gatT (p.map tmOf) []) []).2)]∧st'=st):=by
 have hok: ∀t∈p.map tmOf,okT n 12 18 D t:=fun t ht=>by
  obtain⟨m,hm,rfl⟩:=List.mem_map.1 ht
  exact Z2v (hp m hm) hD
 refine Q0b none Tryz.func64 rfl fun E=>Q0a ?_
 simp -dsimp only [go_sem]
 have d1:decide ((n:Int)<1)=false:=decide_eq_false (by omega)
 have d2:decide ((n:Int)>4)=false:=decide_eq_false (by omega)
 simp -dsimp only [go_sem,d1,d2]
 refine X0k 6 4 ?_
 simp -dsimp only [go_sem]
 refine Q0e [true,true,false,false,false,false,true,true] 0 1 (fun c s=> ∃i,c=p.length-i∧i≤p.length∧
  s=⟨[.sl .no (Z0z p),.sc (.int .i64 n),.junk,.junk,.junk,.junk,.sl (.own 0) (Z0l ((p.take i).map tmOf)),.sc (.int .i64 (i:Nat))]++List.replicate 38 .junk,[],[(i,4)],st⟩) p.length ?_ ?_
 · simp -dsimp only [go_sem]
   exact⟨0,by omega,by omega,rfl⟩
 · rintro c s ⟨i,rfl,hi,rfl⟩
   have htl:((p.take i).map tmOf).length=i:=by rw [List.length_map,List.length_take];omega
   simp -dsimp only [go_sem]
   refine ck (fun h1=> ?_) (fun h1=> ?_)
   · have hlt:i<p.length:=by have:=of_decide_eq_true h1;omega
     have e1:=Y0t p i hlt
     have e3:=k0n i (by omega)
     have hm:=x0m hp hlt
     have hsn2:(p.take (i+1)).map tmOf=(p.take i).map tmOf++ [tmOf (p.getD i default)]:=by
      rw [List.take_add_one,List.map_append,List.getElem?_eq_getElem hlt]
      simp [List.getD_eq_getElem?_getD,hlt]
     have hwm:wMn (p.getD i default):=⟨J0k hm.2.1,hm.1.wK hD (by omega)⟩
     simp -dsimp only [go_sem,e1]
     refine⟨by omega,?_⟩
     refine(z1s (p.getD i default) n _ hwm (by omega)).mono ?_
     rintro r st ⟨rfl,rfl⟩
     rw [V2o hm hD]
     simp -dsimp only [go_sem,Bool.not_true]
     refine Q0l Z0k 46 (.step 0 [] (.step 1 [] (.step 2 [] (.step 3 [] (.step 4 [] (.step 5 [] (.step 7 [] (.step 8 [] (.step 9 [] (.step 10 [] (.step 11 [] (.step 6 [11] (.step 12 [] (.step 13 [] (.step 14 [] (.step 15 [] (.done))))))))))))))))) (by decide+kernel) (by simp) ?_
     generalize hT:(p.take i).map tmOf=T at*
     simp -dsimp only [go_sem,e1]
     refine⟨⟨by omega,by omega⟩,⟨by omega,by omega⟩,?_⟩
     refine(of_c (p.getD i default).c _ (by have:=J0k hm.2.1;unfold wN at this;omega)).mono ?_
     rintro r st ⟨rfl,rfl⟩
     have hsn:Z0l T++ [PV.agg [.sc (.bool (ofN (p.getD i default).c).neg),.sl .no (encD (Q0c (ofN (p.getD i default).c).m)),.sc (.int .i64 (ofN (p.getD i default).c).e),.sl .no (encZ (p.getD i default).ks)]]=Z0l (T++ [tmOf (p.getD i default)]):=W2i T (tmOf (p.getD i default))
     simp -dsimp only [go_sem,e1,e3,hsn,htl]
     exact⟨⟨by omega,by omega⟩,p.length-(i+1),by omega,i+1,rfl,by omega,by rw [hsn2]⟩
   · have hge:i=p.length:=by have:=of_decide_eq_false h1;omega
     subst hge
     have hfull:p.take p.length=p:=List.take_length
     rw [hfull] at htl
     simp -dsimp only [go_sem,hfull]
     refine J0m [false,false,false,false,false,false,true] (Q0a ?_)
     simp -dsimp only [go_sem]
     have hw: ∀(T:List Tm) (i:Nat),(∀t∈T,okT n 12 (18+i) D t)→i≤100→ ∀t∈T,wK t.ks∧smV t.v∧(Q0c t.v.m).length≤1000000000000:=fun T i hT hi t ht=>by
      have:=V3h (hT t ht) (by omega)
      exact⟨z3m (hT t ht) hn4,this.1,this.2⟩
     refine(w2z (p.map tmOf) _ (by rw [htl];exact hl) (fun i hi=> ?_) (fun i hi t ht=> ?_)).mono ?_
     · have:=hw (p.map tmOf) 0 hok (by omega)
       exact⟨(x0m (P:=fun t=>wK t.ks) (fun t ht=>(this t ht).1) hi),(x0m (P:=fun t=>smV t.v) (fun t ht=>(this t ht).2.1) hi)⟩
     · have:=(y1i (n:=n) (L:=12) (D:=D) ((p.map tmOf).take i) [] 18 (fun t ht=>hok t (List.mem_of_mem_take ht)) (fun t ht=>by cases ht) List.Pairwise.nil).1
       exact hw _ ((p.map tmOf).take i).length this (by rw [List.length_take,htl];omega) t ht
     · rintro r st ⟨rfl,rfl⟩
       simp -dsimp only [go_sem]
def okPoly (n M:Nat) (D:Int) (p:List Mn):Prop:=X0m p n=true∧p.length≤M∧ ∀m∈p,okMn n 12 (18+M) D m
theorem z3k (l:List UInt64) (i k n M D:Nat) (st:Q0g) (h:atD st k l i) (hi:i≤800000000000) (hn:1≤n) (hn4:n≤4) (hM:M≤20) (hD:D≤8):PCalls Tryz.prog 81 [.gp k 0,.sc (.int .i64 n),.sc (.int .i64 M),.sc (.int .i64 D)] st
 (fun r st'=> ∃p j,okPoly n M D p∧i≤j∧j≤i+1+10*M∧r= .sl .no (Z0z p)∧st'=st.set k (dk l j)):=by
 refine Q0b none Tryz.func81 rfl fun E=>Q0a ?_
 simp -dsimp only [go_sem]
 refine(V3t l i k n M D st h hi hn (by omega) hM hD).mono ?_
 rintro r st' ⟨p,j,hpl,hp,hj1,hj2,rfl,rfl⟩
 simp -dsimp only [go_sem]
 refine(U2p p n D _ hn hn4 (by omega) (by omega) hp).mono ?_
 rintro r st' ⟨rfl,rfl⟩
 have hok: ∀t∈p.map tmOf,okT n 12 18 D t:=fun t ht=>by
  obtain⟨m,hm,rfl⟩:=List.mem_map.1 ht
  exact Z2v (hp m hm) (by omega)
 obtain⟨g1,g2,g3,g4⟩:=W2b (n:=n) (L:=12) (U:=18) (D:=D) (ts:=p.map tmOf) (by rw [List.length_map];omega) hn hn4 (by rw [List.length_map];omega) hok
 rw [List.length_map] at g3 g4
 generalize (z0k (gatT (p.map tmOf) []) []).1=P at*
 generalize (z0k (gatT (p.map tmOf) []) []).2=e at*
 simp -dsimp only [go_sem]
 exact⟨P,j,⟨g2,by omega,fun m hm=>by
  obtain⟨a1,a2,a3,a4,a5,a6⟩:=g3 m hm
  exact⟨a1,a2,a3,a4,a5,a6.up (by omega)⟩⟩,hj1,hj2,rfl,rfl⟩
def okField (n M:Nat) (D:Int) (f:List (List Mn)):Prop:=f.length=n∧ ∀p∈f,okPoly n M D p
theorem okField.right {n M:Nat} {D:Int} {f:List (List Mn)} (h:okField n M D f) (hn:1≤n) (hn4:n≤4):K0h f=true:=(W0g f).2 ⟨by rw [h.1];exact⟨hn,hn4⟩,fun i hi=>by
 rw [show f.getD i []=f[i] by simp [List.getD_eq_getElem?_getD,hi],h.1]
 exact(h.2 _ (List.getElem_mem hi)).1⟩
theorem V1y (l:List UInt64) (i k n M D:Nat) (st:Q0g) (h:atD st k l i) (hi:i≤700000000000) (hn:1≤n) (hn4:n≤4) (hM:M≤20) (hD:D≤8):PCalls Tryz.prog 36 [.gp k 0,.sc (.int .i64 n),.sc (.int .i64 M),.sc (.int .i64 D)] st
 (fun r st'=> ∃f j,okField n M D f∧i≤j∧j≤i+1000∧r= .sl .no (Z0x f)∧st'=st.set k (dk l j)):=by
 refine Q0b none Tryz.func36 rfl fun E=>Q0a ?_
 simp -dsimp only [go_sem]
 refine X0k 9 1 ?_
 simp -dsimp only [go_sem]
 refine Q0e [true,true,true,true,false,false,false,false,false,true,true] 0 1 (fun m s=> ∃(f:List (List Mn)) (j:Nat),m=n-f.length∧f.length≤n∧(∀p∈f,okPoly n M D p)∧i≤j∧j≤i+250*f.length∧
  s=⟨[.gp k 0,.sc (.int .i64 n),.sc (.int .i64 M),.sc (.int .i64 D),.junk,.junk,.junk,.junk,.junk,.sl (.own 0) (Z0x f),.sc (.int .i64 (f.length:Nat))]++List.replicate 14 .junk,[],[(f.length,1)],st.set k (dk l j)⟩) n ?_ ?_
 · simp -dsimp only [go_sem]
   refine⟨[],i,by simp,by simp,(fun m hm=>by cases hm),by omega,by omega,?_⟩
   rw [h.same];rfl
 · rintro m s ⟨f,j,rfl,hf,hp,hj1,hj2,rfl⟩
   simp -dsimp only [go_sem]
   refine ck (fun h1=> ?_) (fun h1=> ?_)
   · have hlt:f.length<n:=by have:=of_decide_eq_true h1;omega
     have x2:=k0n f.length (by omega)
     simp -dsimp only [go_sem]
     refine(z3k l j k n M D _ (h.set j) (by omega) hn hn4 hM hD).mono ?_
     rintro r st' ⟨p,j',hpo,hj3,hj4,rfl,rfl⟩
     simp -dsimp only [go_sem,z0y,x2]
     refine⟨⟨by omega,by omega⟩,n-(f.length+1),by omega,f++ [p],j',by simp,by simp;omega,fun y hy=> ?_,by omega,by simp;omega,by simp⟩
     rcases List.mem_append.1 hy with hy | hy
     · exact hp y hy
     · rw [List.mem_singleton.1 hy];exact hpo
   · have hge:f.length=n:=by have:=of_decide_eq_false h1;omega
     simp -dsimp only [go_sem]
     refine J0m [false,false,false,false,false,false,false,false,false,true] (Q0a ?_)
     simp -dsimp only [go_sem]
     exact⟨f,j,⟨hge,hp⟩,by omega,by omega,rfl,rfl⟩
end Go.Pv
end
section
/-Layer 11:FieldDrawn,FieldHolds. -/
set_option maxRecDepth 100000
namespace Go.Pv
open Go.Proofs
theorem U3o {x y:Nm} {L U:Nat} (h:Q0i (betw x y)=true) (hx:luQ L U (qN x)) (hy:luQ L U (qN y)):luI L U (betw x y):=by
 refine⟨h,?_⟩
 unfold betw
 split
 · exact⟨hy,hx⟩
 · exact⟨hx,hy⟩
theorem y1p (l:List UInt64) (i k:Nat) (a:Ivl) (st:Q0g) (h:atD st k l i) (hi:i≤100000000) (hs:smI a):PCalls Tryz.prog 95 [.gp k 0,.agg (encI a)] st
 (fun r st'=> ∃x,luI 62 105 x∧inI x a=true∧r= .agg (encI x)∧st'=st.set k (dk l (i+2))):=by
 have ha:=hs.1
 have n1:=W1x l i (n:=9) (by omega)
 have n2:=W1x l (i+1) (n:=9) (by omega)
 have r1:=V1d (nx l i 9) ha
 have r2:=V1d (nx l (i+1) 9) ha
 have m1:=y1c (k:=nx l i 9) ha (by omega)
 have m2:=y1c (k:=nx l (i+1) 9) ha (by omega)
 have hp:=w1k ha r1 r2 m1 m2
 refine Q0b none Tryz.func95 rfl fun E=>Q0a ?_
 simp -dsimp only [go_sem]
 refine Q0l Z0k 12 (.step 0 [] (.step 1 [] (.step 3 [] (.step 4 [] (.step 2 [4] (.step 5 [] (.step 6 [] (.step 7 [] (.done))))))))) (by decide+kernel) (by simp) ?_
 simp -dsimp only [go_sem]
 refine(X2y l i k a st h (by omega) ha).mono ?_
 rintro r st' ⟨rfl,rfl⟩
 simp -dsimp only [go_sem]
 refine(X2y l (i+1) k a _ (h.set (i+1)) (by omega) ha).mono ?_
 rintro r st' ⟨rfl,rfl⟩
 simp -dsimp only [go_sem,z0y]
 refine(k1s _ _ _ (Y2t (J0b r1)) (Y2t (J0b r2))).mono ?_
 rintro r st' ⟨rfl,rfl⟩
 simp -dsimp only [go_sem]
 have l1:=z3f hs (n:=nx l i 9) (by omega)
 have l2:=z3f hs (n:=nx l (i+1) 9) (by omega)
 exact⟨_,U3o hp.1 l1.2.2 l2.2.2,hp.2,rfl⟩
theorem V2h (l:List UInt64) (i k:Nat) (b:List Ivl) (st:Q0g) (h:atD st k l i) (hi:i≤10000000) (hl:b.length≤1000000) (hb: ∀j,j<b.length→smI (b.getD j default)):PCalls Tryz.prog 42 [.gp k 0,.sl .no (Q0n b)] st
 (fun r st'=> ∃q,q.length=b.length∧(∀j,j<b.length→luI 62 105 (q.getD j default)∧inI (q.getD j default) (b.getD j default)=true)∧r= .sl .no (Q0n q)∧st'=st.set k (dk l (i+2*b.length))):=by
 refine Q0b none Tryz.func42 rfl fun E=>Q0a ?_
 simp -dsimp only [go_sem]
 refine X0k 5 6 ?_
 simp -dsimp only [go_sem]
 refine Q0e [true,true,false,false,false,true,true] 0 1 (fun m s=> ∃q,m=b.length-q.length∧q.length≤b.length∧(∀j,j<q.length→luI 62 105 (q.getD j default)∧inI (q.getD j default) (b.getD j default)=true)∧
  s=⟨[.gp k 0,.sl .no (Q0n b),.junk,.junk,.junk,.sl (.own 0) (Q0n q),.sc (.int .i64 (q.length:Nat))]++List.replicate 16 .junk,[],[(q.length,6)],st.set k (dk l (i+2*q.length))⟩) b.length ?_ ?_
 · simp -dsimp only [go_sem]
   refine⟨[],by simp,by simp,(fun j hj=>by simp at hj),?_⟩
   show _=PFS.mk _ _ _ (st.set k (dk l i))
   rw [h.same];rfl
 · rintro m s ⟨q,rfl,hq,hr,rfl⟩
   simp -dsimp only [go_sem]
   refine ck (fun h1=> ?_) (fun h1=> ?_)
   · have hlt:q.length<b.length:=by have:=of_decide_eq_true h1;omega
     have e1:=Z0m b q.length hlt
     have x1:IntKind.i64.wrap ((q.length:Int)+1)=((q.length+1:Nat):Int):=by
      rw [show((q.length:Int)+1)=((q.length+1:Nat):Int) from rfl,Q0k _ (by omega)]
     simp -dsimp only [go_sem,e1]
     refine⟨⟨by omega,hlt⟩,?_⟩
     refine(y1p l (i+2*q.length) k _ _ (h.set (i+2*q.length)) (by omega) (hb _ hlt)).mono ?_
     rintro r st' ⟨x,hx1,hx2,rfl,rfl⟩
     simp -dsimp only [go_sem,z0y,x1]
     refine⟨by omega,b.length-(q.length+1),by omega,q++ [x],by simp,by simp;omega,fun j hj=> ?_,by simp [Q0n,encI,Nat.mul_add,Nat.add_assoc]⟩
     by_cases hj2:j<q.length
     · rw [K3l _ _ _ _ hj2];exact hr j hj2
     · have e:j=q.length:=by simp at hj;omega
       rw [e,Y2s];exact⟨hx1,hx2⟩
   · have hge:q.length=b.length:=by have:=of_decide_eq_false h1;omega
     simp -dsimp only [go_sem]
     refine J0m [false,false,false,false,false,true] (Q0a ?_)
     simp -dsimp only [go_sem]
     exact⟨q,hge,fun j hj=>hr j (by omega),rfl,by rw [hge]⟩
theorem okPoly.at {n M:Nat} {D:Int} {p:List Mn} (h:okPoly n M D p) {j:Nat} (hj:j<p.length):okMn n 12 (18+M) D (p.getD j default):=x0m h.2.2 hj
theorem okField.at {n M:Nat} {D:Int} {f:List (List Mn)} (h:okField n M D f) {i:Nat} (hi:i<f.length):okPoly n M D (f.getD i []):=by
 rw [show f.getD i []=f[i] by simp [List.getD_eq_getElem?_getD,hi]]
 exact h.2 _ (List.getElem_mem hi)
theorem okField.wF {n M:Nat} {D:Int} {f:List (List Mn)} (h:okField n M D f) (hn4:n≤4) (hM:M≤20):wF f:=⟨by have:=h.1;omega,fun i hi=>⟨by have:=(h.at hi).2.1;omega,fun j hj=>by
 obtain⟨a1,a2,a3,a4,a5,a6⟩:=(h.at hi).at hj
 exact⟨J0k a4,by rw [a1];omega,fun k hk=>by
  have:=V0j a2 k hk
  omega⟩⟩⟩
theorem Z3k {b:List Ivl} {n:Nat} (hl:b.length=n) (hn4:n≤4) (h: ∀m,m<b.length→smI (b.getD m default)):wB b:=⟨by omega,fun i hi=>U0g (h i hi).1⟩
theorem z1u {n M:Nat} {D:Int} {q:List Mn} {b:List Ivl} {p:Int} {L U:Nat} (hq:okPoly n M D q) (hM:M≤24) (hl:b.length=n) (hn1:1≤n) (hn4:n≤4) (hb: ∀j,j<b.length→luI L U (b.getD j default)) (hp:Z0b p=true) (hbd:154+8*L+8*U≤4096):
 w0k q b p=J0c q b p q.length∧(J0c q b p q.length).2=0∧luI (12+L*8) (26+M+U*8+2*q.length) (J0c q b p q.length).1:=by
 have hlu:=z1v (q:=q) (b:=b) (p:=p) (Lc:=12) (Uc:=18+M) (L:=L) (U:=U) hp (fun j hj=>by
  obtain⟨a1,a2,a3,a4,a5,a6⟩:=hq.at hj
  exact⟨a4,a6,a2,by omega⟩) (by omega) hb (by have:=hq.2.1;omega) (by omega) q.length (Nat.le_refl _)
 refine⟨?_,hlu.1,hlu.2.mono (by omega) (by omega)⟩
 unfold w0k
 have hr:=hq.1
 rw [←hl] at hr
 rw [if_pos ⟨hr,List.all_eq_true.2 fun x hx=>by
  obtain⟨j,hj,e⟩:=List.mem_iff_getElem.1 hx
  have:=(hb j hj).1
  rw [show b.getD j default=b[j] by simp [List.getD_eq_getElem?_getD,hj],e] at this
  exact this,hp⟩]
theorem G1x {n M:Nat} {D:Int} {f:List (List Mn)} {b:List Ivl} {p:Int} {L U:Nat} (hf:okField n M D f) (hM:M≤24) (hl:b.length=n) (hn1:1≤n) (hn4:n≤4) (hb: ∀j,j<b.length→luI L U (b.getD j default)) (hp:Z0b p=true) (hbd:154+8*L+8*U≤4096):
 (J0q f b p).2=0∧(J0q f b p).1.length=n∧ ∀i,i<n→(J0q f b p).1.getD i default=(J0c (f.getD i []) b p (f.getD i []).length).1∧(J0c (f.getD i []) b p (f.getD i []).length).2=0∧luI (12+L*8) (26+M+U*8+2*M) (J0c (f.getD i []) b p (f.getD i []).length).1:=by
 have hfl:=hf.1
 have key: ∀i,i<n→_:=fun i hi=>z1u (hf.at (i:=i) (by omega)) hM hl hn1 hn4 hb hp hbd
 have h0:(tabF (fun i=>w0k (f.getD i []) b p) 0 f.length []).2=0:=H0f _ _ _ fun j _ hj=>by
  show(w0k (f.getD j []) b p).2=0
  rw [(key j (by omega)).1];exact(key j (by omega)).2.1
 obtain⟨g1,g2,g3⟩:=K0r h0
 unfold J0q
 rw [if_pos ⟨hf.right hn1 hn4,by omega⟩]
 refine⟨h0,by omega,fun i hi=> ?_⟩
 obtain⟨k1,k2,k3⟩:=key i hi
 refine⟨?_,k2,k3.mono (by omega) (by have:=(hf.at (i:=i) (by omega)).2.1;omega)⟩
 rw [g3 i (by omega)]
 show(w0k (f.getD i []) b p).1=_
 rw [k1]
end Go.Pv
end
section
/-Layer 11:FieldChains. -/
set_option maxRecDepth 100000
namespace Go.Pv
open Go.Proofs
theorem Z3j {k:Nat} {x y:Nm} {L U:Nat} (hk:k<2) (hx:Q0j x=true) (hy:Q0j y=true) (h1:luQ L U (qN x)) (h2:luQ L U (qN y)) (hb:L+U+2≤4096):(strN k x y).2=0∧Q0j (strN k x y).1=true∧qN (strN k x y).1=exQ k (qN x) (qN y)∧luQ L (U+1) (qN (strN k x y).1):=by
 have hc:canV (exV k (ofN x) (ofN y)):=Z1g k (J0g hx) (J0g hy)
 have hq:qV (exV k (ofN x) (ofN y))=exQ k (qN x) (qN y):=by rw [k2q];rfl
 have hl:luQ L (U+1) (qV (exV k (ofN x) (ofN y))):=by
  rw [hq]
  unfold exQ
  split
  · exact k0v h1 h2
  · rw [if_pos (by omega)];exact K1w h1 h2
 have hf:=U0o hc hl (by omega)
 have hv:=(K0c hc hf).2
 unfold strN
 rw [if_pos ⟨hx,hy⟩]
 exact⟨hf,J0p (x0w hc),by rw [hv,hq],by rw [hv];exact hl⟩
theorem w2g {L U:Nat} {x y:Rat} (h:luQ L U x) (e:y*2=x):luQ (L+1) U y:=by
 obtain⟨z,h1,h2⟩:=h
 refine⟨z,?_,Nat.le_trans h2 (Nat.pow_le_pow_right (by decide) (by omega))⟩
 have:=U2z z (-(L:Int))
 rw [show -(L:Int)-1= -((L+1:Nat):Int) from by omega,←h1] at this
 exact K3b (by rw [e,this])
theorem K2o {x:Nm} {L U:Nat} (hx:Q0j x=true) (h:luQ L U (qN x)) (hb:L+U+2≤4096):(X0f x (-1)).2=0∧Q0j (X0f x (-1)).1=true∧qN (X0f x (-1)).1*2=qN x∧luQ (L+1) U (qN (X0f x (-1)).1):=by
 unfold X0f
 rw [if_pos hx]
 split
 · rename_i hw
   have h0:qN x=0:=U2y (by rw [hw];rfl)
   refine⟨rfl,hx,?_,?_⟩
   · show qN x*2=qN x
     rw [h0,Rat.zero_mul]
   · show luQ (L+1) U (qN x)
     rw [h0];exact z0h _ _
 · rename_i hw
   rw [if_neg (by omega)]
   have hc:canV (⟨x.neg,valW x.w,x.exp+ -1⟩:Vl):=by
    rcases J0g hx with h1 | h1
    · exact .inl h1
    · have:valW x.w=0:=congrArg Vl.m h1
      exfalso
      have h2:=v2o hx
      rw [h1] at h2
      have h3:=congrArg Prod.fst h2
      have:x=default:=h3.symm
      rw [this] at hw
      exact hw rfl
   have hq:qV (⟨x.neg,valW x.w,x.exp+ -1⟩:Vl)*2=qN x:=K3v x
   have hl:=w2g h hq
   have hf:=U0o hc hl (by omega)
   have hv:=(K0c hc hf).2
   exact⟨hf,J0p (x0w hc),by rw [hv];exact hq,by rw [hv];exact hl⟩
structure Pts (a b m w:List Nm) (i:Nat):Prop where
 la:a.length=i
 lb:b.length=i
 lm:m.length=i
 lw:w.length=i
 pa: ∀k,k<i→Q0j (a.getD k default)=true∧luQ 12 18 (qN (a.getD k default))
 pb: ∀k,k<i→Q0j (b.getD k default)=true∧luQ 12 18 (qN (b.getD k default))
 pm: ∀k,k<i→Q0j (m.getD k default)=true∧luQ 13 19 (qN (m.getD k default))∧qN (m.getD k default)*2=qN (a.getD k default)+qN (b.getD k default)
 pw: ∀k,k<i→Q0j (w.getD k default)=true∧luQ 12 19 (qN (w.getD k default))∧qN (w.getD k default)=qN (b.getD k default)-qN (a.getD k default)
theorem Pts.snoc {a b m w:List Nm} {i:Nat} (h:Pts a b m w i) {x y:Nm} (hx:smN x) (hy:smN y):Pts (a++ [x]) (b++ [y]) (m++ [(X0f (strN 0 x y).1 (-1)).1]) (w++ [(strN 1 y x).1]) (i+1)∧(strN 0 x y).2=0∧(X0f (strN 0 x y).1 (-1)).2=0∧(strN 1 y x).2=0:=by
 obtain⟨s1,s2,s3,s4⟩:=Z3j (k:=0) (by omega) hx.1 hy.1 (k0g hx.2) (k0g hy.2) (by omega)
 obtain⟨d1,d2,d3,d4⟩:=Z3j (k:=1) (by omega) hy.1 hx.1 (k0g hy.2) (k0g hx.2) (by omega)
 obtain⟨c1,c2,c3,c4⟩:=K2o s2 s4 (by omega)
 rw [exQ0] at s3
 rw [exQ1] at d3
 have g: ∀ {l:List Nm} {z:Nm} {k:Nat},l.length=i→k<i+1→(k<i∧(l++ [z]).getD k default=l.getD k default)∨(k=i∧(l++ [z]).getD k default=z):=fun {l z k} hl hk=>by
  by_cases hk2:k<i
  · exact .inl ⟨hk2,K3l _ _ _ _ (by omega)⟩
  · have e:k=l.length:=by omega
    exact .inr ⟨by omega,by rw [e,Y2s]⟩
 refine⟨⟨by simp [h.la],by simp [h.lb],by simp [h.lm],by simp [h.lw],fun k hk=> ?_,fun k hk=> ?_,fun k hk=> ?_,fun k hk=> ?_⟩,s1,c1,d1⟩
 · rcases g (z:=x) h.la hk with ⟨e1,e2⟩ | ⟨e1,e2⟩
   · rw [e2];exact h.pa k e1
   · rw [e2];exact⟨hx.1,k0g hx.2⟩
 · rcases g (z:=y) h.lb hk with ⟨e1,e2⟩ | ⟨e1,e2⟩
   · rw [e2];exact h.pb k e1
   · rw [e2];exact⟨hy.1,k0g hy.2⟩
 · rcases g (z:=(X0f (strN 0 x y).1 (-1)).1) h.lm hk with ⟨e1,e2⟩ | ⟨e1,e2⟩
   · rcases g (z:=x) h.la hk with ⟨f1,f2⟩ | ⟨f1,f2⟩
     · rcases g (z:=y) h.lb hk with ⟨g1,g2⟩ | ⟨g1,g2⟩
       · rw [e2,f2,g2];exact h.pm k e1
       · omega
     · omega
   · rcases g (z:=x) h.la hk with ⟨f1,f2⟩ | ⟨f1,f2⟩
     · omega
     · rcases g (z:=y) h.lb hk with ⟨g1,g2⟩ | ⟨g1,g2⟩
       · omega
       · rw [e2,f2,g2];exact⟨c2,c4,by rw [c3,s3]⟩
 · rcases g (z:=(strN 1 y x).1) h.lw hk with ⟨e1,e2⟩ | ⟨e1,e2⟩
   · rcases g (z:=x) h.la hk with ⟨f1,f2⟩ | ⟨f1,f2⟩
     · rcases g (z:=y) h.lb hk with ⟨g1,g2⟩ | ⟨g1,g2⟩
       · rw [e2,f2,g2];exact h.pw k e1
       · omega
     · omega
   · rcases g (z:=x) h.la hk with ⟨f1,f2⟩ | ⟨f1,f2⟩
     · omega
     · rcases g (z:=y) h.lb hk with ⟨g1,g2⟩ | ⟨g1,g2⟩
       · omega
       · rw [e2,f2,g2];exact⟨d2,d4,d3⟩
end Go.Pv
end
