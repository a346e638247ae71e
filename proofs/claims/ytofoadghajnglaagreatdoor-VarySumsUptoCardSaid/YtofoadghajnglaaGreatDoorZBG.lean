/- Parts of the walk: N53, N54, N55, N56, N57, M46, N58, N59. -/
import Derived.Test.YtofoadghajnglaaGreatDoorZBE
import Derived.Test.YtofoadghajnglaaGreatDoorZBD
import Derived.Test.YtofoadghajnglaaGreatDoorZAQ
set_option linter.unusedVariables false
set_option linter.unusedSimpArgs false
section
/-poly.Diff. -/
set_option maxRecDepth 100000
namespace Go.Pv
open Go.Proofs
theorem x2p (l:List Int) (st:Q0e) (hl:l.length≤100000000000):PCalls Tryz.prog 237 [.sl .no (encZ l)] st (fun r st'=>r= .sl (.fresh 1) (encZ l)∧st'=st):=by
 refine Q0b (some 1) Tryz.func237 rfl fun E=>Q0a ?_
 simp -dsimp only [go_sem]
 intro b hb
 cases b
 · simp -dsimp only [go_sem]
   omega
 · have:l= []:=by have:=hb rfl;simpa [encZ] using this
   subst this
   simp -dsimp only [go_sem]
theorem x2o (l:List Int) (st:Q0e) (hl:l.length≤100000000000) (h0:0<l.length):PCalls Tryz.prog 237 [.sl .no (encZ l)] st (fun r st'=> ∃off,r= .ms true st.length off l.length∧st'=st++ [List.replicate off PV.junk++encZ l]):=by
 have:=PCalls.owned (P:=Tryz.prog) (f:=237) (args:= [.sl .no (encZ l)]) (es:=encZ l) (by rw [J0u];exact h0) (fun j hj=>⟨_,W0h l j (by rw [J0u] at hj;exact hj)⟩) (fun p hp=>by
  simp at hp;subst hp;exact H2t l _) (x2p l [] hl) st
 rw [J0u] at this
 exact this
set_option maxHeartbeats 2000000 in
theorem Y1x (p:List Mn) (i n:Int) (st:Q0e) (hp:wP p):PCalls Tryz.prog 174 [.sl .no (X0l p),.sc (.int .i64 i),.sc (.int .i64 n)] st (fun r st'=>r= .tup [.sl .no (X0l (w0f p i n).1),.sc (.int .i64 (w0f p i n).2)]∧ ∃e,st'=st++List.replicate e []):=by
 refine Q0b none Tryz.func174 rfl fun E=>Q0a ?_
 have bad: ¬(J0d p n=true∧0≤i∧i<n)→w0f p i n=([],1):=fun h=>if_neg h
 simp -dsimp only [go_sem]
 refine(x0l p n _ hp).mono ?_
 rintro r st ⟨rfl,rfl⟩
 cases r1:J0d p n with
 | false=>
  have hv:=bad (by rintro⟨h,_⟩;rw [r1] at h;cases h)
  simp -dsimp only [go_sem]
  rw [hv];exact⟨rfl,0,by simp⟩
 | true=>
  simp -dsimp only [go_sem]
  refine gkF (fun g1=> ?_) (fun g1=> ?_)
  · have g1':=of_decide_eq_false g1
    simp -dsimp only [go_sem,g1]
    refine ck (fun g2=> ?_) (fun g2=> ?_)
    · have hv:=bad (by rintro⟨_,_,h⟩;have:=of_decide_eq_true g2;omega)
      simp -dsimp only [go_sem]
      rw [hv];exact⟨rfl,0,by simp⟩
    · have g2':=of_decide_eq_false g2
      obtain⟨k,rfl⟩: ∃k:Nat,i=k:=⟨i.toNat,by omega⟩
      have hv:w0f p k n=G0m k p []:=by rw [w0f,if_pos ⟨r1,by omega,by omega⟩,Int.toNat_natCast]
      rw [hv]
      clear hv bad
      have h4:=((J0k _ _).1 r1).1
      simp -dsimp only [go_sem]
      refine Z0l 8 4 ?_
      simp -dsimp only [go_sem]
      refine Q0x [false,true,false,false,false,false,false,false,true,false,false,false,false,false,false,false,false,false,false,false,false,false,false,false,false,false,false,true,true,true] 0 1
       (fun c s=> ∃(j:Nat) (o:List Mn) (e:Nat),c=p.length-j∧j≤p.length∧o.length≤j∧G0m k p []=G0m k (p.drop j) o∧
        s=⟨[.junk,.sc (.int .i64 k),.junk,.junk,.junk,.junk,.junk,.junk,.sl (.own 0) (X0l o),.junk,.junk,.junk,.junk,.junk,.junk,.junk,.junk,.junk,.junk,.junk,.junk,.junk,.junk,.junk,.junk,.junk,.junk,.sl .no (X0l p),.sc (.int .i64 p.length),.sc (.int .i64 (j:Nat))]++List.replicate 42 .junk,[],[(o.length,4)],st++List.replicate e []⟩) p.length ?_ ?_
      · simp -dsimp only [go_sem]
        exact⟨0,[],0,by omega,by omega,by simp,by rw [List.drop_zero],by simp [V2l]⟩
      · rintro c s ⟨j,o,e,rfl,hj,ho,hr,rfl⟩
        generalize hS:st++List.replicate e []=S
        refine Q0h (Q0a ?_)
        simp -dsimp only [go_sem]
        refine Q0h (Q0a ?_)
        simp -dsimp only [go_sem]
        refine ck (fun h'=> ?_) (fun h'=> ?_)
        · have hlt:j<p.length:=by have:=of_decide_eq_true h';omega
          have e1:=G0l p j hlt
          have e3:=V0a j (by omega)
          obtain⟨k1,k2,k3⟩:=Y0n r1 hlt
          rw [y1p hlt] at hr
          generalize hm:p.getD j default=m at*
          have hkl:k<m.ks.length:=by omega
          have f1:=W0h m.ks k hkl
          have hk:=j0r k2 k hkl
          simp -dsimp only [go_sem]
          refine Q0h (X0a (Q0h (Q0a ?_)))
          simp -dsimp only [go_sem,e1]
          refine⟨by omega,?_⟩
          refine Q0h (Q0a ?_)
          simp -dsimp only [go_sem,f1]
          refine⟨by omega,?_⟩
          refine ck (fun h2=> ?_) (fun h2=> ?_)
          · have h2':=x1d h2
            rw [if_pos h2'] at hr
            simp -dsimp only [go_sem]
            refine Q0a ?_
            simp -dsimp only [go_sem,e3]
            exact⟨p.length-(j+1),by omega,j+1,o,e,rfl,by omega,by omega,hr,by rw [←hS]⟩
          · have h2':=j2m h2
            rw [if_neg h2'] at hr
            obtain⟨x,hx⟩: ∃x:Nat,m.ks.getD k 0=x:=⟨(m.ks.getD k 0).toNat,by omega⟩
            rw [hx] at f1
            rw [hx,Int.toNat_natCast] at hr
            have wi:wN (intN x):=H1q (J0l (J0s (q0m (y0r ⟨false,0,[UInt64.ofNat x]⟩))))
            have wc:wN m.c:=H1q (J0l k3)
            simp -dsimp only [go_sem]
            refine H0u [false,true,false,false,false,false,false,false,true,false,true,true,true,false,false,false,false,false,false,false,false,false,false,false,false,false,false,true,true,true] 2 1
             (fun s=>s=⟨[.junk,.sc (.int .i64 k),.junk,.junk,.junk,.junk,.junk,.junk,.sl (.own 0) (X0l o),.junk,.lp 0 0,.lp 1 0,.sc (.int .i64 (strN 2 m.c (intN x)).2),.junk,.junk,.junk,.junk,.junk,.junk,.junk,.junk,.junk,.junk,.junk,.junk,.junk,.junk,.sl .no (X0l p),.sc (.int .i64 p.length),.sc (.int .i64 (j:Nat))]++List.replicate 42 .junk,[q0g m,encN (strN 2 m.c (intN x)).1],[(o.length,4)],S⟩) ?_ ?_
            · simp -dsimp only [go_sem]
              refine Q0p Z0g 72 (.step 0 [] (.step 1 [] (.step 2 [] (.step 3 [] (.step 4 [] (.step 5 [] (.step 6 [] (.alt (.step 7 [1] (.alt (.step 8 [3] (.step 9 [] (.step 10 [] (.step 11 [] (.step 12 [1,3,6] (.step 13 [] (.step 14 [] (.done)))))))) (.step 12 [1,3,6] (.step 8 [3] (.step 9 [] (.step 10 [] (.step 11 [] (.step 13 [] (.step 14 [] (.done)))))))))) (.step 12 [1,3,6] (.step 7 [1] (.step 8 [3] (.step 9 [] (.step 10 [] (.step 11 [] (.step 13 [] (.step 14 [] (.done))))))))))))))))) (by decide+kernel) (by simp) ?_
              simp -dsimp only [go_sem,f1]
              refine⟨by omega,And.intro ?_ ?_⟩
              · refine(j0y x _ (by omega)).mono ?_
                rintro r st' ⟨rfl,rfl⟩
                simp -dsimp only [go_sem]
                refine And.intro ?_ ?_
                all_goals
                 refine(j1f m.c (intN x) _ wc wi).mono ?_
                 rintro r st' ⟨rfl,rfl⟩
                 simp -dsimp only [go_sem]
              · refine(j0y x _ (by omega)).mono ?_
                rintro r st' ⟨rfl,rfl⟩
                simp -dsimp only [go_sem]
                refine(j1f m.c (intN x) _ wc wi).mono ?_
                rintro r st' ⟨rfl,rfl⟩
                simp -dsimp only [go_sem]
            · rintro s rfl
              refine Q0h (Q0a ?_)
              simp -dsimp only [go_sem]
              refine ck (fun h3=> ?_) (fun h3=> ?_)
              · have hne:=H0b h3
                rw [if_pos hne] at hr
                rw [hr]
                simp -dsimp only [go_sem]
                exact⟨e,hS.symm⟩
              · have he:=H0i h3
                rw [if_neg (fun hh=>hh he)] at hr
                simp -dsimp only [go_sem]
                generalize (strN 2 m.c (intN x)).1=y at*
                have hml:m.ks.length≤100000000000:=by omega
                refine H0u [false,true,false,false,false,false,false,false,true,false,false,false,false,true,false,false,false,false,false,false,false,false,false,false,false,false,false,true,true,true] 3 1
                 (fun s=> ∃off,s=⟨[.junk,.sc (.int .i64 k),.junk,.junk,.junk,.junk,.junk,.junk,.sl (.own 0) (X0l o),.junk,.junk,.junk,.junk,.lp 2 0,.junk,.junk,.junk,.junk,.junk,.junk,.junk,.junk,.junk,.junk,.junk,.junk,.junk,.sl .no (X0l p),.sc (.int .i64 p.length),.sc (.int .i64 (j:Nat))]++List.replicate 42 .junk,[q0g m,encN y,[.sc (.bool y.neg),.sc (.int .i64 y.exp),.sl .no (encW y.w),.ms true S.length off m.ks.length]],[(o.length,4)],S++ [List.replicate off PV.junk++encZ m.ks]⟩) ?_ ?_
                · simp -dsimp only [go_sem]
                  refine Q0p Z0g 72 (.step 0 [] (.step 1 [] (.step 2 [] (.alt (.step 3 [0] (.step 4 [] (.step 5 [0,2] (.step 6 [] (.done))))) (.step 5 [0,2] (.step 3 [0] (.step 4 [] (.step 6 [] (.done))))))))) (by decide+kernel) (by simp) ?_
                  simp -dsimp only [go_sem]
                  refine And.intro ?_ ?_
                  all_goals
                   refine(x2o m.ks _ hml (by omega)).mono ?_
                   rintro r st' ⟨off,rfl,rfl⟩
                   simp -dsimp only [go_sem]
                   exact⟨off,rfl⟩
                · rintro s ⟨off,rfl⟩
                  have gst:(S++ [List.replicate off PV.junk++encZ m.ks]).getD S.length []=List.replicate off PV.junk++encZ m.ks:=by simp [List.getD_eq_getElem?_getD]
                  have g2:=y2m off m.ks k hkl
                  rw [hx] at g2
                  have x6:IntKind.i64.wrap ((x:Int)-1)=(x:Int)-1:=Q0k _ (by omega) (by omega)
                  have o1:=y2l off m.ks k ((x:Int)-1) hkl
                  have sst:(S++ [List.replicate off PV.junk++encZ m.ks]).set S.length (List.replicate off PV.junk++encZ (m.ks.set k ((x:Int)-1)))=S++ [List.replicate off PV.junk++encZ (decK m.ks k)]:=by
                   rw [List.set_append_right _ _ (Nat.le_refl _),decK,hx];simp
                  have r0:(List.replicate off PV.junk).length=off:=List.length_replicate
                  refine Q0h (Q0a ?_)
                  simp -dsimp only [go_sem,gst,g2,x6,o1,sst]
                  rw [r0]
                  refine⟨by omega,by omega,by omega,by omega,?_⟩
                  have hdl:(decK m.ks k).length=m.ks.length:=by unfold decK;rw [List.length_set]
                  have gst2:(S++ [List.replicate off PV.junk++encZ (decK m.ks k)]).getD S.length []=List.replicate off PV.junk++encZ (decK m.ks k):=by simp [List.getD_eq_getElem?_getD]
                  have sst2:(S++ [List.replicate off PV.junk++encZ (decK m.ks k)]).set S.length []=S++ [[]]:=by
                   rw [List.set_append_right _ _ (Nat.le_refl _)];simp
                  have hcut:=y2n off (decK m.ks k)
                  rw [hdl] at hcut
                  have hms:PV.frzG S.length (List.replicate off PV.junk++encZ (decK m.ks k)) (.ms true S.length off m.ks.length)= .sl .no (encZ (decK m.ks k)):=by
                   rw [Q3n (by rw [List.length_append,J0u,hdl,r0];exact Nat.le_refl _),hcut]
                  refine q1a S.length (by simp) ?_ ?_ ?_
                  · intro q hq
                    have hq':q∈List.replicate off PV.junk++encZ (decK m.ks k):=by rw [←gst2];exact hq
                    rcases List.mem_append.1 hq' with hq' | hq'
                    · rw [List.eq_of_mem_replicate hq'];rfl
                    · simp [encZ] at hq'
                      obtain⟨c,_,rfl⟩:=hq';rfl
                  · intro e0
                    have h2:(List.replicate off PV.junk++encZ (decK m.ks k)).length=0:=by
                     have e':(S++ [List.replicate off PV.junk++encZ (decK m.ks k)]).getD S.length []= []:=e0
                     rw [gst2] at e';rw [e'];rfl
                    rw [List.length_append,J0u,hdl] at h2;omega
                  · simp -dsimp only [go_sem,gst2,sst2,hms]
                    refine Q0a ?_
                    simp -dsimp only [go_sem]
                    refine⟨⟨by omega,by omega⟩,Q0a ?_⟩
                    simp -dsimp only [go_sem,e3]
                    refine⟨p.length-(j+1),by omega,j+1,o++ [⟨y,decK m.ks k⟩],e+1,rfl,by omega,by simp;omega,hr,?_⟩
                    have hS2:S++ [[]]=st++List.replicate (e+1) []:=by rw [←hS,List.append_assoc,←List.replicate_succ']
                    rw [hS2]
                    simp [X0l,q0g]
        · have hge:j=p.length:=by have:=of_decide_eq_false h';omega
          subst hge
          rw [V2z] at hr
          rw [hr]
          simp -dsimp only [go_sem]
          refine Y0o [false,false,false,false,false,false,false,false,true] (Q0a ?_)
          simp -dsimp only [go_sem]
          exact⟨e,hS.symm⟩
  · have hv:=bad (by rintro⟨_,h,_⟩;have:=of_decide_eq_true g1;omega)
    simp -dsimp only [go_sem,g1]
    rw [hv];exact⟨rfl,0,by simp⟩
theorem w1n (n:Nat) (m:Mn): ∀j,j<(q0g m).length→Bnd n ((q0g m).getD j .junk):=fun j hj=>by
 have hj':j<4:=hj
 have hw:Bnd n (.sl .no (encW m.c.w)):= .sl _ _ 1 (fun i hi=>by rw [X0c] at hi;rw [Q0z _ i hi];rfl) fun i j hi hj=>by
  rw [X0c] at hi
  rw [Q0z _ i hi]
  have:j=0:=by omega
  subst this;exact .sc _
 have hz:Bnd n (.sl .no (encZ m.ks)):= .sl _ _ 1 (fun i hi=>by rw [J0u] at hi;rw [W0h _ i hi];rfl) fun i j hi hj=>by
  rw [J0u] at hi
  rw [W0h _ i hi]
  have:j=0:=by omega
  subst this;exact .sc _
 match j,hj' with
 | 0,_=>exact .sc _
 | 1,_=>exact .sc _
 | 2,_=>exact hw
 | 3,_=>exact hz
theorem W2v (n:Nat) (p:List Mn) (t:Tag):Bnd n (.sl t (X0l p)):= .sl _ _ 4 (z1e p) fun i j hi hj=>by
 rw [w0s] at hi
 rw [G0l p i hi]
 exact w1n n _ j hj
theorem x2x {n:Nat} {a b:PV} (ha:Bnd n a) (hb:Bnd n b):Bnd n (.tup [a,b]):= .tup _ fun j hj=>by
 have hj':j<2:=hj
 match j,hj' with
 | 0,_=>exact ha
 | 1,_=>exact hb
theorem w1g (p:List Mn) (i n:Int) (st:Q0e) (hp:wP p):PCalls Tryz.prog 174 [.sl .no (X0l p),.sc (.int .i64 i),.sc (.int .i64 n)] st (fun r st'=>r= .tup [.sl .no (X0l (w0f p i n).1),.sc (.int .i64 (w0f p i n).2)]∧st'=st):=by
 refine PCalls.drop ((Y1x p i n st hp).mono ?_)
 rintro r st' ⟨rfl,e,rfl⟩
 exact⟨x2x (W2v _ _ _) (.sc _),_,rfl,rfl,rfl⟩
end Go.Pv
end
section
/-field.Jac. -/
set_option maxRecDepth 100000
namespace Go.Pv
open Go.Proofs
def jacG (f:List (List Mn)) (i j:Nat):List Mn×Int:=w0f (f.getD i []) (j:Nat) f.length
def jacF (f:List (List Mn)):List (List (List Mn))×Int:=if V0n f=true then tabF (fun i=>tabF (fun j=>jacG f i j) 0 f.length []) 0 f.length [] else([],1)
set_option maxHeartbeats 2000000 in
theorem y1h (f:List (List Mn)) (st:Q0e) (hf:wF f):PCalls Tryz.prog 109 [.sl .no (X0d f)] st (fun r st'=>r= .tup [.sl .no (K0r (jacF f).1),.sc (.int .i64 (jacF f).2)]∧st'=st):=by
 have hfl:=hf.1
 refine Q0b none Tryz.func109 rfl fun E=>Q0a ?_
 simp -dsimp only [go_sem]
 refine(w0r f _ hf).mono ?_
 rintro r st ⟨rfl,rfl⟩
 cases r1:V0n f with
 | false=>
  have hv:jacF f=([],1):=by rw [jacF,if_neg (by rw [r1];decide)]
  simp -dsimp only [go_sem]
  rw [hv];rfl
 | true=>
  have h4:=((Y0e f).1 r1).1
  have hv:jacF f=tabF (fun i=>tabF (fun j=>jacG f i j) 0 f.length []) 0 f.length []:=by rw [jacF,if_pos r1]
  rw [hv]
  clear hv
  generalize hT:tabF (fun i=>tabF (fun j=>jacG f i j) 0 f.length []) 0 f.length []=T
  simp -dsimp only [go_sem]
  refine Z0l 5 1 ?_
  simp -dsimp only [go_sem]
  refine Q0f [true,false,false,false,true,true,false,false,false,false,false,false,false,false,false,true,true] 0 1
   (fun k s=> ∃(i:Nat) (o:List (List (List Mn))),k=f.length-i∧i≤f.length∧o.length=i∧T=tabF (fun i=>tabF (fun j=>jacG f i j) 0 f.length []) i (f.length-i) o∧
    s=⟨[.sl .no (X0d f),.junk,.junk,.junk,.sc (.int .i64 0),.sl (.own 0) (K0r o),.junk,.junk,.junk,.junk,.junk,.junk,.junk,.junk,.junk,.sc (.int .i64 f.length),.sc (.int .i64 (i:Nat))]++List.replicate 35 .junk,[],[(o.length,1)],st⟩) f.length ?_ ?_
  · simp -dsimp only [go_sem]
    exact⟨0,[],by omega,by omega,rfl,hT.symm,rfl⟩
  · rintro k s ⟨i,o,rfl,hi,ho,hr,rfl⟩
    simp -dsimp only [go_sem]
    refine ck (fun h'=> ?_) (fun h'=> ?_)
    · have hlt:i<f.length:=by have:=of_decide_eq_true h';omega
      have e1:=k0l f i hlt
      have e3:=V0a i (by omega)
      have e4:=K0w (fun i=>tabF (fun j=>jacG f i j) 0 f.length []) hlt o
      simp -dsimp only [go_sem]
      refine Z0l 7 1 ?_
      simp -dsimp only [go_sem]
      refine Q0f [true,false,false,false,true,true,true,true,false,false,false,false,false,false,false,true,true,false,false,false,true,true] 0 2
       (fun k s=> ∃(j:Nat) (r:List (List Mn)),k=f.length-j∧j≤f.length∧r.length=j∧tabF (fun j=>jacG f i j) 0 f.length []=tabF (fun j=>jacG f i j) j (f.length-j) r∧
        s=⟨[.sl .no (X0d f),.junk,.junk,.junk,.sc (.int .i64 0),.sl (.own 0) (K0r o),.sc (.int .i64 (i:Nat)),.sl (.own 1) (X0d r),.junk,.junk,.junk,.junk,.junk,.junk,.junk,.sc (.int .i64 f.length),.sc (.int .i64 (i:Nat)),.junk,.junk,.junk,.sc (.int .i64 f.length),.sc (.int .i64 (j:Nat))]++List.replicate 30 .junk,[],[(o.length,1),(r.length,1)],st⟩) f.length ?_ ?_
      · simp -dsimp only [go_sem]
        exact⟨0,[],by omega,by omega,rfl,rfl,rfl⟩
      · rintro k s ⟨j,r,rfl,hj,hrl,hrr,rfl⟩
        simp -dsimp only [go_sem]
        refine ck (fun h''=> ?_) (fun h''=> ?_)
        · have hlt2:j<f.length:=by have:=of_decide_eq_true h'';omega
          have f3:=V0a j (by omega)
          have f4:=K0w (fun j=>jacG f i j) hlt2 r
          simp -dsimp only [go_sem,e1]
          refine⟨by omega,?_⟩
          refine(w1g (f.getD i []) j f.length _ (hf.2 i hlt)).mono ?_
          rintro rr st ⟨rfl,rfl⟩
          simp -dsimp only [go_sem]
          refine ck (fun h5=> ?_) (fun h5=> ?_)
          · have hne:(jacG f i j).2≠0:=H0b h5
            have q1:tabF (fun j=>jacG f i j) 0 f.length []=([],(jacG f i j).2):=by rw [hrr,f4,if_pos hne]
            have hTT:T=([],(jacG f i j).2):=by rw [hr,e4,if_pos (by rw [q1];exact hne),q1]
            subst hTT
            simp -dsimp only [go_sem]
            refine Q0a ?_
            simp -dsimp only [go_sem,h5]
            try rfl
          · have he:(jacG f i j).2=0:=H0i h5
            simp -dsimp only [go_sem,f3]
            refine⟨⟨by omega,by omega⟩,f.length-(j+1),by omega,j+1,r++ [(jacG f i j).1],rfl,by omega,by simp [hrl],?_,?_⟩
            · rw [hrr,f4,if_neg (fun hh=>hh he)]
            · simp [X0d,jacG]
        · have hge:j=f.length:=by have:=of_decide_eq_false h'';omega
          have q1:tabF (fun j=>jacG f i j) 0 f.length []=(r,0):=by rw [hrr,hge];exact W0e _ f.length r
          simp -dsimp only [go_sem]
          refine Q0a ?_
          simp -dsimp only [go_sem]
          refine⟨⟨by omega,by omega⟩,Q0a ?_⟩
          simp -dsimp only [go_sem,e3]
          refine⟨f.length-(i+1),by omega,i+1,o++ [r],rfl,by omega,by simp [ho],?_,?_⟩
          · rw [hr,e4,q1,if_neg (by simp)]
          · simp
    · have hge:i=f.length:=by have:=of_decide_eq_false h';omega
      have z0:((0:Int) !=0)=false:=rfl
      simp -dsimp only [go_sem]
      refine Q0a ?_
      simp -dsimp only [go_sem,z0]
      rw [hr,hge,W0e]
end Go.Pv
end
section
/-What the machine holds of derivatives and values. No program in it. -/
namespace Go.Pv
theorem K3n {p:List Mn} :wP p↔p.length≤100000000000∧ ∀m∈p,wMn m:=by
 unfold wP
 constructor
 · rintro⟨h1,h2⟩
   refine⟨h1,fun m hm=> ?_⟩
   obtain⟨i,hi,e⟩:=List.mem_iff_getElem.1 hm
   have:=h2 i hi
   rwa [show p.getD i default=m by simp [List.getD_eq_getElem?_getD,hi,e]] at this
 · rintro⟨h1,h2⟩
   refine⟨h1,fun i hi=> ?_⟩
   rw [show p.getD i default=p[i] by simp [List.getD_eq_getElem?_getD,hi]]
   exact h2 _ (List.getElem_mem hi)
theorem K3s {f:List (List Mn)} :wF f↔f.length≤100000000000∧ ∀p∈f,wP p:=by
 unfold wF
 constructor
 · rintro⟨h1,h2⟩
   refine⟨h1,fun m hm=> ?_⟩
   obtain⟨i,hi,e⟩:=List.mem_iff_getElem.1 hm
   have:=h2 i hi
   rwa [show f.getD i []=m by simp [List.getD_eq_getElem?_getD,hi,e]] at this
 · rintro⟨h1,h2⟩
   refine⟨h1,fun i hi=> ?_⟩
   rw [show f.getD i []=f[i] by simp [List.getD_eq_getElem?_getD,hi]]
   exact h2 _ (List.getElem_mem hi)
theorem w2j (k:Nat) (a b:Nm):wN (strN k a b).1:=by
 unfold strN
 split
 · rename_i h
   exact H1q (J0l (J0s (q0m (z1s k (U0q h.1) (U0q h.2)))))
 · exact H1q (J0l (show Q0r default=true by decide))
theorem Z3m {ks:List Int} {i:Nat} (hr:U0i ks=true) (hl:ks.length≤100000000000) (hi:i<ks.length):wK (decK ks i):=by
 refine⟨by rw [G0z];omega,fun z hz=> ?_⟩
 rw [G0z] at hz
 have h1:=j0r hr z hz
 unfold decK
 by_cases c:z=i
 · subst c
   rw [show(ks.set z (ks.getD z 0-1)).getD z 0=ks.getD z 0-1 by simp [List.getD_eq_getElem?_getD,hz]]
   omega
 · rw [show(ks.set i (ks.getD i 0-1)).getD z 0=ks.getD z 0 by simp [List.getD_eq_getElem?_getD,List.getElem?_set_ne (Ne.symm c)]]
   omega
theorem V1x {i:Nat} : ∀(p acc:List Mn),(∀m∈p,wK (decK m.ks i))→(∀m∈acc,wMn m)→(G0m i p acc).1.length≤acc.length+p.length∧ ∀m∈(G0m i p acc).1,wMn m
 | [],acc,_,h=>⟨by simp [G0m],h⟩
 | m::r,acc,hp,h=>by
  rw [G0m]
  split
  · obtain⟨a1,a2⟩:=V1x (i:=i) r acc (fun m hm=>hp m (by simp [hm])) h
    exact⟨by simp only [List.length_cons];omega,a2⟩
  · split
    · exact⟨by simp,fun m hm=>by cases hm⟩
    · obtain⟨a1,a2⟩:=V1x (i:=i) r (acc++ [⟨(strN 2 m.c (intN (m.ks.getD i 0).toNat)).1,decK m.ks i⟩]) (fun m hm=>hp m (by simp [hm])) (fun q hq=>by
       rcases List.mem_append.1 hq with hq | hq
       · exact h q hq
       · simp at hq;subst hq
         exact⟨w2j _ _ _,hp m (by simp)⟩)
      exact⟨by simp only [List.length_append,List.length_cons,List.length_nil] at a1;simp only [List.length_cons];omega,a2⟩
theorem x2e (p:List Mn) (i n:Int):wP (w0f p i n).1:=by
 rw [K3n]
 unfold w0f
 split
 · rename_i h
   obtain⟨h1,h2,h3⟩:=h
   have h4:=((J0k _ _).1 h1).1
   obtain⟨a1,a2⟩:=V1x (i:=i.toNat) p [] (fun m hm=>by
    obtain⟨q,hq,e⟩:=List.mem_iff_getElem.1 hm
    obtain⟨k1,k2,k3⟩:=Y0n h1 hq
    rw [show p.getD q default=m by simp [List.getD_eq_getElem?_getD,hq,e]] at k1 k2
    exact Z3m k2 (by omega) (by omega)) (fun m hm=>by cases hm)
   exact⟨by have:=a1;rw [List.length_nil] at this;omega,a2⟩
 · exact⟨by simp,fun m hm=>by cases hm⟩
theorem Q3d (f:List (List Mn)) (hf:f.length≤100000000000):(jacF f).1.length≤100000000000∧ ∀g∈(jacF f).1,wF g:=by
 unfold jacF
 split
 · refine⟨?_,?_⟩
   · have:=q0v (G:=fun i=>tabF (fun j=>jacG f i j) 0 f.length []) f.length 0 []
     simp only [List.length_nil] at this;omega
   · refine U0h wF f.length 0 [] (fun i _ _=> ?_) (fun x hx=>by cases hx)
     rw [K3s]
     refine⟨?_,U0h wP f.length 0 [] (fun j _ _=>x2e _ _ _) (fun x hx=>by cases hx)⟩
     have:=q0v (G:=fun j=>jacG f i j) f.length 0 []
     simp only [List.length_nil] at this;omega
 · exact⟨by simp,fun g hg=>by cases hg⟩
end Go.Pv
end
