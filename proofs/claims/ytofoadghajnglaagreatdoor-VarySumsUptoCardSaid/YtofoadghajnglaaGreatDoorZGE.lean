/- Parts of the walk: N168, N169, N170. -/
import Derived.Test.YtofoadghajnglaaGreatDoorZGD
import Derived.Test.YtofoadghajnglaaGreatDoorZGC
import Derived.Test.YtofoadghajnglaaGreatDoorZCE
import Derived.Test.YtofoadghajnglaaGreatDoorZGB
set_option linter.unusedVariables false
set_option linter.unusedSimpArgs false
section
/-vary.grower.next:the next matrix. -/
set_option maxRecDepth 100000
namespace Go.Pv
open Go.Proofs
def Z4d (st:Q0e) (G D capD:Nat) (jac:List (List (List Mn))) (xs:List (List Ivl)) (p:Int) (n:Nat) (rid:Nat→Nat) (k:Nat) (v:List Mx×Int) (r:PV) (S':Q0e):Prop:=
 r= .sc (.int .i64 v.2)∧Old st S'∧(v.2=0→ ∃role' O' capO' cell',Grw st S' role' G O' capO' D capD jac xs p n rid cell' (dlF jac xs p (k+1)) v.1)
theorem x1f {jac:List (List (List Mn))} {xs:List (List Ivl)} {p:Int} {n:Nat} (h1:1≤n) (h4:n≤4) (k:Nat) (h:(varN jac xs p n k).2=0):(varN jac xs p n k).1.length=k+1∧ ∀m,m≤k→((varN jac xs p n k).1.getD m []).length=n∧ ∀l,l<n→(((varN jac xs p n k).1.getD m []).getD l []).length=n:=by
 obtain⟨a1,a2⟩:=K1q k h
 refine⟨a1,fun m hm=> ?_⟩
 rw [a2 m hm]
 split
 · exact⟨(k2j h1 h4 (i:=0) (j:=0) (by omega) (by omega)).1,fun l hl=>(k2j h1 h4 hl hl).2.1⟩
 · rename_i h0
   have hz: ∀d,(varN jac xs p n (k-d)).2=0:=by
    intro d
    induction d with
    | zero=>exact h
    | succ d ih=>
     by_cases e:k-d=0
     · rw [show k-(d+1)=k-d by omega];exact ih
     · rw [show k-d=(k-(d+1))+1 by omega,varN] at ih
       refine Classical.byContradiction fun c=> ?_
       rw [if_pos c] at ih;exact c ih
   have hm1:=hz (k-m)
   rw [show k-(k-m)=(m-1)+1 by omega,varN] at hm1
   by_cases c:(varN jac xs p n (m-1)).2≠0
   · rw [if_pos c] at hm1;exact absurd hm1 c
   rw [if_neg c] at hm1
   by_cases d:slB jac xs p n (m-1)=false
   · rw [if_pos d] at hm1;cases hm1
   rw [if_neg d] at hm1
   by_cases e:(matV jac xs p n (varN jac xs p n (m-1)).1 (m-1)).2≠0
   · rw [if_pos e] at hm1;exact absurd hm1 e
   obtain⟨g1,g2⟩:=V2a (Classical.not_not.1 e)
   exact⟨g1,fun l hl=>(g2 l hl).1⟩
set_option maxHeartbeats 4000000 in
theorem K2r (st S:Q0e) (role:Nat→Nat) (G O capO D capD:Nat) (jac:List (List (List Mn))) (xs:List (List Ivl)) (p:Int) (n:Nat) (rid:Nat→Nat) (cell:Nat→Nat→PV) (k:Nat) (h:Grw st S role G O capO D capD jac xs p n rid cell (dlF jac xs p k) (varN jac xs p n k).1)
 (h1:1≤n) (wj:wJac jac n) (wx:wXs xs) (hk:k+1≤10) (he: ∀i,i<n→ ∀l,l<n→e02 (V0v jac xs p i l k).2) (h0:(varN jac xs p n k).2=0) (wm:allI (varN jac xs p n k).1):
 PCalls Tryz.prog 110 [.gp G 0,.sc (.int .i64 (k:Nat))] S (fun r S'=>Z4d st G D capD jac xs p n rid k (varN jac xs p n (k+1)) r S'):=by
 have jl:=wj.1
 have hn:=h.n4
 obtain⟨m1,m2⟩:=x1f h1 hn k h0
 have wmm:=fun m l j=>J0r (z1y wm m l j)
 have hV:varN jac xs p n (k+1)=if slB jac xs p n k=false then([],2) else if (tabF (fun i=>tabF (fun j=>entV (rowD jac xs p i) p n (varN jac xs p n k).1 j k) 0 n []) 0 n []).2≠0 then([],(tabF (fun i=>tabF (fun j=>entV (rowD jac xs p i) p n (varN jac xs p n k).1 j k) 0 n []) 0 n []).2) else((varN jac xs p n k).1++ [(tabF (fun i=>tabF (fun j=>entV (rowD jac xs p i) p n (varN jac xs p n k).1 j k) 0 n []) 0 n []).1],0):=by
  rw [varN,if_neg (by rw [h0];decide)];rfl
 have hent: ∀i j,i<n→entV (fun l q=>(dlF jac xs p (k+1) i l).getD q default) p n (varN jac xs p n k).1 j k=entV (rowD jac xs p i) p n (varN jac xs p n k).1 j k:=fun i j hi=>by
  have e:dotF (varX (fun l q=>(dlF jac xs p (k+1) i l).getD q default) k) (varY (varN jac xs p n k).1 j k) p (n*(k+1))=dotF (varX (rowD jac xs p i) k) (varY (varN jac xs p n k).1 j k) p (n*(k+1)):=K1c _ fun t ht=>⟨by
   unfold varX rowD
   exact Z3j jac xs p (Nat.mod_lt _ (by omega)),rfl⟩
  unfold entV
  rw [e]
 have hmore:=W3i st S role G O capO D capD jac xs p n rid cell (varN jac xs p n k).1 k h wj wx (by omega) he
 refine Exists.elim (⟨_,rfl⟩: ∃V,V=varN jac xs p n (k+1)) fun V hVe=> ?_
 rw [←hVe] at hV⊢
 clear hVe
 refine Exists.elim (⟨_,rfl⟩: ∃M,M=(varN jac xs p n k).1) fun M hMe=> ?_
 rw [←hMe] at hV hent hmore m1 m2 wmm
 clear hMe wm h h0
 refine Exists.elim (⟨_,rfl⟩: ∃H:Nat→Nat→Ivl×Int,H=fun i j=>entV (rowD jac xs p i) p n M j k) fun H hH=> ?_
 have hV':V=if slB jac xs p n k=false then([],2) else if (tabF (fun i=>tabF (fun j=>H i j) 0 n []) 0 n []).2≠0 then([],(tabF (fun i=>tabF (fun j=>H i j) 0 n []) 0 n []).2) else(M++ [(tabF (fun i=>tabF (fun j=>H i j) 0 n []) 0 n []).1],0):=by rw [hH];exact hV
 have hent': ∀i j,i<n→entV (fun l q=>(dlF jac xs p (k+1) i l).getD q default) p n M j k=H i j:=fun i j hi=>by rw [hH];exact hent i j hi
 clear hV hent hH
 refine Exists.elim (⟨_,rfl⟩: ∃T,T=tabF (fun i=>tabF (fun j=>H i j) 0 n []) 0 n []) fun T hT=> ?_
 rw [←hT] at hV'
 refine Q0b none Tryz.func110 rfl fun E=>Q0h (Q0a ?_)
 simp -dsimp only [go_sem]
 refine Q0h (Q0a ?_)
 simp -dsimp only [go_sem]
 refine hmore.mono ?_
 rintro r S1 hM
 rcases hM with ⟨hs,rfl,role1,cell1,hS1⟩ | ⟨hs,rfl,hO⟩
 rotate_left
 · rw [if_pos hs] at hV'
   simp -dsimp only [go_sem]
   exact⟨by rw [hV'],hO,fun h=>by rw [hV'] at h;cases h⟩
 rw [if_neg (by rw [hs];decide)] at hV'
 have hG:=hS1.g.2.2.2
 have hat:=fun i (hi:i<n) j (hj:j<n)=>Q3i st S1 role1 G O capO D capD jac xs p n rid cell1 (dlF jac xs p (k+1)) M i j k hS1 jl hi hj (by omega) (fun l hl=>by rw [V2x];omega) (fun l hl y hy=>by
  unfold dlF at hy
  obtain⟨q,_,rfl⟩:=List.mem_map.1 hy
  exact J0r (Q1b _ _ _ _)) (by omega) m2 wmm
 have hat': ∀i,i<n→ ∀j,j<n→PCalls Tryz.prog 176 [.gp G 0,.sc (.int .i64 (i:Nat)),.sc (.int .i64 (j:Nat)),.sc (.int .i64 (k:Nat))] S1 (fun r S'=>r= .tup [.agg (encI (H i j).1),.sc (.int .i64 (H i j).2)]∧S'=S1):=fun i hi j hj=>by
  have:=hat i hi j hj
  rw [hent' i j hi] at this
  exact this
 clear hat hent'
 simp -dsimp only [go_sem]
 refine Q0h (Q0a ?_)
 simp -dsimp only [go_sem]
 refine Q0h (Q0a ?_)
 simp -dsimp only [go_sem,hG,jl]
 refine Z0l 6 1 ?_
 simp -dsimp only [go_sem]
 refine Q0x [true,true,false,false,false,false,true,false,false,false,false,false,false,false,false,false,false,false,false,false,false,false,true,true] 0 1
  (fun c s=> ∃(i:Nat) (o:Mx),c=n-i∧i≤n∧o.length=i∧T=tabF (fun i=>tabF (fun j=>H i j) 0 n []) i (n-i) o∧
   s=⟨[.gp G 0,.sc (.int .i64 (k:Nat)),.junk,.junk,.junk,.junk,.sl (.own 0) (encM o)]++List.replicate 15 .junk++ [.sc (.int .i64 (n:Nat)),.sc (.int .i64 (i:Nat))]++List.replicate 41 .junk,[],[(o.length,1)],S1⟩) n ?_ ?_
 · simp -dsimp only [go_sem]
   exact⟨0,[],by omega,by omega,rfl,hT,rfl⟩
 rintro c s ⟨i,o,rfl,hi,ho,hr,rfl⟩
 refine Q0h (Q0a ?_)
 simp -dsimp only [go_sem]
 refine Q0h (Q0a ?_)
 simp -dsimp only [go_sem]
 refine ck (fun h2=> ?_) (fun h2=> ?_)
 rotate_left
 · have hge:i=n:=by have:=of_decide_eq_false h2;omega
   subst hge
   rw [W0e] at hr
   rw [hr,if_neg (fun h=>h rfl)] at hV'
   have hol:O<S1.length:=hS1.o.1.2.1
   have hok:=hS1.o.1.ok
   simp -dsimp only [go_sem]
   refine Q0h (V1e [false,false,false,false,false,false,false,true,false,false,false] ?_)
   simp -dsimp only [go_sem,hG]
   refine⟨GrowOK.mk_one rfl (by decide) hok (by omega) (by decide) rfl rfl,fun O' cap' S2 hGr=> ?_⟩
   obtain⟨role2,hS2⟩:=hS1.out hGr
   have hl2:(S2.getD G []).length=5:=by
    have hGO:G≠O:=fun e=>by
     have e1:=hS1.g.2.2.1
     rw [e,hS1.o.2] at e1;cases e1
    rw [(hS1.o.1.grow hS1.old.1 hGr).2.2 G hS1.g.2.1 hGO,hG];rfl
   refine⟨⟨by omega,by omega⟩,?_⟩
   refine Q0a ?_
   simp -dsimp only [go_sem]
   refine⟨by rw [hV'],hS2.old,fun _=>⟨role2,O',cap',cell1,?_⟩⟩
   rw [hV']
   exact hS2
 have hlt:i<n:=by have:=of_decide_eq_true h2;omega
 have e3:=V0a i (by omega)
 have e4:=K0w (fun i=>tabF (fun j=>H i j) 0 n []) hlt o
 simp -dsimp only [go_sem]
 refine Q0h (X0a (Q0h (Q0a ?_)))
 simp -dsimp only [go_sem]
 refine Q0h (Q0a ?_)
 simp -dsimp only [go_sem]
 refine Q0h (Q0a ?_)
 simp -dsimp only [go_sem,hG,jl]
 refine Z0l 8 6 ?_
 simp -dsimp only [go_sem]
 refine Q0x [true,true,false,false,false,false,true,true,true,false,false,false,false,false,false,false,false,false,false,false,false,false,true,true,false,false,false,false,false,false,true,true] 0 2
  (fun c s=> ∃(j:Nat) (r:List Ivl),c=n-j∧j≤n∧r.length=j∧tabF (fun j=>H i j) 0 n []=tabF (fun j=>H i j) j (n-j) r∧
   s=⟨[.gp G 0,.sc (.int .i64 (k:Nat)),.junk,.junk,.junk,.junk,.sl (.own 0) (encM o),.sc (.int .i64 (i:Nat)),.sl (.own 1) (Q0s r)]++List.replicate 13 .junk++ [.sc (.int .i64 (n:Nat)),.sc (.int .i64 (i:Nat)),.junk,.junk,.junk,.junk,.junk,.junk,.sc (.int .i64 (n:Nat)),.sc (.int .i64 (j:Nat))]++List.replicate 33 .junk,[],[(o.length,1),(r.length,6)],S1⟩) n ?_ ?_
 · simp -dsimp only [go_sem]
   exact⟨0,[],by omega,by omega,rfl,rfl,rfl⟩
 rintro c s ⟨j,r,rfl,hj,hrl,hrr,rfl⟩
 refine Q0h (Q0a ?_)
 simp -dsimp only [go_sem]
 refine Q0h (Q0a ?_)
 simp -dsimp only [go_sem]
 refine ck (fun h3=> ?_) (fun h3=> ?_)
 rotate_left
 · have hge:j=n:=by have:=of_decide_eq_false h3;omega
   have q1:tabF (fun j=>H i j) 0 n []=(r,0):=by rw [hrr,hge];exact W0e _ n r
   simp -dsimp only [go_sem]
   refine Q0a ?_
   simp -dsimp only [go_sem]
   refine⟨by omega,?_⟩
   refine Q0a ?_
   simp -dsimp only [go_sem,e3]
   refine⟨n-(i+1),by omega,i+1,o++ [r],rfl,by omega,by simp [ho],?_,by simp⟩
   rw [hr,e4,q1,if_neg (by simp)]
 have hlt3:j<n:=by have:=of_decide_eq_true h3;omega
 have f3:=V0a j (by omega)
 have f4:=K0w (fun j=>H i j) hlt3 r
 have hcv:=hat' i hlt j hlt3
 have hsn:=Y0z r (H i j).1
 have hbad:(H i j).2≠0→V=([],(H i j).2):=fun hne=>by
  have q1:tabF (fun j=>H i j) 0 n []=([],(H i j).2):=by rw [hrr,f4,if_pos hne]
  have q2:T=([],(H i j).2):=by rw [hr,e4,if_pos (by rw [q1];exact hne),q1]
  rw [q2,if_pos hne] at hV'
  exact hV'
 refine Exists.elim (⟨_,rfl⟩: ∃g,g=H i j) fun g hg=> ?_
 rw [←hg] at hcv f4 hsn hbad
 clear hg
 simp -dsimp only [go_sem]
 refine Q0h (X0a (Q0h (Q0a ?_)))
 simp -dsimp only [go_sem]
 refine Q0h (Q0a ?_)
 simp -dsimp only [go_sem]
 refine hcv.mono ?_
 rintro rr S' ⟨rfl,rfl⟩
 simp -dsimp only [go_sem]
 by_cases hg0:g.2=0
 · have c1:(g.2 !=0)=false:=by rw [hg0];rfl
   rw [if_neg (by rw [hg0];decide)] at f4
   refine Q0a ?_
   simp -dsimp only [go_sem,c1,hsn]
   refine⟨by omega,?_⟩
   refine Q0a ?_
   simp -dsimp only [go_sem,f3]
   exact⟨n-(j+1),by omega,j+1,r++ [g.1],rfl,by omega,by simp [hrl],by rw [hrr,f4],by simp⟩
 · have c1:(g.2 !=0)=true:=bne_iff_ne.2 hg0
   refine Q0a ?_
   simp -dsimp only [go_sem,c1]
   have hb:=hbad hg0
   exact⟨by rw [hb],hS1.old,fun h=>by rw [hb] at h;exact absurd h hg0⟩
end Go.Pv
end
section
/-vary.Series. -/
set_option maxRecDepth 100000
namespace Go.Pv
open Go.Proofs
theorem j1s (rid:Nat→Nat) (n:Nat): ∀l:List Nat,flat (l.map fun j=>PV.ms true (rid j) 0 n)=l.map fun j=>PV.ms true (rid j) 0 n
 | []=>rfl
 | x::l=>by
  have ih:=j1s rid n l
  unfold flat at ih⊢
  rw [List.map_cons,List.map_cons,List.flatten_cons,ih];rfl
set_option maxHeartbeats 8000000 in
theorem Q2m (f:List (List Mn)) (x:List Ivl) (order p:Int) (st:Q0e) (wf:wF f) (wx:wB x):
 PCalls Tryz.prog 47 [.sl .no (X0d f),.sl .no (Q0s x),.sc (.int .i64 order),.sc (.int .i64 p)] st
 (fun r st'=>r= .tup [.sl .no (Z0r (x0c f x order p).1),.sc (.int .i64 (x0c f x order p).2)]∧st'=st):=by
 refine X1m (Q:=fun r=>r= .tup [.sl .no (Z0r (x0c f x order p).1),.sc (.int .i64 (x0c f x order p).2)]) ?_
 have hA:(U0z f x order p).2≠0→x0c f x order p=([],(U0z f x order p).2):=fun h=>by unfold x0c;rw [if_pos h]
 have hB:(U0z f x order p).2=0→(jacF f).2≠0→x0c f x order p=([],(jacF f).2):=fun h h2=>by unfold x0c;rw [if_neg (by rw [h];decide),if_pos h2]
 have hC:(U0z f x order p).2=0→(jacF f).2=0→x0c f x order p=varN (jacF f).1 (U0z f x order p).1 p f.length order.toNat:=fun h h2=>by unfold x0c;rw [if_neg (by rw [h];decide),if_neg (by rw [h2];decide)]
 have hw:=K2v f x order p
 have hj:=y1h f
 have hwj:=fun h=>K2l wf (h:(jacF f).2=0)
 have hok:=fun h=>K2m (f:=f) h
 have hfl:=fun h=>j1r (f:=f) (x:=x) (order:=order) (p:=p) h
 generalize U0z f x order p=FX at hA hB hC hw hfl
 generalize jacF f=JF at hA hB hC hj hwj hok
 generalize x0c f x order p=VF at hA hB hC⊢
 refine Q0b none Tryz.func47 rfl fun E=>Q0h (Q0a ?_)
 simp -dsimp only [go_sem]
 refine Q0h (Q0a ?_)
 simp -dsimp only [go_sem]
 refine(hw _ wf wx).mono ?_
 rintro r st ⟨rfl,rfl⟩
 by_cases e1:FX.2=0
 rotate_left
 · have b1:(FX.2 !=0)=true:=bne_iff_ne.2 e1
   refine Q0a ?_
   simp -dsimp only [go_sem,b1]
   exact .err0 (by rw [hA e1];rfl)
 have b1:(FX.2 !=0)=false:=by rw [e1];rfl
 simp -dsimp only [go_sem]
 refine Q0h (Q0a ?_)
 simp -dsimp only [go_sem,b1]
 refine Q0h (Q0a ?_)
 simp -dsimp only [go_sem]
 refine(hj _ wf).mono ?_
 rintro r st ⟨rfl,rfl⟩
 by_cases e2:JF.2=0
 rotate_left
 · have b2:(JF.2 !=0)=true:=bne_iff_ne.2 e2
   refine Q0a ?_
   simp -dsimp only [go_sem,b2]
   exact .err0 (by rw [hB e1 e2];rfl)
 have b2:(JF.2 !=0)=false:=by rw [e2];rfl
 simp -dsimp only [go_sem]
 refine Q0h (Q0a ?_)
 simp -dsimp only [go_sem,b2]
 obtain⟨rf,rx,lx,hp,m,rfl,hm,hFN⟩:=hfl e1
 have hV:=hC e1 e2
 rw [Int.toNat_natCast] at hV
 have wj:=hwj e2
 have okj:=hok e2
 have hn4:=((Y0e f).1 rf).1
 have hxr: ∀a∈x,Q0m a=true:=fun a ha=>by
  obtain⟨i,hi,rfl⟩:=List.mem_iff_getElem.1 ha
  have:=Y1j rx hi
  rwa [show x.getD i default=x[i] by simp [List.getD_eq_getElem?_getD,hi]] at this
 have hz:(X0j f x p m).2=0:=by rw [←hFN];exact e1
 obtain⟨x1,x2⟩:=y0n lx (fun a ha=>J0r (hxr a ha)) m hz
 have xup:=Z1f lx hxr m hm hz
 rw [←hFN] at x1 x2 xup
 have hXS:FX.1.length=f.length:=by rw [x1,lx]
 have wxs:wXs FX.1:=⟨by omega,fun i hi=>by
  obtain⟨y1,y2⟩:=x2 i (by omega)
  exact⟨by omega,y2⟩⟩
 have hup: ∀i,i<FX.1.length→K0c (FX.1.getD i []) m=true:=fun i hi=>xup i (by omega)
 generalize FX.1=xs at hV hXS wxs hup
 generalize JF.1=jac at hV wj okj
 generalize hn:f.length=n at hV hXS hn4 wj okj
 clear hA hB hC hw hj hwj hok hfl x1 x2 xup hFN hz
 have he: ∀q,q<m→ ∀i,i<n→ ∀l,l<n→e02 (V0v jac xs p i l q).2:=fun q hq i hi l hl=>Z2k hp (by omega) (by rw [hXS];exact(okj.2 i hi).2 l hl) fun i hi=>Z1a (hup i hi) (by omega)
 have hnext:=fun S role O capO D capD rid cell k (hk:k<m) (hg:Grw st S role (st.length+1) O capO D capD jac xs p n rid cell (dlF jac xs p k) (varN jac xs p n k).1) (h0:(varN jac xs p n k).2=0)=>K2r st S role (st.length+1) O capO D capD jac xs p n rid cell k hg hn4.1 wj wxs (by omega) (he k hk) h0 (H1f hp k (by omega)).2
 have hfin: ∀k,k<m→(varN jac xs p n (k+1)).2≠0→VF=([],(varN jac xs p n (k+1)).2):=fun k hk hne=>by
  rw [hV]
  by_cases e:k+1=m
  · subst e
    rw [varN] at hne⊢
    split
    · rfl
    · rename_i c;rw [if_neg c] at hne
      split
      · rfl
      · rename_i d;rw [if_neg d] at hne
        split
        · rfl
        · rename_i c2;rw [if_neg c2] at hne;exact absurd rfl hne
  · have:=y0w hne (m-(k+2))
    rwa [show k+1+1+(m-(k+2))=m by omega] at this
 have vlen:=fun k (hk:(varN jac xs p n k).2=0)=>(K1q k hk).1
 have v0:varN jac xs p n 0=([idM n],0):=rfl
 refine Exists.elim (⟨_,rfl⟩: ∃VN,VN=varN jac xs p n) fun VN hVN=> ?_
 rw [←hVN] at hV hnext hfin vlen v0
 clear hVN he wj wxs hup okj
 refine Q0h (V1e [false,false,false,false,false,false,true,false,false,false] ?_)
 simp -dsimp only [go_sem,hn]
 refine(y2y (n:Int) _).mono ?_
 rintro r st ⟨rfl,rfl⟩
 simp -dsimp only [go_sem]
 refine X2g 0 (by simp [go_sem]) (by simp) ?_
 simp -dsimp only [go_sem]
 have hB0:GrwB st (st++ [[PV.sl .no (encM (idM (n:Int)))]]++ [[PV.sl .no (K0r jac),PV.sl .no (encM xs),PV.sc (.int .i64 p),PV.sl .full [],PV.gr st.length 1 1]]) (fun x=>if x=st.length then 1 else if x=st.length+1 then 0 else 7) (st.length+1) st.length 1 jac xs p n (fun _=>0) 0 (.sl .full []) (VN 0).1:=by
  rw [v0]
  refine⟨⟨by simp,fun x hx=>by rw [Q0j _ _ _ _ (by simp;omega),Q0j _ _ _ _ hx]⟩,⟨by omega,by simp,by rw [if_neg (by omega),if_pos rfl],?_⟩,⟨⟨Nat.le_refl _,by simp,by simp,[],?_,by simp⟩,if_pos rfl⟩,.inl ⟨rfl,rfl⟩,fun j hj=>by omega⟩
  · rw [Q0l _ _ _ _ (by simp)];simp
  · rw [Q0j _ _ _ _ (by simp),Q0l _ _ _ _ (Nat.le_refl _),Nat.sub_self];rfl
 refine Exists.elim (⟨_,rfl⟩: ∃S0,S0=st++ [[PV.sl .no (encM (idM (n:Int)))]]++ [[PV.sl .no (K0r jac),PV.sl .no (encM xs),PV.sc (.int .i64 p),PV.sl .full [],PV.gr st.length 1 1]]) fun S0 hS0=> ?_
 rw [←hS0] at hB0⊢
 clear hS0
 refine Q0h (Q0a ?_)
 simp -dsimp only [go_sem,hn]
 refine Q0x [true,false,true,false,false,false,false,false,false,false,false,false,false,true,false,false,false,false,false,false,false,false,false,false,false,false,false,false,false,false,false,false,false,false,false,false,false,false,false,false,false,false,false,false,false,true,true] 0 0
  (fun c s=> ∃i S role O capO rid dpv,c=n-i∧i≤n∧GrwB st S role (st.length+1) O capO jac xs p n rid i dpv (VN 0).1∧
   s=⟨[.sl .no (X0d f),.junk,.sc (.int .i64 (m:Nat)),.junk,.junk,.junk,.junk,.junk,.junk,.junk,.junk,.junk,.junk,.gp (st.length+1) 0]++List.replicate 31 .junk++ [.sc (.int .i64 (n:Nat)),.sc (.int .i64 (i:Nat))]++List.replicate 29 .junk,[],[],S⟩) n ?_ ?_
 · simp -dsimp only [go_sem]
   exact⟨0,S0,_,_,_,_,_,by omega,by omega,hB0,rfl⟩
 rintro c s ⟨i,S,role,O,capO,rid,dpv,rfl,hi,hS,rfl⟩
 refine Q0h (Q0a ?_)
 simp -dsimp only [go_sem]
 refine Q0h (Q0a ?_)
 simp -dsimp only [go_sem]
 refine ck (fun h2=> ?_) (fun h2=> ?_)
 · have hlt:i<n:=by have:=of_decide_eq_true h2;omega
   have f3:=V0a i (by omega)
   have hG:=hS.g.2.2.2
   have hGl:=hS.g.2.1
   have hold:=hS.old.1
   have hgl: ∀x,x<S.length→(S++ [List.replicate n (PV.sl .full [])]).getD x []=S.getD x []:=fun x hx=>Q0j _ _ _ _ hx
   have hgn:(S++ [List.replicate n (PV.sl .full [])]).getD S.length []=List.replicate n (PV.sl .full []):=by
    rw [Q0l _ _ _ _ (Nat.le_refl _),Nat.sub_self];rfl
   have hl1:(S++ [List.replicate n (PV.sl .full [])]).length=S.length+1:=by simp
   have hst:=fun S2 D' cap' R'=>hS.step (S2:=S2) (D':=D') (cap':=cap') (R':=R')
   simp -dsimp only [go_sem]
   refine Q0h (X0a ?_)
   rcases hS.d with ⟨e0,e1⟩ | ⟨e0,D,capD,R,e1,d1,d2,d3,d4,d5,d6⟩
   · rw [e1] at hG
     refine j0w [false,false,false,false,false,false,false,true,false,true] Z0g 76 (.step 0 [] (.step 1 [] (.step 2 [] (.step 3 [] (.step 4 [] (.step 5 [] (.step 6 [] (.step 7 [4] (.step 8 [] (.step 9 [] (.step 10 [] (.step 11 [] (.step 12 [] (.done)))))))))))))) (by decide+kernel) (by simp) ?_
     simp -dsimp only [go_sem,hG,hn]
     have gG1:=(hgl _ hGl).trans hG
     refine⟨⟨by omega,by omega,by omega⟩,⟨by rw [gG1];exact(by decide:4≤5),by rw [gG1];rfl⟩,GrowOK.mk_one rfl (by decide) rfl (by omega) (by decide) rfl rfl,fun cap' R hc hR=> ?_⟩
     generalize hS1:S++ [List.replicate n (PV.sl .full [])]=S1 at hgl hgn hl1 gG1⊢
     generalize hS2:S1++ [_]=S2
     have eS2:S2=S1++ [[PV.ms true S.length 0 n]++R]:=hS2.symm
     have hg2: ∀x,x<S1.length→S2.getD x []=S1.getD x []:=fun x hx=>by rw [eS2];exact Q0j _ _ _ _ hx
     have hn2:S2.getD (S.length+1) []= [PV.ms true S.length 0 n]++R:=by
      rw [eS2,←hl1,Q0l _ _ _ _ (Nat.le_refl _),Nat.sub_self];rfl
     have hl2:S2.length=S.length+2:=by rw [eS2,List.length_append,hl1];rfl
     obtain⟨role',rid',h3⟩:=hst S2 (S.length+1) cap' R (by omega) (fun x hx _=>(hg2 x (by omega)).trans (hgl x hx)) (fun x hx=>(hg2 x (by omega)).trans (hgl x (by omega))) ((hg2 _ (by omega)).trans hgn) (by omega) (by omega) (.inr rfl) (by rw [hn2,e0];rfl) (by rw [hR,e0];omega) (by omega)
     have gG2:=(hg2 _ (by omega)).trans gG1
     refine⟨⟨by rw [gG2];exact(by decide:4≤5),by rw [gG2];exact(by decide:0<5)⟩,?_⟩
     subst e0
     refine Q0a ?_
     simp -dsimp only [go_sem,f3]
     exact⟨n-(0+1),by omega,0+1,_,role',O,capO,rid',_,rfl,by omega,h3,rfl⟩
   · rw [e1] at hG
     refine j0w [false,false,false,false,false,false,false,true,false,true] Z0g 76 (.step 0 [] (.step 1 [] (.step 2 [] (.step 3 [] (.step 4 [] (.step 5 [] (.step 6 [] (.step 7 [4] (.step 8 [] (.step 9 [] (.step 10 [] (.step 11 [] (.step 12 [] (.done)))))))))))))) (by decide+kernel) (by simp) ?_
     simp -dsimp only [go_sem,hG,hn]
     have gG1:=(hgl _ hGl).trans hG
     have hfl:=j1s rid n (List.range i)
     have hDl:((S++ [List.replicate n (PV.sl .full [])]).getD D [])=flat ((List.range i).map fun j=>PV.ms true (rid j) 0 n)++R:=by rw [hgl D d2,d4,hfl]
     refine⟨⟨by omega,by omega,by omega⟩,⟨by rw [gG1];exact(by decide:4≤5),by rw [gG1];rfl⟩,GrowOK.mk_one rfl (by decide) (by rw [hDl,hfl,List.length_append,List.length_map,List.length_range,d5];omega) (by omega) (by decide) rfl rfl,fun D' cap' S2 hGr=> ?_⟩
     obtain⟨R',q1,q2,q3,q4,q5,q6,q7⟩:=GrowTo.facts (es:=(List.range i).map fun j=>PV.ms true (rid j) 0 n) hGr (by rw [hl1];omega) hDl (by rw [hfl];simp) rfl d5 d6
     rw [hl1] at q5 q6 q7
     obtain⟨role',rid',h3⟩:=hst S2 D' cap' R' q6 (fun x hx hr=>(q7 x (by omega) fun e=>hr (by rw [e];exact d3)).trans (hgl x hx)) (fun x hx=>(q7 x (by omega) (by omega)).trans (hgl x (by omega))) ((q7 _ (by omega) (by omega)).trans hgn) (by rcases q5 with rfl | rfl<;>omega) q4 (by
      rcases q5 with rfl | rfl
      · exact .inl ⟨d2,d3⟩
      · exact .inr rfl) (by rw [q1,hfl,List.append_assoc];rfl) q2 q3
     have hGD:st.length+1≠D:=fun e=>by
      have e5:=hS.g.2.2.1
      rw [e,d3] at e5;cases e5
     have gG2:=(q7 _ (by omega) hGD).trans gG1
     refine⟨⟨by rw [gG2];exact(by decide:4≤5),by rw [gG2];exact(by decide:0<5)⟩,?_⟩
     refine Q0a ?_
     simp -dsimp only [go_sem,f3]
     exact⟨n-(i+1),by omega,i+1,_,role',O,capO,rid',_,rfl,by omega,h3,rfl⟩
 have hge:i=n:=by have:=of_decide_eq_false h2;omega
 subst hge
 obtain⟨D,capD,rfl,hgrw⟩:=hS.done hn4.1 hn4.2
 simp -dsimp only [go_sem]
 refine Q0h (Q0a ?_)
 simp -dsimp only [go_sem]
 refine Q0x [false,false,false,false,false,false,false,false,false,false,false,false,false,true,false,false,false,false,false,false,false,false,false,false,false,false,false,false,false,false,false,false,false,false,false,false,false,false,false,false,false,false,false,false,false,false,false,false,false,false,false,false,false,false,false,false,false,false,false,false,false,true,true] 0 0
  (fun c s=> ∃k S role O capO cell,c=m-k∧k≤m∧(VN k).2=0∧Grw st S role (st.length+1) O capO D capD jac xs p i rid cell (dlF jac xs p k) (VN k).1∧
   s=⟨[.junk,.junk,.junk,.junk,.junk,.junk,.junk,.junk,.junk,.junk,.junk,.junk,.junk,.gp (st.length+1) 0]++List.replicate 47 .junk++ [.sc (.int .i64 (m:Nat)),.sc (.int .i64 (k:Nat))]++List.replicate 13 .junk,[],[],S⟩) m ?_ ?_
 · simp -dsimp only [go_sem]
   exact⟨0,S,role,O,capO,_,by omega,by omega,by rw [v0],hgrw,rfl⟩
 rintro c s ⟨k,S,role,O,capO,cell,rfl,hk,hz,hS,rfl⟩
 refine Q0h (Q0a ?_)
 simp -dsimp only [go_sem]
 refine Q0h (Q0a ?_)
 simp -dsimp only [go_sem]
 refine ck (fun h3=> ?_) (fun h3=> ?_)
 rotate_left
 · have hge:k=m:=by have:=of_decide_eq_false h3;omega
   subst hge
   have hG:=hS.g.2.2.2
   obtain⟨X,rfl⟩:=hS.old.app
   obtain⟨⟨h1,h2,h3,R,h4,h5⟩,_⟩:=hS.o
   simp -dsimp only [go_sem]
   refine Q0a ?_
   simp -dsimp only [go_sem,hG]
   exact .cs rfl h1 h2 h4 (by rw [hV,hz])
 have hlt:k<m:=by have:=of_decide_eq_true h3;omega
 have f3:=V0a k (by omega)
 have hnx:=hnext S role O capO D capD rid cell k hlt hS hz
 have hfn:=hfin k hlt
 simp -dsimp only [go_sem]
 refine Q0h (X0a (Q0h (Q0a ?_)))
 simp -dsimp only [go_sem]
 refine Q0h (Q0a ?_)
 simp -dsimp only [go_sem]
 refine hnx.mono ?_
 rintro r S' ⟨rfl,hO,hN⟩
 simp -dsimp only [go_sem]
 by_cases e0:(VN (k+1)).2=0
 · have c1:((VN (k+1)).2 !=0)=false:=by rw [e0];rfl
   obtain⟨role',O',capO',cell',hg'⟩:=hN e0
   refine Q0a ?_
   simp -dsimp only [go_sem,c1]
   refine Q0a ?_
   simp -dsimp only [go_sem,f3]
   exact⟨m-(k+1),by omega,k+1,S',role',O',capO',cell',rfl,by omega,e0,hg',rfl⟩
 · have c1:((VN (k+1)).2 !=0)=true:=bne_iff_ne.2 e0
   obtain⟨X,rfl⟩:=hO.app
   refine Q0a ?_
   simp -dsimp only [go_sem,c1]
   exact .err (by rw [hfn e0];rfl)
end Go.Pv
end
section
/-Layer 16:what is told. -/
set_option maxRecDepth 100000
namespace Go.Pv
open Go.Proofs
theorem H1e :wCs []:=⟨by simp,fun i hi=>by simp at hi⟩
theorem U2f {jac:List (List (List Mn))} {xs:List (List Ivl)} {p:Int} {n:Nat} : ∀k,(varN jac xs p n k).2≠0→(varN jac xs p n k).1= []
 | 0,h=>absurd rfl h
 | k+1,h=>by
  rw [varN] at h⊢
  split
  · rfl
  · rename_i c;rw [if_neg c] at h
    split
    · rfl
    · rename_i d;rw [if_neg d] at h
      split
      · rfl
      · rename_i e;rw [if_neg e] at h;exact absurd rfl h
theorem v2v (f:List (List Mn)) (x:List Ivl) (order p:Int):wCs (x0c f x order p).1:=by
 unfold x0c
 split
 · exact H1e
 · rename_i h1
   split
   · exact H1e
   · have h1:=Classical.not_not.1 h1
     obtain⟨rf,rx,lx,hp,m,rfl,hm,hFN⟩:=j1r h1
     rw [Int.toNat_natCast]
     have hn:=((Y0e f).1 rf).1
     by_cases h3:(varN (jacF f).1 (U0z f x m p).1 p f.length m).2=0
     · obtain⟨a1,a2⟩:=x1f hn.1 hn.2 m h3
       have a3:=(H1f (jac:=(jacF f).1) (xs:=(U0z f x m p).1) (n:=f.length) hp m hm).2
       generalize (varN (jacF f).1 (U0z f x m p).1 p f.length m).1=V at a1 a2 a3
       refine⟨by omega,fun i hi=> ?_⟩
       obtain⟨b1,b2⟩:=a2 i (by omega)
       refine⟨by omega,fun r hr=>⟨by rw [b2 r (by omega)];omega,fun j hj=>J0r (z1y a3 i r j)⟩⟩
     · rw [U2f m h3];exact H1e
theorem Q2x {l:List Mx} {h:Ivl} {p:Int} (hl:wCs l):wM (x0e l h p).1:=by
 unfold x0e
 split
 · rename_i c;exact K1v hl c.1 _
 · exact W1l
def k6m :List Mx:= [[[⟨k5o,k5o⟩]],[[⟨k5o,k5o⟩]],[[⟨k5h,k5h⟩]]]
theorem K2k :x0c k5F k5x 2 16=(k6m,0):=by decide+kernel
theorem W3w :x0e k6m ⟨k5o,k5o⟩ 16=([[⟨⟨false, -1,[5]⟩,⟨false, -1,[5]⟩⟩]],0):=by decide+kernel
theorem v3r :wCs k6m:=by rw [show k6m=(x0c k5F k5x 2 16).1 by rw [K2k]];exact v2v _ _ _ _
set_option maxHeartbeats 4000000 in
theorem K2i (st:Q0e):PCalls Tryz.prog 37 [] st (fun r st'=>r= .sc (.bool true)∧st'=st):=by
 have h1:=K2k
 have h2:=W3w
 refine Q0b none Tryz.func37 rfl fun E=>Q0a ?_
 simp -dsimp only [go_sem]
 refine(J1p k5o _ q2x).mono ?_
 rintro r st ⟨rfl,rfl⟩
 simp -dsimp only [go_sem]
 refine(Q2m k5F k5x 2 16 _ v3t v3s).mono ?_
 rintro r st ⟨rfl,rfl⟩
 rw [h1]
 simp -dsimp only [go_sem]
 refine(J1p k5o _ q2x).mono ?_
 rintro r st ⟨rfl,rfl⟩
 simp -dsimp only [go_sem]
 refine(Q2w k6m ⟨k5o,k5o⟩ 16 _ v3r ⟨q2x,q2x⟩).mono ?_
 rintro r st ⟨rfl,rfl⟩
 rw [h2]
 have l3:k6m.length=3:=rfl
 have z0:((0:Int)==0)=true:=rfl
 have z1:(((1:Nat):Int)==1)=true:=rfl
 have z2:((-1:Int)== -1)=true:=rfl
 have z3:(((3:Nat):Int)==3)=true:=rfl
 have q0:(Z0r k6m).getD 2 .junk= .sl .no (encM [[⟨k5h,k5h⟩]]):=rfl
 have q1:(encM [[⟨k5h,k5h⟩]]).getD 0 .junk= .sl .no (Q0s [⟨k5h,k5h⟩]):=rfl
 have q2:(Q0s [⟨k5h,k5h⟩]).getD 0 .junk= .agg (encI ⟨⟨false, -1,[1]⟩,⟨false, -1,[1]⟩⟩):=rfl
 have q3:(encM [[⟨⟨false, -1,[5]⟩,⟨false, -1,[5]⟩⟩]]).getD 0 .junk= .sl .no (Q0s [⟨⟨false, -1,[5]⟩,⟨false, -1,[5]⟩⟩]):=rfl
 have q4:(Q0s [⟨⟨false, -1,[5]⟩,⟨false, -1,[5]⟩⟩]).getD 0 .junk= .agg (encI ⟨⟨false, -1,[5]⟩,⟨false, -1,[5]⟩⟩):=rfl
 have d1:decide (([5]:List UInt64)= [5])=true:=rfl
 simp -dsimp only [go_sem,z0,z1,z2,z3,l3,q0,q1,q2,q3,q4,List.append_eq,List.cons_append,List.nil_append]
 refine(q1w [5] [5] _ (by decide) (by decide)).mono ?_
 rintro r st ⟨rfl,rfl⟩
 simp -dsimp only [go_sem,z0,z1,z2,z3,d1,List.append_eq,List.cons_append,List.nil_append]
end Go.Pv
end
