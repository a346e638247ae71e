/- Parts of the walk: PvBp, N166, N167. -/
import Derived.Test.YtofoadghajnglaaGreatDoorZGC
import Derived.Test.YtofoadghajnglaaGreatDoorZEF
import Derived.Test.YtofoadghajnglaaGreatDoorZCG
import Derived.Test.YtofoadghajnglaaGreatDoorZGB
import Derived.Test.YtofoadghajnglaaGreatDoorZCE
import Derived.Test.YtofoadghajnglaaGreatDoorZAD
set_option linter.unusedVariables false
set_option linter.unusedSimpArgs false
section
/-The store of vary.grower:who lies where. -/
namespace Go.Pv
@[go_sem] theorem J3g {k n c:Nat} :PV.forgetK (.gr k n c)= .gr k n c:=(rfl)
def rowJ (x:List Ivl):List PV:=flat (Q0s x)
theorem Z2p (x:List Ivl) (a:Ivl):rowJ (x++ [a])=rowJ x++encI a:=by
 unfold rowJ
 rw [show Q0s (x++ [a])=Q0s x++ [.agg (encI a)] by simp [Q0s],q1z]
 congr 1
theorem U1x (x:List Ivl): ∀i,i<(Q0s x).length→((Q0s x).getD i .junk).cells.length=6:=fun i hi=>by
 rw [V0k] at hi
 rw [Z0m x i hi];rfl
theorem Q1d (x:List Ivl):(rowJ x).length=x.length*6:=by
 unfold rowJ
 rw [J0b (U1x x),V0k]
theorem Y1c (a:Ivl) (x:List Ivl):rowJ (a::x)=encI a++rowJ x:=rfl
theorem Y1b : ∀(x:List Ivl) (j:Nat) (R:List PV),j<x.length→((rowJ x++R).drop (j*6)).take 6=encI (x.getD j default)
 | [],j,R,h=>by simp at h
 | a::x,0,R,h=>by rw [Y1c];rfl
 | a::x,j+1,R,h=>by
  have ih:=Y1b x j R (by simpa using h)
  rw [Y1c,List.append_assoc,Nat.succ_mul,Nat.add_comm (j*6) 6,←List.drop_drop]
  show((encI a++(rowJ x++R)).drop 6|>.drop (j*6)).take 6=_
  rw [show(encI a++(rowJ x++R)).drop 6=rowJ x++R from rfl,ih]
  rfl
def Old (st S:Q0e):Prop:=st.length≤S.length∧ ∀x,x<st.length→S.getD x []=st.getD x []
theorem Old.app {st S:Q0e} (h:Old st S): ∃X,S=st++X:=by
 refine⟨S.drop st.length,?_⟩
 have hX:=List.take_append_drop st.length S
 rw [←hX]
 congr 1
 · refine List.ext_getElem (by rw [List.length_take];exact Nat.min_eq_left h.1) fun p hp hp2=> ?_
   have e:=h.2 p hp2
   have hp4:p<S.length:=Nat.lt_of_lt_of_le hp2 h.1
   rw [List.getElem_take]
   simpa [List.getD_eq_getElem?_getD,hp2,hp4] using e
 · rw [hX]
theorem Old.step {st S S':Q0e} (h:Old st S) (hl:S.length≤S'.length) (hg: ∀x,x<st.length→S'.getD x []=S.getD x []):Old st S':=⟨Nat.le_trans h.1 hl,fun x hx=>(hg x hx).trans (h.2 x hx)⟩
def dlF (jac:List (List (List Mn))) (xs:List (List Ivl)) (p:Int) (k i l:Nat):List Ivl:=(List.range k).map fun q=>(V0v jac xs p i l q).1
theorem V2x (jac:List (List (List Mn))) (xs:List (List Ivl)) (p:Int) (k i l:Nat):(dlF jac xs p k i l).length=k:=by simp [dlF]
theorem x2c (jac:List (List (List Mn))) (xs:List (List Ivl)) (p:Int) (k i l:Nat):dlF jac xs p (k+1) i l=dlF jac xs p k i l++ [(V0v jac xs p i l k).1]:=by simp [dlF,List.range_succ]
theorem Z3j (jac:List (List (List Mn))) (xs:List (List Ivl)) (p:Int) {k i l q:Nat} (h:q<k):(dlF jac xs p k i l).getD q default=(V0v jac xs p i l q).1:=by simp [dlF,List.getD_eq_getElem?_getD,h]
def CellAt (st S:Q0e) (role:Nat→Nat) (t:Nat) (x:PV) (v:List Ivl):Prop:=
 (v= []∧x= .sl .full [])∨(v≠ []∧ ∃K cap R,x= .gr K v.length cap∧st.length≤K∧K<S.length∧role K=t∧S.getD K []=rowJ v++R∧R.length=(cap-v.length)*6∧v.length≤cap)
structure Grw (st S:Q0e) (role:Nat→Nat) (G O capO D capD:Nat) (jac:List (List (List Mn))) (xs:List (List Ivl)) (p:Int) (n:Nat) (rid:Nat→Nat) (cell:Nat→Nat→PV) (val:Nat→Nat→List Ivl) (ms:List Mx):Prop where
 n4:n≤4
 old:Old st S
 g:st.length≤G∧G<S.length∧role G=0∧S.getD G []= [.sl .no (K0r jac),.sl .no (encM xs),.sc (.int .i64 p),.gr D n capD,.gr O ms.length capO]
 o:CsAt S st.length O capO ms∧role O=1
 d:st.length≤D∧D<S.length∧role D=2∧n≤(S.getD D []).length∧ ∀i,i<n→(S.getD D []).getD i .junk= .ms true (rid i) 0 n
 r: ∀i,i<n→st.length≤rid i∧rid i<S.length∧role (rid i)=3+i∧(S.getD (rid i) []).length=n∧ ∀l,l<n→(S.getD (rid i) []).getD l .junk=cell i l
 c: ∀i,i<n→ ∀l,l<n→CellAt st S role (100+10*i+l) (cell i l) (val i l)
section
variable {st S:Q0e} {role:Nat→Nat} {G O capO D capD:Nat} {jac:List (List (List Mn))} {xs:List (List Ivl)} {p:Int} {n:Nat} {rid:Nat→Nat} {cell:Nat→Nat→PV} {val:Nat→Nat→List Ivl} {ms:List Mx}
theorem Grw.ext (h:Grw st S role G O capO D capD jac xs p n rid cell val ms) {val':Nat→Nat→List Ivl} (hv: ∀i,i<n→ ∀l,l<n→val i l=val' i l):Grw st S role G O capO D capD jac xs p n rid cell val' ms:=
 ⟨h.n4,h.old,h.g,h.o,h.d,h.r,fun i hi l hl=>by rw [←hv i hi l hl];exact h.c i hi l hl⟩
def updV (val:Nat→Nat→List Ivl) (i l:Nat) (c:Ivl):Nat→Nat→List Ivl:=fun i' l'=>if i'=i∧l'=l then val i l++ [c] else val i' l'
theorem CellAt.mono {S':Q0e} {role':Nat→Nat} {t:Nat} {x:PV} {v:List Ivl} (h:CellAt st S role t x v) (hl:S.length≤S'.length) (hr: ∀k,k<S.length→role k=t→role' k=t) (hs: ∀k,k<S.length→role k=t→S'.getD k []=S.getD k []):CellAt st S' role' t x v:=by
 rcases h with h | ⟨h0,K,cap,R,h1,h2,h3,h4,h5,h6,h7⟩
 · exact .inl h
 · exact .inr ⟨h0,K,cap,R,h1,h2,Nat.lt_of_lt_of_le h3 hl,hr K h3 h4,by rw [hs K h3 h4];exact h5,h6,h7⟩
theorem CsAt.mono {S':Q0e} {B:Nat} (h:CsAt S B O capO ms) (hl:S.length≤S'.length) (hs:S'.getD O []=S.getD O []):CsAt S' B O capO ms:=by
 obtain⟨h1,h2,h3,R,h4,h5⟩:=h
 exact⟨h1,Nat.lt_of_lt_of_le h2 hl,h3,R,by rw [hs];exact h4,h5⟩
theorem Grw.put (h:Grw st S role G O capO D capD jac xs p n rid cell val ms) {i l:Nat} (hi:i<n) (hl:l<n) {K' cap':Nat} {R':List PV} {S1:Q0e} {c:Ivl} (h1:S.length≤S1.length) (h2: ∀x,x<S.length→role x≠100+10*i+l→S1.getD x []=S.getD x []) (h2': ∀x,x<st.length→S1.getD x []=S.getD x [])
 (h3:st.length≤K') (h4:K'<S1.length) (h5:(K'<S.length∧role K'=100+10*i+l)∨K'=S.length) (h6:S1.getD K' []=rowJ (val i l++ [c])++R') (h7:R'.length=(cap'-((val i l).length+1))*6) (h8:(val i l).length+1≤cap'):
 ∃role' cell',Grw st (S1.set (rid i) (over (S1.getD (rid i) []) l [.gr K' ((val i l).length+1) cap'])) role' G O capO D capD jac xs p n rid cell' (updV val i l c) ms:=by
 have hn:=h.n4
 obtain⟨r1,r2,r3,r4,r5⟩:=h.r i hi
 refine⟨fun x=>if x=K' then 100+10*i+l else role x,fun i' l'=>if i'=i∧l'=l then .gr K' ((val i l).length+1) cap' else cell i' l',?_⟩
 --an object of another role stays
 have hrole: ∀x,x<S.length→(if x=K' then 100+10*i+l else role x)=role x:=fun x hx=>by
  by_cases e:x=K'
  · rw [if_pos e,e]
    rcases h5 with ⟨_,h5⟩ | h5
    · exact h5.symm
    · omega
  · rw [if_neg e]
 have hne: ∀x,x<S.length→role x≠role (rid i)→rid i≠x:=fun x _ e e2=>e (by rw [e2])
 have hother: ∀x,x<S.length→role x≠100+10*i+l→role x≠3+i→(S1.set (rid i) (over (S1.getD (rid i) []) l [.gr K' ((val i l).length+1) cap'])).getD x []=S.getD x []:=fun x hx e1 e2=>by
  rw [Q0i _ _ _ _ _ (hne x hx (by rw [r3];exact e2))]
  exact h2 x hx e1
 have hrow1:S1.getD (rid i) []=S.getD (rid i) []:=h2 _ r2 (by rw [r3];omega)
 have hlen:S.length≤(S1.set (rid i) (over (S1.getD (rid i) []) l [.gr K' ((val i l).length+1) cap'])).length:=by rw [List.length_set];exact h1
 obtain⟨g1,g2,g3,g4⟩:=h.g
 obtain⟨o1,o2⟩:=h.o
 obtain⟨d1,d2,d3,d4,d5⟩:=h.d
 refine⟨hn,h.old.step hlen fun x hx=> ?_,⟨g1,Nat.lt_of_lt_of_le g2 hlen,?_,?_⟩,⟨o1.mono hlen ?_,?_⟩,⟨d1,Nat.lt_of_lt_of_le d2 hlen,?_,?_,fun i' hi'=> ?_⟩,fun i' hi'=> ?_,fun i' hi' l' hl'=> ?_⟩
 · rw [Q0i _ _ _ _ _ (by omega)];exact h2' x hx
 · rw [hrole G g2];exact g3
 · rw [hother G g2 (by omega) (by omega)];exact g4
 · exact hother O o1.2.1 (by omega) (by omega)
 · rw [hrole O o1.2.1];exact o2
 · rw [hrole D d2];exact d3
 · rw [hother D d2 (by omega) (by omega)];exact d4
 · rw [hother D d2 (by omega) (by omega)];exact d5 i' hi'
 · obtain⟨q1,q2,q3,q4,q5⟩:=h.r i' hi'
   refine⟨q1,Nat.lt_of_lt_of_le q2 hlen,by rw [hrole _ q2];exact q3,?_⟩
   by_cases e:i'=i
   · subst e
     rw [Q0o _ _ _ _ (Nat.lt_of_lt_of_le r2 h1),hrow1]
     have hov:over (S.getD (rid i') []) l [.gr K' ((val i' l).length+1) cap']=(S.getD (rid i') []).set l (.gr K' ((val i' l).length+1) cap'):=by
      unfold over
      rw [List.set_eq_take_append_cons_drop,if_pos (by omega)]
      simp
     rw [hov]
     refine⟨by rw [List.length_set];exact q4,fun l' hl'=> ?_⟩
     by_cases e2:l'=l
     · subst e2
       rw [Q0o _ _ _ _ (by omega),if_pos ⟨rfl,rfl⟩]
     · rw [Q0i _ _ _ _ _ (fun e=>e2 e.symm),if_neg (fun e=>e2 e.2)]
       exact q5 l' hl'
   · rw [hother _ q2 (by omega) (by omega)]
     refine⟨q4,fun l' hl'=> ?_⟩
     rw [if_neg (fun e'=>e e'.1)]
     exact q5 l' hl'
 · by_cases e:i'=i∧l'=l
   · obtain⟨rfl,rfl⟩:=e
     unfold updV
     rw [if_pos ⟨rfl,rfl⟩,if_pos ⟨rfl,rfl⟩]
     refine .inr ⟨by simp,K',cap',R',by simp,h3,by rw [List.length_set];exact h4,if_pos rfl,?_,by simpa using h7,by simpa using h8⟩
     have:rid i'≠K':=fun e=>by
      rcases h5 with ⟨_,h5⟩ | h5
      · rw [←e,r3] at h5;omega
      · omega
     rw [Q0i _ _ _ _ _ this];exact h6
   · unfold updV
     rw [if_neg e,if_neg e]
     refine(h.c i' hi' l' hl').mono hlen (fun k hk hr=>by rw [hrole k hk];exact hr) fun k hk hr=> ?_
     exact hother k hk (by rw [hr];omega) (by rw [hr];omega)
theorem Grw.out (h:Grw st S role G O capO D capD jac xs p n rid cell val ms) {m:Mx} {O' cap':Nat} {S1:Q0e} (hG:GrowTo S O ms.length capO [.sl .no (encM m)] 1 O' cap' S1):
 ∃role',Grw st (S1.set G (over (S1.getD G []) 4 [.gr O' (ms.length+1) cap'])) role' G O' cap' D capD jac xs p n rid cell val (ms++ [m]):=by
 have hn:=h.n4
 obtain⟨g1,g2,g3,g4⟩:=h.g
 obtain⟨o1,o2⟩:=h.o
 obtain⟨d1,d2,d3,d4,d5⟩:=h.d
 obtain⟨c1,c2,c3⟩:=o1.grow h.old.1 hG
 have h5:(O'<S.length∧role O'=1)∨O'=S.length:=by
  rcases hG with ⟨_,rfl,_⟩ | ⟨_,_,rfl,_⟩
  · exact .inl ⟨o1.2.1,o2⟩
  · exact .inr rfl
 refine⟨fun x=>if x=O' then 1 else role x,?_⟩
 have hrole: ∀x,x<S.length→(if x=O' then 1 else role x)=role x:=fun x hx=>by
  by_cases e:x=O'
  · rw [if_pos e,e]
    rcases h5 with ⟨_,h5⟩ | h5
    · exact h5.symm
    · omega
  · rw [if_neg e]
 have hother: ∀x,x<S.length→role x≠1→role x≠0→(S1.set G (over (S1.getD G []) 4 [.gr O' (ms.length+1) cap'])).getD x []=S.getD x []:=fun x hx e1 e2=>by
  rw [Q0i _ _ _ _ _ (fun e=>e2 (by rw [←e];exact g3))]
  exact c3 x hx fun e=>e1 (by rw [e];exact o2)
 have hG1:S1.getD G []=S.getD G []:=c3 G g2 fun e=>by rw [e,o2] at g3;cases g3
 have hlen:S.length≤(S1.set G (over (S1.getD G []) 4 [.gr O' (ms.length+1) cap'])).length:=by rw [List.length_set];exact c2
 have hGO:G≠O':=fun e=>by
  rcases h5 with ⟨_,h5⟩ | h5
  · rw [←e,g3] at h5;cases h5
  · omega
 refine⟨hn,h.old.step hlen fun x hx=> ?_,⟨g1,Nat.lt_of_lt_of_le g2 hlen,by rw [hrole G g2];exact g3,?_⟩,⟨?_,if_pos rfl⟩,⟨d1,Nat.lt_of_lt_of_le d2 hlen,by rw [hrole D d2];exact d3,?_,fun i' hi'=> ?_⟩,fun i' hi'=> ?_,fun i' hi' l' hl'=> ?_⟩
 · rw [Q0i _ _ _ _ _ (by omega)]
   refine c3 x (Nat.lt_of_lt_of_le hx h.old.1) fun e=> ?_
   have:=o1.1;omega
 · rw [Q0o _ _ _ _ (Nat.lt_of_lt_of_le g2 c2),hG1,g4,List.length_append];rfl
 · obtain⟨q1,q2,q3,R,q4,q5⟩:=c1
   refine⟨q1,by rw [List.length_set];exact q2,q3,R,?_,q5⟩
   rw [Q0i _ _ _ _ _ hGO];exact q4
 · rw [hother D d2 (by omega) (by omega)];exact d4
 · rw [hother D d2 (by omega) (by omega)];exact d5 i' hi'
 · obtain⟨q1,q2,q3,q4,q5⟩:=h.r i' hi'
   rw [hother _ q2 (by omega) (by omega)]
   exact⟨q1,Nat.lt_of_lt_of_le q2 hlen,by rw [hrole _ q2];exact q3,q4,q5⟩
 · refine(h.c i' hi' l' hl').mono hlen (fun k hk hr=>by rw [hrole k hk];exact hr) fun k hk hr=> ?_
   exact hother k hk (by rw [hr];omega) (by rw [hr];omega)
end
structure GrwB (st S:Q0e) (role:Nat→Nat) (G O capO:Nat) (jac:List (List (List Mn))) (xs:List (List Ivl)) (p:Int) (n:Nat) (rid:Nat→Nat) (i:Nat) (dpv:PV) (ms:List Mx):Prop where
 old:Old st S
 g:st.length≤G∧G<S.length∧role G=0∧S.getD G []= [.sl .no (K0r jac),.sl .no (encM xs),.sc (.int .i64 p),dpv,.gr O ms.length capO]
 o:CsAt S st.length O capO ms∧role O=1
 d:(i=0∧dpv= .sl .full [])∨(0<i∧ ∃D capD R,dpv= .gr D i capD∧st.length≤D∧D<S.length∧role D=2∧S.getD D []=((List.range i).map fun j=>PV.ms true (rid j) 0 n)++R∧R.length=(capD-i)*1∧i≤capD)
 r: ∀j,j<i→st.length≤rid j∧rid j<S.length∧role (rid j)=3+j∧S.getD (rid j) []=List.replicate n (.sl .full [])
section
variable {st S:Q0e} {role:Nat→Nat} {G O capO:Nat} {jac:List (List (List Mn))} {xs:List (List Ivl)} {p:Int} {n:Nat} {rid:Nat→Nat} {i:Nat} {dpv:PV} {ms:List Mx}
theorem GrwB.step (h:GrwB st S role G O capO jac xs p n rid i dpv ms) {S2:Q0e} {D' cap':Nat} {R':List PV} (h1:S.length+1≤S2.length) (h2: ∀x,x<S.length→role x≠2→S2.getD x []=S.getD x []) (h2': ∀x,x<st.length→S2.getD x []=S.getD x []) (h2n:S2.getD S.length []=List.replicate n (.sl .full []))
 (h3:st.length≤D') (h4:D'<S2.length) (h5:(D'<S.length∧role D'=2)∨D'=S.length+1)
 (h6:S2.getD D' []=(((List.range i).map fun j=>PV.ms true (rid j) 0 n)++ [.ms true S.length 0 n])++R') (h7:R'.length=(cap'-(i+1))*1) (h8:i+1≤cap'):
 ∃role' rid',GrwB st (S2.set G (over (S2.getD G []) 3 [.gr D' (i+1) cap'])) role' G O capO jac xs p n rid' (i+1) (.gr D' (i+1) cap') ms:=by
 obtain⟨g1,g2,g3,g4⟩:=h.g
 obtain⟨o1,o2⟩:=h.o
 have hold:=h.old.1
 refine⟨fun x=>if x=D' then 2 else if x=S.length then 3+i else role x,fun j=>if j=i then S.length else rid j,?_⟩
 have hrole: ∀x,x<S.length→(if x=D' then 2 else if x=S.length then 3+i else role x)=role x:=fun x hx=>by
  by_cases e:x=D'
  · rw [if_pos e,e]
    rcases h5 with ⟨_,h5⟩ | h5
    · exact h5.symm
    · omega
  · rw [if_neg e,if_neg (by omega)]
 have hlen:S.length≤(S2.set G (over (S2.getD G []) 3 [.gr D' (i+1) cap'])).length:=by rw [List.length_set];omega
 have hG:S2.getD G []=S.getD G []:=h2 G g2 (by omega)
 have hother: ∀x,x<S.length→role x≠2→role x≠0→(S2.set G (over (S2.getD G []) 3 [.gr D' (i+1) cap'])).getD x []=S.getD x []:=fun x hx e1 e2=>by
  rw [Q0i _ _ _ _ _ (fun e=>e2 (by rw [←e];exact g3))]
  exact h2 x hx e1
 have hGD:G≠D':=fun e=>by
  rcases h5 with ⟨_,h5⟩ | h5
  · rw [←e,g3] at h5;cases h5
  · omega
 refine⟨h.old.step hlen fun x hx=> ?_,⟨g1,Nat.lt_of_lt_of_le g2 hlen,by rw [hrole G g2];exact g3,?_⟩,⟨o1.mono hlen (hother O o1.2.1 (by omega) (by omega)),by rw [hrole O o1.2.1];exact o2⟩,.inr ⟨by omega,D',cap',R',rfl,h3,by rw [List.length_set];exact h4,if_pos rfl,?_,h7,h8⟩,fun j hj=> ?_⟩
 · rw [Q0i _ _ _ _ _ (by omega)];exact h2' x hx
 · rw [Q0o _ _ _ _ (by omega),hG,g4];rfl
 · rw [Q0i _ _ _ _ _ hGD,h6]
   congr 1
   rw [List.range_succ,List.map_append]
   congr 1
   · refine List.map_congr_left fun j hj=> ?_
     have:=List.mem_range.1 hj
     rw [if_neg (by omega)]
   · show [PV.ms true S.length 0 n]= [PV.ms true (if i=i then S.length else rid i) 0 n]
     rw [if_pos rfl]
 · by_cases e:j=i
   · rw [if_pos e]
     refine⟨hold,by rw [List.length_set];omega,?_,?_⟩
     · have:S.length≠D':=by
        rcases h5 with ⟨h5,_⟩ | h5<;>omega
       rw [if_neg this,if_pos rfl,e]
     · rw [Q0i _ _ _ _ _ (by omega)];exact h2n
   · rw [if_neg e]
     obtain⟨q1,q2,q3,q4⟩:=h.r j (by omega)
     exact⟨q1,Nat.lt_of_lt_of_le q2 hlen,by rw [hrole _ q2];exact q3,by rw [hother _ q2 (by omega) (by omega)];exact q4⟩
theorem GrwB.done (h:GrwB st S role G O capO jac xs p n rid n dpv ms) (h1:1≤n) (h4:n≤4): ∃D capD,dpv= .gr D n capD∧Grw st S role G O capO D capD jac xs p n rid (fun _ _=> .sl .full []) (dlF jac xs p 0) ms:=by
 rcases h.d with ⟨e,_⟩ | ⟨_,D,capD,R,rfl,d1,d2,d3,d4,d5,d6⟩
 · omega
 refine⟨D,capD,rfl,h4,h.old,h.g,h.o,⟨d1,d2,d3,by rw [d4];simp,fun i hi=> ?_⟩,fun i hi=> ?_,fun i hi l hl=> .inl ⟨by simp [dlF],rfl⟩⟩
 · rw [d4,Q0j _ _ _ _ (by simpa using hi)]
   simp [List.getD_eq_getElem?_getD,hi]
 · obtain⟨q1,q2,q3,q4⟩:=h.r i hi
   refine⟨q1,q2,q3,by rw [q4];simp,fun l hl=> ?_⟩
   rw [q4]
   simp [List.getD_eq_getElem?_getD,hl]
end
end Go.Pv
end
section
/-vary.grower:the coefficients of the derivatives grow;one entry of the next matrix. -/
set_option maxRecDepth 100000
namespace Go.Pv
open Go.Proofs
def valM (jac:List (List (List Mn))) (xs:List (List Ivl)) (p:Int) (k i l:Nat):Nat→Nat→List Ivl:=fun i' l'=>dlF jac xs p (if i'<i∨(i'=i∧l'<l) then k+1 else k) i' l'
theorem k1v (jac:List (List (List Mn))) (xs:List (List Ivl)) (p:Int) (k:Nat):valM jac xs p k 0 0=dlF jac xs p k:=by
 funext i l
 unfold valM
 rw [if_neg (by omega)]
theorem Q2p (jac:List (List (List Mn))) (xs:List (List Ivl)) (p:Int) (k i l:Nat):updV (valM jac xs p k i l) i l (V0v jac xs p i l k).1=valM jac xs p k i (l+1):=by
 funext i' l'
 unfold updV valM
 by_cases e:i'=i∧l'=l
 · obtain⟨rfl,rfl⟩:=e
   rw [if_pos ⟨rfl,rfl⟩,if_neg (by omega),if_pos (by omega),x2c]
 · rw [if_neg e]
   by_cases c:i'<i∨(i'=i∧l'<l)
   · rw [if_pos c,if_pos (by omega)]
   · rw [if_neg c,if_neg (by omega)]
theorem U2h (jac:List (List (List Mn))) (xs:List (List Ivl)) (p:Int) (k i n:Nat): ∀i',i'<n→ ∀l',l'<n→valM jac xs p k i n i' l'=valM jac xs p k (i+1) 0 i' l':=fun i' _ l' hl'=>by
 unfold valM
 by_cases c:i'<i∨(i'=i∧l'<n)
 · rw [if_pos c,if_pos (by omega)]
 · rw [if_neg c,if_neg (by omega)]
theorem U2i (jac:List (List (List Mn))) (xs:List (List Ivl)) (p:Int) (k n:Nat): ∀i',i'<n→ ∀l',l'<n→valM jac xs p k n 0 i' l'=dlF jac xs p (k+1) i' l':=fun i' hi' l' _=>by
 unfold valM
 rw [if_pos (by omega)]
def Z4e (st S:Q0e) (G O capO D capD:Nat) (jac:List (List (List Mn))) (xs:List (List Ivl)) (p:Int) (n:Nat) (rid:Nat→Nat) (ms:List Mx) (k:Nat) (r:PV) (S':Q0e):Prop:=
 (slB jac xs p n k=true∧r= .sc (.int .i64 0)∧ ∃role' cell',Grw st S' role' G O capO D capD jac xs p n rid cell' (dlF jac xs p (k+1)) ms)∨(slB jac xs p n k=false∧r= .sc (.int .i64 2)∧Old st S')
set_option maxHeartbeats 4000000 in
theorem W3i (st S:Q0e) (role:Nat→Nat) (G O capO D capD:Nat) (jac:List (List (List Mn))) (xs:List (List Ivl)) (p:Int) (n:Nat) (rid:Nat→Nat) (cell:Nat→Nat→PV) (ms:List Mx) (k:Nat) (h:Grw st S role G O capO D capD jac xs p n rid cell (dlF jac xs p k) ms)
 (wj:wJac jac n) (wx:wXs xs) (hk:k≤10) (he: ∀i,i<n→ ∀l,l<n→e02 (V0v jac xs p i l k).2):
 PCalls Tryz.prog 175 [.gp G 0,.sc (.int .i64 (k:Nat))] S (fun r S'=>Z4e st S G O capO D capD jac xs p n rid ms k r S'):=by
 obtain⟨jl,wj⟩:=wj
 have hn:=h.n4
 rw [←k1v] at h
 have hG:=h.g.2.2.2
 refine Q0b none Tryz.func175 rfl fun E=>Q0a ?_
 simp -dsimp only [go_sem,hG,jl]
 refine Q0x [true,true,false,false,false,false,false,false,false,false,false,false,false,false,true,true,true] 0 0
  (fun c s=> ∃i S' role' cell',c=n-i∧i≤n∧Grw st S' role' G O capO D capD jac xs p n rid cell' (valM jac xs p k i 0) ms∧(∀i',i'<i→ ∀l,l<n→(V0v jac xs p i' l k).2=0)∧
   s=⟨[.gp G 0,.sc (.int .i64 (k:Nat))]++List.replicate 12 .junk++ [.sl .no (K0r jac),.sc (.int .i64 (n:Nat)),.sc (.int .i64 (i:Nat))]++List.replicate 52 .junk,[],[],S'⟩) n ?_ ?_
 · simp -dsimp only [go_sem]
   exact⟨0,S,role,cell,by omega,by omega,h,fun i' hi'=>by omega,rfl⟩
 rintro c s ⟨i,S1,role1,cell1,rfl,hi,hS1,hok,rfl⟩
 refine Q0h (Q0a ?_)
 simp -dsimp only [go_sem]
 refine Q0h (Q0a ?_)
 simp -dsimp only [go_sem]
 refine ck (fun hc=> ?_) (fun hc=> ?_)
 rotate_left
 · have hge:i=n:=by have:=of_decide_eq_false hc;omega
   subst hge
   simp -dsimp only [go_sem]
   refine Q0a ?_
   simp -dsimp only [go_sem]
   exact .inl ⟨slB_iff.2 hok,rfl,role1,cell1,hS1.ext (U2i jac xs p k i)⟩
 have hlt:i<n:=by have:=of_decide_eq_true hc;omega
 have e3:=V0a i (by omega)
 have gJ:=V2o jac i (by omega)
 obtain⟨jl2,wj2⟩:=wj i hlt
 simp -dsimp only [go_sem]
 refine Q0h (X0a (Q0h (Q0a ?_)))
 simp -dsimp only [go_sem,gJ]
 refine⟨by omega,?_⟩
 refine Q0a ?_
 simp -dsimp only [go_sem,jl2]
 refine Q0x [true,true,false,false,false,true,false,false,false,false,false,false,false,false,true,true,true,false,false,false,false,true,true,true] 0 0
  (fun c s=> ∃l S' role' cell',c=n-l∧l≤n∧Grw st S' role' G O capO D capD jac xs p n rid cell' (valM jac xs p k i l) ms∧(∀l',l'<l→(V0v jac xs p i l' k).2=0)∧
   s=⟨[.gp G 0,.sc (.int .i64 (k:Nat)),.junk,.junk,.junk,.sc (.int .i64 (i:Nat))]++List.replicate 8 .junk++ [.sl .no (K0r jac),.sc (.int .i64 (n:Nat)),.sc (.int .i64 (i:Nat)),.junk,.junk,.junk,.junk,.sl .no (X0d (jac.getD i [])),.sc (.int .i64 (n:Nat)),.sc (.int .i64 (l:Nat))]++List.replicate 45 .junk,[],[],S'⟩) n ?_ ?_
 · simp -dsimp only [go_sem]
   exact⟨0,S1,role1,cell1,by omega,by omega,hS1,fun l' hl'=>by omega,rfl⟩
 rintro c s ⟨l,S2,role2,cell2,rfl,hl,hS2,hok2,rfl⟩
 refine Q0h (Q0a ?_)
 simp -dsimp only [go_sem]
 refine Q0h (Q0a ?_)
 simp -dsimp only [go_sem]
 refine ck (fun hc2=> ?_) (fun hc2=> ?_)
 rotate_left
 · have hge:l=n:=by have:=of_decide_eq_false hc2;omega
   subst hge
   simp -dsimp only [go_sem]
   refine Q0a ?_
   simp -dsimp only [go_sem,e3]
   refine⟨l-(i+1),by omega,i+1,S2,role2,cell2,rfl,by omega,hS2.ext (U2h jac xs p k i l),fun i' hi' l' hl'=> ?_,rfl⟩
   by_cases e:i'=i
   · rw [e];exact hok2 l' hl'
   · exact hok i' (by omega) l' hl'
 have hlt2:l<n:=by have:=of_decide_eq_true hc2;omega
 have f3:=V0a l (by omega)
 have gF:=k0l (jac.getD i []) l (by omega)
 have wq:=wj2 l hlt2
 have hG2:=hS2.g.2.2.2
 have hee:=he i hlt l hlt2
 simp -dsimp only [go_sem]
 refine Q0h (X0a (Q0h (Q0a ?_)))
 simp -dsimp only [go_sem,gF]
 refine⟨by omega,?_⟩
 refine Q0h ?_
 refine Q0p Z0g 69 (.step 0 [] (.step 1 [] (.step 2 [] (.step 3 [] (.step 4 [] (.step 5 [] (.step 6 [] (.step 7 [] (.step 8 [] (.step 9 [] (.alt (.step 10 [] (.step 11 [] (.step 12 [] (.step 13 [] (.step 14 [4,9] (.step 15 [] (.step 16 [] (.done)))))))) (.step 14 [4,9] (.step 10 [] (.step 11 [] (.step 12 [] (.step 13 [] (.step 15 [] (.step 16 [] (.done))))))))))))))))))) (by decide+kernel) (by simp) ?_
 have hcs: ∀st,PCalls Tryz.prog 172 [.sl .no (X0l ((jac.getD i []).getD l [])),.sl .no (encM xs),.sc (.int .i64 k),.sc (.int .i64 p)] st (fun r st'=>r= .tup [.agg (encI (V0v jac xs p i l k).1),.sc (.int .i64 (V0v jac xs p i l k).2)]∧st'=st):=fun st=>Z2l ((jac.getD i []).getD l []) xs k p st wq wx
 have hnx:=Q2p jac xs p k i l
 have hsf:(V0v jac xs p i l k).2≠0→slB jac xs p n k=false:=fun hne=>by
  cases e:slB jac xs p n k with
  | false=>rfl
  | true=>exact absurd (slB_iff.1 e i hlt l hlt2) hne
 have hok3:(V0v jac xs p i l k).2=0→ ∀l',l'<l+1→(V0v jac xs p i l' k).2=0:=fun h0 l' hl'=>by
  by_cases e:l'=l
  · rw [e];exact h0
  · exact hok2 l' (by omega)
 refine Exists.elim (⟨_,rfl⟩: ∃Z,Z=V0v jac xs p i l k) fun Z hZ=> ?_
 rw [←hZ] at hcs hnx hsf hok3 hee
 clear hZ
 simp -dsimp only [go_sem,hG2]
 refine And.intro ?_ ?_
 all_goals
  refine(hcs _).mono ?_
  rintro r S' ⟨rfl,rfl⟩
  by_cases hz:Z.2=0
  rotate_left
  · have b0:(Z.2 !=0)=true:=bne_iff_ne.2 hz
    have z2:Z.2=2:=by rcases hee with e | e;exact absurd e hz;exact e
    simp -dsimp only [go_sem,hG2]
    refine Q0a ?_
    simp -dsimp only [go_sem,b0]
    exact .inr ⟨hsf hz,by rw [z2],hS2.old⟩
  have b0:(Z.2 !=0)=false:=by rw [hz];rfl
  simp -dsimp only [go_sem,hG2]
  refine Q0h (Q0a ?_)
  simp -dsimp only [go_sem,b0]
  obtain⟨d1,d2,d3,d4,d5⟩:=hS2.d
  obtain⟨r1,r2,r3,r4,r5⟩:=hS2.r i hlt
  have gD:=d5 i hlt
  have gR:=r5 l hlt2
  have hvl:(valM jac xs p k i l i l).length=k:=by unfold valM;rw [V2x,if_neg (by omega)]
  have hput:=fun K' cap' R' S1=>hS2.put hlt hlt2 (K':=K') (cap':=cap') (R':=R') (S1:=S1) (c:=Z.1)
  rw [hnx,hvl] at hput
  rcases hS2.c i hlt l hlt2 with ⟨v0,c0⟩ | ⟨v0,K,cap,R,c0,c1,c2,c3,c4,c5,c6⟩
  · rw [c0] at gR
    rw [v0] at hput hvl
    have k0:k=0:=hvl.symm
    refine j0w [false,false,false,false,false,false,false,false,false,false,false,false,false,false,false,false,false,false,false,false,true] Z0g 69 (.step 0 [] (.step 1 [] (.step 2 [] (.step 3 [] (.step 4 [] (.step 5 [] (.step 6 [] (.step 7 [] (.step 8 [] (.step 9 [] (.step 10 [] (.step 11 [] (.step 12 [] (.step 13 [] (.step 14 [] (.step 15 [] (.step 16 [] (.step 17 [] (.step 18 [] (.step 19 [] (.step 20 [3,6,11] (.step 21 [] (.step 22 [] (.done)))))))))))))))))))))))) (by decide+kernel) (by simp) ?_
    simp -dsimp only [go_sem,hG2,gD,gR]
    refine⟨⟨by omega,hlt⟩,by omega,⟨by omega,hlt⟩,by omega,⟨by omega,hlt2⟩,by omega,GrowOK.mk_one rfl (by decide) rfl (by omega) (by omega) rfl rfl,fun cap' R hc hR=> ?_⟩
    generalize hS1:S'++ [_]=S1
    have eS1:S1=S'++ [flat [PV.agg (encI Z.1)]++R]:=hS1.symm
    have hgl: ∀x,x<S'.length→S1.getD x []=S'.getD x []:=fun x hx=>by rw [eS1];exact Q0j _ _ _ _ hx
    have hgn:S1.getD S'.length []=rowJ ([]++ [Z.1])++R:=by
     rw [eS1,Q0l _ _ _ _ (Nat.le_refl _),Nat.sub_self];rfl
    have hl1:S1.length=S'.length+1:=by rw [eS1];simp
    obtain⟨role3,cell3,h3⟩:=hput S'.length cap' R S1 (by omega) (fun x hx _=>hgl x hx) (fun x hx=>hgl x (Nat.lt_of_lt_of_le hx hS2.old.1)) hS2.old.1 (by omega) (.inr rfl) hgn (by rw [hR,k0]) (by omega)
    have gG1:=(hgl G hS2.g.2.1).trans hG2
    have gD1:=hgl D d2
    have gR1:=hgl (rid i) r2
    subst k0
    refine⟨⟨⟨by rw [gG1];exact(by decide:4≤5),by rw [gG1];rfl⟩,⟨by rw [gD1];omega,by rw [gD1];exact gD.symm⟩,by rw [gG1];exact(by decide:4≤5),by rw [gG1];rfl⟩,⟨by omega,hlt2⟩,⟨by rw [gR1];omega,by rw [gR1];omega⟩,?_⟩
    refine Q0a ?_
    simp -dsimp only [go_sem,f3]
    exact⟨n-(l+1),by omega,l+1,_,role3,cell3,rfl,by omega,h3,hok3 hz,rfl⟩
  · rw [c0] at gR
    rw [hvl] at gR c5 c6
    refine j0w [false,false,false,false,false,false,false,false,false,false,false,false,false,false,false,false,false,false,false,false,true] Z0g 69 (.step 0 [] (.step 1 [] (.step 2 [] (.step 3 [] (.step 4 [] (.step 5 [] (.step 6 [] (.step 7 [] (.step 8 [] (.step 9 [] (.step 10 [] (.step 11 [] (.step 12 [] (.step 13 [] (.step 14 [] (.step 15 [] (.step 16 [] (.step 17 [] (.step 18 [] (.step 19 [] (.step 20 [3,6,11] (.step 21 [] (.step 22 [] (.done)))))))))))))))))))))))) (by decide+kernel) (by simp) ?_
    simp -dsimp only [go_sem,hG2,gD,gR]
    have hrl:=Q1d (valM jac xs p k i l i l)
    rw [hvl] at hrl
    have hgl:(S'.getD K []).length=cap*6:=by rw [c4,List.length_append,hrl,c5,←Nat.add_mul];congr 1;omega
    refine⟨⟨by omega,hlt⟩,by omega,⟨by omega,hlt⟩,by omega,⟨by omega,hlt2⟩,by omega,GrowOK.mk_one rfl (by decide) hgl (by omega) (by omega) rfl rfl,fun K' cap' S1 hGr=> ?_⟩
    obtain⟨R',f1,f2,f4,f5,f6,f7,f8⟩:=GrowTo.facts (es:=Q0s (valM jac xs p k i l i l)) hGr c2 c4 (by show(rowJ _).length=_;rw [hrl]) rfl c5 c6
    have h5:(K'<S'.length∧role2 K'=100+10*i+l)∨K'=S'.length:=by
     rcases f6 with rfl | rfl
     · exact .inl ⟨c2,c3⟩
     · exact .inr rfl
    have hgl2: ∀x,x<S'.length→role2 x≠100+10*i+l→S1.getD x []=S'.getD x []:=fun x hx hr=>f8 x hx fun e=>hr (by rw [e];exact c3)
    obtain⟨role3,cell3,h3⟩:=hput K' cap' R' S1 f7 hgl2 (fun x hx=>f8 x (Nat.lt_of_lt_of_le hx hS2.old.1) (by omega)) (by
     rcases f6 with rfl | rfl
     · exact c1
     · exact hS2.old.1) f5 h5 (by rw [f1,Z2p,List.append_assoc];rfl) f2 f4
    have gG1:=(hgl2 G hS2.g.2.1 (by rw [hS2.g.2.2.1];omega)).trans hG2
    have gD1:=hgl2 D d2 (by rw [d3];omega)
    have gR1:=hgl2 (rid i) r2 (by rw [r3];omega)
    refine⟨⟨⟨by rw [gG1];exact(by decide:4≤5),by rw [gG1];rfl⟩,⟨by rw [gD1];omega,by rw [gD1];exact gD.symm⟩,by rw [gG1];exact(by decide:4≤5),by rw [gG1];rfl⟩,⟨by omega,hlt2⟩,⟨by rw [gR1];omega,by rw [gR1];omega⟩,?_⟩
    refine Q0a ?_
    simp -dsimp only [go_sem,f3]
    exact⟨n-(l+1),by omega,l+1,_,role3,cell3,rfl,by omega,h3,hok3 hz,rfl⟩
end Go.Pv
end
section
/-vary.grower.at:one entry of the next matrix. -/
set_option maxRecDepth 100000
namespace Go.Pv
open Go.Proofs
set_option maxHeartbeats 4000000 in
theorem Q3i (st S:Q0e) (role:Nat→Nat) (G O capO D capD:Nat) (jac:List (List (List Mn))) (xs:List (List Ivl)) (p:Int) (n:Nat) (rid:Nat→Nat) (cell:Nat→Nat→PV) (val:Nat→Nat→List Ivl) (ms:List Mx) (i j k:Nat) (h:Grw st S role G O capO D capD jac xs p n rid cell val ms)
 (jl:jac.length=n) (hi:i<n) (hj:j<n) (hk:k≤10) (hv: ∀l,l<n→k<(val i l).length) (wv: ∀l,l<n→ ∀y∈val i l,wI y) (hm:k<ms.length) (hms: ∀m,m≤k→(ms.getD m []).length=n∧ ∀l,l<n→((ms.getD m []).getD l []).length=n) (wm: ∀m l j,wI (atM (ms.getD m []) l j)):
 PCalls Tryz.prog 176 [.gp G 0,.sc (.int .i64 (i:Nat)),.sc (.int .i64 (j:Nat)),.sc (.int .i64 (k:Nat))] S
 (fun r S'=>r= .tup [.agg (encI (entV (fun l q=>(val i l).getD q default) p n ms j k).1),.sc (.int .i64 (entV (fun l q=>(val i l).getD q default) p n ms j k).2)]∧S'=S):=by
 have hn:=h.n4
 have hG:=h.g.2.2.2
 obtain⟨d1,d2,d3,d4,d5⟩:=h.d
 obtain⟨r1,r2,r3,r4,r5⟩:=h.r i hi
 have gD:=d5 i hi
 obtain⟨⟨o1,o2,o3,RO,o4,o5⟩,_⟩:=h.o
 have hX:=fun l q (h:q≤k)=>v2x (fun l q=>(val i l).getD q default) k l h
 have hY:=fun l q (h:q≤k)=>v2w ms j k l h
 unfold entV
 generalize varX (fun l q=>(val i l).getD q default) k=X at hX
 generalize varY ms j k=Y at hY
 have hbad: ∀t,t≤n*(k+1)→(dotF X Y p t).2≠0→dotF X Y p (n*(k+1))=(default,(dotF X Y p t).2):=fun t ht he=>by
  have:=w0e he (n*(k+1)-t)
  rwa [show t+(n*(k+1)-t)=n*(k+1) by omega] at this
 have hwS: ∀t,wI (dotF X Y p t).1:=fun t=>J0r (V1v _ _ _ _)
 obtain⟨pk1,pk2,pk3,pk4⟩:=x1w (k+1) (by omega) (by omega)
 have hdiv:=fun st=>K2n (dotF X Y p (n*(k+1))).1 (ptW (k+1)) p st (hwS _) pk1 pk2 pk3 pk4
 refine Exists.elim (⟨_,rfl⟩: ∃V,V=divI (dotF X Y p (n*(k+1))).1 (ptW (k+1)) p) fun V hV=> ?_
 rw [←hV] at hdiv⊢
 clear hV
 refine Exists.elim (⟨_,rfl⟩: ∃F,F=dotF X Y p (n*(k+1))) fun F hF=> ?_
 rw [←hF] at hdiv⊢
 have hbad': ∀t,t≤n*(k+1)→(dotF X Y p t).2≠0→F=(default,(dotF X Y p t).2):=fun t h1 h2=>hF.trans (hbad t h1 h2)
 clear hbad
 refine Q0b none Tryz.func176 rfl fun E=>Q0a ?_
 simp -dsimp only [go_sem,hG,jl]
 refine U0k 0 ?_
 refine U0k 1 ?_
 simp -dsimp only [go_sem]
 refine Q0x [true,true,true,true,false,false,false,false,true,false,true,true,true,false,false,false,false,false,false,false,false,true,true] 2 0
  (fun c s=> ∃l,c=n-l∧l≤n∧(dotF X Y p (l*(k+1))).2=0∧
   s=⟨[.gp G 0,.sc (.int .i64 (i:Nat)),.sc (.int .i64 (j:Nat)),.sc (.int .i64 (k:Nat)),.junk,.junk,.junk,.junk,.lp 0 0,.junk,.lp 1 0,.sc (.int .i64 0),.sc (.bool (decide (0<l)))]++List.replicate 8 .junk++ [.sc (.int .i64 (n:Nat)),.sc (.int .i64 (l:Nat))]++List.replicate 80 .junk,[encI default,encI (dotF X Y p (l*(k+1))).1],[],S⟩) n ?_ ?_
 · simp -dsimp only [go_sem]
   exact⟨0,by omega,by omega,by rw [Nat.zero_mul];rfl,by rw [Nat.zero_mul];rfl⟩
 rintro c s ⟨l,rfl,hl,he,rfl⟩
 refine Q0h (Q0a ?_)
 simp -dsimp only [go_sem]
 refine Q0h (Q0a ?_)
 simp -dsimp only [go_sem]
 refine ck (fun hc=> ?_) (fun hc=> ?_)
 rotate_left
 · have hge:l=n:=by have:=of_decide_eq_false hc;omega
   subst hge
   have e9:IntKind.i64.wrap ((k:Int)+1)=((k+1:Nat):Int):=by rw [Q0k _ (by omega) (by omega)];omega
   have hnI:=fun st=>j0y (k+1) st (by omega)
   rw [k2b (k+1) (by omega)] at hnI
   rw [←hF] at he
   simp -dsimp only [go_sem,←hF]
   refine Q0a ?_
   simp -dsimp only [go_sem]
   refine Q0p Z0g 103 (.step 0 [] (.step 1 [] (.step 2 [] (.step 5 [] (.step 6 [] (.step 7 [] (.step 8 [] (.step 3 [0,8] (.step 4 [0,8] (.step 9 [] (.step 10 [] (.step 11 [] (.step 12 [] (.step 13 [] (.done))))))))))))))) (by decide+kernel) (by simp) ?_
   simp -dsimp only [go_sem,e9,hG]
   refine(hnI _).mono ?_
   rintro r S' ⟨rfl,rfl⟩
   simp -dsimp only [go_sem,hG]
   refine(J1p (ptW (k+1)) _ (V0m pk1)).mono ?_
   rintro r S' ⟨rfl,rfl⟩
   simp -dsimp only [go_sem,hG]
   refine(hdiv _).mono ?_
   rintro r S' ⟨rfl,rfl⟩
   simp -dsimp only [go_sem]
   rw [if_neg (fun h=>h he)]
 have hlt:l<n:=by have:=of_decide_eq_true hc;omega
 have e3:=V0a l (by omega)
 have e9:IntKind.i64.wrap ((k:Int)+1)=((k+1:Nat):Int):=by rw [Q0k _ (by omega) (by omega)];omega
 have gR:=r5 l hlt
 have hvl:=hv l hlt
 rcases h.c i hi l hlt with ⟨v0,c0⟩ | ⟨v0,K,cap,R,c0,c1,c2,c3,c4,c5,c6⟩
 · rw [v0] at hvl;simp at hvl
 rw [c0] at gR
 have gKt:=fun q (hq:q<(val i l).length)=>Y1b (val i l) q R hq
 have hrl:=Q1d (val i l)
 have hKl:(S.getD K []).length=(val i l).length*6+R.length:=by rw [c4,List.length_append,hrl]
 rw [←c4] at gKt
 simp -dsimp only [go_sem]
 refine Q0h (X0a (Q0h (Q0a ?_)))
 simp -dsimp only [go_sem]
 refine Q0a ?_
 simp -dsimp only [go_sem,e9]
 refine Q0x [true,true,true,true,false,false,false,false,true,false,true,true,true,true,false,false,false,false,false,false,false,true,true,false,false,false,true,true] 2 0
  (fun c s=> ∃q,c=k+1-q∧q≤k+1∧(dotF X Y p (l*(k+1)+q)).2=0∧
   s=⟨[.gp G 0,.sc (.int .i64 (i:Nat)),.sc (.int .i64 (j:Nat)),.sc (.int .i64 (k:Nat)),.junk,.junk,.junk,.junk,.lp 0 0,.junk,.lp 1 0,.sc (.int .i64 0),.sc (.bool (decide (0<l+q))),.sc (.int .i64 (l:Nat))]++List.replicate 7 .junk++ [.sc (.int .i64 (n:Nat)),.sc (.int .i64 (l:Nat)),.junk,.junk,.junk,.sc (.int .i64 ((k+1:Nat):Int)),.sc (.int .i64 (q:Nat))]++List.replicate 75 .junk,[encI default,encI (dotF X Y p (l*(k+1)+q)).1],[],S⟩) (k+1) ?_ ?_
 · simp -dsimp only [go_sem]
   exact⟨0,by omega,by omega,he,rfl⟩
 rintro c s ⟨q,rfl,hq,he2,rfl⟩
 refine Q0h (Q0a ?_)
 simp -dsimp only [go_sem]
 refine Q0h (Q0a ?_)
 simp -dsimp only [go_sem]
 refine ck (fun hc2=> ?_) (fun hc2=> ?_)
 rotate_left
 · have hge:q=k+1:=by have:=of_decide_eq_false hc2;omega
   subst hge
   have e5:l*(k+1)+(k+1)=(l+1)*(k+1):=(Nat.succ_mul _ _).symm
   have b1:decide (0<l+(k+1))=decide (0<l+1):=by rw [decide_eq_true (by omega),decide_eq_true (by omega)]
   rw [e5] at he2
   simp -dsimp only [go_sem,e5,b1]
   refine Q0a ?_
   simp -dsimp only [go_sem,e3]
   exact⟨n-(l+1),by omega,l+1,rfl,by omega,he2,rfl⟩
 have hqk:q≤k:=by have:=of_decide_eq_true hc2;omega
 have k3:=V0a q (by omega)
 have k4:IntKind.i64.wrap ((k:Int)-(q:Int))=((k-q:Nat):Int):=by rw [Q0k _ (by omega) (by omega)];omega
 have gK:=gKt q (by omega)
 obtain⟨m1,m2⟩:=hms (k-q) (by omega)
 have m3:=m2 l hlt
 have gO:(S.getD O []).getD (k-q) .junk= .sl .no (encM (ms.getD (k-q) [])):=by
  rw [o4,Q0j _ _ _ _ (by rw [Z0x];omega),K0d ms (k-q) (by omega)]
 have hOl:ms.length≤(S.getD O []).length:=by rw [o4,List.length_append,Z0x];omega
 have g4:=J0w (ms.getD (k-q) []) l (by omega)
 have g5:=Z0m ((ms.getD (k-q) []).getD l []) j (by omega)
 have hx:=hX l q hqk
 have hy:=hY l q hqk
 have wx:wI (X (l*(k+1)+q)):=by rw [hx];exact wv l hlt _ (Q0t _ _ _ (by omega))
 have wy:wI (Y (l*(k+1)+q)):=by rw [hy];exact wm _ _ _
 rw [←hx] at gK
 rw [show((ms.getD (k-q) []).getD l []).getD j default=Y (l*(k+1)+q) from hy.symm] at g5
 have hst:=G1c he2
 have hbd:l*(k+1)+q+1≤n*(k+1):=by
  have:(l+1)*(k+1)≤n*(k+1):=Nat.mul_le_mul_right _ hlt
  rw [Nat.succ_mul] at this;omega
 have hb:=hbad' _ hbd
 have hz0:(l*(k+1)+q=0)↔(l+q=0):=by
  constructor
  · intro h
    have:l=0:=by
     rcases Nat.eq_zero_or_pos l with e | e
     · exact e
     · have:=Nat.mul_le_mul e (Nat.le_refl (k+1));omega
    omega
  · intro h
    have h1:l=0:=by omega
    have h2:q=0:=by omega
    rw [h1,h2,Nat.zero_mul]
 have wS:=hwS (l*(k+1)+q)
 have hcM:=fun st=>q1v (X (l*(k+1)+q)) (Y (l*(k+1)+q)) p st wx wy
 have wz:=v2p 2 (X (l*(k+1)+q)) (Y (l*(k+1)+q)) p
 refine Exists.elim (⟨_,rfl⟩: ∃z,z=opI 2 (X (l*(k+1)+q)) (Y (l*(k+1)+q)) p) fun z hze=> ?_
 rw [←hze] at hst wz hcM
 clear hze
 have hcA:=fun st=>V1q (dotF X Y p (l*(k+1)+q)).1 z.1 p st wS wz
 have b3:decide (0<l+(q+1))=true:=decide_eq_true (by omega)
 simp -dsimp only [go_sem]
 refine Q0h (X0a (Q0h (Q0a ?_)))
 simp -dsimp only [go_sem]
 refine Q0h ?_
 refine Q0p Z0g 103 (.step 0 [] (.step 1 [] (.step 2 [] (.step 3 [] (.step 4 [] (.step 5 [] (.step 6 [] (.step 7 [] (.step 8 [] (.step 9 [] (.step 10 [] (.step 11 [] (.step 12 [] (.step 13 [] (.step 14 [] (.step 15 [] (.step 16 [] (.step 17 [] (.step 18 [] (.step 19 [] (.step 20 [] (.step 21 [] (.step 22 [] (.step 23 [] (.step 24 [] (.step 25 [] (.step 26 [] (.step 27 [] (.step 28 [] (.step 29 [] (.step 30 [] (.step 31 [] (.alt (.step 32 [3,6,16,21] (.step 33 [] (.step 34 [] (.step 35 [] (.step 36 [3,6,9,12,16,21,24,27,31] (.step 37 [] (.step 38 [] (.done)))))))) (.step 36 [3,6,9,12,16,21,24,27,31] (.step 32 [3,6,16,21] (.step 33 [] (.step 34 [] (.step 35 [] (.step 37 [] (.step 38 [] (.done))))))))))))))))))))))))))))))))))))))))) (by decide+kernel) (by simp) ?_
 simp -dsimp only [go_sem,hG,gD,gR,gK,gO,g4,g5,k4]
 have q1:i+1≤(S.getD D []).length:=by omega
 have q2:l+1≤(S.getD (rid i) []).length:=by omega
 have q3:k-q+1≤(S.getD O []).length:=by omega
 have q4:q*6+6≤(S.getD K []).length:=by omega
 have p1:=decide_eq_true q1
 refine⟨⟨by omega,hi⟩,q1,⟨by omega,hlt⟩,q2,⟨by omega,by omega⟩,q4,⟨by omega,by omega⟩,q3,⟨by omega,by omega⟩,⟨by omega,by omega⟩,And.intro ?_ ?_⟩
 · refine(hcM _).mono ?_
   rintro r S' ⟨rfl,rfl⟩
   simp -dsimp only [go_sem,hG,gD,gR,gK,gO]
   refine⟨⟨q1,q3⟩,⟨q1,q2,q4,q3⟩,?_⟩
   by_cases hz:z.2=0
   · have b0:(z.2==0)=true:=by simp [hz]
     rw [if_neg (by rw [hz];decide)] at hst
     by_cases ht:l+q=0
     · have d1:decide (0<l+q)=false:=decide_eq_false (by omega)
       have b2:(z.2 !=0)=false:=by simp [hz]
       rw [if_pos (hz0.2 ht)] at hst
       refine Q0h (Q0a ?_)
       simp -dsimp only [go_sem,b0,d1]
       refine Q0a ?_
       simp -dsimp only [go_sem,b2,k3]
       refine Q0a ?_
       simp -dsimp only [go_sem,k3,b3]
       refine⟨k+1-(q+1),by omega,q+1,rfl,by omega,?_,?_⟩
       · rw [show dotF X Y p (l*(k+1)+(q+1))=z from hst];exact hz
       · rw [show dotF X Y p (l*(k+1)+(q+1))=z from hst,b3]
     · have d1:decide (0<l+q)=true:=decide_eq_true (by omega)
       rw [if_neg (fun h=>ht (hz0.1 h))] at hst
       rw [←hst] at hcA
       refine Exists.elim (⟨_,rfl⟩: ∃W,W=dotF X Y p (l*(k+1)+q+1)) fun W hW=> ?_
       rw [←hW] at hcA hb
       refine Q0h (Q0a ?_)
       simp -dsimp only [go_sem,b0,d1]
       refine Q0p Z0g 103 (.step 0 [] (.step 1 [] (.step 2 [] (.step 3 [] (.step 4 [] (.step 5 [] (.step 6 [] (.step 7 [] (.step 8 [] (.step 9 [] (.step 10 [] (.step 11 [] (.done))))))))))))) (by decide+kernel) (by simp) ?_
       simp -dsimp only [go_sem,hG]
       refine(hcA _).mono ?_
       rintro r S2 ⟨rfl,rfl⟩
       simp -dsimp only [go_sem,hG]
       by_cases hu:W.2=0
       · have b2:(W.2 !=0)=false:=by simp [hu]
         refine Q0a ?_
         simp -dsimp only [go_sem,b2]
         refine Q0a ?_
         simp -dsimp only [go_sem,k3,b3]
         refine⟨k+1-(q+1),by omega,q+1,rfl,by omega,?_,?_⟩
         · rw [show dotF X Y p (l*(k+1)+(q+1))=W from hW.symm];exact hu
         · rw [show dotF X Y p (l*(k+1)+(q+1))=W from hW.symm,b3]
       · have b2:(W.2 !=0)=true:=by simp [hu]
         refine Q0a ?_
         simp -dsimp only [go_sem,b2]
         refine Q0a ?_
         simp -dsimp only [go_sem,b2]
         rw [show(if¬F.2=0 then(default,F.2) else V)=(default,W.2) by rw [hb hu];exact if_pos hu]
         rfl
   · have b0:(z.2==0)=false:=by simp [hz]
     have b2:(z.2 !=0)=true:=by simp [hz]
     rw [if_pos hz] at hst
     refine Q0h (Q0a ?_)
     simp -dsimp only [go_sem,b0]
     refine Q0a ?_
     simp -dsimp only [go_sem,b2]
     refine Q0a ?_
     simp -dsimp only [go_sem,b2]
     rw [show(if¬F.2=0 then(default,F.2) else V)=(default,z.2) by rw [hb (by rw [hst];exact hz),hst];exact if_pos hz]
     rfl
 · refine⟨⟨q1,q2,q4,q3⟩,?_⟩
   refine(hcM _).mono ?_
   rintro r S' ⟨rfl,rfl⟩
   simp -dsimp only [go_sem,hG,gD,gR,gK,gO]
   refine⟨⟨q1,q3⟩,?_⟩
   by_cases hz:z.2=0
   · have b0:(z.2==0)=true:=by simp [hz]
     rw [if_neg (by rw [hz];decide)] at hst
     by_cases ht:l+q=0
     · have d1:decide (0<l+q)=false:=decide_eq_false (by omega)
       have b2:(z.2 !=0)=false:=by simp [hz]
       rw [if_pos (hz0.2 ht)] at hst
       refine Q0h (Q0a ?_)
       simp -dsimp only [go_sem,b0,d1]
       refine Q0a ?_
       simp -dsimp only [go_sem,b2,k3]
       refine Q0a ?_
       simp -dsimp only [go_sem,k3,b3]
       refine⟨k+1-(q+1),by omega,q+1,rfl,by omega,?_,?_⟩
       · rw [show dotF X Y p (l*(k+1)+(q+1))=z from hst];exact hz
       · rw [show dotF X Y p (l*(k+1)+(q+1))=z from hst,b3]
     · have d1:decide (0<l+q)=true:=decide_eq_true (by omega)
       rw [if_neg (fun h=>ht (hz0.1 h))] at hst
       rw [←hst] at hcA
       refine Exists.elim (⟨_,rfl⟩: ∃W,W=dotF X Y p (l*(k+1)+q+1)) fun W hW=> ?_
       rw [←hW] at hcA hb
       refine Q0h (Q0a ?_)
       simp -dsimp only [go_sem,b0,d1]
       refine Q0p Z0g 103 (.step 0 [] (.step 1 [] (.step 2 [] (.step 3 [] (.step 4 [] (.step 5 [] (.step 6 [] (.step 7 [] (.step 8 [] (.step 9 [] (.step 10 [] (.step 11 [] (.done))))))))))))) (by decide+kernel) (by simp) ?_
       simp -dsimp only [go_sem,hG]
       refine(hcA _).mono ?_
       rintro r S2 ⟨rfl,rfl⟩
       simp -dsimp only [go_sem,hG]
       by_cases hu:W.2=0
       · have b2:(W.2 !=0)=false:=by simp [hu]
         refine Q0a ?_
         simp -dsimp only [go_sem,b2]
         refine Q0a ?_
         simp -dsimp only [go_sem,k3,b3]
         refine⟨k+1-(q+1),by omega,q+1,rfl,by omega,?_,?_⟩
         · rw [show dotF X Y p (l*(k+1)+(q+1))=W from hW.symm];exact hu
         · rw [show dotF X Y p (l*(k+1)+(q+1))=W from hW.symm,b3]
       · have b2:(W.2 !=0)=true:=by simp [hu]
         refine Q0a ?_
         simp -dsimp only [go_sem,b2]
         refine Q0a ?_
         simp -dsimp only [go_sem,b2]
         rw [show(if¬F.2=0 then(default,F.2) else V)=(default,W.2) by rw [hb hu];exact if_pos hu]
         rfl
   · have b0:(z.2==0)=false:=by simp [hz]
     have b2:(z.2 !=0)=true:=by simp [hz]
     rw [if_pos hz] at hst
     refine Q0h (Q0a ?_)
     simp -dsimp only [go_sem,b0]
     refine Q0a ?_
     simp -dsimp only [go_sem,b2]
     refine Q0a ?_
     simp -dsimp only [go_sem,b2]
     rw [show(if¬F.2=0 then(default,F.2) else V)=(default,z.2) by rw [hb (by rw [hst];exact hz),hst];exact if_pos hz]
     rfl
end Go.Pv
end
