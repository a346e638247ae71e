/- Parts of the walk: M63, N87, N88, N89, N90, M64, M67. -/
import Derived.Test.YtagacielooaapaaGreatDoorZBR
import Derived.Test.YtagacielooaapaaGreatDoorZAQ
import Derived.Test.YtagacielooaapaaGreatDoorZBE
import Derived.Test.YtagacielooaapaaGreatDoorZBD
import Derived.Test.YtagacielooaapaaGreatDoorZAN
import Derived.Test.YtagacielooaapaaGreatDoorZAR
import Derived.Test.YtagacielooaapaaGreatDoorZBQ
import Derived.Test.YtagacielooaapaaGreatDoorZCB
import Derived.Test.YtagacielooaapaaGreatDoorZE
set_option linter.unusedVariables false
set_option linter.unusedSimpArgs false
section
/-Products,monomials,polynomials,sums of series. No program in it. -/
namespace Go.Pv
def G0g (a b:List Ivl) (k:Nat) (p:Int):List Ivl×Int:=tabF (fun j=>W0e a b j p) 0 (k+1) []
def V0k (s x:List Ivl) (k:Nat) (p:Int):Nat→List Ivl×Int
 | 0=>(s,0)
 | n+1=>if (V0k s x k p n).2≠0 then([],(V0k s x k p n).2) else G0g (V0k s x k p n).1 x k p
def numS (c:Nm) (k:Nat):List Ivl:=⟨c,c⟩::List.replicate k default
def J0e (m:Mn) (xs:List (List Ivl)) (k:Nat) (p:Int):Nat→List Ivl×Int
 | 0=>(numS m.c k,0)
 | i+1=>if (J0e m xs k p i).2≠0 then([],(J0e m xs k p i).2) else V0k (J0e m xs k p i).1 (xs.getD i []) k p (m.ks.getD i 0).toNat
def ofS (q:List Mn) (xs:List (List Ivl)) (k:Nat) (p:Int):Nat→Ivl×Int
 | 0=>(default,0)
 | i+1=>if (ofS q xs k p i).2≠0 then(default,(ofS q xs k p i).2) else
  if (J0e (q.getD i default) xs k p xs.length).2≠0 then(default,(J0e (q.getD i default) xs k p xs.length).2) else
  opI 0 (ofS q xs k p i).1 ((J0e (q.getD i default) xs k p xs.length).1.getD k default) p
def K1z (k p:Int):Bool:=decide (0≤k)&&decide (k≤10)&&Z0h p
def q0y (q:List Mn) (xs:List (List Ivl)) (k:Int) (p:Int):Ivl×Int:=
 if K1z k p=true∧K0a q xs.length=true∧(xs.all fun x=>Y0b x k.toNat)=true then ofS q xs k.toNat p q.length else(default,1)
def sumN (a:List Ivl) (h:Ivl) (p:Int):Nat→Ivl×Int
 | 0=>(a.getD (a.length-1) default,0)
 | i+1=>if (sumN a h p i).2≠0 then(default,(sumN a h p i).2) else
  if (opI 2 (sumN a h p i).1 h p).2≠0 then(default,(opI 2 (sumN a h p i).1 h p).2) else opI 0 (opI 2 (sumN a h p i).1 h p).1 (a.getD (a.length-2-i) default) p
def Z0n (a:List Ivl) (h:Ivl) (p:Int):Ivl×Int:=
 if 1≤a.length∧a.length≤11∧Y0b a (a.length-1)=true∧Q0j h=true∧Z0h p=true then sumN a h p (a.length-1) else(default,1)
theorem H2g {a:List Ivl} {k:Nat} (h:Y0b a k=true):k<a.length:=by
 unfold Y0b at h
 simp only [Bool.and_eq_true,decide_eq_true_eq] at h
 exact h.1
theorem w2g {a:List Ivl} {k j:Nat} (h:Y0b a k=true) (hj:j≤k):Q0j (a.getD j default)=true:=by
 have hl:=H2g h
 unfold Y0b at h
 simp only [Bool.and_eq_true,decide_eq_true_eq,List.all_eq_true] at h
 refine h.2 _ ?_
 rw [show a.getD j default=a[j]'(by omega) by simp [List.getD_eq_getElem?_getD,(by omega:j<a.length)]]
 exact List.mem_take_iff_getElem.2 ⟨j,by omega,rfl⟩
theorem Z1j {a:List Ivl} {k:Nat} (hl:k<a.length) (h: ∀j,j≤k→Q0j (a.getD j default)=true):Y0b a k=true:=by
 unfold Y0b
 simp only [Bool.and_eq_true,decide_eq_true_eq,List.all_eq_true]
 refine⟨hl,fun x hx=> ?_⟩
 obtain⟨j,hj,rfl⟩:=List.mem_take_iff_getElem.1 hx
 have:=h j (by omega)
 rw [show a.getD j default=a[j]'(by omega) by simp [List.getD_eq_getElem?_getD,(by omega:j<a.length)]] at this
 exact this
theorem V2r (a b:List Ivl) (k:Nat) (p:Int): ∀x∈(G0g a b k p).1,wI x:=by
 unfold G0g
 refine Y1h (fun x=>wI x) (k+1) 0 [] (fun j _ _=> ?_) (fun x hx=>by cases hx)
 show wI (W0e a b j p).1
 have key: ∀(l:List (Ivl×Ivl)) (sm:Bool) (s:Ivl),wI s→wI (j0b p l sm s).1:=by
  intro l
  induction l with
  | nil=>intro sm s hs;exact hs
  | cons x l ih=>
   intro sm s hs
   rw [x0t]
   split
   · split
     · split
       · exact ih _ _ (G0d (W0z _ _ _ _))
       · exact W0v
     · exact ih _ _ (G0d (W0z _ _ _ _))
   · exact W0v
 unfold W0e
 split
 · exact key _ _ _ W0v
 · exact W0v
theorem Z2y (a b:List Ivl) (k:Nat) (p:Int):(G0g a b k p).1.length≤k+1:=by
 have:=Y1i (G:=fun j=>W0e a b j p) (k+1) 0 []
 simpa [G0g] using this
theorem V3m {c:Nm} (hc:wN c) (k:Nat): ∀x∈numS c k,wI x:=fun x hx=>by
 unfold numS at hx
 rcases List.mem_cons.1 hx with rfl | hx
 · exact⟨hc,hc⟩
 · rw [(List.mem_replicate.1 hx).2];exact W0v
theorem y1m {s x:List Ivl} {k:Nat} {p:Int} (hs:s.length≤k+1∧ ∀y∈s,wI y): ∀n,(V0k s x k p n).1.length≤k+1∧ ∀y∈(V0k s x k p n).1,wI y
 | 0=>hs
 | n+1=>by
  rw [V0k]
  split
  · exact⟨Nat.zero_le _,fun y hy=>by cases hy⟩
  · exact⟨Z2y _ _ _ _,V2r _ _ _ _⟩
theorem Y1y {m:Mn} {xs:List (List Ivl)} {k:Nat} {p:Int} (hm:wN m.c): ∀i,(J0e m xs k p i).1.length≤k+1∧ ∀y∈(J0e m xs k p i).1,wI y
 | 0=>⟨by simp [J0e,numS],V3m hm k⟩
 | i+1=>by
  rw [J0e]
  split
  · exact⟨Nat.zero_le _,fun y hy=>by cases hy⟩
  · exact y1m (Y1y hm i) _
theorem y0c {s x:List Ivl} {k:Nat} {p:Int} {n:Nat} (h:(V0k s x k p n).2≠0): ∀d,(V0k s x k p (n+d)).2=(V0k s x k p n).2
 | 0=>rfl
 | d+1=>by
  rw [←Nat.add_assoc,V0k,if_pos (by rw [y0c h d];exact h),y0c h d]
theorem y0b {m:Mn} {xs:List (List Ivl)} {k:Nat} {p:Int} {i:Nat} (h:(J0e m xs k p i).2≠0): ∀d,(J0e m xs k p (i+d)).2=(J0e m xs k p i).2
 | 0=>rfl
 | d+1=>by
  rw [←Nat.add_assoc,J0e,if_pos (by rw [y0b h d];exact h),y0b h d]
theorem U1a {q:List Mn} {xs:List (List Ivl)} {k:Nat} {p:Int} {i:Nat} (h:(ofS q xs k p i).2≠0): ∀d,ofS q xs k p (i+1+d)=(default,(ofS q xs k p i).2)
 | 0=>by rw [Nat.add_zero,ofS,if_pos h]
 | d+1=>by
  rw [←Nat.add_assoc,ofS,if_pos (by rw [U1a h d];exact h),U1a h d]
end Go.Pv
end
section
/-Products and monomials of series. -/
set_option maxRecDepth 100000
namespace Go.Pv
open Go.Proofs
theorem q0q (l:List Ivl) (x:Ivl):Q0t l++ [PV.agg [.sc (.bool x.lo.neg),.sc (.int .i64 x.lo.exp),.sl .no (encW x.lo.w),.sc (.bool x.hi.neg),.sc (.int .i64 x.hi.exp),.sl .no (encW x.hi.w)]]=Q0t (l++ [x]):=by simp [Q0t,encI,encN]
theorem X2l (a b:List Ivl) (k:Nat) (p:Int) (st:Q0f) (hk:k≤10) (la:a.length≤1000000) (lb:b.length≤1000000) (wa: ∀x∈a,wI x) (wb: ∀x∈b,wI x):
 PCalls Tryz.prog 210 [.sl .no (Q0t a),.sl .no (Q0t b),.sc (.int .i64 k),.sc (.int .i64 p)] st
 (fun r st'=>r= .tup [.sl .no (Q0t (G0g a b k p).1),.sc (.int .i64 (G0g a b k p).2)]∧st'=st):=by
 refine Q0b none Tryz.func210 rfl fun E=>Q0a ?_
 have wk:IntKind.i64.wrap ((k:Int)+1)=((k+1:Nat):Int):=by rw [Q0h _ (by omega) (by omega)];omega
 simp -dsimp only [go_sem,wk]
 refine X0k 10 6 ?_
 simp -dsimp only [go_sem]
 refine Q0d [true,true,false,true,false,false,false,false,false,false,true,false,false,false,false,true,true] 0 1
  (fun m s=> ∃(j:Nat) (o:List Ivl),m=k+1-j∧j≤k+1∧o.length=j∧tabF (fun j=>W0e a b j p) j (k+1-j) o=G0g a b k p∧
   s=⟨[.sl .no (Q0t a),.sl .no (Q0t b),.junk,.sc (.int .i64 p),.junk,.junk,.junk,.junk,.junk,.junk,.sl (.own 0) (Q0t o),.junk,.junk,.junk,.junk,.sc (.int .i64 ((k+1:Nat):Int)),.sc (.int .i64 (j:Nat))]++List.replicate 19 .junk,[],[(j,6)],st⟩) (k+1) ?_ ?_
 · simp -dsimp only [go_sem]
   exact⟨0,[],by omega,by omega,rfl,rfl,rfl⟩
 · rintro m s ⟨j,o,rfl,hj,ho,ht,rfl⟩
   simp -dsimp only [go_sem]
   refine ck (fun h=> ?_) (fun h=> ?_)
   · have hlt:j<k+1:=by have:=of_decide_eq_true h;omega
     have e3:IntKind.i64.wrap ((j:Int)+1)=((j+1:Nat):Int):=by rw [Q0h _ (by omega) (by omega)];omega
     rw [Z1v _ hlt] at ht
     simp -dsimp only [go_sem]
     refine(v3n a b j p _ (by omega) la lb wa wb).mono ?_
     rintro r st ⟨rfl,rfl⟩
     generalize W0e a b j p=c at ht⊢
     by_cases hc:c.2=0
     · have ec:(c.2 !=0)=false:=by rw [hc];rfl
       rw [if_neg (by rw [hc];decide)] at ht
       have hsn:=q0q o c.1
       simp -dsimp only [go_sem,ec,e3,hsn,ho]
       exact⟨by omega,k+1-(j+1),by omega,j+1,o++ [c.1],rfl,by omega,by simp [ho],ht,rfl⟩
     · have ec:(c.2 !=0)=true:=bne_iff_ne.2 hc
       rw [if_pos hc] at ht
       simp -dsimp only [go_sem,ec]
       rw [←ht]
       rfl
   · have hge:j=k+1:=by have:=of_decide_eq_false h;omega
     subst hge
     rw [w1j] at ht
     simp -dsimp only [go_sem]
     refine K0b [false,false,false,false,false,false,false,false,false,false,true] (Q0a ?_)
     simp -dsimp only [go_sem]
     rw [←ht]
theorem z3j (n:Nat):repC n (encI default)=flat (Q0t (List.replicate n default)):=by
 simp [repC,flat,Q0t,PV.cells]
theorem k2r (c:Nm) (k:Nat):over (flat (Q0t (List.replicate (k+1) default))) 0 (encI ⟨c,c⟩)=flat (Q0t (numS c k)):=by
 have:=H2p (List.replicate (k+1) default) 0 ⟨c,c⟩ (by simp) 0 (encI ⟨c,c⟩) (by simp [encI,encN]) rfl
 rw [Nat.zero_mul,Nat.zero_add] at this
 rw [this];rfl
set_option maxHeartbeats 4000000 in
theorem W2p (m:Mn) (xs:List (List Ivl)) (k:Nat) (p:Int) (st:Q0f) (hk:k≤10) (hm:wMn m) (hr:J0v m.ks=true) (hl:m.ks.length=xs.length) (lx:xs.length≤1000000) (wx: ∀i,i<xs.length→(xs.getD i []).length≤1000000∧ ∀y∈xs.getD i [],wI y):
 PCalls Tryz.prog 153 [.agg (k0h m),.sl .no (encM xs),.sc (.int .i64 k),.sc (.int .i64 p)] st
 (fun r st'=>r= .tup [.sl .no (Q0t (if (J0e m xs k p xs.length).2=0 then(J0e m xs k p xs.length).1 else [])),.sc (.int .i64 (J0e m xs k p xs.length).2)]∧st'=st):=by
 have fin: ∀i,i≤xs.length→(J0e m xs k p i).2≠0→(J0e m xs k p xs.length).2=(J0e m xs k p i).2:=fun i hi he=>by
  have:=y0b he (xs.length-i)
  rw [show i+(xs.length-i)=xs.length by omega] at this
  exact this
 generalize hR:J0e m xs k p xs.length=R at fin⊢
 refine Q0b none Tryz.func153 rfl fun E=>Q0a ?_
 have wk:IntKind.i64.wrap ((k:Int)+1)=((k+1:Nat):Int):=by rw [Q0h _ (by omega) (by omega)];omega
 simp -dsimp only [go_sem,wk]
 refine⟨⟨by omega,by omega,by omega⟩,?_⟩
 refine(Q2g m.c _ hm.1).mono ?_
 rintro r st ⟨rfl,rfl⟩
 simp -dsimp only [go_sem]
 have r1:over (repC (k+1) [.sc (.bool false),.sc (.int .i64 0),.sl .no [],.sc (.bool false),.sc (.int .i64 0),.sl .no []]) 0 [.sc (.bool m.c.neg),.sc (.int .i64 m.c.exp),.sl .no (encW m.c.w),.sc (.bool m.c.neg),.sc (.int .i64 m.c.exp),.sl .no (encW m.c.w)]=flat (Q0t (numS m.c k)):=by
  have:=k2r m.c k
  rw [←z3j] at this
  exact this
 refine⟨by simp [q0b];omega,?_⟩
 refine q0c 1 6 ?_ ?_
 · simp only [V0n]
   exact H2l (H2k rfl) rfl
 have r2:=y2u (numS m.c k) (k+1) (by simp [numS])
 have r3:(flat (Q0t (numS m.c k))).length=(k+1)*6:=by rw [z1i];simp [numS]
 simp -dsimp only [go_sem,y1k,w1s,r1,r2,r3]
 refine Q0a ?_
 simp -dsimp only [go_sem]
 have ok0:=fun i=>Y1y (m:=m) (xs:=xs) (k:=k) (p:=p) hm.1 i
 refine Q0d [false,true,true,true,false,false,false,false,false,false,true,false,false,false,false,false,false,false,false,false,false,false,false,false,true,true,true] 0 0
  (fun c s'=> ∃i,c=xs.length-i∧i≤xs.length∧(J0e m xs k p i).2=0∧
   s'=⟨[.junk,.sl .no (encM xs),.sc (.int .i64 (k:Nat)),.sc (.int .i64 p),.junk,.junk,.junk,.junk,.junk,.junk,.sl .no (Q0t (J0e m xs k p i).1)]++List.replicate 13 .junk++ [.sl .no (encZ m.ks),.sc (.int .i64 (xs.length:Nat)),.sc (.int .i64 (i:Nat))]++List.replicate 25 .junk,[],[],st⟩) xs.length ?_ ?_
 · simp -dsimp only [go_sem,hl]
   exact⟨0,by omega,by omega,rfl,rfl⟩
 · rintro c s' ⟨i,rfl,hi,he,rfl⟩
   simp -dsimp only [go_sem]
   refine ck (fun h=> ?_) (fun h=> ?_)
   · have hlt:i<xs.length:=by have:=of_decide_eq_true h;omega
     have e3:IntKind.i64.wrap ((i:Int)+1)=((i+1:Nat):Int):=by rw [Q0h _ (by omega) (by omega)];omega
     have g1:=Y0w m.ks i (by omega)
     have g2:=U1t xs i hlt
     have hat:=K0l hr i (by omega)
     have hk8:m.ks.getD i 0=((m.ks.getD i 0).toNat:Int):=by omega
     have hk9:(m.ks.getD i 0).toNat≤8:=by omega
     have hstep:J0e m xs k p (i+1)=V0k (J0e m xs k p i).1 (xs.getD i []) k p (m.ks.getD i 0).toNat:=by rw [J0e,if_neg (by rw [he];decide)]
     have oks:=ok0 i
     obtain⟨lx1,lx2⟩:=wx i hlt
     have fin1:=fin (i+1) (by omega)
     rw [hstep] at fin1
     rw [hk8] at g1
     generalize (m.ks.getD i 0).toNat=n at*
     generalize (J0e m xs k p i).1=s0 at*
     simp -dsimp only [go_sem,g1]
     refine⟨by omega,?_⟩
     refine Q0d [false,true,true,true,false,false,false,false,false,false,true,true,false,false,false,false,false,false,false,false,false,false,false,false,true,true,true,false,false,false,false,true,true] 0 0
      (fun c s'=> ∃j,c=n-j∧j≤n∧(V0k s0 (xs.getD i []) k p j).2=0∧
       s'=⟨[.junk,.sl .no (encM xs),.sc (.int .i64 (k:Nat)),.sc (.int .i64 p),.junk,.junk,.junk,.junk,.junk,.junk,.sl .no (Q0t (V0k s0 (xs.getD i []) k p j).1),.sc (.int .i64 (i:Nat))]++List.replicate 12 .junk++ [.sl .no (encZ m.ks),.sc (.int .i64 (xs.length:Nat)),.sc (.int .i64 (i:Nat)),.junk,.junk,.junk,.junk,.sc (.int .i64 (n:Nat)),.sc (.int .i64 (j:Nat))]++List.replicate 19 .junk,[],[],st⟩) n ?_ ?_
     · simp -dsimp only [go_sem]
       exact⟨0,by omega,by omega,rfl,rfl⟩
     · rintro c s' ⟨j,rfl,hj,hej,rfl⟩
       simp -dsimp only [go_sem]
       refine ck (fun h2=> ?_) (fun h2=> ?_)
       · have hlt2:j<n:=by have:=of_decide_eq_true h2;omega
         have e4:IntKind.i64.wrap ((j:Int)+1)=((j+1:Nat):Int):=by rw [Q0h _ (by omega) (by omega)];omega
         have okn:=y1m (x:=xs.getD i []) (p:=p) oks j
         have hstep2:V0k s0 (xs.getD i []) k p (j+1)=G0g (V0k s0 (xs.getD i []) k p j).1 (xs.getD i []) k p:=by rw [V0k,if_neg (by rw [hej];decide)]
         simp -dsimp only [go_sem,g2]
         refine⟨by omega,?_⟩
         refine(X2l (V0k s0 (xs.getD i []) k p j).1 (xs.getD i []) k p _ hk (by omega) lx1 okn.2 lx2).mono ?_
         rintro r st ⟨rfl,rfl⟩
         rw [←hstep2]
         by_cases hz:(V0k s0 (xs.getD i []) k p (j+1)).2=0
         · have ez:((V0k s0 (xs.getD i []) k p (j+1)).2 !=0)=false:=by rw [hz];rfl
           simp -dsimp only [go_sem,ez,e4]
           exact⟨n-(j+1),by omega,j+1,rfl,by omega,hz,rfl⟩
         · have ez:((V0k s0 (xs.getD i []) k p (j+1)).2 !=0)=true:=bne_iff_ne.2 hz
           have hst:=y0c hz (n-(j+1))
           rw [show j+1+(n-(j+1))=n by omega] at hst
           have hall:=fin1 (by rw [hst];exact hz)
           rw [hst] at hall
           simp -dsimp only [go_sem,ez]
           rw [hall,if_neg hz]
           rfl
       · have hge:j=n:=by have:=of_decide_eq_false h2;omega
         subst hge
         simp -dsimp only [go_sem]
         refine Q0a ?_
         simp -dsimp only [go_sem,e3]
         refine⟨xs.length-(i+1),by omega,i+1,rfl,by omega,by rw [hstep];exact hej,by rw [hstep]⟩
   · have hge:i=xs.length:=by have:=of_decide_eq_false h;omega
     subst hge
     simp -dsimp only [go_sem]
     refine Q0a ?_
     simp -dsimp only [go_sem]
     rw [hR] at he⊢
     rw [he,if_pos rfl]
end Go.Pv
end
section
/-series.Of:a polynomial of series. -/
set_option maxRecDepth 100000
namespace Go.Pv
open Go.Proofs
def wXs (xs:List (List Ivl)):Prop:=xs.length≤1000000∧ ∀i,i<xs.length→(xs.getD i []).length≤1000000∧ ∀y∈xs.getD i [],wI y
theorem Z3p {q:List Mn} {xs:List (List Ivl)} {k:Nat} {p:Int} : ∀i,wI (ofS q xs k p i).1
 | 0=>W0v
 | i+1=>by
  rw [ofS]
  split
  · exact W0v
  · split
    · exact W0v
    · exact G0d (W0z _ _ _ _)
theorem U1m {l:List Ivl} (h: ∀y∈l,wI y) (k:Nat):wI (l.getD k default):=by
 by_cases hk:k<l.length
 · exact h _ (Q0q _ _ _ hk)
 · rw [U0q _ _ _ (by omega)];exact W0v
theorem z2w {xs:List (List Ivl)} {k:Nat} :(xs.all fun x=>Y0b x k)=true↔ ∀i,i<xs.length→Y0b (xs.getD i []) k=true:=by
 rw [List.all_eq_true]
 constructor
 · intro h i hi;exact h _ (Q0q _ _ _ hi)
 · intro h x hx
   obtain⟨i,hi,rfl⟩:=List.mem_iff_getElem.1 hx
   have:=h i hi
   rwa [show xs.getD i []=xs[i] by simp [List.getD_eq_getElem?_getD,hi]] at this
theorem V2x {s x:List Ivl} {k n:Nat} {p:Int} (hs:s.length=k+1) (h:(V0k s x k p n).2=0):(V0k s x k p n).1.length=k+1:=by
 cases n with
 | zero=>exact hs
 | succ n=>
  rw [V0k] at h⊢
  split at h
  · rename_i c;exact absurd h c
  · rename_i c
    rw [if_neg c]
    have:=K0v h
    exact this.1
theorem H1v {m:Mn} {xs:List (List Ivl)} {k:Nat} {p:Int} : ∀i,(J0e m xs k p i).2=0→(J0e m xs k p i).1.length=k+1
 | 0,_=>by simp [J0e,numS]
 | i+1,h=>by
  rw [J0e] at h⊢
  split at h
  · rename_i c;exact absurd h c
  · rename_i c
    rw [if_neg c]
    exact V2x (H1v i (Classical.not_not.1 c)) h
set_option maxHeartbeats 4000000 in
theorem K3k (q:List Mn) (xs:List (List Ivl)) (k p:Int) (st:Q0f) (wq:wP q) (wx:wXs xs):
 PCalls Tryz.prog 90 [.sl .no (X0c q),.sl .no (encM xs),.sc (.int .i64 k),.sc (.int .i64 p)] st
 (fun r st'=>r= .tup [.agg (encI (q0y q xs k p).1),.sc (.int .i64 (q0y q xs k p).2)]∧st'=st):=by
 have hdef:K1z k p=true→K0a q xs.length=true→q0y q xs k p=if (xs.all fun x=>Y0b x k.toNat)=true then ofS q xs k.toNat p q.length else(default,1):=fun h1 h2=>by
  unfold q0y
  by_cases h3:(xs.all fun x=>Y0b x k.toNat)=true
  · rw [if_pos ⟨h1,h2,h3⟩,if_pos h3]
  · rw [if_neg (fun h=>h3 h.2.2),if_neg h3]
 refine Q0b none Tryz.func90 rfl fun E=>Q0a ?_
 simp -dsimp only [go_sem]
 refine(V1k k p st).mono ?_
 rintro r st ⟨rfl,rfl⟩
 cases v:decide (0≤k)&&decide (k≤10)&&Z0h p with
 | false=>
  simp -dsimp only [go_sem]
  unfold q0y
  rw [if_neg (fun h=>by have h1:=h.1;unfold K1z at h1;rw [v] at h1;cases h1)]
  rfl
 | true=>
  have v':=v
  simp only [Bool.and_eq_true,decide_eq_true_eq] at v'
  obtain⟨⟨k0,k10⟩,hp⟩:=v'
  obtain⟨n,rfl⟩:=Int.eq_ofNat_of_zero_le k0
  have hn:n≤10:=by omega
  rw [Int.toNat_natCast] at hdef
  simp -dsimp only [go_sem]
  refine(X1u q xs.length _ wq).mono ?_
  rintro r st ⟨rfl,rfl⟩
  cases hr:K0a q xs.length with
  | false=>
   simp -dsimp only [go_sem]
   unfold q0y
   rw [if_neg (fun h=>by rw [hr] at h;exact absurd h.2.1 (by decide))]
   rfl
  | true=>
  rw [hdef v hr]
  generalize hU:(xs.all fun x=>Y0b x n)=U
  have hall:=z2w (xs:=xs) (k:=n)
  rw [hU] at hall
  have rr:=hr
  simp -dsimp only [go_sem]
  refine X0b 0 ?_
  simp -dsimp only [go_sem]
  refine Q0d [true,true,true,true,false,false,false,false,true,false,false,false,false,false,false,false,false,false,false,false,false,false,false,false,false,false,false,false,false,true,true,true] 1 0
   (fun c s'=> ∃i,c=xs.length-i∧i≤xs.length∧(∀j,j<i→Y0b (xs.getD j []) n=true)∧
    s'=⟨[.sl .no (X0c q),.sl .no (encM xs),.sc (.int .i64 (n:Nat)),.sc (.int .i64 p),.junk,.junk,.junk,.junk,.lp 0 0]++List.replicate 20 .junk++ [.sl .no (encM xs),.sc (.int .i64 (xs.length:Nat)),.sc (.int .i64 (i:Nat))]++List.replicate 43 .junk,[encI default],[],st⟩) xs.length ?_ ?_
  · simp -dsimp only [go_sem]
    exact⟨0,by omega,by omega,fun j hj=>absurd hj (by omega),rfl⟩
  · rintro c s' ⟨i,rfl,hi,hup,rfl⟩
    have wx1:=wx.1
    simp -dsimp only [go_sem]
    refine ck (fun h=> ?_) (fun h=> ?_)
    · have hlt:i<xs.length:=by have:=of_decide_eq_true h;omega
      have e3:IntKind.i64.wrap ((i:Int)+1)=((i+1:Nat):Int):=by rw [Q0h _ (by omega) (by omega)];omega
      have g2:=U1t xs i hlt
      obtain⟨lx1,lx2⟩:=wx.2 i hlt
      simp -dsimp only [go_sem,g2]
      refine⟨by omega,?_⟩
      refine(x0l (xs.getD i []) n _ hn lx1 lx2).mono ?_
      rintro r st ⟨rfl,rfl⟩
      cases hu:(decide (n<(xs.getD i []).length)&&((xs.getD i []).take (n+1)).all Q0j) with
      | false=>
       have hno:U≠true:=fun e=>by
        have:=hall.1 e i hlt
        unfold Y0b at this
        rw [hu] at this;cases this
       simp -dsimp only [go_sem]
       rw [if_neg hno]
       rfl
      | true=>
       simp -dsimp only [go_sem,e3]
       refine⟨xs.length-(i+1),by omega,i+1,rfl,by omega,fun j hj=> ?_,rfl⟩
       by_cases e:j=i
       · rw [e];exact hu
       · exact hup j (by omega)
    · have hge:i=xs.length:=by have:=of_decide_eq_false h;omega
      subst hge
      rw [if_pos (hall.2 hup)]
      clear hall hU
      have fin: ∀i,i<q.length→(ofS q xs n p i).2≠0→ofS q xs n p q.length=(default,(ofS q xs n p i).2):=fun i hi he=>by
       have:=U1a he (q.length-(i+1))
       rw [show i+1+(q.length-(i+1))=q.length by omega] at this
       exact this
      have fin2: ∀i,i<q.length→(ofS q xs n p i).2=0→(ofS q xs n p (i+1)).2≠0→ofS q xs n p q.length=(default,(ofS q xs n p (i+1)).2):=fun i hi h0 he=>by
       by_cases hl:i+1<q.length
       · exact fin (i+1) hl he
       · have:i+1=q.length:=by omega
         rw [←this]
         have hd:(ofS q xs n p (i+1)).1=default:=by
          rw [ofS,if_neg (by rw [h0];decide)] at he⊢
          split
          · rfl
          · rename_i c
            rw [if_neg c] at he
            exact U2f 0 _ _ _ he
         exact Prod.ext hd rfl
      generalize hR:ofS q xs n p q.length=R at fin fin2⊢
      simp -dsimp only [go_sem]
      refine Q0a ?_
      simp -dsimp only [go_sem]
      refine X0b 1 ?_
      simp -dsimp only [go_sem]
      have hS: ∀i,wI (ofS q xs n p i).1:=fun i=>Z3p i
      refine Q0d [false,true,true,true,false,false,false,false,true,false,false,false,true,false,false,false,false,false,false,false,false,false,false,false,false,false,false,false,false,false,false,false,false,false,false,false,false,false,false,false,false,true,true,true] 2 0
       (fun c s'=> ∃i,c=q.length-i∧i≤q.length∧(ofS q xs n p i).2=0∧
        s'=⟨[.junk,.sl .no (encM xs),.sc (.int .i64 (n:Nat)),.sc (.int .i64 p),.junk,.junk,.junk,.junk,.lp 0 0,.junk,.junk,.junk,.lp 1 0]++List.replicate 28 .junk++ [.sl .no (X0c q),.sc (.int .i64 (q.length:Nat)),.sc (.int .i64 (i:Nat))]++List.replicate 31 .junk,[encI default,encI (ofS q xs n p i).1],[],st⟩) q.length ?_ ?_
      · simp -dsimp only [go_sem]
        exact⟨0,by omega,by omega,rfl,rfl⟩
      · rintro c s' ⟨i,rfl,hi,he,rfl⟩
        have wq1:=wq.1
        simp -dsimp only [go_sem]
        refine ck (fun h2=> ?_) (fun h2=> ?_)
        · have hlt:i<q.length:=by have:=of_decide_eq_true h2;omega
          have e3:IntKind.i64.wrap ((i:Int)+1)=((i+1:Nat):Int):=by rw [Q0h _ (by omega) (by omega)];omega
          have g3:=z0v q i hlt
          have hmono:=j1i rr hlt
          have hwm:=wq.2 i hlt
          have hstep:ofS q xs n p (i+1)=if (J0e (q.getD i default) xs n p xs.length).2≠0 then(default,(J0e (q.getD i default) xs n p xs.length).2) else opI 0 (ofS q xs n p i).1 ((J0e (q.getD i default) xs n p xs.length).1.getD n default) p:=by rw [ofS,if_neg (by rw [he];decide)]
          have f2:=fin2 i hlt he
          rw [hstep] at f2
          have hov:=Y1y (m:=q.getD i default) (xs:=xs) (k:=n) (p:=p) hwm.1 xs.length
          have hovl:=H1v (m:=q.getD i default) (xs:=xs) (k:=n) (p:=p) xs.length
          have hSi:=hS i
          simp -dsimp only [go_sem,g3]
          refine⟨by omega,?_⟩
          refine(W2p (q.getD i default) xs n p _ hn hwm hmono.2.1 (by have:=hmono.1;omega) wx.1 wx.2).mono ?_
          rintro r st ⟨rfl,rfl⟩
          generalize hO:J0e (q.getD i default) xs n p xs.length=O at hov hovl f2 hstep⊢
          by_cases hz:O.2=0
          · have ez:(O.2 !=0)=false:=by rw [hz];rfl
            have hln:=hovl hz
            have gI:=J0u O.1 n (by omega)
            rw [if_neg (by rw [hz];decide)] at hstep f2
            simp -dsimp only [go_sem,hz,ez,gI]
            refine Q0l Z0t 75 (.step 0 [] (.step 1 [] (.step 2 [] (.step 3 [] (.step 4 [] (.step 5 [] (.step 6 [] (.step 7 [] (.step 8 [] (.step 9 [] (.step 10 [] (.step 11 [] (.done))))))))))))) (by decide+kernel) (by simp) ?_
            simp -dsimp only [go_sem,gI]
            refine⟨⟨by omega,by omega⟩,?_⟩
            refine(k1s (ofS q xs n p i).1 (O.1.getD n default) p _ hSi (U1m hov.2 n)).mono ?_
            rintro r st ⟨rfl,rfl⟩
            rw [←hstep] at f2⊢
            have hS1:=hS (i+1)
            by_cases hz2:(ofS q xs n p (i+1)).2=0
            · have ez2:((ofS q xs n p (i+1)).2 !=0)=false:=by rw [hz2];rfl
              simp -dsimp only [go_sem,hz2,ez2,e3]
              exact⟨q.length-(i+1),by omega,i+1,rfl,by omega,hz2,rfl⟩
            · have ez2:((ofS q xs n p (i+1)).2 !=0)=true:=bne_iff_ne.2 hz2
              simp -dsimp only [go_sem,ez2]
              rw [f2 hz2]
              rfl
          · have ez:(O.2 !=0)=true:=bne_iff_ne.2 hz
            rw [if_pos hz] at f2
            simp -dsimp only [go_sem,ez]
            rw [f2 hz]
            rfl
        · have hge:i=q.length:=by have:=of_decide_eq_false h2;omega
          subst hge
          simp -dsimp only [go_sem]
          refine Q0a ?_
          simp -dsimp only [go_sem]
          rw [hR] at he⊢
          rw [he]
end Go.Pv
end
section
/-series.Sum:a series at h. -/
set_option maxRecDepth 100000
namespace Go.Pv
open Go.Proofs
def Y1v (v x h:Ivl) (p:Int):Ivl×Int:=if (opI 2 v h p).2≠0 then(default,(opI 2 v h p).2) else opI 0 (opI 2 v h p).1 x p
theorem W2o (v x h:Ivl) (p:Int) (k4 k5:Nat) (st:Q0f) (wv:wI v) (wx:wI x) (wh:wI h) (h4:st.getD k4 []=encI h) (h5:st.getD k5 []= [.sc (.int .i64 p)]) (l4:k4<st.length) (l5:k5<st.length):
 PCalls Tryz.prog 158 [.agg (encI v),.agg (encI x),.gp k4 0,.gp k5 0] st
 (fun r st'=>r= .tup [.agg (encI (Y1v v x h p).1),.sc (.int .i64 (Y1v v x h p).2)]∧st'=st):=by
 refine Q0b none Tryz.func158 rfl fun E=>Q0a ?_
 have h4':=h4
 simp only [encI,encN,List.cons_append,List.nil_append] at h4'
 simp -dsimp only [go_sem,h4',h5]
 refine(G2x v h p _ wv wh).mono ?_
 rintro r st ⟨rfl,rfl⟩
 have wm:=G0d (W0z 2 v h p)
 unfold Y1v
 by_cases hz:(opI 2 v h p).2=0
 · have ez:((opI 2 v h p).2 !=0)=false:=by rw [hz];rfl
   rw [if_neg (by rw [hz];decide)]
   simp -dsimp only [go_sem,hz,ez,h4',h5]
   refine(k1s (opI 2 v h p).1 x p _ wm wx).mono ?_
   rintro r st ⟨rfl,rfl⟩
   simp -dsimp only [go_sem]
 · have ez:((opI 2 v h p).2 !=0)=true:=bne_iff_ne.2 hz
   rw [if_pos hz]
   simp -dsimp only [go_sem,ez]
   rfl
theorem Z1w {a:List Ivl} {h:Ivl} {p:Int} {i:Nat} (e:(sumN a h p i).2≠0): ∀d,sumN a h p (i+1+d)=(default,(sumN a h p i).2)
 | 0=>by rw [Nat.add_zero,sumN,if_pos e]
 | d+1=>by rw [←Nat.add_assoc,sumN,if_pos (by rw [Z1w e d];exact e),Z1w e d]
theorem Z1x {a:List Ivl} {h:Ivl} {p:Int} {i:Nat} (e:(sumN a h p i).2=0):sumN a h p (i+1)=Y1v (sumN a h p i).1 (a.getD (a.length-2-i) default) h p:=by
 rw [sumN,if_neg (by rw [e];decide),Y1v]
theorem Y2x {v x h:Ivl} {p:Int} (e:(Y1v v x h p).2≠0):Y1v v x h p=(default,(Y1v v x h p).2):=by
 unfold Y1v at e⊢
 split
 · rfl
 · rename_i c
   rw [if_neg c] at e
   exact Prod.ext (U2f 0 _ _ _ e) rfl
theorem W2a {a:List Ivl} {h:Ivl} {p:Int} (wa: ∀x∈a,wI x) (i:Nat):wI (sumN a h p i).1:=by
 cases i with
 | zero=>exact U1m wa _
 | succ i=>
  rw [sumN]
  split
  · exact W0v
  · split
    · exact W0v
    · exact G0d (W0z _ _ _ _)
set_option maxHeartbeats 4000000 in
theorem j2c (a:List Ivl) (h:Ivl) (p:Int) (st:Q0f) (la:a.length≤1000000) (wa: ∀x∈a,wI x) (wh:wI h):
 PCalls Tryz.prog 93 [.sl .no (Q0t a),.agg (encI h),.sc (.int .i64 p)] st
 (fun r st'=>r= .tup [.agg (encI (Z0n a h p).1),.sc (.int .i64 (Z0n a h p).2)]∧st'=st):=by
 refine X1x (Q:=fun r _=>r= .tup [.agg (encI (Z0n a h p).1),.sc (.int .i64 (Z0n a h p).2)]) ?_
 refine Q0b none Tryz.func93 rfl fun E=>Q0n (Q0a ?_)
 have bad: ¬(1≤a.length∧a.length≤11∧Y0b a (a.length-1)=true∧Q0j h=true∧Z0h p=true)→Z0n a h p=(default,1):=fun hn=>by unfold Z0n;rw [if_neg hn]
 simp -dsimp only [go_sem]
 refine Q0n (Q0a ?_)
 simp -dsimp only [go_sem]
 by_cases c1:1≤a.length∧a.length≤11
 · have d1:decide ((a.length:Int)<1)=false:=decide_eq_false (by omega)
   have d2:decide ((a.length:Int)>11)=false:=decide_eq_false (by omega)
   have e1:IntKind.i64.wrap ((a.length:Int)-1)=((a.length-1:Nat):Int):=by rw [Q0h _ (by omega) (by omega)];omega
   refine Q0n (Q0a ?_)
   simp -dsimp only [go_sem,d1,d2,e1]
   refine(x0l a (a.length-1) st (by omega) la wa).mono ?_
   rintro r st ⟨rfl,rfl⟩
   rw [show(decide (a.length-1<a.length)&&(a.take (a.length-1+1)).all Q0j)=Y0b a (a.length-1) from rfl]
   cases ha:Y0b a (a.length-1) with
   | false=>
    rw [bad (fun x=>by rw [ha] at x;exact absurd x.2.2.1 (by decide))]
    simp -dsimp only [go_sem]
    exact⟨⟨[],by simp⟩,W0n _ default _,rfl⟩
   | true=>
   simp -dsimp only [go_sem]
   refine(U0o h st wh).mono ?_
   rintro r st ⟨rfl,rfl⟩
   cases hh:Q0j h with
   | false=>
    rw [bad (fun x=>by rw [hh] at x;exact absurd x.2.2.2.1 (by decide))]
    simp -dsimp only [go_sem]
    exact⟨⟨[],by simp⟩,W0n _ default _,rfl⟩
   | true=>
   simp -dsimp only [go_sem]
   refine(H0e p st).mono ?_
   rintro r st ⟨rfl,rfl⟩
   cases hp:Z0h p with
   | false=>
    rw [bad (fun x=>by rw [hp] at x;exact absurd x.2.2.2.2 (by decide))]
    simp -dsimp only [go_sem]
    exact⟨⟨[],by simp⟩,W0n _ default _,rfl⟩
   | true=>
   have hs:Z0n a h p=sumN a h p (a.length-1):=by unfold Z0n;rw [if_pos ⟨c1.1,c1.2,ha,hh,hp⟩]
   rw [hs]
   simp -dsimp only [go_sem]
   refine Q0n (Q0a ?_)
   simp -dsimp only [go_sem]
   refine Q0n (Q0a ?_)
   simp -dsimp only [go_sem]
   refine X0b 2 ?_
   simp -dsimp only [go_sem]
   refine Y0s 0 (by simp [go_sem]) (by simp) ?_
   simp -dsimp only [go_sem]
   refine Y0s 1 (by simp [go_sem]) (by simp) ?_
   simp -dsimp only [go_sem]
   have gI:=J0u a (a.length-1) (by omega)
   have rl:=w2g ha (Nat.le_refl _)
   have wl:=U1m wa (a.length-1)
   have mk:k1l (a.getD (a.length-1) default).lo (a.getD (a.length-1) default).hi=(a.getD (a.length-1) default,0):=by unfold k1l;rw [if_pos rl]
   refine Q0l Z0t 81 (.step 0 [] (.step 1 [] (.step 2 [] (.step 3 [] (.step 4 [] (.step 5 [] (.step 6 [] (.step 7 [] (.step 8 [] (.step 9 [] (.step 10 [] (.step 11 [] (.alt (.step 12 [] (.step 13 [] (.step 14 [] (.step 15 [] (.step 16 [5,11] (.step 17 [] (.step 18 [] (.done)))))))) (.step 16 [5,11] (.step 12 [] (.step 13 [] (.step 14 [] (.step 15 [] (.step 17 [] (.step 18 [] (.done))))))))))))))))))))) (by decide+kernel) (by simp) ?_
   simp -dsimp only [go_sem,e1,gI]
   refine⟨⟨by omega,by omega⟩,⟨by omega,by omega⟩,?_⟩
   have e2:IntKind.i64.wrap ((a.length:Int)-2)=(a.length:Int)-2-((0:Nat):Int):=by rw [Q0h _ (by omega) (by omega)];omega
   have w0:=wl
   rw [show a.getD (a.length-1) default=(sumN a h p 0).1 from rfl] at wl
   have hw: ∀i,wI (sumN a h p i).1:=fun i=>W2a wa i
   have fin: ∀i,i<a.length-1→(sumN a h p i).2=0→(sumN a h p (i+1)).2≠0→sumN a h p (a.length-1)=(default,(sumN a h p (i+1)).2):=fun i hi h0 he=>by
    by_cases hl:i+1=a.length-1
    · rw [←hl,Z1x h0]
      rw [Z1x h0] at he
      exact Y2x he
    · have:=Z1w he (a.length-1-(i+1+1))
      rw [show i+1+1+(a.length-1-(i+1+1))=a.length-1 by omega] at this
      exact this
   refine And.intro ?_ ?_
   all_goals
    refine(Q2h _ _ _ w0.1 w0.2).mono ?_
    rintro r st' ⟨rfl,rfl⟩
    simp -dsimp only [go_sem,mk]
    refine Q0a ?_
    simp -dsimp only [go_sem,e2]
    refine Q0d [true,false,false,false,false,false,true,false,false,true,true,true,true] 4 0
     (fun c s'=> ∃i,c=a.length-1-i∧i≤a.length-1∧((sumN a h p i).2≠0→sumN a h p (a.length-1)=(default,(sumN a h p i).2))∧
      s'=⟨[.sl .no (Q0t a),.junk,.junk,.junk,.junk,.junk,.lp 2 0,.junk,.junk,.fn (.func 158) [] [.gp st.length 0,.gp (st.length+1) 0],.lp 3 0,.sc (.int .i64 (sumN a h p i).2),.sc (.int .i64 ((a.length:Int)-2-(i:Nat)))]++List.replicate 68 .junk,[[],[],encI default,encI (sumN a h p i).1],[],st++ [encI h,[.sc (.int .i64 p)]]⟩) (a.length-1) ?_ ?_
    · simp -dsimp only [go_sem,List.append_assoc,List.cons_append,List.nil_append]
      exact⟨0,by omega,by omega,fun hh=>absurd rfl hh,rfl⟩
    · rintro c s' ⟨i,rfl,hi,he,rfl⟩
      by_cases hlt:i<a.length-1
      · have d3:decide ((a.length:Int)-2-(i:Nat)≥0)=true:=decide_eq_true (by omega)
        by_cases hz:(sumN a h p i).2=0
        · have e3:IntKind.i64.wrap ((a.length:Int)-2-(i:Nat)-1)=(a.length:Int)-2-((i+1:Nat):Int):=by rw [Q0h _ (by omega) (by omega)];omega
          have e4:(a.length:Int)-2-(i:Nat)=((a.length-2-i:Nat):Int):=by omega
          have gJ:=J0u a (a.length-2-i) (by omega)
          have fi:=fin i hlt hz
          have hst:=Z1x (a:=a) (h:=h) (p:=p) hz
          have wi:=hw i
          have wj:=U1m wa (a.length-2-i)
          rw [e4] at d3 e3
          simp -dsimp only [go_sem,e4,d3,hz]
          refine Q0a ?_
          simp -dsimp only [go_sem]
          refine Q0l Z0t 81 (.step 0 [] (.step 1 [] (.step 2 [] (.step 3 [] (.step 4 [] (.step 5 [] (.step 6 [] (.step 7 [] (.step 8 [] (.step 9 [] (.step 10 [] (.step 11 [] (.done))))))))))))) (by decide+kernel) (by simp) ?_
          simp -dsimp only [go_sem,gJ]
          refine⟨⟨by omega,by omega⟩,?_⟩
          refine(W2o (sumN a h p i).1 (a.getD (a.length-2-i) default) h p st.length (st.length+1) _ wi wj wh (by rw [Y0z];rfl) (by rw [G0a];rfl) (by simp) (by simp)).mono ?_
          rintro r st' ⟨rfl,rfl⟩
          rw [←hst]
          simp -dsimp only [go_sem,e3]
          refine⟨a.length-1-(i+1),by omega,i+1,rfl,by omega,fi,rfl⟩
        · have hn:=he hz
          have ez:((sumN a h p i).2==0)=false:=beq_eq_false_iff_ne.2 hz
          have ez2:((sumN a h p i).2 !=0)=true:=bne_iff_ne.2 hz
          simp -dsimp only [go_sem,d3,ez]
          refine Q0a ?_
          simp -dsimp only [go_sem,ez2]
          rw [hn]
          exact⟨⟨_,rfl⟩,W0n _ default _,rfl⟩
      · have d3:decide ((a.length:Int)-2-(i:Nat)≥0)=false:=decide_eq_false (by omega)
        have hie:i=a.length-1:=by omega
        simp -dsimp only [go_sem,d3]
        refine Q0a ?_
        by_cases hz:(sumN a h p i).2=0
        · have ez2:((sumN a h p i).2 !=0)=false:=by rw [hz];rfl
          simp -dsimp only [go_sem,ez2]
          rw [←hie,hz]
          exact⟨⟨_,rfl⟩,W0n _ (sumN a h p i).1 _,rfl⟩
        · have hn:=he hz
          have ez2:((sumN a h p i).2 !=0)=true:=bne_iff_ne.2 hz
          simp -dsimp only [go_sem,ez2]
          rw [hn]
          exact⟨⟨_,rfl⟩,W0n _ default _,rfl⟩
 · refine Q0n (Q0a ?_)
   have hb:=bad (fun x=>c1 ⟨x.1,x.2.1⟩)
   rw [hb]
   by_cases c2:1≤a.length
   · have d1:decide ((a.length:Int)<1)=false:=decide_eq_false (by omega)
     have d2:decide ((a.length:Int)>11)=true:=decide_eq_true (by omega)
     simp -dsimp only [go_sem,d1,d2]
     exact⟨⟨[],by simp⟩,W0n _ default _,rfl⟩
   · have d1:decide ((a.length:Int)<1)=true:=decide_eq_true (by omega)
     simp -dsimp only [go_sem,d1]
     exact⟨⟨[],by simp⟩,W0n _ default _,rfl⟩
end Go.Pv
end
section
/-flow.Sum:each series at h. -/
set_option maxRecDepth 100000
namespace Go.Pv
open Go.Proofs
def j0m (l:List (List Ivl)) (h:Ivl) (p:Int):List Ivl×Int:=
 if 1≤l.length∧l.length≤4 then
  if (l.any fun a=>decide ((Z0n a h p).2=1))=true then([],1) else tabF (fun j=>Z0n (l.getD j []) h p) 0 l.length []
 else([],1)
theorem any_one {l:List (List Ivl)} {h:Ivl} {p:Int} :(l.any fun a=>decide ((Z0n a h p).2=1))=true↔ ∃j,j<l.length∧(Z0n (l.getD j []) h p).2=1:=by
 rw [List.any_eq_true]
 constructor
 · rintro⟨x,hx,e⟩
   obtain⟨i,hi,rfl⟩:=List.mem_iff_getElem.1 hx
   exact⟨i,hi,by rw [show l.getD i []=l[i] by simp [List.getD_eq_getElem?_getD,hi]];exact of_decide_eq_true e⟩
 · rintro⟨j,hj,e⟩
   exact⟨_,Q0q _ _ _ hj,decide_eq_true e⟩
set_option maxHeartbeats 4000000 in
theorem q1y (l:List (List Ivl)) (h:Ivl) (p:Int) (st:Q0f) (wl:wXs l) (wh:wI h):
 PCalls Tryz.prog 40 [.sl .no (encM l),.agg (encI h),.sc (.int .i64 p)] st
 (fun r st'=>r= .tup [.sl .no (Q0t (j0m l h p).1),.sc (.int .i64 (j0m l h p).2)]∧st'=st):=by
 refine Q0b none Tryz.func40 rfl fun E=>Q0a ?_
 by_cases c1:1≤l.length∧l.length≤4
 · have d1:decide ((l.length:Int)<1)=false:=decide_eq_false (by omega)
   have d2:decide ((l.length:Int)>4)=false:=decide_eq_false (by omega)
   have hs:j0m l h p=if (l.any fun a=>decide ((Z0n a h p).2=1))=true then([],1) else tabF (fun j=>Z0n (l.getD j []) h p) 0 l.length []:=by unfold j0m;rw [if_pos c1]
   rw [hs]
   generalize hA:(l.any fun a=>decide ((Z0n a h p).2=1))=A
   have hall:=any_one (l:=l) (h:=h) (p:=p)
   rw [hA] at hall
   simp -dsimp only [go_sem,d1,d2]
   refine X0k 8 6 ?_
   simp -dsimp only [go_sem]
   refine Q0d [false,false,true,false,true,false,false,false,true,true,false,false,false,false,false,false,false,false,false,false,false,false,true,true,true] 1 1
    (fun c s'=> ∃(i:Nat) (o:List Ivl) (b:Int),c=l.length-i∧i≤l.length∧o.length=i∧(∀j,j<i→(Z0n (l.getD j []) h p).2≠1)∧
     (b=0→tabF (fun j=>Z0n (l.getD j []) h p) i (l.length-i) o=tabF (fun j=>Z0n (l.getD j []) h p) 0 l.length [])∧
     (b≠0→tabF (fun j=>Z0n (l.getD j []) h p) 0 l.length []=([],b))∧
     s'=⟨[.junk,.junk,.sc (.int .i64 p),.junk,.lp 0 0,.junk,.junk,.junk,.sl (.own 0) (Q0t o),.sc (.int .i64 b)]++List.replicate 12 .junk++ [.sl .no (encM l),.sc (.int .i64 (l.length:Nat)),.sc (.int .i64 (i:Nat))]++List.replicate 27 .junk,[encI h],[(i,6)],st⟩) l.length ?_ ?_
   · simp -dsimp only [go_sem]
     exact⟨0,[],0,by omega,by omega,rfl,fun j hj=>absurd hj (by omega),fun _=>rfl,fun hh=>absurd rfl hh,rfl⟩
   · rintro c s' ⟨i,o,b,rfl,hi,ho,h1,hb0,hb1,rfl⟩
     have wl1:=wl.1
     simp -dsimp only [go_sem]
     refine ck (fun hk=> ?_) (fun hk=> ?_)
     · have hlt:i<l.length:=by have:=of_decide_eq_true hk;omega
       have e3:IntKind.i64.wrap ((i:Int)+1)=((i+1:Nat):Int):=by rw [Q0h _ (by omega) (by omega)];omega
       have g2:=U1t l i hlt
       obtain⟨lx1,lx2⟩:=wl.2 i hlt
       simp -dsimp only [go_sem,g2]
       refine⟨by omega,?_⟩
       refine(j2c (l.getD i []) h p _ lx1 lx2 wh).mono ?_
       rintro r st ⟨rfl,rfl⟩
       have hsn:=q0q o (Z0n (l.getD i []) h p).1
       have hgo: ∀j,j<i+1→j≠i→(Z0n (l.getD j []) h p).2≠1:=fun j hj hne=>h1 j (by omega)
       have hgo2:(Z0n (l.getD i []) h p).2≠1→ ∀j,j<i+1→(Z0n (l.getD j []) h p).2≠1:=fun hx j hj=>by
        by_cases e:j=i
        · rw [e];exact hx
        · exact hgo j hj e
       have hb0':b=0→(if (Z0n (l.getD i []) h p).2≠0 then([],(Z0n (l.getD i []) h p).2) else tabF (fun j=>Z0n (l.getD j []) h p) (i+1) (l.length-(i+1)) (o++ [(Z0n (l.getD i []) h p).1]))=tabF (fun j=>Z0n (l.getD j []) h p) 0 l.length []:=
        fun e=>(Z1v (fun j=>Z0n (l.getD j []) h p) hlt o).symm.trans (hb0 e)
       have hst:Z0n (l.getD i []) h p=Z0n (l.getD i []) h p:=rfl
       generalize hS:Z0n (l.getD i []) h p=S at hsn hgo2 hb0'⊢
       by_cases s1:S.2=1
       · have q1:(S.2==1)=true:=by rw [s1];rfl
         rw [if_pos (hall.2 ⟨i,hlt,by rw [hS];exact s1⟩)]
         simp -dsimp only [go_sem,s1,q1]
       · have q1:(S.2==1)=false:=beq_eq_false_iff_ne.2 s1
         have q2:(b==0)=decide (b=0):=by by_cases e:b=0<;>simp [e]
         by_cases eb:b=0
         · subst eb
           simp -dsimp only [go_sem,q1,e3,hsn,ho]
           refine⟨by omega,l.length-(i+1),by omega,i+1,o++ [S.1],S.2,rfl,by omega,by simp [ho],hgo2 s1,fun e=> ?_,fun e=> ?_,rfl⟩
           · have:=hb0' rfl
             rwa [if_neg (by rw [e];decide)] at this
           · have:=hb0' rfl
             rw [if_pos e] at this
             exact this.symm
         · have q3:(b==0)=false:=beq_eq_false_iff_ne.2 eb
           simp -dsimp only [go_sem,q1,q3,e3,hsn,ho]
           exact⟨by omega,l.length-(i+1),by omega,i+1,o++ [S.1],b,rfl,by omega,by simp [ho],hgo2 s1,fun e=>absurd e eb,hb1,rfl⟩
     · have hge:i=l.length:=by have:=of_decide_eq_false hk;omega
       subst hge
       simp -dsimp only [go_sem]
       refine K0b [false,false,false,false,false,false,false,false,true] (Q0a ?_)
       rw [if_neg (fun hx=>by obtain⟨j,hj,e⟩:=hall.1 hx;exact h1 j hj e)]
       by_cases eb:b=0
       · subst eb
         simp -dsimp only [go_sem]
         rw [←hb0 rfl,Nat.sub_self];rfl
       · have q3:(b !=0)=true:=bne_iff_ne.2 eb
         simp -dsimp only [go_sem,q3]
         rw [hb1 eb]
         rfl
 · have hs:j0m l h p=([],1):=by unfold j0m;rw [if_neg c1]
   rw [hs]
   by_cases c2:1≤l.length
   · have d1:decide ((l.length:Int)<1)=false:=decide_eq_false (by omega)
     have d2:decide ((l.length:Int)>4)=true:=decide_eq_true (by omega)
     simp -dsimp only [go_sem,d1,d2]
   · have d1:decide ((l.length:Int)<1)=true:=decide_eq_true (by omega)
     simp -dsimp only [go_sem,d1]
end Go.Pv
end
section
/-A solution's coefficients. No program in it. -/
namespace Go.Pv
def ptW (n:Nat):Nm:=(numV (oddV false n 0)).1
theorem Z3l : ∀n,n<12→0<n→Q0i (ptW n)=true∧0<qN (ptW n)∧0<valW (ptW n).w∧valW (ptW n).w<4294967296:=by decide+kernel
def H0i (f:List (List Mn)) (xs:List (List Ivl)) (k:Nat) (p:Int) (i:Nat):Ivl×Int:=
 if (q0y (f.getD i []) xs k p).2≠0 then(default,(q0y (f.getD i []) xs k p).2) else divI (q0y (f.getD i []) xs k p).1 (ptW (k+1)) p
def G1z (f:List (List Mn)) (xs:List (List Ivl)) (k:Nat) (p:Int):List Ivl×Int:=tabF (H0i f xs k p) 0 f.length []
def Y0e (xs:List (List Ivl)) (row:List Ivl):Nat→List (List Ivl)
 | 0=>xs
 | i+1=>(Y0e xs row i).set i (xs.getD i []++ [row.getD i default])
def Z0r (f:List (List Mn)) (x:List Ivl) (p:Int):Nat→List (List Ivl)×Int
 | 0=>(x.map fun a=> [a],0)
 | k+1=>if (Z0r f x p k).2≠0 then([],(Z0r f x p k).2) else
  if (G1z f (Z0r f x p k).1 k p).2≠0 then([],(G1z f (Z0r f x p k).1 k p).2) else(Y0e (Z0r f x p k).1 (G1z f (Z0r f x p k).1 k p).1 f.length,0)
def H0n (f:List (List Mn)) (x:List Ivl) (order p:Int):List (List Ivl)×Int:=
 if W0k f=true∧rightB x=true∧x.length=f.length∧0≤order∧order≤10∧Z0h p=true then Z0r f x p order.toNat else([],1)
theorem Q3r (v:Vl):wN (numV v).1:=by
 unfold numV wN
 split
 · decide
 · split
   · decide
   · rename_i h
     have: ¬64<(Q0m v.m).length:=fun hh=>h (.inl hh)
     show(Q0m v.m).length≤_
     omega
theorem J3l (lo hi:Vl):wI (H0q lo hi).1:=by
 unfold H0q
 split
 · exact⟨Q3r _,Q3r _⟩
 · exact W0v
theorem q3f (a:Ivl) (c:Nm) (p:Int):wI (divI a c p).1:=by
 unfold divI
 split
 · exact J3l _ _
 · exact W0v
theorem k2w (f:List (List Mn)) (xs:List (List Ivl)) (k:Nat) (p:Int) (i:Nat):wI (H0i f xs k p i).1:=by
 unfold H0i
 split
 · exact W0v
 · exact q3f _ _ _
theorem K0k (xs:List (List Ivl)) (row:List Ivl): ∀i,(Y0e xs row i).length=xs.length
 | 0=>rfl
 | i+1=>by rw [Y0e,List.length_set,K0k]
theorem z0c (xs:List (List Ivl)) (row:List Ivl) (j:Nat) (hj:j<xs.length): ∀i,(Y0e xs row i).getD j []=if j<i then xs.getD j []++ [row.getD j default] else xs.getD j []
 | 0=>by simp [Y0e]
 | i+1=>by
  rw [Y0e]
  by_cases e:i=j
  · subst e
    rw [if_pos (by omega)]
    simp [List.getD_eq_getElem?_getD,K0k,hj]
  · rw [show((Y0e xs row i).set i (xs.getD i []++ [row.getD i default])).getD j []=(Y0e xs row i).getD j [] by simp [List.getD_eq_getElem?_getD,List.getElem?_set_ne e],z0c xs row j hj i]
    by_cases h:j<i
    · rw [if_pos h,if_pos (by omega)]
    · rw [if_neg h,if_neg (by omega)]
theorem x0r {f:List (List Mn)} {x:List Ivl} {p:Int} (hl:x.length=f.length) (wx: ∀a∈x,wI a): ∀k,(Z0r f x p k).2=0→(Z0r f x p k).1.length=x.length∧ ∀i,i<x.length→((Z0r f x p k).1.getD i []).length=k+1∧ ∀y∈(Z0r f x p k).1.getD i [],wI y
 | 0,_=>by
  refine⟨by simp [Z0r],fun i hi=> ?_⟩
  have:(Z0r f x p 0).1.getD i []= [x[i]]:=by simp [Z0r,List.getD_eq_getElem?_getD,hi]
  rw [this]
  exact⟨rfl,fun y hy=>by rw [List.mem_singleton.1 hy];exact wx _ (List.getElem_mem hi)⟩
 | k+1,h=>by
  rw [Z0r] at h⊢
  by_cases h0:(Z0r f x p k).2=0
  · obtain⟨a1,a2⟩:=x0r hl wx k h0
    rw [if_neg (by rw [h0];decide)] at h⊢
    by_cases h1:(G1z f (Z0r f x p k).1 k p).2=0
    · rw [if_neg (by rw [h1];decide)] at h⊢
      obtain⟨b1,b2,b3⟩:=K0v h1
      refine⟨by rw [K0k,a1],fun i hi=> ?_⟩
      show((Y0e _ _ _).getD i []).length=_∧ ∀y∈(Y0e _ _ _).getD i [],_
      rw [z0c _ _ i (by omega),if_pos (by omega)]
      obtain⟨c1,c2⟩:=a2 i hi
      refine⟨by rw [List.length_append,c1];rfl,fun y hy=> ?_⟩
      rcases List.mem_append.1 hy with hy | hy
      · exact c2 y hy
      · rw [List.mem_singleton.1 hy]
        have:=b3 i (by omega)
        rw [show(G1z f (Z0r f x p k).1 k p).1=(tabF (H0i f (Z0r f x p k).1 k p) 0 f.length []).1 from rfl,this]
        exact k2w _ _ _ _ _
    · rw [if_pos h1] at h;exact absurd h h1
  · rw [if_pos h0] at h;exact absurd h h0
theorem y0l {f:List (List Mn)} {x:List Ivl} {p:Int} {k:Nat} (h:(Z0r f x p k).2≠0): ∀d,Z0r f x p (k+1+d)=([],(Z0r f x p k).2)
 | 0=>by rw [Nat.add_zero,Z0r,if_pos h]
 | d+1=>by rw [←Nat.add_assoc,Z0r,if_pos (by rw [y0l h d];exact h),y0l h d]
end Go.Pv
end
section
/-The coefficients of a solution and their sums are well made. No program in it. -/
namespace Go.Pv
open Go.Proofs
theorem W3r {f:List (List Mn)} {x:List Ivl} {p:Int} (hl:x.length=f.length) (h4:x.length≤4) (wx: ∀a∈x,wI a) {k:Nat} (hk:k≤10):wXs (Z0r f x p k).1∧wM (Z0r f x p k).1:=by
 by_cases h:(Z0r f x p k).2=0
 · obtain⟨a1,a2⟩:=x0r hl wx k h
   refine⟨⟨by omega,fun i hi=> ?_⟩,⟨by omega,fun i hi=> ?_⟩⟩
   · obtain⟨b1,b2⟩:=a2 i (by omega)
     exact⟨by omega,b2⟩
   · obtain⟨b1,b2⟩:=a2 i (by omega)
     exact⟨by omega,fun j hj=>b2 _ (Q0q _ _ _ hj)⟩
 · have e:(Z0r f x p k).1= []:=by
    cases k with
    | zero=>exact absurd rfl h
    | succ k=>
     rw [Z0r] at h⊢
     split
     · rfl
     · rename_i c
       rw [if_neg c] at h
       split
       · rfl
       · rename_i d
         rw [if_neg d] at h
         exact absurd rfl h
   rw [e]
   exact⟨⟨by simp,fun i hi=>by simp at hi⟩,⟨by simp,fun i hi=>by simp at hi⟩⟩
theorem W3s (f:List (List Mn)) (x:List Ivl) (order p:Int) (wx:wB x):wXs (H0n f x order p).1∧wM (H0n f x order p).1:=by
 unfold H0n
 split
 · rename_i c
   obtain⟨c1,c2,c3,c4,c5,c6⟩:=c
   have h4:x.length≤4:=by
    unfold rightB at c2
    simp only [Bool.and_eq_true,decide_eq_true_eq] at c2
    omega
   refine W3r c3 h4 (fun a ha=> ?_) (by omega)
   obtain⟨i,hi,rfl⟩:=List.mem_iff_getElem.1 ha
   have:=wx.2 i hi
   rwa [show x.getD i default=x[i] by simp [List.getD_eq_getElem?_getD,hi]] at this
 · exact⟨⟨by simp,fun i hi=>by simp at hi⟩,⟨by simp,fun i hi=>by simp at hi⟩⟩
theorem W2m {a:List Ivl} {h:Ivl} {p:Int} (wa: ∀x∈a,wI x):wI (Z0n a h p).1:=by
 unfold Z0n
 split
 · exact W2a wa _
 · exact Z2s
theorem K3c {l:List (List Ivl)} {h:Ivl} {p:Int} (wl:wXs l):wB (j0m l h p).1:=by
 unfold j0m
 split
 · split
   · exact⟨by simp,fun i hi=>by simp at hi⟩
   · have hn:=Y1i (G:=fun j=>Z0n (l.getD j []) h p) l.length 0 []
     have hm:=Y1h wI (G:=fun j=>Z0n (l.getD j []) h p) l.length 0 [] (fun j _ hj=>W2m (wl.2 j (by omega)).2) (fun x hx=>by simp at hx)
     exact⟨by simp only [List.length_nil,Nat.zero_add] at hn;omega,fun i hi=>hm _ (Q0q _ _ _ hi)⟩
 · exact⟨by simp,fun i hi=>by simp at hi⟩
end Go.Pv
end
