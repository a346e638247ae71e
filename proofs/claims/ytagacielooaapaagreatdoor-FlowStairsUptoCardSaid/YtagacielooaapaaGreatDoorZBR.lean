/- Parts of the walk: N66, N67, N68, N69, N70, N71, N72, N73, N74, N75. -/
import Derived.Test.YtagacielooaapaaGreatDoorZBQ
import Derived.Test.YtagacielooaapaaGreatDoorZAD
import Derived.Test.YtagacielooaapaaGreatDoorZAF
import Derived.Test.YtagacielooaapaaGreatDoorZBE
import Derived.Test.YtagacielooaapaaGreatDoorZAE
import Derived.Test.YtagacielooaapaaGreatDoorZH
import Derived.Test.YtagacielooaapaaGreatDoorZBJ
set_option linter.unusedVariables false
set_option linter.unusedSimpArgs false
section
/-Products of series:the iterator over pairs,series.right,valid. -/
set_option maxRecDepth 100000
namespace Go.Pv
open Go.Proofs
theorem X2n (a b:List Ivl) (k:Int) (st:Q0f):PCalls Tryz.prog 256 [.sl .no (Q0t a),.sl .no (Q0t b),.sc (.int .i64 k)] st
 (fun r st'=>r= .fn (.func 264) [] [.gp (st.length+2) 0,.gp st.length 0,.gp (st.length+1) 0]∧st'=st++ [[.sl .no (Q0t a)],[.sl .no (Q0t b)],[.sc (.int .i64 k)]]):=by
 refine Q0b none Tryz.func256 rfl fun E=>Q0n (Q0a ?_)
 simp -dsimp only [go_sem]
 refine Q0n (Y0s 0 (by simp [go_sem]) (by simp) (Y0s 1 (by simp [go_sem]) (by simp [go_sem,PFS.give]) (Y0s 2 (by simp [go_sem]) (by simp [go_sem,PFS.give]) (Q0a ?_))))
 simp -dsimp only [go_sem]
 refine Q0a ?_
 simp -dsimp only [go_sem]
 simp
theorem U2a (a b:List Ivl) (k ka kb kk l:Nat) (r:Loop) (w:World) (g:Gh) (J:Nat→Q0f→Prop) (Jx:Code→Q0f→Prop) (hk:k≤10) (hka:k<a.length) (hkb:k<b.length)
 (la:a.length≤1000000) (lb:b.length≤1000000)
 (hJ: ∀i st,J i st→st.getD kk []= [.sc (.int .i64 k)]∧st.getD ka []= [.sl .no (Q0t a)]∧st.getD kb []= [.sl .no (Q0t b)])
 (hy: ∀i,i<k+1→ ∀st,J i st→PYields Tryz.prog l r w g [.agg (encI (a.getD i default)),.agg (encI (b.getD (k-i) default))] st (J (i+1)) Jx) (st:Q0f) (h0:J 0 st):
 U3w Tryz.prog 264 l r w g [.fn (.yield l) [] [],.gp kk 0,.gp ka 0,.gp kb 0] st (J (k+1)) Jx:=by
 refine k1b Tryz.func264 rfl rfl fun E hrd hw hg hl=> ?_
 subst hw hg
 obtain⟨q1,q2,q3⟩:=hJ 0 st h0
 have wk:IntKind.i64.wrap ((k:Int)+1)=k+1:=Q0h _ (by omega) (by omega)
 refine w0y (V1s (Q0a ?_))
 simp -dsimp only [go_sem,q1,wk]
 refine H1o ?_
 refine Y1t [true,true,true,true,false,false,false,true,true] 0 0 (fun n s=> ∃i st,i≤k+1∧n=k+1-i∧J i st∧s=⟨[.fn (.yield l) [] [],.gp kk 0,.gp ka 0,.gp kb 0,.junk,.junk,.junk,.sc (.int .i64 ((k:Int)+1)),.sc (.int .i64 (i:Nat))]++List.replicate 16 .junk,[],[],st⟩) (k+1) ?_ ?_
 · simp -dsimp only [go_sem]
   exact⟨0,st,by omega,by omega,h0,rfl⟩
 rintro n s ⟨i,st,hi,rfl,hj,rfl⟩
 obtain⟨q1,q2,q3⟩:=hJ i st hj
 refine w0y (V1s (Q0a ?_))
 simp -dsimp only [go_sem]
 refine w0y (V1s (Q0a ?_))
 simp -dsimp only [go_sem]
 refine ck (fun h=> ?_) (fun h=> ?_)
 · have hik:i<k+1:=by simp at h;omega
   simp -dsimp only [go_sem]
   refine w0y (H1o ?_)
   refine w0y (V1s (Q0a ?_))
   simp -dsimp only [go_sem]
   refine w0y (Y2r hl hrd Z0t 25 [0,1,2,3,4,5,6,7,8,9,10] 11 [12] (.step 0 [] (.step 1 [] (.step 2 [] (.step 3 [] (.step 4 [] (.step 5 [] (.step 6 [] (.step 7 [] (.step 8 [] (.step 9 [] (.step 10 [] (.done)))))))))))) (.step 11 [6] (.step 12 [] (.done))) (.step 12 [] (.done)) (by decide+kernel) (by simp) ?_)
   have e3:IntKind.i64.wrap ((k:Int)-(i:Nat))=((k-i:Nat):Int):=by rw [Q0h _ (by omega) (by omega)];omega
   have g1:=J0u a i (by omega)
   have g2:=J0u b (k-i) (by omega)
   simp -dsimp only [go_sem,q1,q2,q3,e3,g1,g2]
   have e4:IntKind.i64.wrap ((i:Int)+1)=((i+1:Nat):Int):=by rw [Q0h _ (by omega) (by omega)];omega
   refine⟨by omega,by omega,ylds (hy i hik st hj) (fun st' hj'=> ?_) (fun c st' hx=> ?_)⟩
   · simp -dsimp only [go_sem]
     refine V1s (Q0a ?_)
     simp -dsimp only [go_sem]
     refine V1s (Q0a ?_)
     simp -dsimp only [go_sem,e4]
     exact⟨k+1-(i+1),by omega,i+1,st',by omega,rfl,hj',rfl⟩
   · simp -dsimp only [go_sem]
     refine Q0a ?_
     simp -dsimp only [go_sem]
     exact hx
 · simp -dsimp only [go_sem]
   have:i=k+1:=by simp at h;omega
   subst this
   simp only [eblk,if_true,W3d]
   exact hj
end Go.Pv
end
section
/-Products of series:valid,right. -/
set_option maxRecDepth 100000
namespace Go.Pv
open Go.Proofs
theorem V1k (k p:Int) (st:Q0f):PCalls Tryz.prog 151 [.sc (.int .i64 k),.sc (.int .i64 p)] st
 (fun r st'=>r= .sc (.bool (decide (0≤k)&&decide (k≤10)&&Z0h p))∧st'=st):=by
 refine Q0b none Tryz.func151 rfl fun E=>Q0a ?_
 by_cases h0:0≤k
 · by_cases h1:k≤10
   · simp -dsimp only [go_sem,ge_iff_le,h0,h1,decide_true]
     refine(H0e p st).mono ?_
     rintro r st ⟨rfl,rfl⟩
     simp -dsimp only [go_sem]
     simp [h0,h1]
   · simp -dsimp only [go_sem,ge_iff_le,h0,h1,decide_true,decide_false]
     simp [h1]
 · simp -dsimp only [go_sem,ge_iff_le,h0,decide_false]
   simp [h0]
theorem x0l (a:List Ivl) (k:Nat) (st:Q0f) (hk:k≤10) (la:a.length≤1000000) (wa: ∀x∈a,wI x):PCalls Tryz.prog 152 [.sl .no (Q0t a),.sc (.int .i64 k)] st
 (fun r st'=>r= .sc (.bool (decide (k<a.length)&&(a.take (k+1)).all Q0j))∧st'=st):=by
 refine Q0b none Tryz.func152 rfl fun E=>Q0a ?_
 simp -dsimp only [go_sem]
 refine ck (fun h=> ?_) (fun h=> ?_)
 · have: ¬k<a.length:=by simp at h;omega
   simp -dsimp only [go_sem]
   simp [this]
 · have hka:k<a.length:=by simp at h;omega
   have wk:IntKind.i64.wrap ((k:Int)+1)=((k+1:Nat):Int):=by rw [Q0h _ (by omega) (by omega)];omega
   simp -dsimp only [go_sem,wk]
   have lt':(a.take (k+1)).length=k+1:=by simp;omega
   refine⟨by omega,?_⟩
   refine Q0d [false,false,false,false,false,false,false,false,false,false,false,false,false,false,true,true,true] 0 0 (fun n s=> ∃i,n=k+1-i∧i≤k+1∧(∀j,j<i→Q0j (a.getD j default)=true)∧
    s=⟨[.junk,.junk,.junk,.junk,.junk,.junk,.junk,.junk,.junk,.junk,.junk,.junk,.junk,.junk,.sl .no (Q0t (a.take (k+1))),.sc (.int .i64 ((k+1:Nat):Int)),.sc (.int .i64 (i:Nat))]++List.replicate 7 .junk,[],[],st⟩) (k+1) ?_ ?_
   · simp -dsimp only [go_sem,lt']
     exact⟨0,by omega,by omega,fun j hj=>by omega,rfl⟩
   · rintro n s ⟨i,rfl,hi,hr,rfl⟩
     have hall:(a.take (k+1)).all Q0j=true↔ ∀j,j<k+1→Q0j (a.getD j default)=true:=by
      rw [List.all_eq_true]
      constructor
      · intro h j hj
        have:=h ((a.take (k+1)).getD j default) (Q0q _ _ _ (by omega))
        rwa [V0e _ _ _ _ hj] at this
      · intro h x hx
        obtain⟨j,hj,rfl⟩:=List.getElem_of_mem hx
        have:=h j (by omega)
        rw [List.getElem_take]
        rwa [List.getD_eq_getElem?_getD,List.getElem?_eq_getElem (by omega)] at this
     simp -dsimp only [go_sem,lt']
     refine ck (fun h'=> ?_) (fun h'=> ?_)
     · have hlt:i<k+1:=by have:=of_decide_eq_true h';omega
       have e1:(Q0t (a.take (k+1))).getD i .junk= .agg (encI (a.getD i default)):=by rw [J0u _ i (by omega),V0e _ _ _ _ hlt]
       have e3:IntKind.i64.wrap ((i:Int)+1)=((i+1:Nat):Int):=by rw [Q0h _ (by omega) (by omega)];omega
       have hm:a.getD i default∈a:=by rw [List.getD_eq_getElem?_getD,List.getElem?_eq_getElem (by omega)];simp
       simp -dsimp only [go_sem,e1,lt']
       refine⟨by omega,?_⟩
       refine(U0o (a.getD i default) st (wa _ hm)).mono ?_
       rintro r st ⟨rfl,rfl⟩
       simp -dsimp only [go_sem]
       refine ck (fun h2=> ?_) (fun h2=> ?_)
       · have hf:Q0j (a.getD i default)=false:=by simpa using h2
         simp -dsimp only [go_sem]
         have:(a.take (k+1)).all Q0j=false:=by
          cases hb:(a.take (k+1)).all Q0j with
          | false=>rfl
          | true=>have:=hall.1 hb i hlt;rw [hf] at this;cases this
         simp [this]
       · have ht:Q0j (a.getD i default)=true:=by simpa using h2
         simp -dsimp only [go_sem,e3]
         exact⟨k+1-(i+1),by omega,i+1,rfl,by omega,fun j hj=>(by
          by_cases e:j=i
          · rw [e];exact ht
          · exact hr j (by omega)),rfl⟩
     · have:i=k+1:=by have:=of_decide_eq_false h';omega
       subst this
       simp -dsimp only [go_sem]
       refine Q0a ?_
       simp -dsimp only [go_sem]
       simp [hka,hall.2 hr]
end Go.Pv
end
section
/-A coefficient of a product of series. -/
set_option maxRecDepth 100000
namespace Go.Pv
open Go.Proofs
def j0b (p:Int):List (Ivl×Ivl)→Bool→Ivl→Ivl×Int
 | [],_,s=>(s,0)
 | x::l,sm,s=>
  if (opI 2 x.1 x.2 p).2=0 then
   if sm=true then
    if (opI 0 s (opI 2 x.1 x.2 p).1 p).2=0 then j0b p l true (opI 0 s (opI 2 x.1 x.2 p).1 p).1 else(default,(opI 0 s (opI 2 x.1 x.2 p).1 p).2)
   else j0b p l true (opI 2 x.1 x.2 p).1
  else(default,(opI 2 x.1 x.2 p).2)
theorem x0t (p:Int) (x:Ivl×Ivl) (l:List (Ivl×Ivl)) (sm:Bool) (s:Ivl):j0b p (x::l) sm s=
 if (opI 2 x.1 x.2 p).2=0 then
  if sm=true then
   if (opI 0 s (opI 2 x.1 x.2 p).1 p).2=0 then j0b p l true (opI 0 s (opI 2 x.1 x.2 p).1 p).1 else(default,(opI 0 s (opI 2 x.1 x.2 p).1 p).2)
  else j0b p l true (opI 2 x.1 x.2 p).1
 else(default,(opI 2 x.1 x.2 p).2):=rfl
def z0i (a b:List Ivl) (k:Nat):List (Ivl×Ivl):=(List.range (k+1)).map fun i=>(a.getD i default,b.getD (k-i) default)
def Y0b (a:List Ivl) (k:Nat):Bool:=decide (k<a.length)&&(a.take (k+1)).all Q0j
def W0e (a b:List Ivl) (k:Nat) (p:Int):Ivl×Int:=if Z0h p=true∧Y0b a k=true∧Y0b b k=true then j0b p (z0i a b k) false default else(default,1)
theorem J2k (a b:List Ivl) (k i:Nat) (h:i<k+1):(z0i a b k).drop i=(a.getD i default,b.getD (k-i) default)::(z0i a b k).drop (i+1):=by
 rw [List.drop_eq_getElem_cons (by simpa [z0i] using h)]
 simp [z0i]
def J2l (a b:List Ivl) (k:Nat):List (List PV):=(List.range (k+1)).map fun i=> [.agg (encI (a.getD i default)),.agg (encI (b.getD (k-i) default))]
theorem z0j (a b:List Ivl) (k:Nat):(J2l a b k).length=k+1:=by simp [J2l]
theorem X1y (a b:List Ivl) (k i:Nat) (h:i<k+1):(J2l a b k).getD i []= [.agg (encI (a.getD i default)),.agg (encI (b.getD (k-i) default))]:=by simp [J2l,List.getD_eq_getElem?_getD,h]
theorem G0a (st X:Q0f) (i:Nat):(st++X).getD (st.length+i) []=X.getD i []:=by
 rw [List.getD_eq_getElem?_getD,List.getElem?_append_right (by omega),Nat.add_sub_cancel_left,←List.getD_eq_getElem?_getD]
theorem Y0z (st X:Q0f):(st++X).getD st.length []=X.getD 0 []:=G0a st X 0
theorem k0l (st X:Q0f) (i:Nat) (v:List PV):(st++X).set (st.length+i) v=st++X.set i v:=by simp [List.set_append]
theorem x0v (st X:Q0f) (v:List PV):(st++X).set st.length v=st++X.set 0 v:=k0l st X 0 v
theorem W0v :wI (default:Ivl):=by
 refine⟨?_,?_⟩<;>(show wN ⟨false,0,[]⟩;simp [wN])
theorem v2p (n:Nat) (l:List UInt64):Low n (.sl .no (encW l)):=Z3s fun e he c hc=>by
 obtain⟨x,_,rfl⟩:=List.mem_map.1 he
 simp only [PV.cells,List.mem_singleton] at hc
 subst hc;exact v0q _ _
theorem v2q (n:Nat) (x:Ivl):Low n (.agg (encI x)):=G2d fun c hc=>by
 simp only [encI,encN,List.cons_append,List.nil_append,List.mem_cons,List.not_mem_nil,or_false] at hc
 rcases hc with rfl | rfl | rfl | rfl | rfl | rfl<;>first | exact v0q _ _ | exact v2p _ _
theorem W0n (n:Nat) (x:Ivl) (e:Value):LowR n (.tup [.agg (encI x),.sc e]):=V3w fun c hc=>by
 simp only [List.mem_cons,List.not_mem_nil,or_false] at hc
 rcases hc with rfl | rfl
 · exact v2q n x
 · exact v0q _ _
def v3p (a b:List Ivl) (k:Nat) (p:Int) (st:Q0f) (i:Nat) (st':Q0f):Prop:= ∃sm s,wI s∧j0b p ((z0i a b k).drop i) sm s=j0b p (z0i a b k) false default∧st'=st++ [[.sc (.int .i64 p)],encI default,[.sc (.int .i64 0)],encI s,[.sc (.bool sm)],[.sl .no (Q0t a)],[.sl .no (Q0t b)],[.sc (.int .i64 k)]]
def v3o (a b:List Ivl) (k:Nat) (p:Int) (st:Q0f) (c:Code) (st':Q0f):Prop:=c= .ret∧ ∃e X,j0b p (z0i a b k) false default=(default,e)∧st'=st++([.sc (.int .i64 p)]::encI default:: [.sc (.int .i64 e)]::X)
theorem v3n (a b:List Ivl) (k:Nat) (p:Int) (st:Q0f) (hk:k≤10) (la:a.length≤1000000) (lb:b.length≤1000000) (wa: ∀x∈a,wI x) (wb: ∀x∈b,wI x):
 PCalls Tryz.prog 241 [.sl .no (Q0t a),.sl .no (Q0t b),.sc (.int .i64 k),.sc (.int .i64 p)] st
 (fun r st'=>r= .tup [.agg (encI (W0e a b k p).1),.sc (.int .i64 (W0e a b k p).2)]∧st'=st):=by
 refine X1x (Q:=fun r _=>r= .tup [.agg (encI (W0e a b k p).1),.sc (.int .i64 (W0e a b k p).2)]) ?_
 have v1:decide (0≤(k:Int))=true:=by simp
 have v2:decide ((k:Int)≤10)=true:=by simp;omega
 refine Y1w none Tryz.func241 rfl fun E=> ?_
 refine X1q (Q0a ?_)
 simp -dsimp only [go_sem]
 refine X1q (Q0a ?_)
 simp -dsimp only [go_sem]
 refine(V1k k p st).mono ?_
 rintro r st ⟨rfl,rfl⟩
 rw [v1,v2]
 cases hp:Z0h p with
 | false=>
  simp -dsimp only [go_sem,Bool.and_self,Bool.and_false,Bool.true_and]
  have e:W0e a b k p=(default,1):=by unfold W0e;rw [hp];simp
  rw [e]
  exact⟨⟨[],by simp⟩,W0n _ default _,rfl⟩
 | true=>
  simp -dsimp only [go_sem,Bool.and_self]
  refine(x0l a k st hk la wa).mono ?_
  rintro r st ⟨rfl,rfl⟩
  rw [show(decide (k<a.length)&&(a.take (k+1)).all Q0j)=Y0b a k from rfl]
  cases ha:Y0b a k with
  | false=>
   simp -dsimp only [go_sem]
   have e:W0e a b k p=(default,1):=by unfold W0e;rw [ha];simp
   rw [e]
   exact⟨⟨[],by simp⟩,W0n _ default _,rfl⟩
  | true=>
   simp -dsimp only [go_sem]
   refine(x0l b k st hk lb wb).mono ?_
   rintro r st ⟨rfl,rfl⟩
   rw [show(decide (k<b.length)&&(b.take (k+1)).all Q0j)=Y0b b k from rfl]
   cases hb:Y0b b k with
   | false=>
    simp -dsimp only [go_sem]
    have e:W0e a b k p=(default,1):=by unfold W0e;rw [hb];simp
    rw [e]
    exact⟨⟨[],by simp⟩,W0n _ default _,rfl⟩
   | true=>
    simp -dsimp only [go_sem]
    have e:W0e a b k p=j0b p (z0i a b k) false default:=by unfold W0e;rw [hp,ha,hb];simp
    rw [e]
    refine X1q (Q0a ?_)
    simp -dsimp only [go_sem]
    refine X1q (Q0a ?_)
    simp -dsimp only [go_sem]
    refine G0k (H0y 1) (G0k (H0y 3) ?_)
    simp -dsimp only [go_sem]
    refine G0k (H0c 0 (by simp [go_sem]) (by simp)) ?_
    simp -dsimp only [go_sem]
    refine G0k (H0c 1 (by simp [go_sem]) (by simp)) ?_
    simp -dsimp only [go_sem]
    refine G0k (H0c 2 (by simp [go_sem]) (by simp)) ?_
    simp -dsimp only [go_sem]
    refine G0k (H0c 3 (by simp [go_sem]) (by simp)) ?_
    simp -dsimp only [go_sem]
    refine G0k (H0c 4 (by simp [go_sem]) (by simp)) ?_
    simp -dsimp only [go_sem]
    refine j2y (X1q (Q0a ?_))
    simp -dsimp only [go_sem]
    refine(X2n a b k _).mono ?_
    rintro r st' ⟨rfl,rfl⟩
    simp -dsimp only [go_sem]
    refine Y2q ?_
    refine G0k (H0b (bs:= [false,false,false,false,false,false,false,true,true,true,true,true,false,false,false,false,false,false,false,false,false,false,false,false,false,false,false,false,false,false,false,false,false,false,false,false,true]) (nL:=0) (nT:=0) (by simp [go_sem])) ?_
    simp -dsimp only [go_sem,List.append_assoc,List.cons_append,List.nil_append,Nat.add_assoc,Nat.reduceAdd]
    obtain⟨hka,_⟩:=Bool.and_eq_true_iff.1 ha
    obtain⟨hkb,_⟩:=Bool.and_eq_true_iff.1 hb
    have hka:=of_decide_eq_true hka
    have hkb:=of_decide_eq_true hkb
    refine Y2p rfl rfl rfl (by simp only [go_sem]) (J2l a b k) (fun i hi=> ?_)
     (v3p a b k p st)
     (v3o a b k p st) ?_ ?_ ?_ ?_ ?_
    · rw [X1y _ _ _ _ (by rw [z0j] at hi;exact hi)];rfl
    · exact⟨false,default,W0v,rfl,rfl⟩
    · intro l r w g hy
      rw [z0j]
      refine U2a a b k (st.length+5) (st.length+6) (st.length+7) l r w g (v3p a b k p st) (v3o a b k p st) hk hka hkb la lb (fun i st' ⟨sm,s,_,_,e⟩=> ?_) (fun i hi st' hj=> ?_) _ ⟨false,default,W0v,rfl,rfl⟩
      · subst e
        simp only [G0a]
        exact⟨rfl,rfl,rfl⟩
      · have:=hy i (by rw [z0j];exact hi) st' hj
        rw [X1y _ _ _ _ hi] at this
        exact this
    · rintro i st' hi ⟨sm,s,ws,hc,rfl⟩ E
      have hi:i<k+1:=by rw [z0j] at hi;exact hi
      rw [X1y _ _ _ _ hi]
      refine Q0a ?_
      simp -dsimp only [go_sem,List.zip_cons_cons,List.zip_nil_right,List.foldl_cons,List.foldl_nil]
      intro E
      refine Q0a ?_
      simp -dsimp only [go_sem,G0a,Y0z]
      have m1:a.getD i default∈a:=Q0q _ _ _ (by omega)
      have m2:b.getD (k-i) default∈b:=Q0q _ _ _ (by omega)
      rw [J2k a b k i hi] at hc
      rw [x0t] at hc
      refine(G2x _ _ p _ (wa _ m1) (wb _ m2)).mono ?_
      rintro r st2 ⟨rfl,rfl⟩
      have wz:=q3e 2 (a.getD i default) (b.getD (k-i) default) p
      simp only at hc
      generalize opI 2 (a.getD i default) (b.getD (k-i) default) p=z at hc wz⊢
      by_cases hz:z.2=0
      · have b0:(z.2==0)=true:=by simp [hz]
        have b1:(z.2 !=0)=false:=by simp [hz]
        rw [if_pos hz] at hc
        cases sm with
        | false=>
         simp -dsimp only [go_sem,G0a,Y0z,k0l,x0v,b0,b1]
         rw [if_neg (by simp)] at hc
         exact⟨true,z.1,wz,hc,rfl⟩
        | true=>
         simp -dsimp only [go_sem,G0a,Y0z,k0l,x0v,b0,b1]
         refine(k1s _ _ p _ ws wz).mono ?_
         rintro r st2 ⟨rfl,rfl⟩
         have wu:=q3e 0 s z.1 p
         rw [if_pos rfl] at hc
         generalize opI 0 s z.1 p=u at hc wu⊢
         by_cases hu:u.2=0
         · have c1:(u.2 !=0)=false:=by simp [hu]
           simp -dsimp only [go_sem,G0a,Y0z,k0l,x0v,c1]
           rw [if_pos hu] at hc
           exact⟨true,u.1,wu,hc,rfl⟩
         · have c1:(u.2 !=0)=true:=by simp [hu]
           simp -dsimp only [go_sem,G0a,Y0z,k0l,x0v,c1]
           rw [if_neg hu] at hc
           exact⟨rfl,u.2,_,hc.symm,rfl⟩
      · have b0:(z.2==0)=false:=by simp [hz]
        have b1:(z.2 !=0)=true:=by simp [hz]
        rw [if_neg hz] at hc
        simp -dsimp only [go_sem,G0a,Y0z,k0l,x0v,b0,b1]
        exact⟨rfl,z.2,_,hc.symm,rfl⟩
    · rintro st' ⟨sm,s,ws,hc,rfl⟩
      show∀E',PWP _ E' _ _ _
      intro E'
      refine Q0a ?_
      simp -dsimp only [go_sem,G0a,Y0z,k0l,x0v]
      have e0:(z0i a b k).drop (J2l a b k).length= []:=by rw [z0j];simp [z0i]
      rw [e0] at hc
      rw [←hc]
      exact⟨⟨_,rfl⟩,W0n _ s _,rfl⟩
    · rintro c st' ⟨rfl,e,X,hc,rfl⟩
      simp -dsimp only [go_sem,x3s,eblk,W0j,K2v,G0a,Y0z]
      rw [hc]
      exact⟨⟨_,rfl⟩,W0n _ default _,rfl⟩
end Go.Pv
end
section
/-picard.Next,Sure,wider,next. -/
set_option maxRecDepth 100000
namespace Go.Pv
open Go.Proofs
def Y0t (f:List (List Mn)) (x a:List Ivl) (h:Nm) (p:Int):List Ivl×Int:=
 if W0k f=true∧rightB x=true∧rightB a=true∧x.length=f.length∧a.length=f.length∧Q0i h=true∧ ¬sgnN (ownN h)≤0∧Z0h p=true then
  if (J0i f a p).2=0 then
   if (G0h ⟨default,h⟩ (J0i f a p).1 p).2=0 then opB 0 x (G0h ⟨default,h⟩ (J0i f a p).1 p).1 p else([],(G0h ⟨default,h⟩ (J0i f a p).1 p).2)
  else([],(J0i f a p).2)
 else([],1)
def q3y (f:List (List Mn)) (x a:List Ivl) (h:Nm) (p:Int):Bool:=decide ((Y0t f x a h p).2=0)&&inB (Y0t f x a h p).1 a
def K1x (a b:List Ivl) (p:Int):List Ivl×Int:=if (j0y a b).2=0 then k0k (j0y a b).1 p else([],(j0y a b).2)
def Y4a (f:List (List Mn)) (x:List Ivl) (h:Nm) (p:Int):List PV:= [.sl .no (Z0x f),.sl .no (Q0t x)]++encN h++ [.sc (.int .i64 p)]
end Go.Pv
end
section
/-picard's tries. -/
set_option maxRecDepth 100000
namespace Go.Pv
open Go.Proofs
def G1o (f:List (List Mn)) (x:List Ivl) (h:Nm) (p:Int):Nat→Bool→List Ivl→List (List Ivl×List Ivl)
 | 0,_,_=> []
 | n+1,yl,a=>
  if (Y0t f x a h p).2=0 then
   (if yl=true then [(a,(Y0t f x a h p).1)] else [])++(if (K1x a (Y0t f x a h p).1 p).2=0 then G1o f x h p n true (K1x a (Y0t f x a h p).1 p).1 else [])
  else []
theorem Z1t (f:List (List Mn)) (x:List Ivl) (h:Nm) (p:Int) (n:Nat) (yl:Bool) (a:List Ivl):G1o f x h p (n+1) yl a=
 if (Y0t f x a h p).2=0 then
  (if yl=true then [(a,(Y0t f x a h p).1)] else [])++(if (K1x a (Y0t f x a h p).1 p).2=0 then G1o f x h p n true (K1x a (Y0t f x a h p).1 p).1 else [])
 else []:=rfl
end Go.Pv
end
section
/-picard.Box. -/
set_option maxRecDepth 100000
namespace Go.Pv
open Go.Proofs
def boxL (f:List (List Mn)) (x:List Ivl) (h:Nm) (p:Int):List (List Ivl×List Ivl)→List Ivl×Bool
 | []=>([],false)
 | e::l=>if inB e.2 e.1=true then(if q3y f x e.2 h p=true then e.2 else e.1,true) else boxL f x h p l
theorem z2i (f:List (List Mn)) (x:List Ivl) (h:Nm) (p:Int) (e:List Ivl×List Ivl) (l:List (List Ivl×List Ivl)):boxL f x h p (e::l)=if inB e.2 e.1=true then(if q3y f x e.2 h p=true then e.2 else e.1,true) else boxL f x h p l:=rfl
def boxP (f:List (List Mn)) (x:List Ivl) (h:Nm) (p:Int):List Ivl×Bool:=boxL f x h p (G1o f x h p 9 false x)
def boxJ (f:List (List Mn)) (x:List Ivl) (h:Nm) (p:Int) (st:Q0f) (i:Nat) (st':Q0f):Prop:=boxL f x h p ((G1o f x h p 9 false x).drop i)=boxP f x h p∧
 st'=st++ [[.sl .no (Z0x f)],[.sl .no (Q0t x)],encN h,[.sc (.int .i64 p)],[.sl .no (Q0t [])],[.sc (.bool false)],Y4a f x h p]
def boxX (f:List (List Mn)) (x:List Ivl) (h:Nm) (p:Int) (st:Q0f) (c:Code) (st':Q0f):Prop:=c= .exit 0∧ ∃o X,boxP f x h p=(o,true)∧
 st'=st++([.sl .no (Z0x f)]:: [.sl .no (Q0t x)]::encN h:: [.sc (.int .i64 p)]:: [.sl .no (Q0t o)]:: [.sc (.bool true)]::X)
def G4i (l:List (List Ivl×List Ivl)):List (List PV):=l.map fun e=> [.sl .no (Q0t e.1),.sl .no (Q0t e.2)]
end Go.Pv
end
section
/-Layer 17:known. -/
set_option maxRecDepth 100000
namespace Go.Pv
open Go.Proofs
def k7F :List (List Mn):= [[⟨⟨false,0,[1]⟩,[0]⟩]]
def k7x :List Ivl:= [⟨default,⟨false,0,[1]⟩⟩]
def k7h :Nm:=⟨false, -1,[1]⟩
end Go.Pv
end
