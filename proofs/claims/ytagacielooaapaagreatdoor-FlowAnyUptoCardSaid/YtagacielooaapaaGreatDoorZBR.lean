/- Parts of the walk: N66, N67, N68, N69, N70, N71, N72, N73, N74, N75. -/
import Derived.Test.YtagacielooaapaaGreatDoorZBQ
import Derived.Test.YtagacielooaapaaGreatDoorZAD
import Derived.Test.YtagacielooaapaaGreatDoorZAF
import Derived.Test.YtagacielooaapaaGreatDoorZBE
import Derived.Test.YtagacielooaapaaGreatDoorZAE
import Derived.Test.YtagacielooaapaaGreatDoorZH
import Derived.Test.YtagacielooaapaaGreatDoorZBJ
set_option linter.unusedVariables false
set_option linter.unusedSimpArgs false
section
/-Products of series:the iterator over pairs,series.right,valid. -/
set_option maxRecDepth 100000
namespace Go.Pv
open Go.Proofs
theorem K2n (a b:List Ivl) (k:Int) (st:Q0g):PCalls Tryz.prog 256 [.sl .no (Q0n a),.sl .no (Q0n b),.sc (.int .i64 k)] st
 (fun r st'=>r= .fn (.func 264) [] [.gp (st.length+2) 0,.gp st.length 0,.gp (st.length+1) 0]∧st'=st++ [[.sl .no (Q0n a)],[.sl .no (Q0n b)],[.sc (.int .i64 k)]]):=by
 refine Q0b none Tryz.func256 rfl fun E=>Q0v (Q0a ?_)
 simp -dsimp only [go_sem]
 refine Q0v (H0h 0 (by simp [go_sem]) (by simp) (H0h 1 (by simp [go_sem]) (by simp [go_sem,PFS.give]) (H0h 2 (by simp [go_sem]) (by simp [go_sem,PFS.give]) (Q0a ?_))))
 simp -dsimp only [go_sem]
 refine Q0a ?_
 simp -dsimp only [go_sem]
 simp
theorem G2p (a b:List Ivl) (k ka kb kk l:Nat) (r:Loop) (w:World) (g:Gh) (J:Nat→Q0g→Prop) (Jx:Code→Q0g→Prop) (hk:k≤10) (hka:k<a.length) (hkb:k<b.length)
 (la:a.length≤1000000) (lb:b.length≤1000000)
 (hJ: ∀i st,J i st→st.getD kk []= [.sc (.int .i64 k)]∧st.getD ka []= [.sl .no (Q0n a)]∧st.getD kb []= [.sl .no (Q0n b)])
 (hy: ∀i,i<k+1→ ∀st,J i st→PYields Tryz.prog l r w g [.agg (encI (a.getD i default)),.agg (encI (b.getD (k-i) default))] st (J (i+1)) Jx) (st:Q0g) (h0:J 0 st):
 U3w Tryz.prog 264 l r w g [.fn (.yield l) [] [],.gp kk 0,.gp ka 0,.gp kb 0] st (J (k+1)) Jx:=by
 refine w1j Tryz.func264 rfl rfl fun E hrd hw hg hl=> ?_
 subst hw hg
 obtain⟨q1,q2,q3⟩:=hJ 0 st h0
 have wk:IntKind.i64.wrap ((k:Int)+1)=k+1:=Q0h _ (by omega) (by omega)
 refine Q1j (U1c (Q0a ?_))
 simp -dsimp only [go_sem,q1,wk]
 refine z1z ?_
 refine H1b [true,true,true,true,false,false,false,true,true] 0 0 (fun n s=> ∃i st,i≤k+1∧n=k+1-i∧J i st∧s=⟨[.fn (.yield l) [] [],.gp kk 0,.gp ka 0,.gp kb 0,.junk,.junk,.junk,.sc (.int .i64 ((k:Int)+1)),.sc (.int .i64 (i:Nat))]++List.replicate 16 .junk,[],[],st⟩) (k+1) ?_ ?_
 · simp -dsimp only [go_sem]
   exact⟨0,st,by omega,by omega,h0,rfl⟩
 rintro n s ⟨i,st,hi,rfl,hj,rfl⟩
 obtain⟨q1,q2,q3⟩:=hJ i st hj
 refine Q1j (U1c (Q0a ?_))
 simp -dsimp only [go_sem]
 refine Q1j (U1c (Q0a ?_))
 simp -dsimp only [go_sem]
 refine ck (fun h=> ?_) (fun h=> ?_)
 · have hik:i<k+1:=by simp at h;omega
   simp -dsimp only [go_sem]
   refine Q1j (z1z ?_)
   refine Q1j (U1c (Q0a ?_))
   simp -dsimp only [go_sem]
   refine Q1j (G2h hl hrd Z0k 25 [0,1,2,3,4,5,6,7,8,9,10] 11 [12] (.step 0 [] (.step 1 [] (.step 2 [] (.step 3 [] (.step 4 [] (.step 5 [] (.step 6 [] (.step 7 [] (.step 8 [] (.step 9 [] (.step 10 [] (.done)))))))))))) (.step 11 [6] (.step 12 [] (.done))) (.step 12 [] (.done)) (by decide+kernel) (by simp) ?_)
   have e3:IntKind.i64.wrap ((k:Int)-(i:Nat))=((k-i:Nat):Int):=by rw [Q0h _ (by omega) (by omega)];omega
   have g1:=Z0m a i (by omega)
   have g2:=Z0m b (k-i) (by omega)
   simp -dsimp only [go_sem,q1,q2,q3,e3,g1,g2]
   have e4:IntKind.i64.wrap ((i:Int)+1)=((i+1:Nat):Int):=by rw [Q0h _ (by omega) (by omega)];omega
   refine⟨by omega,by omega,ylds (hy i hik st hj) (fun st' hj'=> ?_) (fun c st' hx=> ?_)⟩
   · simp -dsimp only [go_sem]
     refine U1c (Q0a ?_)
     simp -dsimp only [go_sem]
     refine U1c (Q0a ?_)
     simp -dsimp only [go_sem,e4]
     exact⟨k+1-(i+1),by omega,i+1,st',by omega,rfl,hj',rfl⟩
   · simp -dsimp only [go_sem]
     refine Q0a ?_
     simp -dsimp only [go_sem]
     exact hx
 · simp -dsimp only [go_sem]
   have:i=k+1:=by simp at h;omega
   subst this
   simp only [eblk,if_true,W3f]
   exact hj
end Go.Pv
end
section
/-Products of series:valid,right. -/
set_option maxRecDepth 100000
namespace Go.Pv
open Go.Proofs
theorem Y1u (k p:Int) (st:Q0g):PCalls Tryz.prog 151 [.sc (.int .i64 k),.sc (.int .i64 p)] st
 (fun r st'=>r= .sc (.bool (decide (0≤k)&&decide (k≤10)&&Z0b p))∧st'=st):=by
 refine Q0b none Tryz.func151 rfl fun E=>Q0a ?_
 by_cases h0:0≤k
 · by_cases h1:k≤10
   · simp -dsimp only [go_sem,ge_iff_le,h0,h1,decide_true]
     refine(q0d p st).mono ?_
     rintro r st ⟨rfl,rfl⟩
     simp -dsimp only [go_sem]
     simp [h0,h1]
   · simp -dsimp only [go_sem,ge_iff_le,h0,h1,decide_true,decide_false]
     simp [h1]
 · simp -dsimp only [go_sem,ge_iff_le,h0,decide_false]
   simp [h0]
theorem j0i (a:List Ivl) (k:Nat) (st:Q0g) (hk:k≤10) (la:a.length≤1000000) (wa: ∀x∈a,wI x):PCalls Tryz.prog 152 [.sl .no (Q0n a),.sc (.int .i64 k)] st
 (fun r st'=>r= .sc (.bool (decide (k<a.length)&&(a.take (k+1)).all Q0i))∧st'=st):=by
 refine Q0b none Tryz.func152 rfl fun E=>Q0a ?_
 simp -dsimp only [go_sem]
 refine ck (fun h=> ?_) (fun h=> ?_)
 · have: ¬k<a.length:=by simp at h;omega
   simp -dsimp only [go_sem]
   simp [this]
 · have hka:k<a.length:=by simp at h;omega
   have wk:IntKind.i64.wrap ((k:Int)+1)=((k+1:Nat):Int):=by rw [Q0h _ (by omega) (by omega)];omega
   simp -dsimp only [go_sem,wk]
   have lt':(a.take (k+1)).length=k+1:=by simp;omega
   refine⟨by omega,?_⟩
   refine Q0e [false,false,false,false,false,false,false,false,false,false,false,false,false,false,true,true,true] 0 0 (fun n s=> ∃i,n=k+1-i∧i≤k+1∧(∀j,j<i→Q0i (a.getD j default)=true)∧
    s=⟨[.junk,.junk,.junk,.junk,.junk,.junk,.junk,.junk,.junk,.junk,.junk,.junk,.junk,.junk,.sl .no (Q0n (a.take (k+1))),.sc (.int .i64 ((k+1:Nat):Int)),.sc (.int .i64 (i:Nat))]++List.replicate 7 .junk,[],[],st⟩) (k+1) ?_ ?_
   · simp -dsimp only [go_sem,lt']
     exact⟨0,by omega,by omega,fun j hj=>by omega,rfl⟩
   · rintro n s ⟨i,rfl,hi,hr,rfl⟩
     have hall:(a.take (k+1)).all Q0i=true↔ ∀j,j<k+1→Q0i (a.getD j default)=true:=by
      rw [List.all_eq_true]
      constructor
      · intro h j hj
        have:=h ((a.take (k+1)).getD j default) (Q0s _ _ _ (by omega))
        rwa [V0p _ _ _ _ hj] at this
      · intro h x hx
        obtain⟨j,hj,rfl⟩:=List.getElem_of_mem hx
        have:=h j (by omega)
        rw [List.getElem_take]
        rwa [List.getD_eq_getElem?_getD,List.getElem?_eq_getElem (by omega)] at this
     simp -dsimp only [go_sem,lt']
     refine ck (fun h'=> ?_) (fun h'=> ?_)
     · have hlt:i<k+1:=by have:=of_decide_eq_true h';omega
       have e1:(Q0n (a.take (k+1))).getD i .junk= .agg (encI (a.getD i default)):=by rw [Z0m _ i (by omega),V0p _ _ _ _ hlt]
       have e3:IntKind.i64.wrap ((i:Int)+1)=((i+1:Nat):Int):=by rw [Q0h _ (by omega) (by omega)];omega
       have hm:a.getD i default∈a:=by rw [List.getD_eq_getElem?_getD,List.getElem?_eq_getElem (by omega)];simp
       simp -dsimp only [go_sem,e1,lt']
       refine⟨by omega,?_⟩
       refine(Y0s (a.getD i default) st (wa _ hm)).mono ?_
       rintro r st ⟨rfl,rfl⟩
       simp -dsimp only [go_sem]
       refine ck (fun h2=> ?_) (fun h2=> ?_)
       · have hf:Q0i (a.getD i default)=false:=by simpa using h2
         simp -dsimp only [go_sem]
         have:(a.take (k+1)).all Q0i=false:=by
          cases hb:(a.take (k+1)).all Q0i with
          | false=>rfl
          | true=>have:=hall.1 hb i hlt;rw [hf] at this;cases this
         simp [this]
       · have ht:Q0i (a.getD i default)=true:=by simpa using h2
         simp -dsimp only [go_sem,e3]
         exact⟨k+1-(i+1),by omega,i+1,rfl,by omega,fun j hj=>(by
          by_cases e:j=i
          · rw [e];exact ht
          · exact hr j (by omega)),rfl⟩
     · have:i=k+1:=by have:=of_decide_eq_false h';omega
       subst this
       simp -dsimp only [go_sem]
       refine Q0a ?_
       simp -dsimp only [go_sem]
       simp [hka,hall.2 hr]
end Go.Pv
end
section
/-A coefficient of a product of series. -/
set_option maxRecDepth 100000
namespace Go.Pv
open Go.Proofs
def H0v (p:Int):List (Ivl×Ivl)→Bool→Ivl→Ivl×Int
 | [],_,s=>(s,0)
 | x::l,sm,s=>
  if (opI 2 x.1 x.2 p).2=0 then
   if sm=true then
    if (opI 0 s (opI 2 x.1 x.2 p).1 p).2=0 then H0v p l true (opI 0 s (opI 2 x.1 x.2 p).1 p).1 else(default,(opI 0 s (opI 2 x.1 x.2 p).1 p).2)
   else H0v p l true (opI 2 x.1 x.2 p).1
  else(default,(opI 2 x.1 x.2 p).2)
theorem U0z (p:Int) (x:Ivl×Ivl) (l:List (Ivl×Ivl)) (sm:Bool) (s:Ivl):H0v p (x::l) sm s=
 if (opI 2 x.1 x.2 p).2=0 then
  if sm=true then
   if (opI 0 s (opI 2 x.1 x.2 p).1 p).2=0 then H0v p l true (opI 0 s (opI 2 x.1 x.2 p).1 p).1 else(default,(opI 0 s (opI 2 x.1 x.2 p).1 p).2)
  else H0v p l true (opI 2 x.1 x.2 p).1
 else(default,(opI 2 x.1 x.2 p).2):=rfl
def U0l (a b:List Ivl) (k:Nat):List (Ivl×Ivl):=(List.range (k+1)).map fun i=>(a.getD i default,b.getD (k-i) default)
def K0d (a:List Ivl) (k:Nat):Bool:=decide (k<a.length)&&(a.take (k+1)).all Q0i
def J0o (a b:List Ivl) (k:Nat) (p:Int):Ivl×Int:=if Z0b p=true∧K0d a k=true∧K0d b k=true then H0v p (U0l a b k) false default else(default,1)
theorem U1d (a b:List Ivl) (k i:Nat) (h:i<k+1):(U0l a b k).drop i=(a.getD i default,b.getD (k-i) default)::(U0l a b k).drop (i+1):=by
 rw [List.drop_eq_getElem_cons (by simpa [U0l] using h)]
 simp [U0l]
def V2j (a b:List Ivl) (k:Nat):List (List PV):=(List.range (k+1)).map fun i=> [.agg (encI (a.getD i default)),.agg (encI (b.getD (k-i) default))]
theorem x0d (a b:List Ivl) (k:Nat):(V2j a b k).length=k+1:=by simp [V2j]
theorem K1n (a b:List Ivl) (k i:Nat) (h:i<k+1):(V2j a b k).getD i []= [.agg (encI (a.getD i default)),.agg (encI (b.getD (k-i) default))]:=by simp [V2j,List.getD_eq_getElem?_getD,h]
theorem G0y (st X:Q0g) (i:Nat):(st++X).getD (st.length+i) []=X.getD i []:=by
 rw [List.getD_eq_getElem?_getD,List.getElem?_append_right (by omega),Nat.add_sub_cancel_left,←List.getD_eq_getElem?_getD]
theorem U0t (st X:Q0g):(st++X).getD st.length []=X.getD 0 []:=G0y st X 0
theorem v0o (st X:Q0g) (i:Nat) (v:List PV):(st++X).set (st.length+i) v=st++X.set i v:=by simp [List.set_append]
theorem j0s (st X:Q0g) (v:List PV):(st++X).set st.length v=st++X.set 0 v:=v0o st X 0 v
theorem W0m :wI (default:Ivl):=by
 refine⟨?_,?_⟩<;>(show wN ⟨false,0,[]⟩;simp [wN])
theorem w2j (n:Nat) (l:List UInt64):Low n (.sl .no (encW l)):=X3a fun e he c hc=>by
 obtain⟨x,_,rfl⟩:=List.mem_map.1 he
 simp only [PV.cells,List.mem_singleton] at hc
 subst hc;exact k0h _ _
theorem w2k (n:Nat) (x:Ivl):Low n (.agg (encI x)):=H2q fun c hc=>by
 simp only [encI,encN,List.cons_append,List.nil_append,List.mem_cons,List.not_mem_nil,or_false] at hc
 rcases hc with rfl | rfl | rfl | rfl | rfl | rfl<;>first | exact k0h _ _ | exact w2j _ _
theorem Y0c (n:Nat) (x:Ivl) (e:Value):LowR n (.tup [.agg (encI x),.sc e]):=V3y fun c hc=>by
 simp only [List.mem_cons,List.not_mem_nil,or_false] at hc
 rcases hc with rfl | rfl
 · exact w2k n x
 · exact k0h _ _
def k3t (a b:List Ivl) (k:Nat) (p:Int) (st:Q0g) (i:Nat) (st':Q0g):Prop:= ∃sm s,wI s∧H0v p ((U0l a b k).drop i) sm s=H0v p (U0l a b k) false default∧st'=st++ [[.sc (.int .i64 p)],encI default,[.sc (.int .i64 0)],encI s,[.sc (.bool sm)],[.sl .no (Q0n a)],[.sl .no (Q0n b)],[.sc (.int .i64 k)]]
def k3s (a b:List Ivl) (k:Nat) (p:Int) (st:Q0g) (c:Code) (st':Q0g):Prop:=c= .ret∧ ∃e X,H0v p (U0l a b k) false default=(default,e)∧st'=st++([.sc (.int .i64 p)]::encI default:: [.sc (.int .i64 e)]::X)
theorem k3r (a b:List Ivl) (k:Nat) (p:Int) (st:Q0g) (hk:k≤10) (la:a.length≤1000000) (lb:b.length≤1000000) (wa: ∀x∈a,wI x) (wb: ∀x∈b,wI x):
 PCalls Tryz.prog 241 [.sl .no (Q0n a),.sl .no (Q0n b),.sc (.int .i64 k),.sc (.int .i64 p)] st
 (fun r st'=>r= .tup [.agg (encI (J0o a b k p).1),.sc (.int .i64 (J0o a b k p).2)]∧st'=st):=by
 refine K1m (Q:=fun r _=>r= .tup [.agg (encI (J0o a b k p).1),.sc (.int .i64 (J0o a b k p).2)]) ?_
 have v1:decide (0≤(k:Int))=true:=by simp
 have v2:decide ((k:Int)≤10)=true:=by simp;omega
 refine H1d none Tryz.func241 rfl fun E=> ?_
 refine K1g (Q0a ?_)
 simp -dsimp only [go_sem]
 refine K1g (Q0a ?_)
 simp -dsimp only [go_sem]
 refine(Y1u k p st).mono ?_
 rintro r st ⟨rfl,rfl⟩
 rw [v1,v2]
 cases hp:Z0b p with
 | false=>
  simp -dsimp only [go_sem,Bool.and_self,Bool.and_false,Bool.true_and]
  have e:J0o a b k p=(default,1):=by unfold J0o;rw [hp];simp
  rw [e]
  exact⟨⟨[],by simp⟩,Y0c _ default _,rfl⟩
 | true=>
  simp -dsimp only [go_sem,Bool.and_self]
  refine(j0i a k st hk la wa).mono ?_
  rintro r st ⟨rfl,rfl⟩
  rw [show(decide (k<a.length)&&(a.take (k+1)).all Q0i)=K0d a k from rfl]
  cases ha:K0d a k with
  | false=>
   simp -dsimp only [go_sem]
   have e:J0o a b k p=(default,1):=by unfold J0o;rw [ha];simp
   rw [e]
   exact⟨⟨[],by simp⟩,Y0c _ default _,rfl⟩
  | true=>
   simp -dsimp only [go_sem]
   refine(j0i b k st hk lb wb).mono ?_
   rintro r st ⟨rfl,rfl⟩
   rw [show(decide (k<b.length)&&(b.take (k+1)).all Q0i)=K0d b k from rfl]
   cases hb:K0d b k with
   | false=>
    simp -dsimp only [go_sem]
    have e:J0o a b k p=(default,1):=by unfold J0o;rw [hb];simp
    rw [e]
    exact⟨⟨[],by simp⟩,Y0c _ default _,rfl⟩
   | true=>
    simp -dsimp only [go_sem]
    have e:J0o a b k p=H0v p (U0l a b k) false default:=by unfold J0o;rw [hp,ha,hb];simp
    rw [e]
    refine K1g (Q0a ?_)
    simp -dsimp only [go_sem]
    refine K1g (Q0a ?_)
    simp -dsimp only [go_sem]
    refine H0i (q0v 1) (H0i (q0v 3) ?_)
    simp -dsimp only [go_sem]
    refine H0i (H0y 0 (by simp [go_sem]) (by simp)) ?_
    simp -dsimp only [go_sem]
    refine H0i (H0y 1 (by simp [go_sem]) (by simp)) ?_
    simp -dsimp only [go_sem]
    refine H0i (H0y 2 (by simp [go_sem]) (by simp)) ?_
    simp -dsimp only [go_sem]
    refine H0i (H0y 3 (by simp [go_sem]) (by simp)) ?_
    simp -dsimp only [go_sem]
    refine H0i (H0y 4 (by simp [go_sem]) (by simp)) ?_
    simp -dsimp only [go_sem]
    refine k2w (K1g (Q0a ?_))
    simp -dsimp only [go_sem]
    refine(K2n a b k _).mono ?_
    rintro r st' ⟨rfl,rfl⟩
    simp -dsimp only [go_sem]
    refine G2g ?_
    refine H0i (z0s (bs:= [false,false,false,false,false,false,false,true,true,true,true,true,false,false,false,false,false,false,false,false,false,false,false,false,false,false,false,false,false,false,false,false,false,false,false,false,true]) (nL:=0) (nT:=0) (by simp [go_sem])) ?_
    simp -dsimp only [go_sem,List.append_assoc,List.cons_append,List.nil_append,Nat.add_assoc,Nat.reduceAdd]
    obtain⟨hka,_⟩:=Bool.and_eq_true_iff.1 ha
    obtain⟨hkb,_⟩:=Bool.and_eq_true_iff.1 hb
    have hka:=of_decide_eq_true hka
    have hkb:=of_decide_eq_true hkb
    refine G2f rfl rfl rfl (by simp only [go_sem]) (V2j a b k) (fun i hi=> ?_)
     (k3t a b k p st)
     (k3s a b k p st) ?_ ?_ ?_ ?_ ?_
    · rw [K1n _ _ _ _ (by rw [x0d] at hi;exact hi)];rfl
    · exact⟨false,default,W0m,rfl,rfl⟩
    · intro l r w g hy
      rw [x0d]
      refine G2p a b k (st.length+5) (st.length+6) (st.length+7) l r w g (k3t a b k p st) (k3s a b k p st) hk hka hkb la lb (fun i st' ⟨sm,s,_,_,e⟩=> ?_) (fun i hi st' hj=> ?_) _ ⟨false,default,W0m,rfl,rfl⟩
      · subst e
        simp only [G0y]
        exact⟨rfl,rfl,rfl⟩
      · have:=hy i (by rw [x0d];exact hi) st' hj
        rw [K1n _ _ _ _ hi] at this
        exact this
    · rintro i st' hi ⟨sm,s,ws,hc,rfl⟩ E
      have hi:i<k+1:=by rw [x0d] at hi;exact hi
      rw [K1n _ _ _ _ hi]
      refine Q0a ?_
      simp -dsimp only [go_sem,List.zip_cons_cons,List.zip_nil_right,List.foldl_cons,List.foldl_nil]
      intro E
      refine Q0a ?_
      simp -dsimp only [go_sem,G0y,U0t]
      have m1:a.getD i default∈a:=Q0s _ _ _ (by omega)
      have m2:b.getD (k-i) default∈b:=Q0s _ _ _ (by omega)
      rw [U1d a b k i hi] at hc
      rw [U0z] at hc
      refine(q2h _ _ p _ (wa _ m1) (wb _ m2)).mono ?_
      rintro r st2 ⟨rfl,rfl⟩
      have wz:=Y2f 2 (a.getD i default) (b.getD (k-i) default) p
      simp only at hc
      generalize opI 2 (a.getD i default) (b.getD (k-i) default) p=z at hc wz⊢
      by_cases hz:z.2=0
      · have b0:(z.2==0)=true:=by simp [hz]
        have b1:(z.2 !=0)=false:=by simp [hz]
        rw [if_pos hz] at hc
        cases sm with
        | false=>
         simp -dsimp only [go_sem,G0y,U0t,v0o,j0s,b0,b1]
         rw [if_neg (by simp)] at hc
         exact⟨true,z.1,wz,hc,rfl⟩
        | true=>
         simp -dsimp only [go_sem,G0y,U0t,v0o,j0s,b0,b1]
         refine(y1a _ _ p _ ws wz).mono ?_
         rintro r st2 ⟨rfl,rfl⟩
         have wu:=Y2f 0 s z.1 p
         rw [if_pos rfl] at hc
         generalize opI 0 s z.1 p=u at hc wu⊢
         by_cases hu:u.2=0
         · have c1:(u.2 !=0)=false:=by simp [hu]
           simp -dsimp only [go_sem,G0y,U0t,v0o,j0s,c1]
           rw [if_pos hu] at hc
           exact⟨true,u.1,wu,hc,rfl⟩
         · have c1:(u.2 !=0)=true:=by simp [hu]
           simp -dsimp only [go_sem,G0y,U0t,v0o,j0s,c1]
           rw [if_neg hu] at hc
           exact⟨rfl,u.2,_,hc.symm,rfl⟩
      · have b0:(z.2==0)=false:=by simp [hz]
        have b1:(z.2 !=0)=true:=by simp [hz]
        rw [if_neg hz] at hc
        simp -dsimp only [go_sem,G0y,U0t,v0o,j0s,b0,b1]
        exact⟨rfl,z.2,_,hc.symm,rfl⟩
    · rintro st' ⟨sm,s,ws,hc,rfl⟩
      show∀E',PWP _ E' _ _ _
      intro E'
      refine Q0a ?_
      simp -dsimp only [go_sem,G0y,U0t,v0o,j0s]
      have e0:(U0l a b k).drop (V2j a b k).length= []:=by rw [x0d];simp [U0l]
      rw [e0] at hc
      rw [←hc]
      exact⟨⟨_,rfl⟩,Y0c _ s _,rfl⟩
    · rintro c st' ⟨rfl,e,X,hc,rfl⟩
      simp -dsimp only [go_sem,x3h,eblk,W0w,W2s,G0y,U0t]
      rw [hc]
      exact⟨⟨_,rfl⟩,Y0c _ default _,rfl⟩
end Go.Pv
end
section
/-picard.Next,Sure,wider,next. -/
set_option maxRecDepth 100000
namespace Go.Pv
open Go.Proofs
def U0m (f:List (List Mn)) (x a:List Ivl) (h:Nm) (p:Int):List Ivl×Int:=
 if K0h f=true∧rightB x=true∧rightB a=true∧x.length=f.length∧a.length=f.length∧Q0j h=true∧ ¬sgnN (ownN h)≤0∧Z0b p=true then
  if (J0q f a p).2=0 then
   if (H0d ⟨default,h⟩ (J0q f a p).1 p).2=0 then opB 0 x (H0d ⟨default,h⟩ (J0q f a p).1 p).1 p else([],(H0d ⟨default,h⟩ (J0q f a p).1 p).2)
  else([],(J0q f a p).2)
 else([],1)
def q3o (f:List (List Mn)) (x a:List Ivl) (h:Nm) (p:Int):Bool:=decide ((U0m f x a h p).2=0)&&inB (U0m f x a h p).1 a
def Y1k (a b:List Ivl) (p:Int):List Ivl×Int:=if (v0b a b).2=0 then v0n (v0b a b).1 p else([],(v0b a b).2)
def V4r (f:List (List Mn)) (x:List Ivl) (h:Nm) (p:Int):List PV:= [.sl .no (Z0x f),.sl .no (Q0n x)]++encN h++ [.sc (.int .i64 p)]
end Go.Pv
end
section
/-picard's tries. -/
set_option maxRecDepth 100000
namespace Go.Pv
open Go.Proofs
def z1a (f:List (List Mn)) (x:List Ivl) (h:Nm) (p:Int):Nat→Bool→List Ivl→List (List Ivl×List Ivl)
 | 0,_,_=> []
 | n+1,yl,a=>
  if (U0m f x a h p).2=0 then
   (if yl=true then [(a,(U0m f x a h p).1)] else [])++(if (Y1k a (U0m f x a h p).1 p).2=0 then z1a f x h p n true (Y1k a (U0m f x a h p).1 p).1 else [])
  else []
theorem J1m (f:List (List Mn)) (x:List Ivl) (h:Nm) (p:Int) (n:Nat) (yl:Bool) (a:List Ivl):z1a f x h p (n+1) yl a=
 if (U0m f x a h p).2=0 then
  (if yl=true then [(a,(U0m f x a h p).1)] else [])++(if (Y1k a (U0m f x a h p).1 p).2=0 then z1a f x h p n true (Y1k a (U0m f x a h p).1 p).1 else [])
 else []:=rfl
end Go.Pv
end
section
/-picard.Box. -/
set_option maxRecDepth 100000
namespace Go.Pv
open Go.Proofs
def boxL (f:List (List Mn)) (x:List Ivl) (h:Nm) (p:Int):List (List Ivl×List Ivl)→List Ivl×Bool
 | []=>([],false)
 | e::l=>if inB e.2 e.1=true then(if q3o f x e.2 h p=true then e.2 else e.1,true) else boxL f x h p l
theorem x2h (f:List (List Mn)) (x:List Ivl) (h:Nm) (p:Int) (e:List Ivl×List Ivl) (l:List (List Ivl×List Ivl)):boxL f x h p (e::l)=if inB e.2 e.1=true then(if q3o f x e.2 h p=true then e.2 else e.1,true) else boxL f x h p l:=rfl
def boxP (f:List (List Mn)) (x:List Ivl) (h:Nm) (p:Int):List Ivl×Bool:=boxL f x h p (z1a f x h p 9 false x)
def boxJ (f:List (List Mn)) (x:List Ivl) (h:Nm) (p:Int) (st:Q0g) (i:Nat) (st':Q0g):Prop:=boxL f x h p ((z1a f x h p 9 false x).drop i)=boxP f x h p∧
 st'=st++ [[.sl .no (Z0x f)],[.sl .no (Q0n x)],encN h,[.sc (.int .i64 p)],[.sl .no (Q0n [])],[.sc (.bool false)],V4r f x h p]
def boxX (f:List (List Mn)) (x:List Ivl) (h:Nm) (p:Int) (st:Q0g) (c:Code) (st':Q0g):Prop:=c= .exit 0∧ ∃o X,boxP f x h p=(o,true)∧
 st'=st++([.sl .no (Z0x f)]:: [.sl .no (Q0n x)]::encN h:: [.sc (.int .i64 p)]:: [.sl .no (Q0n o)]:: [.sc (.bool true)]::X)
def Y4y (l:List (List Ivl×List Ivl)):List (List PV):=l.map fun e=> [.sl .no (Q0n e.1),.sl .no (Q0n e.2)]
end Go.Pv
end
section
/-The document's Next,Sure,blown. -/
set_option maxRecDepth 100000
namespace Go.Pv
open Go.Proofs
theorem w0p (p:Int) (st:Q0g):PCalls Tryz.prog 103 [.sc (.int .i64 p)] st (fun r st'=>r= .sc (.bool (Z0b p))∧st'=st):=by
 refine Q0b none Tryz.func103 rfl fun E=>Q0a ?_
 simp -dsimp only [go_sem]
 by_cases h:8≤p
 · simp -dsimp only [go_sem,ge_iff_le,h,decide_true]
   simp [Z0b,h]
 · simp -dsimp only [go_sem,ge_iff_le,h,decide_false]
   simp [Z0b,h]
end Go.Pv
end
section
/-Layer 17:known. -/
set_option maxRecDepth 100000
namespace Go.Pv
open Go.Proofs
def k7F :List (List Mn):= [[⟨⟨false,0,[1]⟩,[0]⟩]]
def k7x :List Ivl:= [⟨default,⟨false,0,[1]⟩⟩]
def k7h :Nm:=⟨false, -1,[1]⟩
end Go.Pv
end
