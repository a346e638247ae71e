/- Parts of the walk: N66, N67, N68, N69, N70, N71, N72, N73, N74, N75. -/
import Derived.Test.YtofoadghajnglaaGreatDoorZBQ
import Derived.Test.YtofoadghajnglaaGreatDoorZAD
import Derived.Test.YtofoadghajnglaaGreatDoorZAF
import Derived.Test.YtofoadghajnglaaGreatDoorZBE
import Derived.Test.YtofoadghajnglaaGreatDoorZAE
import Derived.Test.YtofoadghajnglaaGreatDoorZH
import Derived.Test.YtofoadghajnglaaGreatDoorZBG
import Derived.Test.YtofoadghajnglaaGreatDoorZBI
set_option linter.unusedVariables false
set_option linter.unusedSimpArgs false
section
/-Products of series:the iterator over pairs,series.right,valid. -/
set_option maxRecDepth 100000
namespace Go.Pv
open Go.Proofs
theorem v1m (a b:List Ivl) (k:Int) (st:Q0e):PCalls Tryz.prog 281 [.sl .no (Q0s a),.sl .no (Q0s b),.sc (.int .i64 k)] st
 (fun r st'=>r= .fn (.func 282) [] [.gp (st.length+2) 0,.gp st.length 0,.gp (st.length+1) 0]∧st'=st++ [[.sl .no (Q0s a)],[.sl .no (Q0s b)],[.sc (.int .i64 k)]]):=by
 refine Q0b none Tryz.func281 rfl fun E=>Q0h (Q0a ?_)
 simp -dsimp only [go_sem]
 refine Q0h (z0f 0 (by simp [go_sem]) (by simp) (z0f 1 (by simp [go_sem]) (by simp [go_sem,PFS.give]) (z0f 2 (by simp [go_sem]) (by simp [go_sem,PFS.give]) (Q0a ?_))))
 simp -dsimp only [go_sem]
 refine Q0a ?_
 simp -dsimp only [go_sem]
 simp
theorem X2r (a b:List Ivl) (k ka kb kk l:Nat) (r:Loop) (w:World) (g:Gh) (J:Nat→Q0e→Prop) (Jx:Code→Q0e→Prop) (hk:k≤10) (hka:k<a.length) (hkb:k<b.length)
 (la:a.length≤1000000) (lb:b.length≤1000000)
 (hJ: ∀i st,J i st→st.getD kk []= [.sc (.int .i64 k)]∧st.getD ka []= [.sl .no (Q0s a)]∧st.getD kb []= [.sl .no (Q0s b)])
 (hy: ∀i,i<k+1→ ∀st,J i st→PYields Tryz.prog l r w g [.agg (encI (a.getD i default)),.agg (encI (b.getD (k-i) default))] st (J (i+1)) Jx) (st:Q0e) (h0:J 0 st):
 X3k Tryz.prog 282 l r w g [.fn (.yield l) [] [],.gp kk 0,.gp ka 0,.gp kb 0] st (J (k+1)) Jx:=by
 refine q1g Tryz.func282 rfl rfl fun E hrd hw hg hl=> ?_
 subst hw hg
 obtain⟨q1,q2,q3⟩:=hJ 0 st h0
 have wk:IntKind.i64.wrap ((k:Int)+1)=k+1:=Q0k _ (by omega) (by omega)
 refine v0r (J1h (Q0a ?_))
 simp -dsimp only [go_sem,q1,wk]
 refine Y1u ?_
 refine V1f [true,true,true,true,false,false,false,true,true] 0 0 (fun n s=> ∃i st,i≤k+1∧n=k+1-i∧J i st∧s=⟨[.fn (.yield l) [] [],.gp kk 0,.gp ka 0,.gp kb 0,.junk,.junk,.junk,.sc (.int .i64 ((k:Int)+1)),.sc (.int .i64 (i:Nat))]++List.replicate 16 .junk,[],[],st⟩) (k+1) ?_ ?_
 · simp -dsimp only [go_sem]
   exact⟨0,st,by omega,by omega,h0,rfl⟩
 rintro n s ⟨i,st,hi,rfl,hj,rfl⟩
 obtain⟨q1,q2,q3⟩:=hJ i st hj
 refine v0r (J1h (Q0a ?_))
 simp -dsimp only [go_sem]
 refine v0r (J1h (Q0a ?_))
 simp -dsimp only [go_sem]
 refine ck (fun h=> ?_) (fun h=> ?_)
 · have hik:i<k+1:=by simp at h;omega
   simp -dsimp only [go_sem]
   refine v0r (Y1u ?_)
   refine v0r (J1h (Q0a ?_))
   simp -dsimp only [go_sem]
   refine v0r (X2k hl hrd Z0g 25 [0,1,2,3,4,5,6,7,8,9,10] 11 [12] (.step 0 [] (.step 1 [] (.step 2 [] (.step 3 [] (.step 4 [] (.step 5 [] (.step 6 [] (.step 7 [] (.step 8 [] (.step 9 [] (.step 10 [] (.done)))))))))))) (.step 11 [6] (.step 12 [] (.done))) (.step 12 [] (.done)) (by decide+kernel) (by simp) ?_)
   have e3:IntKind.i64.wrap ((k:Int)-(i:Nat))=((k-i:Nat):Int):=by rw [Q0k _ (by omega) (by omega)];omega
   have g1:=Z0m a i (by omega)
   have g2:=Z0m b (k-i) (by omega)
   simp -dsimp only [go_sem,q1,q2,q3,e3,g1,g2]
   have e4:IntKind.i64.wrap ((i:Int)+1)=((i+1:Nat):Int):=by rw [Q0k _ (by omega) (by omega)];omega
   refine⟨by omega,by omega,ylds (hy i hik st hj) (fun st' hj'=> ?_) (fun c st' hx=> ?_)⟩
   · simp -dsimp only [go_sem]
     refine J1h (Q0a ?_)
     simp -dsimp only [go_sem]
     refine J1h (Q0a ?_)
     simp -dsimp only [go_sem,e4]
     exact⟨k+1-(i+1),by omega,i+1,st',by omega,rfl,hj',rfl⟩
   · simp -dsimp only [go_sem]
     refine Q0a ?_
     simp -dsimp only [go_sem]
     exact hx
 · simp -dsimp only [go_sem]
   have:i=k+1:=by simp at h;omega
   subst this
   simp only [eblk,if_true,Q3e]
   exact hj
end Go.Pv
end
section
/-Products of series:valid,right. -/
set_option maxRecDepth 100000
namespace Go.Pv
open Go.Proofs
theorem J1d (k p:Int) (st:Q0e):PCalls Tryz.prog 232 [.sc (.int .i64 k),.sc (.int .i64 p)] st
 (fun r st'=>r= .sc (.bool (decide (0≤k)&&decide (k≤10)&&Z0i p))∧st'=st):=by
 refine Q0b none Tryz.func232 rfl fun E=>Q0a ?_
 by_cases h0:0≤k
 · by_cases h1:k≤10
   · simp -dsimp only [go_sem,ge_iff_le,h0,h1,decide_true]
     refine(Y0b p st).mono ?_
     rintro r st ⟨rfl,rfl⟩
     simp -dsimp only [go_sem]
     simp [h0,h1]
   · simp -dsimp only [go_sem,ge_iff_le,h0,h1,decide_true,decide_false]
     simp [h1]
 · simp -dsimp only [go_sem,ge_iff_le,h0,decide_false]
   simp [h0]
theorem v0l (a:List Ivl) (k:Nat) (st:Q0e) (hk:k≤10) (la:a.length≤1000000) (wa: ∀x∈a,wI x):PCalls Tryz.prog 233 [.sl .no (Q0s a),.sc (.int .i64 k)] st
 (fun r st'=>r= .sc (.bool (decide (k<a.length)&&(a.take (k+1)).all Q0m))∧st'=st):=by
 refine Q0b none Tryz.func233 rfl fun E=>Q0a ?_
 simp -dsimp only [go_sem]
 refine ck (fun h=> ?_) (fun h=> ?_)
 · have: ¬k<a.length:=by simp at h;omega
   simp -dsimp only [go_sem]
   simp [this]
 · have hka:k<a.length:=by simp at h;omega
   have wk:IntKind.i64.wrap ((k:Int)+1)=((k+1:Nat):Int):=by rw [Q0k _ (by omega) (by omega)];omega
   simp -dsimp only [go_sem,wk]
   have lt':(a.take (k+1)).length=k+1:=by simp;omega
   refine⟨by omega,?_⟩
   refine Q0f [false,false,false,false,false,false,false,false,false,false,false,false,false,false,true,true,true] 0 0 (fun n s=> ∃i,n=k+1-i∧i≤k+1∧(∀j,j<i→Q0m (a.getD j default)=true)∧
    s=⟨[.junk,.junk,.junk,.junk,.junk,.junk,.junk,.junk,.junk,.junk,.junk,.junk,.junk,.junk,.sl .no (Q0s (a.take (k+1))),.sc (.int .i64 ((k+1:Nat):Int)),.sc (.int .i64 (i:Nat))]++List.replicate 7 .junk,[],[],st⟩) (k+1) ?_ ?_
   · simp -dsimp only [go_sem,lt']
     exact⟨0,by omega,by omega,fun j hj=>by omega,rfl⟩
   · rintro n s ⟨i,rfl,hi,hr,rfl⟩
     have hall:(a.take (k+1)).all Q0m=true↔ ∀j,j<k+1→Q0m (a.getD j default)=true:=by
      rw [List.all_eq_true]
      constructor
      · intro h j hj
        have:=h ((a.take (k+1)).getD j default) (Q0t _ _ _ (by omega))
        rwa [K0m _ _ _ _ hj] at this
      · intro h x hx
        obtain⟨j,hj,rfl⟩:=List.getElem_of_mem hx
        have:=h j (by omega)
        rw [List.getElem_take]
        rwa [List.getD_eq_getElem?_getD,List.getElem?_eq_getElem (by omega)] at this
     simp -dsimp only [go_sem,lt']
     refine ck (fun h'=> ?_) (fun h'=> ?_)
     · have hlt:i<k+1:=by have:=of_decide_eq_true h';omega
       have e1:(Q0s (a.take (k+1))).getD i .junk= .agg (encI (a.getD i default)):=by rw [Z0m _ i (by omega),K0m _ _ _ _ hlt]
       have e3:IntKind.i64.wrap ((i:Int)+1)=((i+1:Nat):Int):=by rw [Q0k _ (by omega) (by omega)];omega
       have hm:a.getD i default∈a:=by rw [List.getD_eq_getElem?_getD,List.getElem?_eq_getElem (by omega)];simp
       simp -dsimp only [go_sem,e1,lt']
       refine⟨by omega,?_⟩
       refine(Y0u (a.getD i default) st (wa _ hm)).mono ?_
       rintro r st ⟨rfl,rfl⟩
       simp -dsimp only [go_sem]
       refine ck (fun h2=> ?_) (fun h2=> ?_)
       · have hf:Q0m (a.getD i default)=false:=by simpa using h2
         simp -dsimp only [go_sem]
         have:(a.take (k+1)).all Q0m=false:=by
          cases hb:(a.take (k+1)).all Q0m with
          | false=>rfl
          | true=>have:=hall.1 hb i hlt;rw [hf] at this;cases this
         simp [this]
       · have ht:Q0m (a.getD i default)=true:=by simpa using h2
         simp -dsimp only [go_sem,e3]
         exact⟨k+1-(i+1),by omega,i+1,rfl,by omega,fun j hj=>(by
          by_cases e:j=i
          · rw [e];exact ht
          · exact hr j (by omega)),rfl⟩
     · have:i=k+1:=by have:=of_decide_eq_false h';omega
       subst this
       simp -dsimp only [go_sem]
       refine Q0a ?_
       simp -dsimp only [go_sem]
       simp [hka,hall.2 hr]
end Go.Pv
end
section
/-A coefficient of a product of series. -/
set_option maxRecDepth 100000
namespace Go.Pv
open Go.Proofs
def w0g (p:Int):List (Ivl×Ivl)→Bool→Ivl→Ivl×Int
 | [],_,s=>(s,0)
 | x::l,sm,s=>
  if (opI 2 x.1 x.2 p).2=0 then
   if sm=true then
    if (opI 0 s (opI 2 x.1 x.2 p).1 p).2=0 then w0g p l true (opI 0 s (opI 2 x.1 x.2 p).1 p).1 else(default,(opI 0 s (opI 2 x.1 x.2 p).1 p).2)
   else w0g p l true (opI 2 x.1 x.2 p).1
  else(default,(opI 2 x.1 x.2 p).2)
theorem z0m (p:Int) (x:Ivl×Ivl) (l:List (Ivl×Ivl)) (sm:Bool) (s:Ivl):w0g p (x::l) sm s=
 if (opI 2 x.1 x.2 p).2=0 then
  if sm=true then
   if (opI 0 s (opI 2 x.1 x.2 p).1 p).2=0 then w0g p l true (opI 0 s (opI 2 x.1 x.2 p).1 p).1 else(default,(opI 0 s (opI 2 x.1 x.2 p).1 p).2)
  else w0g p l true (opI 2 x.1 x.2 p).1
 else(default,(opI 2 x.1 x.2 p).2):=rfl
def y0a (a b:List Ivl) (k:Nat):List (Ivl×Ivl):=(List.range (k+1)).map fun i=>(a.getD i default,b.getD (k-i) default)
def K0c (a:List Ivl) (k:Nat):Bool:=decide (k<a.length)&&(a.take (k+1)).all Q0m
def U0b (a b:List Ivl) (k:Nat) (p:Int):Ivl×Int:=if Z0i p=true∧K0c a k=true∧K0c b k=true then w0g p (y0a a b k) false default else(default,1)
theorem w1j (a b:List Ivl) (k i:Nat) (h:i<k+1):(y0a a b k).drop i=(a.getD i default,b.getD (k-i) default)::(y0a a b k).drop (i+1):=by
 rw [List.drop_eq_getElem_cons (by simpa [y0a] using h)]
 simp [y0a]
def w1k (a b:List Ivl) (k:Nat):List (List PV):=(List.range (k+1)).map fun i=> [.agg (encI (a.getD i default)),.agg (encI (b.getD (k-i) default))]
theorem H0x (a b:List Ivl) (k:Nat):(w1k a b k).length=k+1:=by simp [w1k]
theorem Q1r (a b:List Ivl) (k i:Nat) (h:i<k+1):(w1k a b k).getD i []= [.agg (encI (a.getD i default)),.agg (encI (b.getD (k-i) default))]:=by simp [w1k,List.getD_eq_getElem?_getD,h]
theorem G0a (st X:Q0e) (i:Nat):(st++X).getD (st.length+i) []=X.getD i []:=by
 rw [List.getD_eq_getElem?_getD,List.getElem?_append_right (by omega),Nat.add_sub_cancel_left,←List.getD_eq_getElem?_getD]
theorem U0s (st X:Q0e):(st++X).getD st.length []=X.getD 0 []:=G0a st X 0
theorem x0y (st X:Q0e) (i:Nat) (v:List PV):(st++X).set (st.length+i) v=st++X.set i v:=by simp [List.set_append]
theorem z0o (st X:Q0e) (v:List PV):(st++X).set st.length v=st++X.set 0 v:=x0y st X 0 v
theorem Y0k :wI (default:Ivl):=by
 refine⟨?_,?_⟩<;>(show wN ⟨false,0,[]⟩;simp [wN])
theorem q2p (n:Nat) (l:List UInt64):Low n (.sl .no (encW l)):=k2i fun e he c hc=>by
 obtain⟨x,_,rfl⟩:=List.mem_map.1 he
 simp only [PV.cells,List.mem_singleton] at hc
 subst hc;exact w0p _ _
theorem q2q (n:Nat) (x:Ivl):Low n (.agg (encI x)):=J2t fun c hc=>by
 simp only [encI,encN,List.cons_append,List.nil_append,List.mem_cons,List.not_mem_nil,or_false] at hc
 rcases hc with rfl | rfl | rfl | rfl | rfl | rfl<;>first | exact w0p _ _ | exact q2p _ _
theorem Q1v (n:Nat) (x:Ivl) (e:Value):LowR n (.tup [.agg (encI x),.sc e]):=y2z fun c hc=>by
 simp only [List.mem_cons,List.not_mem_nil,or_false] at hc
 rcases hc with rfl | rfl
 · exact q2q n x
 · exact w0p _ _
def G3a (a b:List Ivl) (k:Nat) (p:Int) (st:Q0e) (i:Nat) (st':Q0e):Prop:= ∃sm s,wI s∧w0g p ((y0a a b k).drop i) sm s=w0g p (y0a a b k) false default∧st'=st++ [[.sc (.int .i64 p)],encI default,[.sc (.int .i64 0)],encI s,[.sc (.bool sm)],[.sl .no (Q0s a)],[.sl .no (Q0s b)],[.sc (.int .i64 k)]]
def U3z (a b:List Ivl) (k:Nat) (p:Int) (st:Q0e) (c:Code) (st':Q0e):Prop:=c= .ret∧ ∃e X,w0g p (y0a a b k) false default=(default,e)∧st'=st++([.sc (.int .i64 p)]::encI default:: [.sc (.int .i64 e)]::X)
theorem U3y (a b:List Ivl) (k:Nat) (p:Int) (st:Q0e) (hk:k≤10) (la:a.length≤1000000) (lb:b.length≤1000000) (wa: ∀x∈a,wI x) (wb: ∀x∈b,wI x):
 PCalls Tryz.prog 273 [.sl .no (Q0s a),.sl .no (Q0s b),.sc (.int .i64 k),.sc (.int .i64 p)] st
 (fun r st'=>r= .tup [.agg (encI (U0b a b k p).1),.sc (.int .i64 (U0b a b k p).2)]∧st'=st):=by
 refine q1i (Q:=fun r _=>r= .tup [.agg (encI (U0b a b k p).1),.sc (.int .i64 (U0b a b k p).2)]) ?_
 have v1:decide (0≤(k:Int))=true:=by simp
 have v2:decide ((k:Int)≤10)=true:=by simp;omega
 refine V1h none Tryz.func273 rfl fun E=> ?_
 refine Q1m (Q0a ?_)
 simp -dsimp only [go_sem]
 refine Q1m (Q0a ?_)
 simp -dsimp only [go_sem]
 refine(J1d k p st).mono ?_
 rintro r st ⟨rfl,rfl⟩
 rw [v1,v2]
 cases hp:Z0i p with
 | false=>
  simp -dsimp only [go_sem,Bool.and_self,Bool.and_false,Bool.true_and]
  have e:U0b a b k p=(default,1):=by unfold U0b;rw [hp];simp
  rw [e]
  exact⟨⟨[],by simp⟩,Q1v _ default _,rfl⟩
 | true=>
  simp -dsimp only [go_sem,Bool.and_self]
  refine(v0l a k st hk la wa).mono ?_
  rintro r st ⟨rfl,rfl⟩
  rw [show(decide (k<a.length)&&(a.take (k+1)).all Q0m)=K0c a k from rfl]
  cases ha:K0c a k with
  | false=>
   simp -dsimp only [go_sem]
   have e:U0b a b k p=(default,1):=by unfold U0b;rw [ha];simp
   rw [e]
   exact⟨⟨[],by simp⟩,Q1v _ default _,rfl⟩
  | true=>
   simp -dsimp only [go_sem]
   refine(v0l b k st hk lb wb).mono ?_
   rintro r st ⟨rfl,rfl⟩
   rw [show(decide (k<b.length)&&(b.take (k+1)).all Q0m)=K0c b k from rfl]
   cases hb:K0c b k with
   | false=>
    simp -dsimp only [go_sem]
    have e:U0b a b k p=(default,1):=by unfold U0b;rw [hb];simp
    rw [e]
    exact⟨⟨[],by simp⟩,Q1v _ default _,rfl⟩
   | true=>
    simp -dsimp only [go_sem]
    have e:U0b a b k p=w0g p (y0a a b k) false default:=by unfold U0b;rw [hp,ha,hb];simp
    rw [e]
    refine Q1m (Q0a ?_)
    simp -dsimp only [go_sem]
    refine Q1m (Q0a ?_)
    simp -dsimp only [go_sem]
    refine U0l (G0r 1) (U0l (G0r 3) ?_)
    simp -dsimp only [go_sem]
    refine U0l (G0c 0 (by simp [go_sem]) (by simp)) ?_
    simp -dsimp only [go_sem]
    refine U0l (G0c 1 (by simp [go_sem]) (by simp)) ?_
    simp -dsimp only [go_sem]
    refine U0l (G0c 2 (by simp [go_sem]) (by simp)) ?_
    simp -dsimp only [go_sem]
    refine U0l (G0c 3 (by simp [go_sem]) (by simp)) ?_
    simp -dsimp only [go_sem]
    refine U0l (G0c 4 (by simp [go_sem]) (by simp)) ?_
    simp -dsimp only [go_sem]
    refine H2c (Q1m (Q0a ?_))
    simp -dsimp only [go_sem]
    refine(v1m a b k _).mono ?_
    rintro r st' ⟨rfl,rfl⟩
    simp -dsimp only [go_sem]
    refine X2j ?_
    refine U0l (H0k (bs:= [false,false,false,false,false,false,false,true,true,true,true,true,false,false,false,false,false,false,false,false,false,false,false,false,false,false,false,false,false,false,false,false,false,false,false,false,true]) (nL:=0) (nT:=0) (by simp [go_sem])) ?_
    simp -dsimp only [go_sem,List.append_assoc,List.cons_append,List.nil_append,Nat.add_assoc,Nat.reduceAdd]
    obtain⟨hka,_⟩:=Bool.and_eq_true_iff.1 ha
    obtain⟨hkb,_⟩:=Bool.and_eq_true_iff.1 hb
    have hka:=of_decide_eq_true hka
    have hkb:=of_decide_eq_true hkb
    refine X2i rfl rfl rfl (by simp only [go_sem]) (w1k a b k) (fun i hi=> ?_)
     (G3a a b k p st)
     (U3z a b k p st) ?_ ?_ ?_ ?_ ?_
    · rw [Q1r _ _ _ _ (by rw [H0x] at hi;exact hi)];rfl
    · exact⟨false,default,Y0k,rfl,rfl⟩
    · intro l r w g hy
      rw [H0x]
      refine X2r a b k (st.length+5) (st.length+6) (st.length+7) l r w g (G3a a b k p st) (U3z a b k p st) hk hka hkb la lb (fun i st' ⟨sm,s,_,_,e⟩=> ?_) (fun i hi st' hj=> ?_) _ ⟨false,default,Y0k,rfl,rfl⟩
      · subst e
        simp only [G0a]
        exact⟨rfl,rfl,rfl⟩
      · have:=hy i (by rw [H0x];exact hi) st' hj
        rw [Q1r _ _ _ _ hi] at this
        exact this
    · rintro i st' hi ⟨sm,s,ws,hc,rfl⟩ E
      have hi:i<k+1:=by rw [H0x] at hi;exact hi
      rw [Q1r _ _ _ _ hi]
      refine Q0a ?_
      simp -dsimp only [go_sem,List.zip_cons_cons,List.zip_nil_right,List.foldl_cons,List.foldl_nil]
      intro E
      refine Q0a ?_
      simp -dsimp only [go_sem,G0a,U0s]
      have m1:a.getD i default∈a:=Q0t _ _ _ (by omega)
      have m2:b.getD (k-i) default∈b:=Q0t _ _ _ (by omega)
      rw [w1j a b k i hi] at hc
      rw [z0m] at hc
      refine(q1v _ _ p _ (wa _ m1) (wb _ m2)).mono ?_
      rintro r st2 ⟨rfl,rfl⟩
      have wz:=v2p 2 (a.getD i default) (b.getD (k-i) default) p
      simp only at hc
      generalize opI 2 (a.getD i default) (b.getD (k-i) default) p=z at hc wz⊢
      by_cases hz:z.2=0
      · have b0:(z.2==0)=true:=by simp [hz]
        have b1:(z.2 !=0)=false:=by simp [hz]
        rw [if_pos hz] at hc
        cases sm with
        | false=>
         simp -dsimp only [go_sem,G0a,U0s,x0y,z0o,b0,b1]
         rw [if_neg (by simp)] at hc
         exact⟨true,z.1,wz,hc,rfl⟩
        | true=>
         simp -dsimp only [go_sem,G0a,U0s,x0y,z0o,b0,b1]
         refine(V1q _ _ p _ ws wz).mono ?_
         rintro r st2 ⟨rfl,rfl⟩
         have wu:=v2p 0 s z.1 p
         rw [if_pos rfl] at hc
         generalize opI 0 s z.1 p=u at hc wu⊢
         by_cases hu:u.2=0
         · have c1:(u.2 !=0)=false:=by simp [hu]
           simp -dsimp only [go_sem,G0a,U0s,x0y,z0o,c1]
           rw [if_pos hu] at hc
           exact⟨true,u.1,wu,hc,rfl⟩
         · have c1:(u.2 !=0)=true:=by simp [hu]
           simp -dsimp only [go_sem,G0a,U0s,x0y,z0o,c1]
           rw [if_neg hu] at hc
           exact⟨rfl,u.2,_,hc.symm,rfl⟩
      · have b0:(z.2==0)=false:=by simp [hz]
        have b1:(z.2 !=0)=true:=by simp [hz]
        rw [if_neg hz] at hc
        simp -dsimp only [go_sem,G0a,U0s,x0y,z0o,b0,b1]
        exact⟨rfl,z.2,_,hc.symm,rfl⟩
    · rintro st' ⟨sm,s,ws,hc,rfl⟩
      show∀E',PWP _ E' _ _ _
      intro E'
      refine Q0a ?_
      simp -dsimp only [go_sem,G0a,U0s,x0y,z0o]
      have e0:(y0a a b k).drop (w1k a b k).length= []:=by rw [H0x];simp [y0a]
      rw [e0] at hc
      rw [←hc]
      exact⟨⟨_,rfl⟩,Q1v _ s _,rfl⟩
    · rintro c st' ⟨rfl,e,X,hc,rfl⟩
      simp -dsimp only [go_sem,W3x,eblk,V0u,y1w,G0a,U0s]
      rw [hc]
      exact⟨⟨_,rfl⟩,Q1v _ default _,rfl⟩
end Go.Pv
end
section
/-picard.Next,Sure,wider,next. -/
set_option maxRecDepth 100000
namespace Go.Pv
open Go.Proofs
def H2w (f:List (List Mn)) (x a:List Ivl) (h:Nm) (p:Int):List Ivl×Int:=
 if V0n f=true∧rightB x=true∧rightB a=true∧x.length=f.length∧a.length=f.length∧Q0r h=true∧ ¬sgnN (ownN h)≤0∧Z0i p=true then
  if (V0x f a p).2=0 then
   if (K0i ⟨default,h⟩ (V0x f a p).1 p).2=0 then opB 0 x (K0i ⟨default,h⟩ (V0x f a p).1 p).1 p else([],(K0i ⟨default,h⟩ (V0x f a p).1 p).2)
  else([],(V0x f a p).2)
 else([],1)
end Go.Pv
end
section
/-The document's Next,Sure,blown. -/
set_option maxRecDepth 100000
namespace Go.Pv
open Go.Proofs
theorem X2m (p:Int) (st:Q0e):PCalls Tryz.prog 103 [.sc (.int .i64 p)] st (fun r st'=>r= .sc (.bool (Z0i p))∧st'=st):=by
 refine Q0b none Tryz.func103 rfl fun E=>Q0a ?_
 simp -dsimp only [go_sem]
 by_cases h:8≤p
 · simp -dsimp only [go_sem,ge_iff_le,h,decide_true]
   simp [Z0i,h]
 · simp -dsimp only [go_sem,ge_iff_le,h,decide_false]
   simp [Z0i,h]
end Go.Pv
end
