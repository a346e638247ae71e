/- Parts of the walk: N114, N115, N116. -/
import Derived.Test.YthichlfphjbadaaGreatZR
import Derived.Test.YthichlfphjbadaaGreatZEE
import Derived.Test.YthichlfphjbadaaGreatZEC
import Derived.Test.YthichlfphjbadaaGreatZAN
set_option linter.unusedVariables false
set_option linter.unusedSimpArgs false
section
/-record:count,and what reads one part into a H0q. -/
set_option maxRecDepth 100000
namespace Go.Pv
open Go.Proofs
theorem K3b (v:Nat) (st:Q0g) (hv:v<18446744073709551616):PCalls Tryz.prog 62 [.sc (.int .u64 v)] st
 (fun r st'=>r= .tup [.sc (.int .i64 (if v≤4096 then(v:Int) else 0)),.sc (.bool (decide (v≤4096)))]∧st'=st):=by
 refine Q0b none Tryz.func62 rfl fun E=>Q0a ?_
 simp -dsimp only [go_sem]
 refine ck (fun h=> ?_) (fun h=> ?_)
 · have h':4096<v:=by have:=of_decide_eq_true h;omega
   simp -dsimp only [go_sem]
   rw [if_neg (by omega),decide_eq_false (by omega)]
 · have h': ¬4096<v:=by have:=of_decide_eq_false h;omega
   have w:IntKind.i64.wrap (v:Int)=(v:Int):=Q0k _ (by omega)
   simp -dsimp only [go_sem,w]
   rw [if_pos (by omega),decide_eq_true (by omega)]
theorem j0n (k:Nat) (st:Q0g):PCalls Tryz.prog 58 [.gp k 0] st (fun r st'=>r= .fn (.func 108) [] [.gp st.length 0]∧st'=st++ [[.gp k 0]]):=by
 refine Q0b none Tryz.func58 rfl fun E=>Q0h (Q0a ?_)
 simp -dsimp only [go_sem]
 refine Y0a 0 (by simp [go_sem]) (by simp) (Q0a ?_)
 simp -dsimp only [go_sem]
theorem k0x (k off:Nat) (st:Q0g):PCalls Tryz.prog 59 [.gp k off] st (fun r st'=>r= .fn (.func 110) [] [.gp st.length 0]∧st'=st++ [[.gp k off]]):=by
 refine Q0b none Tryz.func59 rfl fun E=>Q0h (Q0a ?_)
 simp -dsimp only [go_sem]
 refine Y0a 0 (by simp [go_sem]) (by simp) (Q0a ?_)
 simp -dsimp only [go_sem]
theorem V1p (k off:Nat) (st:Q0g):PCalls Tryz.prog 60 [.gp k off] st (fun r st'=>r= .fn (.func 112) [] [.gp st.length 0]∧st'=st++ [[.gp k off]]):=by
 refine Q0b none Tryz.func60 rfl fun E=>Q0h (Q0a ?_)
 simp -dsimp only [go_sem]
 refine Y0a 0 (by simp [go_sem]) (by simp) (Q0a ?_)
 simp -dsimp only [go_sem]
theorem q2s (k off:Nat) (st:Q0g):PCalls Tryz.prog 65 [.gp k off] st (fun r st'=>r= .fn (.func 116) [] [.gp st.length 0]∧st'=st++ [[.gp k off]]):=by
 refine Q0b none Tryz.func65 rfl fun E=>Q0h (Q0a ?_)
 simp -dsimp only [go_sem]
 refine Y0a 0 (by simp [go_sem]) (by simp) (Q0a ?_)
 simp -dsimp only [go_sem]
theorem q0q (l:List UInt8) (e:Int) (r q k:Nat) (x:PV) (st:Q0g) (h:atR st r l e) (hl:l.length≤1000000000000) (hq:st.getD q []= [.gp k 0]) (hk:st.getD k []= [x]) (hkr:k≠r) (hqr:q≠r):
 PCalls Tryz.prog 108 [.gp r 0,.gp q 0] st (fun R st'=>R= .sc (.bool true)∧st'=(st.set r (rd (Q0s l e).2.1 (Q0s l e).2.2)).set k [.sc (.int .u64 (Q0s l e).1)]):=by
 have g1:(st.set r (rd (Q0s l e).2.1 (Q0s l e).2.2)).getD q []= [.gp k 0]:=by rw [Q0i _ _ _ _ _ hqr.symm];exact hq
 have g2:(st.set r (rd (Q0s l e).2.1 (Q0s l e).2.2)).getD k []= [x]:=by rw [Q0i _ _ _ _ _ hkr.symm];exact hk
 refine Q0b none Tryz.func108 rfl fun E=>Q0a ?_
 simp -dsimp only [go_sem]
 refine Q0m Z0t 8 (.step 0 [] (.step 1 [] (.step 2 [0] (.step 3 [] (.step 4 [] (.done)))))) (by decide+kernel) (by simp) ?_
 simp -dsimp only [go_sem,hq]
 refine(v0a l e r st h hl).mono ?_
 rintro R st' ⟨rfl,rfl⟩
 simp -dsimp only [go_sem,g1,g2]
theorem x0f (l:List UInt8) (e:Int) (r q k off:Nat) (o:List PV) (st:Q0g) (h:atR st r l e) (hl:l.length≤1000000000000) (hq:st.getD q []= [.gp k off]) (hk:st.getD k []=o) (ho:off+3≤o.length) (hkr:k≠r) (hqr:q≠r):
 PCalls Tryz.prog 110 [.gp r 0,.gp q 0] st (fun R st'=>R= .sc (.bool true)∧st'=(st.set r (rd (Q0r l e).2.1 (Q0r l e).2.2)).set k (over o off (encN (Q0r l e).1))):=by
 have g1:(st.set r (rd (Q0r l e).2.1 (Q0r l e).2.2)).getD q []= [.gp k off]:=by rw [Q0i _ _ _ _ _ hqr.symm];exact hq
 have g2:(st.set r (rd (Q0r l e).2.1 (Q0r l e).2.2)).getD k []=o:=by rw [Q0i _ _ _ _ _ hkr.symm];exact hk
 refine Q0b none Tryz.func110 rfl fun E=>Q0a ?_
 simp -dsimp only [go_sem]
 refine Q0m Z0t 8 (.step 0 [] (.step 1 [] (.step 2 [0] (.step 3 [] (.step 4 [] (.done)))))) (by decide+kernel) (by simp) ?_
 simp -dsimp only [go_sem,hq]
 refine(U1g l e r st h hl).mono ?_
 rintro R st' ⟨rfl,rfl⟩
 simp -dsimp only [go_sem,g1,g2]
 refine⟨by omega,?_⟩
 omega
theorem Z1z (l:List UInt8) (e:Int) (r q k off:Nat) (o:List PV) (st:Q0g) (h:atR st r l e) (hl:l.length≤1000000000000) (hq:st.getD q []= [.gp k off]) (hk:st.getD k []=o) (ho:off+1≤o.length) (hkr:k≠r) (hqr:q≠r):
 PCalls Tryz.prog 112 [.gp r 0,.gp q 0] st (fun R st'=>R= .sc (.bool true)∧st'=(st.set r (rd (X0s l e).2.1 (X0s l e).2.2)).set k (over o off [.sl .no (Q0t (X0s l e).1)])):=by
 have g1:(st.set r (rd (X0s l e).2.1 (X0s l e).2.2)).getD q []= [.gp k off]:=by rw [Q0i _ _ _ _ _ hqr.symm];exact hq
 have g2:(st.set r (rd (X0s l e).2.1 (X0s l e).2.2)).getD k []=o:=by rw [Q0i _ _ _ _ _ hkr.symm];exact hk
 refine Q0b none Tryz.func112 rfl fun E=>Q0a ?_
 simp -dsimp only [go_sem]
 refine Q0m Z0t 8 (.step 0 [] (.step 1 [] (.step 2 [0] (.step 3 [] (.step 4 [] (.done)))))) (by decide+kernel) (by simp) ?_
 simp -dsimp only [go_sem,hq]
 refine(Z3e l e r st h hl).mono ?_
 rintro R st' ⟨rfl,rfl⟩
 simp -dsimp only [go_sem,g1,g2]
 refine⟨by omega,?_⟩
 omega
end Go.Pv
end
section
/-record.read:parts in a row,up to the first error. -/
set_option maxRecDepth 100000
namespace Go.Pv
open Go.Proofs
def q0w (G:Nat→FuncId) (q:Nat→Nat) (n:Nat):List PV:=(List.range n).map fun i=> .fn (.func (G i)) [] [.gp (q i) 0]
theorem K1o (G:Nat→FuncId) (q:Nat→Nat) (n:Nat):(q0w G q n).length=n:=by simp [q0w]
theorem j1s (G:Nat→FuncId) (q:Nat→Nat) (n i:Nat) (h:i<n):(q0w G q n).getD i .junk= .fn (.func (G i)) [] [.gp (q i) 0]:=by
 simp [q0w,List.getD_eq_getElem?_getD,h]
def v2b (n:Nat) (ok:Nat→Bool) (L:Nat→List UInt8) (Er:Nat→Int) (J:Nat→Q0g→Prop) (okE:Bool) (JE:Q0g→Prop) (r:PV) (st':Q0g):Prop:=
 ∃e:Int,r= .sc (.int .i64 e)∧
  ((∃i,i<n∧(∀j,j<i→Er (j+1)=0∧ok j=true)∧((Er (i+1)≠0∧e=Er (i+1))∨(Er (i+1)=0∧ok i=false∧e=11))∧J (i+1) st')∨
   ((∀j,j<n→Er (j+1)=0∧ok j=true)∧((L n≠ []∧e=11∧J n st')∨(L n= []∧okE=false∧e=11∧JE st')∨(L n= []∧okE=true∧e=0∧JE st'))))
set_option maxHeartbeats 1000000 in
theorem H1x (b:List UInt8) (s0:Q0g) (n:Nat) (G:Nat→FuncId) (q:Nat→Nat) (ok:Nat→Bool) (L:Nat→List UInt8) (Er:Nat→Int) (J:Nat→Q0g→Prop) (gE:FuncId) (cE:List PV) (okE:Bool) (JE:Q0g→Prop)
 (hb:b.length≤140737488355328) (hn:n≤1000) (hG: ∀i,i<n→Q0c Tryz.prog (G i)=true) (hgE:Q0c Tryz.prog gE=true) (hcE:cE.all PV.closed2=true) (hfE:cE.map PV.forget2=cE) (hlE:cE.all (PV.lim1 0 0)=true)
 (h0:Er 0=0) (hJ0:J 0 (s0++ [rd b 0])) (hat: ∀i st,i≤n→J i st→atR st s0.length (L i) (Er i))
 (hp: ∀i st,i<n→(∀j,j<i→ok j=true)→Er i=0→J i st→PCalls Tryz.prog (G i) [.gp s0.length 0,.gp (q i) 0] st (fun r st'=>r= .sc (.bool (ok i))∧J (i+1) st'))
 (hE: ∀st,(∀j,j<n→ok j=true)→Er n=0→J n st→PCalls Tryz.prog gE cE st (fun r st'=>r= .sc (.bool okE)∧JE st')):
 PCalls Tryz.prog 57 [.sl .no (encB b),.sl .no (q0w G q n),.fn (.func gE) [] cE] s0 (v2b n ok L Er J okE JE):=by
 refine Q0b none Tryz.func57 rfl fun E=>Q0a ?_
 have pl:=K1o G q n
 simp -dsimp only [go_sem]
 refine(U3g b s0 hb).mono ?_
 rintro r st' ⟨rfl,rfl⟩
 simp -dsimp only [go_sem,pl]
 refine Q0e [false,false,true,false,false,false,false,true,false,false,false,false,false,true,true,true] 0 0
  (fun m s=> ∃i st',m=n-i∧i≤n∧(∀j,j<i→Er (j+1)=0∧ok j=true)∧J i st'∧s=⟨[.junk,.junk,.fn (.func gE) [] cE,.junk,.junk,.junk,.junk,.gp s0.length 0,.junk,.junk,.junk,.junk,.junk,.sl .no (q0w G q n),.sc (.int .i64 n),.sc (.int .i64 i)]++List.replicate 22 .junk,[],[],st'⟩) n ?_ ?_
 · simp -dsimp only [go_sem,hlE]
   exact⟨0,_,by omega,by omega,fun j hj=>absurd hj (Nat.not_lt_zero j),hJ0,rfl⟩
 · rintro m s ⟨i,st',rfl,hi,hall,hJ,rfl⟩
   have hEr:Er i=0:=by
    cases i with
    | zero=>exact h0
    | succ i=>exact(hall i (by omega)).1
   simp -dsimp only [go_sem]
   refine ck (fun h1=> ?_) (fun h1=> ?_)
   · have hlt:i<n:=by have:=of_decide_eq_true h1;omega
     have g1:=j1s G q n i hlt
     have hc:=hG i hlt
     have x1:IntKind.i64.wrap ((i:Int)+1)=((i+1:Nat):Int):=by rw [show((i:Int)+1)=((i+1:Nat):Int) from rfl,Q0k _ (by omega)]
     simp -dsimp only [go_sem,g1,pl,hc]
     refine⟨⟨by omega,hlt⟩,?_⟩
     refine(hp i st' hlt (fun j hj=>(hall j hj).2) hEr hJ).mono ?_
     rintro r st2 ⟨rfl,hJ2⟩
     simp -dsimp only [go_sem]
     refine(H3e (L (i+1)) (Er (i+1)) s0.length st2 (hat (i+1) st2 (by omega) hJ2)).mono ?_
     rintro r st3 ⟨rfl,rfl⟩
     simp -dsimp only [go_sem]
     refine ck (fun h2=> ?_) (fun h2=> ?_)
     · have he:Er (i+1)≠0:=by simpa using h2
       simp -dsimp only [go_sem]
       refine(H3e (L (i+1)) (Er (i+1)) s0.length _ (hat (i+1) _ (by omega) hJ2)).mono ?_
       rintro r st3 ⟨rfl,rfl⟩
       simp -dsimp only [go_sem]
       exact⟨_,rfl,.inl ⟨i,hlt,hall,.inl ⟨he,rfl⟩,hJ2⟩⟩
     · have he:Er (i+1)=0:=by simpa using h2
       simp -dsimp only [go_sem]
       refine ck (fun h3=> ?_) (fun h3=> ?_)
       · have ho:ok i=false:=by simpa using h3
         simp -dsimp only [go_sem]
         exact⟨_,rfl,.inl ⟨i,hlt,hall,.inr ⟨he,ho,rfl⟩,hJ2⟩⟩
       · have ho:ok i=true:=by simpa using h3
         simp -dsimp only [go_sem,x1,hlE]
         refine⟨n-(i+1),by omega,i+1,_,rfl,by omega,fun j hj=> ?_,hJ2,rfl⟩
         by_cases hj2:j<i
         · exact hall j hj2
         · have:j=i:=by omega
           subst this;exact⟨he,ho⟩
   · have hge:i=n:=by have:=of_decide_eq_false h1;omega
     subst hge
     simp -dsimp only [go_sem]
     refine Q0a ?_
     simp -dsimp only [go_sem]
     refine(G3i (L i) (Er i) s0.length st' (hat i st' (by omega) hJ)).mono ?_
     rintro r st3 ⟨rfl,rfl⟩
     simp -dsimp only [go_sem]
     refine gkF (fun h2=> ?_) (fun h2=> ?_)
     · have hl:L i= []:=by
        have:=of_decide_eq_false h2
        exact List.length_eq_zero_iff.1 (by omega)
       simp -dsimp only [go_sem,h2,hgE,hcE,hfE]
       refine(hE _ (fun j hj=>(hall j hj).2) hEr hJ).mono ?_
       rintro r st4 ⟨rfl,hJE⟩
       simp -dsimp only [go_sem,h2]
       cases okE with
       | true=>
        simp -dsimp only [go_sem,h2]
        exact⟨_,rfl,.inr ⟨hall,.inr (.inr ⟨hl,rfl,rfl,hJE⟩)⟩⟩
       | false=>
        simp -dsimp only [go_sem,h2]
        exact⟨_,rfl,.inr ⟨hall,.inr (.inl ⟨hl,rfl,rfl,hJE⟩)⟩⟩
     · have hl:L i≠ []:=fun e=>by
        have:=of_decide_eq_true h2
        rw [e] at this;simp at this
       simp -dsimp only [go_sem,h2]
       exact⟨_,rfl,.inr ⟨hall,.inl ⟨hl,rfl,hJ⟩⟩⟩
end Go.Pv
end
section
/-record:row,and what reads a frame's M and A. -/
set_option maxRecDepth 100000
namespace Go.Pv
open Go.Proofs
theorem Y0i : ∀(n:Nat) (l:List UInt8) (e:Int) (o:List Nm),(Z0j n l e o).2.1.length≤l.length
 | 0,l,e,o=>Nat.le_refl _
 | n+1,l,e,o=>Nat.le_trans (Y0i n _ _ _) (V0y l e)
theorem Y1y (m:Nat) (l:List UInt8) (e:Int) (k:Nat) (st:Q0g) (h:atR st k l e) (hl:l.length≤1000000000000) (hm:m≤1000):PCalls Tryz.prog 117 [.gp k 0,.sc (.int .i64 m)] st
 (fun r st'=>r= .sl .no (Q0w (Z0j m l e []).1)∧st'=st.set k (rd (Z0j m l e []).2.1 (Z0j m l e []).2.2)):=by
 refine Q0b none Tryz.func117 rfl fun E=>Q0a ?_
 simp -dsimp only [go_sem]
 refine X0k 5 3 ?_
 simp -dsimp only [go_sem]
 refine Q0e [true,false,false,false,false,true,true,true] 0 1
  (fun c s=> ∃i o l' e',c=m-i∧i≤m∧o.length=i∧l'.length≤l.length∧Z0j (m-i) l' e' o=Z0j m l e []∧
   s=⟨[.gp k 0,.junk,.junk,.junk,.junk,.sl (.own 0) (Q0w o),.sc (.int .i64 m),.sc (.int .i64 (i:Nat))]++List.replicate 8 .junk,[],[(o.length,3)],st.set k (rd l' e')⟩) m ?_ ?_
 · simp -dsimp only [go_sem]
   refine⟨0,[],l,e,by omega,by omega,rfl,by omega,rfl,?_⟩
   rw [h.same];rfl
 · rintro c s ⟨i,o,l',e',rfl,hi,ho,hl',hk,rfl⟩
   simp -dsimp only [go_sem]
   refine ck (fun h1=> ?_) (fun h1=> ?_)
   · have hlt:i<m:=by have:=of_decide_eq_true h1;omega
     have x1:IntKind.i64.wrap ((i:Int)+1)=((i+1:Nat):Int):=by rw [show((i:Int)+1)=((i+1:Nat):Int) from rfl,Q0k _ (by omega)]
     rw [show m-i=(m-(i+1))+1 from by omega,Z0j] at hk
     simp -dsimp only [go_sem]
     refine(U1g l' e' k _ (h.set l' e') (by omega)).mono ?_
     rintro r st' ⟨rfl,rfl⟩
     simp -dsimp only [go_sem,V0v,x1]
     have hle:=V0y l' e'
     refine⟨by omega,m-(i+1),by omega,i+1,o++ [(Q0r l' e').1],(Q0r l' e').2.1,(Q0r l' e').2.2,rfl,by omega,by simp [ho],by omega,hk,?_⟩
     simp [Q0w,encN]
   · have hge:i=m:=by have:=of_decide_eq_false h1;omega
     simp -dsimp only [go_sem]
     refine V0b [false,false,false,false,false,true] (Q0a ?_)
     simp -dsimp only [go_sem]
     rw [hge,Nat.sub_self,Z0j] at hk
     rw [←hk]
     exact⟨rfl,rfl⟩
structure SetX (st X:Q0g) (r q k:Nat) (c0 c1 c2 c3 c4 c5 c6 c9 M A:PV) (l:List UInt8) (e:Int):Prop where
 rd:atR X r l e
 cap:X.getD q []= [.gp k 7]
 obj:X.getD k []= [c0,c1,c2,c3,c4,c5,c6,M,A,c9]
 len:st.length≤X.length
 old: ∀p,p<st.length→p≠r→p≠k→X.getD p []=st.getD p []
theorem SetX.fin {st X:Q0g} {r q k:Nat} {c0 c1 c2 c3 c4 c5 c6 c9 M A:PV} {l:List UInt8} {e:Int} (h:SetX st X r q k c0 c1 c2 c3 c4 c5 c6 c9 M A l e) (hkr:k≠r) (hr:r<st.length) (hk:k<st.length):
 ∃D,X=(st.set r (Go.Pv.rd l e)).set k [c0,c1,c2,c3,c4,c5,c6,M,A,c9]++D:=by
 refine⟨X.drop st.length,?_⟩
 have hX:=List.take_append_drop st.length X
 rw [←hX]
 congr 1
 · refine List.ext_getElem (by simp;exact Nat.min_eq_left h.len) fun p hp hp2=> ?_
   have hp3:p<st.length:=by simp at hp2;omega
   have hp4:p<X.length:=Nat.lt_of_lt_of_le hp3 h.len
   have e1:X.getD p []=X[p]:=by simp [List.getD_eq_getElem?_getD,hp4]
   rw [List.getElem_take,←e1]
   by_cases hpk:p=k
   · subst hpk;rw [h.obj];simp
   · by_cases hpr:p=r
     · subst hpr
       have:=h.rd
       unfold atR at this
       rw [this,List.getElem_set_ne (fun e=>hpk e.symm)];simp
     · rw [h.old p hp3 hpr hpk,List.getElem_set_ne (fun e=>hpk e.symm),List.getElem_set_ne (fun e=>hpr e.symm)]
       simp [List.getD_eq_getElem?_getD,hp3]
 · rw [hX]
theorem SetX.read {st X:Q0g} {r q k:Nat} {c0 c1 c2 c3 c4 c5 c6 c9 M A:PV} {l:List UInt8} {e:Int} (h:SetX st X r q k c0 c1 c2 c3 c4 c5 c6 c9 M A l e) (hkr:k≠r) (hqr:q≠r) (l':List UInt8) (e':Int):
 SetX st (X.set r (Go.Pv.rd l' e')) r q k c0 c1 c2 c3 c4 c5 c6 c9 M A l' e':=
 ⟨h.rd.set l' e',by rw [Q0i _ _ _ _ _ hqr.symm];exact h.cap,by rw [Q0i _ _ _ _ _ hkr.symm];exact h.obj,by simpa using h.len,fun p hp h1 h2=>by rw [Q0i _ _ _ _ _ h1.symm];exact h.old p hp h1 h2⟩
theorem SetX.put {st X:Q0g} {r q k:Nat} {c0 c1 c2 c3 c4 c5 c6 c9 M A:PV} {l:List UInt8} {e:Int} (h:SetX st X r q k c0 c1 c2 c3 c4 c5 c6 c9 M A l e) (hkr:k≠r) (hqk:q≠k) (hkX:k<X.length) (M' A':PV):
 SetX st (X.set k [c0,c1,c2,c3,c4,c5,c6,M',A',c9]) r q k c0 c1 c2 c3 c4 c5 c6 c9 M' A' l e:=
 ⟨by unfold atR;rw [Q0i _ _ _ _ _ hkr];exact h.rd,by rw [Q0i _ _ _ _ _ hqk.symm];exact h.cap,Q0n _ _ _ _ hkX,by simpa using h.len,fun p hp h1 h2=>by rw [Q0i _ _ _ _ _ h2.symm];exact h.old p hp h1 h2⟩
theorem SetX.more {st X X':Q0g} {r q k j:Nat} {c0 c1 c2 c3 c4 c5 c6 c9 M A:PV} {l:List UInt8} {e:Int} (h:SetX st X r q k c0 c1 c2 c3 c4 c5 c6 c9 M A l e) (hr:r<st.length) (hq:q<st.length) (hk:k<st.length) (hj:st.length≤j) (hl:X.length≤X'.length) (ho: ∀p,p<X.length→p≠j→X'.getD p []=X.getD p []):
 SetX st X' r q k c0 c1 c2 c3 c4 c5 c6 c9 M A l e:=by
 have hl2:=h.len
 refine⟨by unfold atR;rw [ho r (by omega) (by omega)];exact h.rd,by rw [ho q (by omega) (by omega)];exact h.cap,by rw [ho k (by omega) (by omega)];exact h.obj,by omega,fun p hp h1 h2=>by rw [ho p (by omega) (by omega)];exact h.old p hp h1 h2⟩
theorem U2r (q:List (List Nm)):flat (encQ q)=encQ q:=by
 unfold encQ flat
 induction q with
 | nil=>rfl
 | cons x q ih=>simp only [List.map_cons,List.flatten_cons,ih];rfl
theorem k1o (q:List (List Nm)): ∀i,i<(encQ q).length→((encQ q).getD i .junk).cells.length=1:=fun i hi=>by
 unfold encQ at hi⊢
 simp at hi
 simp [List.getD_eq_getElem?_getD,hi,PV.cells]
set_option maxHeartbeats 4000000 in
theorem V2i (l:List UInt8) (e:Int) (r q k:Nat) (c0 c1 c2 c3 c4 c5 c6 c9:PV) (st:Q0g) (h:atR st r l e) (hl:l.length≤1000000000000) (hq:st.getD q []= [.gp k 7]) (hk:st.getD k []= [c0,c1,c2,c3,c4,c5,c6,.sl .full [],.sl .full [],c9])
 (hkr:k≠r) (hqr:q≠r) (hqk:q≠k):
 PCalls Tryz.prog 116 [.gp r 0,.gp q 0] st (fun R st'=>
  (((Q0s l e).1<1∨4<(Q0s l e).1)∧R= .sc (.bool false)∧st'=st.set r (rd (Q0s l e).2.1 (Q0s l e).2.2))∨
  (1≤(Q0s l e).1∧(Q0s l e).1≤4∧R= .sc (.bool true)∧ ∃D,st'=(st.set r (rd (V0o (Q0s l e).1 (Q0s l e).1 (Z0j (Q0s l e).1 (Q0s l e).2.1 (Q0s l e).2.2 []).2.1 (Z0j (Q0s l e).1 (Q0s l e).2.1 (Q0s l e).2.2 []).2.2 []).2.1
   (V0o (Q0s l e).1 (Q0s l e).1 (Z0j (Q0s l e).1 (Q0s l e).2.1 (Q0s l e).2.2 []).2.1 (Z0j (Q0s l e).1 (Q0s l e).2.1 (Q0s l e).2.2 []).2.2 []).2.2)).set k [c0,c1,c2,c3,c4,c5,c6,.sl .no (Q0w (Z0j (Q0s l e).1 (Q0s l e).2.1 (Q0s l e).2.2 []).1),
    .sl .no (encQ (V0o (Q0s l e).1 (Q0s l e).1 (Z0j (Q0s l e).1 (Q0s l e).2.1 (Q0s l e).2.2 []).2.1 (Z0j (Q0s l e).1 (Q0s l e).2.1 (Q0s l e).2.2 []).2.2 []).1),c9]++D)):=by
 have hrl:=h.lt
 have hkl:k<st.length:=Nat.lt_of_not_le fun hn=>by rw [List.getD_eq_getElem?_getD,List.getElem?_eq_none hn] at hk;cases hk
 have hql:q<st.length:=Nat.lt_of_not_le fun hn=>by rw [List.getD_eq_getElem?_getD,List.getElem?_eq_none hn] at hq;cases hq
 have X0:SetX st st r q k c0 c1 c2 c3 c4 c5 c6 c9 (.sl .full []) (.sl .full []) l e:=⟨h,hq,hk,Nat.le_refl _,fun _ _ _ _=>rfl⟩
 refine Q0b none Tryz.func116 rfl fun E=>Q0h (Q0a ?_)
 simp -dsimp only [go_sem]
 refine Q0h (Q0a ?_)
 simp -dsimp only [go_sem]
 refine(v0a l e r st h hl).mono ?_
 rintro R st' ⟨rfl,rfl⟩
 simp -dsimp only [go_sem]
 have hu:=H0m l e
 have hul:=Y0h l e
 have X1:=X0.read hkr hqr (Q0s l e).2.1 (Q0s l e).2.2
 generalize Q0s l e=U at*
 obtain⟨n,l1,e1⟩:=U
 simp only at hu hul X1⊢
 by_cases hn:n<1∨4<n
 · refine Q0a ?_
   by_cases h1:n<1
   · have d1:decide ((n:Int)<1)=true:=decide_eq_true (by omega)
     simp -dsimp only [go_sem,d1]
     exact .inl hn
   · have d1:decide ((n:Int)<1)=false:=decide_eq_false (by omega)
     have d2:decide ((n:Int)>4)=true:=decide_eq_true (by omega)
     simp -dsimp only [go_sem,d1,d2]
     exact .inl hn
 · have d1:decide ((n:Int)<1)=false:=decide_eq_false (by omega)
   have d2:decide ((n:Int)>4)=false:=decide_eq_false (by omega)
   have w1:IntKind.i64.wrap (n:Int)=(n:Int):=Q0k _ (by omega)
   refine Q0h (Q0a ?_)
   simp -dsimp only [go_sem,d1,d2]
   refine Q0h (Q0a ?_)
   simp -dsimp only [go_sem]
   refine Q0m Z0t 37 (.step 0 [] (.step 1 [] (.step 2 [] (.step 3 [] (.step 4 [0] (.step 5 [] (.step 6 [] (.step 7 [] (.done))))))))) (by decide+kernel) (by simp) ?_
   have hmr:=Y0i n l1 e1 []
   have X2:=X1.read hkr hqr (Z0j n l1 e1 []).2.1 (Z0j n l1 e1 []).2.2
   have gc:=X1.cap
   have gc2:=X2.cap
   have go2:=X2.obj
   simp -dsimp only [go_sem,gc,w1]
   refine(Y1y n l1 e1 r _ X1.rd (by omega) (by omega)).mono ?_
   rintro R st' ⟨rfl,rfl⟩
   simp -dsimp only [go_sem,gc2,go2]
   have X3:=X2.put hkr hqk (by simpa using hkl) (.sl .no (Q0w (Z0j n l1 e1 []).1)) (.sl .full [])
   generalize Z0j n l1 e1 []=m at*
   obtain⟨ms,lm,em⟩:=m
   simp only at hmr X3⊢
   generalize hY:((st.set r (rd l1 e1)).set r (rd lm em)).set k [c0,c1,c2,c3,c4,c5,c6,.sl .no (Q0w ms),.sl .full [],c9]=Y at*
   refine Q0h (Q0a ?_)
   simp -dsimp only [go_sem]
   refine Q0a ?_
   simp -dsimp only [go_sem]
   refine Q0e [true,true,false,false,true,false,false,false,false,false,false,false,false,false,false,false,false,false,false,false,true,true] 0 0
    (fun c s=> ∃i X rows l' e' A,c=n-i∧i≤n∧rows.length=i∧l'.length≤l.length∧V0o n (n-i) l' e' rows=V0o n n lm em []∧SetX st X r q k c0 c1 c2 c3 c4 c5 c6 c9 (.sl .no (Q0w ms)) A l' e'∧
     ((i=0∧A= .sl .full []∧rows= [])∨(0<i∧ ∃j cap R,A= .gr j i cap∧st.length≤j∧j<X.length∧X.getD j []=flat (encQ rows)++R∧R.length=(cap-i)*1∧i≤cap))∧
     s=⟨[.gp r 0,.gp q 0,.junk,.junk,.sc (.int .u64 n)]++(List.replicate 15 .junk++([.sc (.int .u64 n),.sc (.int .u64 i)]++List.replicate 15 .junk)),[],[],X⟩) n ?_ ?_
   · simp -dsimp only [go_sem]
     exact⟨0,Y,[],lm,em,.sl .full [],by omega,by omega,rfl,by omega,rfl,X3,.inl ⟨rfl,rfl,rfl⟩,rfl⟩
   · rintro c s ⟨i,X,rows,l',e',A,rfl,hi,hrows,hl',hrd,hX,hA,rfl⟩
     simp -dsimp only [go_sem]
     refine ck (fun h1=> ?_) (fun h1=> ?_)
     · have hlt:i<n:=by have:=of_decide_eq_true h1;omega
       have x1:IntKind.u64.wrap ((i:Int)+1)=((i+1:Nat):Int):=by rw [show((i:Int)+1)=((i+1:Nat):Int) from rfl,Z0c _ (by omega)]
       have Y2:=hX.read hkr hqr (Z0j n l' e' []).2.1 (Z0j n l' e' []).2.2
       have hmr2:=Y0i n l' e' []
       have gc:=hX.cap
       have go:=hX.obj
       have gc2:=Y2.cap
       have go2:=Y2.obj
       rw [show n-i=(n-(i+1))+1 from by omega,V0o] at hrd
       have hXl:=hX.len
       rcases hA with ⟨rfl,rfl,rfl⟩ | ⟨hi0,j,cap,R,rfl,hj,hjX,hjo,hR,hic⟩
       · simp -dsimp only [go_sem]
         refine q1h [false,false,false,false,false,false,false,false,false,false,true] Z0t 37 (.step 0 [] (.step 1 [] (.step 2 [] (.step 3 [] (.step 4 [] (.step 5 [] (.step 6 [] (.step 7 [] (.step 8 [0,1,4] (.step 9 [] (.step 10 [0,1] (.step 11 [] (.step 12 [] (.step 13 [] (.done))))))))))))))) (by decide+kernel) (by simp) ?_
         simp -dsimp only [go_sem,gc,go,w1]
         refine(Y1y n l' e' r _ hX.rd (by omega) (by omega)).mono ?_
         rintro R st' ⟨rfl,rfl⟩
         simp -dsimp only [go_sem,gc2,go2,x1,List.length_set]
         refine⟨GrowOK.mk_one rfl (by decide) rfl (by omega) (by decide) rfl rfl,fun cap' R hc hR=> ?_⟩
         have Y3:=Y2.more (X':=X.set r (rd (Z0j n l' e' []).2.1 (Z0j n l' e' []).2.2)++ [flat [PV.sl Tag.no (Q0w (Z0j n l' e' []).1)]++R]) (j:=X.length) hrl hql hkl hXl (by simp) (fun p hp _=>Q0o _ _ _ _ hp)
         have Y4:=Y3.put hkr hqk (by simp;omega) (.sl .no (Q0w ms)) (.gr X.length 1 cap')
         rw [Y3.cap,Y3.obj]
         refine⟨⟨by simp,rfl⟩,⟨by simp,by simp⟩,n-1,by omega,1,_,[(Z0j n l' e' []).1],_,_,.gr X.length 1 cap',rfl,by omega,rfl,by omega,hrd,Y4,.inr ⟨by omega,X.length,cap',R,rfl,hXl,by simp,?_,by omega,hc⟩,rfl⟩
         rw [Q0i _ _ _ _ _ (by omega),Q0q _ _ _ _ (by simp)]
         simp [encQ]
       · simp -dsimp only [go_sem]
         refine q1h [false,false,false,false,false,false,false,false,false,false,true] Z0t 37 (.step 0 [] (.step 1 [] (.step 2 [] (.step 3 [] (.step 4 [] (.step 5 [] (.step 6 [] (.step 7 [] (.step 8 [0,1,4] (.step 9 [] (.step 10 [0,1] (.step 11 [] (.step 12 [] (.step 13 [] (.done))))))))))))))) (by decide+kernel) (by simp) ?_
         simp -dsimp only [go_sem,gc,go,w1]
         refine(Y1y n l' e' r _ hX.rd (by omega) (by omega)).mono ?_
         rintro R st' ⟨rfl,rfl⟩
         simp -dsimp only [go_sem,gc2,go2]
         have hj2:j<(X.set r (rd (Z0j n l' e' []).2.1 (Z0j n l' e' []).2.2)).length:=by simpa using hjX
         have hj3:(X.set r (rd (Z0j n l' e' []).2.1 (Z0j n l' e' []).2.2)).getD j []=flat (encQ rows)++R:=by rw [Q0i _ _ _ _ _ (by omega)];exact hjo
         have hfl:=U2r rows
         have hql2:(encQ rows).length=i:=by simp [encQ,hrows]
         have hcl:((X.set r (rd (Z0j n l' e' []).2.1 (Z0j n l' e' []).2.2)).getD j []).length=cap*1:=by rw [hj3,hfl,List.length_append,hql2,hR];omega
         refine⟨GrowOK.mk_one rfl (by decide) hcl (by omega) (by decide) rfl rfl,fun j' cap' st' hg=> ?_⟩
         obtain⟨R',g1,g2,g3,g4,g5,g6,g7⟩:=hg.facts hj2 hj3 (by rw [hfl,hql2,Nat.mul_one]) rfl hR hic
         have hj':st.length≤j':=by rcases g5 with rfl | rfl;exact hj;simpa using hXl
         have Y3:=Y2.more (X':=st') (j:=j) hrl hql hkl hj g6 g7
         have Y4:=Y3.put hkr hqk (by have:=Y3.len;omega) (.sl .no (Q0w ms)) (.gr j' (i+1) cap')
         rw [Y3.cap,Y3.obj]
         refine⟨⟨by simp,rfl⟩,⟨by simp,by simp⟩,n-(i+1),by omega,i+1,_,rows++ [(Z0j n l' e' []).1],_,_,.gr j' (i+1) cap',rfl,by omega,by simp [hrows],by omega,hrd,Y4,.inr ⟨by omega,j',cap',R',rfl,hj',by simpa using g4,?_,by simpa using g2,by simpa using g3⟩,by rw [x1];rfl⟩
         rw [Q0i _ _ _ _ _ (by omega),g1]
         simp [encQ,flat]
     · have hge:i=n:=by have:=of_decide_eq_false h1;omega
       simp -dsimp only [go_sem]
       subst hge
       rcases hA with ⟨rfl,_,_⟩ | ⟨hi0,j,cap,R,rfl,hj,hjX,hjo,hR,hic⟩
       · omega
       have hXl:=hX.len
       refine j1l j k 8 i cap 1 (encQ rows) R hjX (by omega) (by show k<X.length;omega) (by show(X.getD k []).getD 8 .junk=_;rw [hX.obj];rfl) hjo (by simp [encQ,hrows]) (k1o rows) (by decide) (Q0a ?_)
       have Y3:=hX.more (X':=X.set j []) (j:=j) hrl hql hkl hj (by simp) (fun p hp hne=>Q0i _ _ _ _ _ hne.symm)
       have Y4:=Y3.put hkr hqk (by simp;omega) (.sl .no (Q0w ms)) (.sl .no (encQ rows))
       rw [Nat.sub_self,V0o] at hrd
       simp -dsimp only [go_sem,hX.obj]
       rw [←hrd]
       refine .inr ⟨by omega,by omega,Y4.fin hkr hrl hkl⟩
end Go.Pv
end
