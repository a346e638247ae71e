/- Parts of the walk: N120, N122. -/
import Derived.Test.YthichlfphjbadaaGreatZEI
import Derived.Test.YthichlfphjbadaaGreatZEC
set_option linter.unusedVariables false
set_option linter.unusedSimpArgs false
section
/-record.ReadState:the state that bytes tell. -/
set_option maxRecDepth 100000
namespace Go.Pv
open Go.Proofs
theorem y0x : ∀(n:Nat) (l:List UInt8) (e:Int) (o:List Nm),o.all Q0f=true→(Z0o n l e o).1.all Q0f=true∧(Z0o n l e o).1.length=o.length+n
 | 0,l,e,o,h=>⟨h,rfl⟩
 | n+1,l,e,o,h=>by
  rw [Z0o]
  have:=y0x n (Q0m l e).2.1 (Q0m l e).2.2 (o++ [(Q0m l e).1]) (by simp [h,X0e])
  refine⟨this.1,?_⟩
  rw [this.2];simp;omega
theorem Y1k (m:Nat): ∀(n:Nat) (l:List UInt8) (e:Int) (o:List (List Nm)),o.all (fun x=>Z0l x m)=true→(V0v m n l e o).1.all (fun x=>Z0l x m)=true∧(V0v m n l e o).1.length=o.length+n
 | 0,l,e,o,h=>⟨h,rfl⟩
 | n+1,l,e,o,h=>by
  rw [V0v]
  have hn:=y0x m l e [] rfl
  have:=Y1k m n (Z0o m l e []).2.1 (Z0o m l e []).2.2 (o++ [(Z0o m l e []).1]) (by
   rw [List.all_append,h,Bool.true_and]
   simp only [List.all_cons,List.all_nil,Bool.and_true]
   unfold Z0l
   rw [hn.1,hn.2];simp)
  refine⟨this.1,?_⟩
  rw [this.2];simp;omega
theorem j2h {n:Nat} (hn:n≤1000) (l:List UInt8) (e:Int):wNs' (Z0o n l e []).1:=by
 have h:=y0x n l e [] rfl
 exact H0m (n:=n) (by unfold Z0l;rw [h.1,h.2];simp) hn
theorem j2g {m n:Nat} (hm:m≤1000) (hn:n≤1000) (l:List UInt8) (e:Int):wQs (V0v m n l e []).1:=by
 have h:=Y1k m n l e [] rfl
 refine⟨by rw [h.2];simp;omega,fun i hi=>H0m (n:=m) ?_ hm⟩
 have:=List.all_eq_true.1 h.1 ((V0v m n l e []).1.getD i []) (by rw [List.getD_eq_getElem?_getD,List.getElem?_eq_getElem hi];exact List.getElem_mem hi)
 exact this
theorem J1k (f s a:Nat) (c0:PV) (x y:Nm) (fm:Fm) (st:Q0g) (ha:a<18446744073709551616) (wx:wN x) (wy:wN y) (wf:wFm fm)
 (hf:st.getD f []= [.sc (.int .u64 a)]) (hs:st.getD s []= [c0,.sc (.bool x.neg),.sc (.int .i64 x.exp),.sl .no (encW x.w),.sc (.bool y.neg),.sc (.int .i64 y.exp),.sl .no (encW y.w),.sl .no (Q0z fm.m),.sl .no (encQ fm.a),.sl .no (Q0u fm.r)])
 (hft:f≠s):PCalls Tryz.prog 66 [.gp f 0,.gp s 0] st
 (fun r st'=>r= .sc (.bool (decide (a≤4096)&&Z0g ⟨cntV a,x,y,fm⟩))∧st'=st.set s (J0v ⟨cntV a,x,y,fm⟩)):=by
 have hsl:s<st.length:=Nat.lt_of_not_le fun hn=>by rw [List.getD_eq_getElem?_getD,List.getElem?_eq_none hn] at hs;cases hs
 refine Q0b none Tryz.func66 rfl fun E=>Q0h (Q0a ?_)
 simp -dsimp only [go_sem]
 refine Q0h (Q0a ?_)
 simp -dsimp only [go_sem]
 refine Q0h (Q0a ?_)
 simp -dsimp only [go_sem,hf]
 refine(H1w a st ha).mono ?_
 rintro r st ⟨rfl,rfl⟩
 simp -dsimp only [go_sem,hs]
 have g3:=Q0p st s (J0v ⟨cntV a,x,y,fm⟩) [] hsl
 simp only [J0v] at g3
 refine Q0a ?_
 cases da:decide (a≤4096) with
 | false=>
  simp -dsimp only [go_sem]
  rfl
 | true=>
  simp -dsimp only [go_sem,g3]
  refine(z0g ⟨cntV a,x,y,fm⟩ _ ⟨wx,wy,wf⟩).mono ?_
  rintro r st' ⟨rfl,rfl⟩
  simp -dsimp only [go_sem]
def tsU (b:List UInt8):=Q0k b 0
def tsX (b:List UInt8):=Q0m (tsU b).2.1 (tsU b).2.2
def tsY (b:List UInt8):=Q0m (tsX b).2.1 (tsX b).2.2
def tsN (b:List UInt8):=Q0k (tsY b).2.1 (tsY b).2.2
def tsM (b:List UInt8):=Z0o (tsN b).1 (tsN b).2.1 (tsN b).2.2 []
def tsA (b:List UInt8):=V0v (tsN b).1 (tsN b).1 (tsM b).2.1 (tsM b).2.2 []
def tsZ (b:List UInt8):=X0b (tsA b).2.1 (tsA b).2.2
def G0j (b:List UInt8):Prop:=(tsN b).1<1∨4<(tsN b).1
instance (b :List UInt8):Decidable (G0j b):=by unfold G0j;exact inferInstance
def tsLE (b:List UInt8):Nat→List UInt8×Int
 | 0=>(b,0) | 1=>(tsU b).2 | 2=>(tsX b).2 | 3=>(tsY b).2 | 4=>if G0j b then(tsN b).2 else(tsA b).2 | _=>(tsZ b).2
def q1i :List PV:= [.sc (.bool false),.sc (.int .i64 0),.sl .full []]
def W1i :List PV:= [.sl .full [],.sl .full [],.sl .full []]
def tsO (b:List UInt8):Nat→List PV
 | 0 | 1=> [.sc (.int .i64 0)]++(q1i++(q1i++W1i))
 | 2=> [.sc (.int .i64 0)]++(encN (tsX b).1++(q1i++W1i))
 | 3=> [.sc (.int .i64 0)]++(encN (tsX b).1++(encN (tsY b).1++W1i))
 | 4=> [.sc (.int .i64 0)]++(encN (tsX b).1++(encN (tsY b).1++(if G0j b then W1i else [.sl .no (Q0z (tsM b).1),.sl .no (encQ (tsA b).1),.sl .full []])))
 | _=> [.sc (.int .i64 0)]++(encN (tsX b).1++(encN (tsY b).1++ [.sl .no (Q0z (tsM b).1),.sl .no (encQ (tsA b).1),.sl .no (Q0u (tsZ b).1)]))
def tsF (b:List UInt8) (i:Nat):PV:= .sc (.int .u64 (if i=0 then 0 else(tsU b).1:Nat))
def tsW (b:List UInt8) (n i:Nat):Q0g:= [tsO b i,[tsF b i],[.gp (n+1) 0],[.gp n 1],[.gp n 4],[.gp n 7],[.gp n 9],rd (tsLE b i).1 (tsLE b i).2]
def tsG :Nat→FuncId
 | 0=>108 | 1 | 2=>110 | 3=>116 | _=>112
def tsK (b:List UInt8) (i:Nat):Bool:=if i=3 then !decide (G0j b) else true
theorem Y1j (m:Nat): ∀(n:Nat) (l:List UInt8) (e:Int) (o:List (List Nm)),(V0v m n l e o).2.1.length≤l.length
 | 0,l,e,o=>Nat.le_refl _
 | n+1,l,e,o=>Nat.le_trans (Y1j m n _ _ _) (Y0s m l e [])
theorem apsD (st W D:Q0g) (i:Nat) (v:List PV) (h:i<W.length):(st++(W++D)).set (st.length+i) v=st++(W.set i v++D):=by
 rw [aps,List.set_append_left _ _ h]
theorem apgD (st W D:Q0g) (i:Nat) (h:i<W.length):(st++(W++D)).getD (st.length+i) []=W.getD i []:=by
 rw [apg,Q0r _ _ _ _ h]
set_option maxHeartbeats 1000000 in
theorem X3o (b:List UInt8) (st D:Q0g) (hb:b.length≤1000000000000) (i:Nat) (hi:i<5) (h4:i=4→ ¬G0j b):PCalls Tryz.prog (tsG i) [.gp (st.length+7) 0,.gp (st.length+2+i) 0] (st++(tsW b st.length i++D))
 (fun r st'=>r= .sc (.bool (tsK b i))∧ ∃D,st'=st++(tsW b st.length (i+1)++D)):=by
 have l1:(tsU b).2.1.length≤b.length:=Y0r _ _
 have l2:(tsX b).2.1.length≤b.length:=Nat.le_trans (W0h _ _) l1
 have l3:(tsY b).2.1.length≤b.length:=Nat.le_trans (W0h _ _) l2
 have l4:(tsN b).2.1.length≤b.length:=Nat.le_trans (Y0r _ _) l3
 have l5:(tsM b).2.1.length≤b.length:=Nat.le_trans (Y0s _ _ _ _) l4
 have l6:(tsA b).2.1.length≤b.length:=Nat.le_trans (Y1j _ _ _ _ _) l5
 have at': ∀i,atR (st++(tsW b st.length i++D)) (st.length+7) (tsLE b i).1 (tsLE b i).2:=fun i=>apgD st (tsW b st.length i) D 7 (by simp [tsW])
 have gg: ∀i j,j<8→(st++(tsW b st.length i++D)).getD (st.length+j) []=(tsW b st.length i).getD j []:=fun i j hj=>apgD st _ D j (by simp [tsW];omega)
 have gs: ∀i j v,j<8→(st++(tsW b st.length i++D)).set (st.length+j) v=st++((tsW b st.length i).set j v++D):=fun i j v hj=>apsD st _ D j v (by simp [tsW];omega)
 have g0: ∀i,(st++(tsW b st.length i++D)).getD st.length []=tsO b i:=fun i=>gg i 0 (by omega)
 have c:i=0∨i=1∨i=2∨i=3∨i=4:=by omega
 rcases c with rfl | rfl | rfl | rfl | rfl
 · refine(z0i b 0 (st.length+7) (st.length+2) (st.length+1) (tsF b 0) _ (at' 0) hb (gg 0 2 (by omega)) (gg 0 1 (by omega)) (by omega) (by omega)).mono ?_
   rintro r st' ⟨rfl,rfl⟩
   rw [gs 0 7 _ (by omega),apsD _ _ _ 1 _ (by simp [tsW])]
   exact⟨rfl,D,rfl⟩
 · refine(x0v (tsU b).2.1 (tsU b).2.2 (st.length+7) (st.length+3) st.length 1 (tsO b 1) _ (at' 1) (by omega) (gg 1 3 (by omega)) (g0 1) (by simp [tsO,q1i,W1i]) (by omega) (by omega)).mono ?_
   rintro r st' ⟨rfl,rfl⟩
   rw [gs 1 7 _ (by omega)]
   have:=apsD st ((tsW b st.length 1).set 7 (rd (Q0m (tsU b).2.1 (tsU b).2.2).2.1 (Q0m (tsU b).2.1 (tsU b).2.2).2.2)) D 0 (over (tsO b 1) 1 (encN (Q0m (tsU b).2.1 (tsU b).2.2).1)) (by simp [tsW])
   rw [Nat.add_zero] at this
   rw [this]
   exact⟨rfl,D,rfl⟩
 · refine(x0v (tsX b).2.1 (tsX b).2.2 (st.length+7) (st.length+4) st.length 4 (tsO b 2) _ (at' 2) (by omega) (gg 2 4 (by omega)) (g0 2) (by simp [tsO,encN,q1i,W1i]) (by omega) (by omega)).mono ?_
   rintro r st' ⟨rfl,rfl⟩
   rw [gs 2 7 _ (by omega)]
   have:=apsD st ((tsW b st.length 2).set 7 (rd (Q0m (tsX b).2.1 (tsX b).2.2).2.1 (Q0m (tsX b).2.1 (tsX b).2.2).2.2)) D 0 (over (tsO b 2) 4 (encN (Q0m (tsX b).2.1 (tsX b).2.2).1)) (by simp [tsW])
   rw [Nat.add_zero] at this
   rw [this]
   exact⟨rfl,D,rfl⟩
 · refine(Y2p (tsY b).2.1 (tsY b).2.2 (st.length+7) (st.length+5) st.length (.sc (.int .i64 0)) (.sc (.bool (tsX b).1.neg)) (.sc (.int .i64 (tsX b).1.exp)) (.sl .no (encW (tsX b).1.w)) (.sc (.bool (tsY b).1.neg)) (.sc (.int .i64 (tsY b).1.exp)) (.sl .no (encW (tsY b).1.w)) (.sl .full []) _
    (at' 3) (by omega) (gg 3 5 (by omega)) (g0 3) (by omega) (by omega) (by omega)).mono ?_
   rintro r st' (⟨hbad,rfl,rfl⟩ | ⟨h1,h2,rfl,D',rfl⟩)
   · have hB:G0j b:=hbad
     rw [gs 3 7 _ (by omega)]
     refine⟨by simp [tsK,hB],D,?_⟩
     simp only [tsW,tsO,tsLE,if_pos hB];rfl
   · have hB: ¬G0j b:=by
      have h1:1≤(tsN b).1:=h1
      have h2:(tsN b).1≤4:=h2
      unfold G0j;omega
     rw [gs 3 7 _ (by omega)]
     have:=apsD st ((tsW b st.length 3).set 7 (rd (tsA b).2.1 (tsA b).2.2)) D 0 [.sc (.int .i64 0),.sc (.bool (tsX b).1.neg),.sc (.int .i64 (tsX b).1.exp),.sl .no (encW (tsX b).1.w),.sc (.bool (tsY b).1.neg),.sc (.int .i64 (tsY b).1.exp),.sl .no (encW (tsY b).1.w),.sl .no (Q0z (tsM b).1),.sl .no (encQ (tsA b).1),.sl .full []] (by simp [tsW])
     rw [Nat.add_zero] at this
     refine⟨by simp [tsK,hB],D++D',?_⟩
     refine(congrArg (· ++D') this).trans ?_
     simp only [tsW,tsO,tsLE,if_neg hB,List.append_assoc];rfl
 · have hB:=h4 rfl
   refine(J1l (tsA b).2.1 (tsA b).2.2 (st.length+7) (st.length+6) st.length 9 (tsO b 4) _ (by have:=at' 4;simp only [tsLE,if_neg hB] at this;exact this) (by omega) (gg 4 6 (by omega)) (g0 4) (by simp only [tsO,if_neg hB];simp [encN]) (by omega) (by omega)).mono ?_
   rintro r st' ⟨rfl,rfl⟩
   rw [gs 4 7 _ (by omega)]
   have:=apsD st ((tsW b st.length 4).set 7 (rd (X0b (tsA b).2.1 (tsA b).2.2).2.1 (X0b (tsA b).2.1 (tsA b).2.2).2.2)) D 0 (over (tsO b 4) 9 [.sl .no (Q0u (X0b (tsA b).2.1 (tsA b).2.2).1)]) (by simp [tsW])
   rw [Nat.add_zero] at this
   refine⟨by simp [tsK],D,?_⟩
   refine this.trans ?_
   simp only [tsW,tsO,tsLE,if_neg hB];rfl
theorem X3p (st:Q0g):z0n tsG (fun i=>st.length+2+i) 5= [.fn (.func 108) [] [.gp (st.length+2) 0],.fn (.func 110) [] [.gp (st.length+3) 0],
 .fn (.func 110) [] [.gp (st.length+4) 0],.fn (.func 116) [] [.gp (st.length+5) 0],.fn (.func 112) [] [.gp (st.length+6) 0]]:=rfl
def tsS (b:List UInt8):Sx:=⟨cntV (tsU b).1,(tsX b).1,(tsY b).1,⟨(tsM b).1,(tsA b).1,(tsZ b).1⟩⟩
def tsOk (b:List UInt8):Bool:=decide ((tsU b).1≤4096)&&Z0g (tsS b)
theorem Q3b (b:List UInt8):stR b=if (tsN b).2.2≠0 then(default,(tsN b).2.2) else if G0j b then(default,11) else if (tsZ b).2.2≠0 then(default,(tsZ b).2.2) else if (tsZ b).2.1= []∧tsOk b=true then(tsS b,0) else(default,11):=by
 have e1:stR b=if (tsN b).2.2≠0 then(default,(tsN b).2.2) else if G0j b then(default,11) else
  (if (X0b (Z0v (tsN b).1 (tsN b).1 (Q0v (tsN b).1 (tsN b).2.1 (tsN b).2.2 []).2.1 (Q0v (tsN b).1 (tsN b).2.1 (tsN b).2.2 []).2.2 []).2.1 (Z0v (tsN b).1 (tsN b).1 (Q0v (tsN b).1 (tsN b).2.1 (tsN b).2.2 []).2.1 (Q0v (tsN b).1 (tsN b).2.1 (tsN b).2.2 []).2.2 []).2.2).2.2≠0
   then(default,(X0b (Z0v (tsN b).1 (tsN b).1 (Q0v (tsN b).1 (tsN b).2.1 (tsN b).2.2 []).2.1 (Q0v (tsN b).1 (tsN b).2.1 (tsN b).2.2 []).2.2 []).2.1 (Z0v (tsN b).1 (tsN b).1 (Q0v (tsN b).1 (tsN b).2.1 (tsN b).2.2 []).2.1 (Q0v (tsN b).1 (tsN b).2.1 (tsN b).2.2 []).2.2 []).2.2).2.2)
   else if (tsU b).1≤4096∧(X0b (Z0v (tsN b).1 (tsN b).1 (Q0v (tsN b).1 (tsN b).2.1 (tsN b).2.2 []).2.1 (Q0v (tsN b).1 (tsN b).2.1 (tsN b).2.2 []).2.2 []).2.1 (Z0v (tsN b).1 (tsN b).1 (Q0v (tsN b).1 (tsN b).2.1 (tsN b).2.2 []).2.1 (Q0v (tsN b).1 (tsN b).2.1 (tsN b).2.2 []).2.2 []).2.2).2.1.length=0∧
    Z0g ⟨(tsU b).1,(tsX b).1,(tsY b).1,⟨(Q0v (tsN b).1 (tsN b).2.1 (tsN b).2.2 []).1,(Z0v (tsN b).1 (tsN b).1 (Q0v (tsN b).1 (tsN b).2.1 (tsN b).2.2 []).2.1 (Q0v (tsN b).1 (tsN b).2.1 (tsN b).2.2 []).2.2 []).1,(X0b (Z0v (tsN b).1 (tsN b).1 (Q0v (tsN b).1 (tsN b).2.1 (tsN b).2.2 []).2.1 (Q0v (tsN b).1 (tsN b).2.1 (tsN b).2.2 []).2.2 []).2.1 (Z0v (tsN b).1 (tsN b).1 (Q0v (tsN b).1 (tsN b).2.1 (tsN b).2.2 []).2.1 (Q0v (tsN b).1 (tsN b).2.1 (tsN b).2.2 []).2.2 []).2.2).1⟩⟩=true
    then(⟨(tsU b).1,(tsX b).1,(tsY b).1,⟨(Q0v (tsN b).1 (tsN b).2.1 (tsN b).2.2 []).1,(Z0v (tsN b).1 (tsN b).1 (Q0v (tsN b).1 (tsN b).2.1 (tsN b).2.2 []).2.1 (Q0v (tsN b).1 (tsN b).2.1 (tsN b).2.2 []).2.2 []).1,(X0b (Z0v (tsN b).1 (tsN b).1 (Q0v (tsN b).1 (tsN b).2.1 (tsN b).2.2 []).2.1 (Q0v (tsN b).1 (tsN b).2.1 (tsN b).2.2 []).2.2 []).2.1 (Z0v (tsN b).1 (tsN b).1 (Q0v (tsN b).1 (tsN b).2.1 (tsN b).2.2 []).2.1 (Q0v (tsN b).1 (tsN b).2.1 (tsN b).2.2 []).2.2 []).2.2).1⟩⟩,0)
    else(default,11)):=rfl
 rw [e1]
 obtain⟨m1,m2⟩:=J1o (tsN b).1 (tsN b).2.1 (tsN b).2.2 []
 obtain⟨a1,a2⟩:=z1r (tsN b).1 (tsN b).1 (tsM b).2.1 (tsM b).2.2 []
 have hM:(tsM b).2=(Q0v (tsN b).1 (tsN b).2.1 (tsN b).2.2 []).2:=m1
 rw [←hM]
 have hA:(tsA b).2=(Z0v (tsN b).1 (tsN b).1 (tsM b).2.1 (tsM b).2.2 []).2:=a1
 rw [←hA]
 by_cases h1:(tsN b).2.2=0
 rotate_left
 · rw [if_pos h1,if_pos h1]
 have c1: ¬((tsN b).2.2≠0):=fun h=>h h1
 rw [if_neg c1,if_neg c1]
 by_cases h2:G0j b
 · rw [if_pos h2,if_pos h2]
 rw [if_neg h2,if_neg h2]
 show(if (tsZ b).2.2≠0 then _ else _)=_
 by_cases h3:(tsZ b).2.2=0
 rotate_left
 · rw [if_pos h3,if_pos h3];rfl
 have c3: ¬((tsZ b).2.2≠0):=fun h=>h h3
 rw [if_neg c3,if_neg c3]
 have ea:(tsA b).2.2=0:=G1w h3
 rw [hA] at ea
 have em:=(x0x _ _ _ _ _ ea).1
 rw [hM] at em
 have eM:tsM b=Q0v (tsN b).1 (tsN b).2.1 (tsN b).2.2 []:=m2 em
 have eA:tsA b=Z0v (tsN b).1 (tsN b).1 (tsM b).2.1 (tsM b).2.2 []:=a2 ea
 rw [←eM,←eA]
 show(if (tsU b).1≤4096∧(tsZ b).2.1.length=0∧Z0g ⟨(tsU b).1,(tsX b).1,(tsY b).1,⟨(tsM b).1,(tsA b).1,(tsZ b).1⟩⟩=true then((⟨(tsU b).1,(tsX b).1,(tsY b).1,⟨(tsM b).1,(tsA b).1,(tsZ b).1⟩⟩:Sx),(0:Int)) else _)=_
 by_cases h4:(tsU b).1≤4096
 · have ec:tsS b=⟨(tsU b).1,(tsX b).1,(tsY b).1,⟨(tsM b).1,(tsA b).1,(tsZ b).1⟩⟩:=by unfold tsS;rw [show cntV (tsU b).1=(((tsU b).1:Nat):Int) from if_pos h4]
   have eo:tsOk b=Z0g (tsS b):=by unfold tsOk;rw [decide_eq_true h4,Bool.true_and]
   rw [eo,ec]
   by_cases h5:(tsZ b).2.1= []∧Z0g ⟨(tsU b).1,(tsX b).1,(tsY b).1,⟨(tsM b).1,(tsA b).1,(tsZ b).1⟩⟩=true
   · rw [if_pos h5,if_pos ⟨h4,by rw [h5.1];rfl,h5.2⟩]
   · rw [if_neg h5,if_neg fun hh=>h5 ⟨List.length_eq_zero_iff.1 hh.2.1,hh.2.2⟩]
 · have eo:tsOk b=false:=by unfold tsOk;rw [decide_eq_false h4,Bool.false_and]
   have c5: ¬((tsZ b).2.1= []∧false=true):=by simp
   have c6: ∀q,¬((tsU b).1≤4096∧q):=fun q hh=>h4 hh.1
   rw [eo,if_neg (c6 _),if_neg c5]
theorem ts_e (b:List UInt8) {i:Nat} (hi:i≤3) (h:(tsLE b i).2≠0):(tsN b).2.2=(tsLE b i).2:=by
 have e1:(tsU b).2.2≠0→(tsX b).2.2=(tsU b).2.2:=fun h=>by unfold tsX;rw [Y0b _ _ h]
 have e2:(tsX b).2.2≠0→(tsY b).2.2=(tsX b).2.2:=fun h=>by unfold tsY;rw [Y0b _ _ h]
 have e3:(tsY b).2.2≠0→(tsN b).2.2=(tsY b).2.2:=fun h=>by unfold tsN;rw [k0h _ _ h]
 have f2:(tsX b).2.2≠0→(tsN b).2.2=(tsX b).2.2:=fun h=>by rw [e3 (by rw [e2 h];exact h),e2 h]
 have f1:(tsU b).2.2≠0→(tsN b).2.2=(tsU b).2.2:=fun h=>by rw [f2 (by rw [e1 h];exact h),e1 h]
 have c:i=0∨i=1∨i=2∨i=3:=by omega
 rcases c with rfl | rfl | rfl | rfl
 · exact absurd rfl h
 · exact f1 h
 · exact f2 h
 · exact e3 h
set_option maxHeartbeats 2000000 in
theorem Y0h (b:List UInt8) (st:Q0g) (hb:b.length≤1000000000000):PCalls Tryz.prog 26 [.sl .no (encB b)] st
 (fun r st'=>r= .tup [.agg (J0v (stR b).1),.sc (.int .i64 (stR b).2)]∧st'=st):=by
 refine q0h (Q:=fun r _=>r= .tup [.agg (J0v (stR b).1),.sc (.int .i64 (stR b).2)]) ?_
 refine Q0b none Tryz.func26 rfl fun E=>Q0h (Q0a ?_)
 simp -dsimp only [go_sem]
 refine Q0h (Q0a ?_)
 simp -dsimp only [go_sem]
 refine Q0h (Q0a ?_)
 simp -dsimp only [go_sem]
 refine U2c 1 (by simp [go_sem]) (by simp) ?_
 simp -dsimp only [go_sem]
 refine V0l 2 (by simp [go_sem]) (by simp) ?_
 simp -dsimp only [go_sem,List.append_assoc]
 refine Q0h (Q0a ?_)
 simp -dsimp only [go_sem]
 refine(k0g _ _).mono ?_
 rintro r st' ⟨rfl,rfl⟩
 simp -dsimp only [go_sem,List.append_assoc]
 refine(v0q _ _ _).mono ?_
 rintro r st' ⟨rfl,rfl⟩
 simp -dsimp only [go_sem,List.append_assoc]
 refine(v0q _ _ _).mono ?_
 rintro r st' ⟨rfl,rfl⟩
 simp -dsimp only [go_sem,List.append_assoc]
 refine(j2f _ _ _).mono ?_
 rintro r st' ⟨rfl,rfl⟩
 simp -dsimp only [go_sem,List.append_assoc]
 refine(Y1e _ _ _).mono ?_
 rintro r st' ⟨rfl,rfl⟩
 simp -dsimp only [go_sem,List.append_assoc]
 have hlen:(st++(tsW b st.length 0).take 7).length=st.length+7:=by simp [tsW]
 have hwu:(tsU b).1<18446744073709551616:=K0j _ _
 have wx:wN (tsX b).1:=Q0t (X0e _ _)
 have wy:wN (tsY b).1:=Q0t (X0e _ _)
 have wz:wB (tsZ b).1:=Z1p _ _
 have hr:=z1o b (st++(tsW b st.length 0).take 7) 5 tsG (fun i=>st.length+2+i) (tsK b) (fun i=>(tsLE b i).1) (fun i=>(tsLE b i).2) (fun i st'=> ∃D,st'=st++(tsW b st.length i++D)) 66
  [.gp (st.length+1) 0,.gp st.length 0] (tsOk b) (fun st'=> ∃D,st'=st++((tsW b st.length 5).set 0 (J0v (tsS b))++D)) (by omega) (by omega)
  (fun i hi=>by
   have c:i=0∨i=1∨i=2∨i=3∨i=4:=by omega
   rcases c with rfl | rfl | rfl | rfl | rfl<;>simp -dsimp only [go_sem,tsG])
  (by simp -dsimp only [go_sem]) (by simp -dsimp only [go_sem]) (by simp -dsimp only [go_sem]) (by simp -dsimp only [go_sem]) rfl
  ⟨[],by rw [List.append_assoc];rfl⟩
  (fun i st' hi hJ=>by
   obtain⟨D,rfl⟩:=hJ
   rw [hlen];exact apgD st (tsW b st.length i) D 7 (by simp [tsW]))
  (fun i st' hi hok _ hJ=>by
   obtain⟨D,rfl⟩:=hJ
   rw [hlen]
   refine X3o b st D hb i hi fun h4 hB=> ?_
   have:=hok 3 (by omega)
   simp [tsK,hB] at this)
  (fun st' hok h0 hJ=>by
   obtain⟨D,rfl⟩:=hJ
   have hn: ¬G0j b:=fun hB=>by
    have:=hok 3 (by omega)
    simp [tsK,hB] at this
   have hn1:(tsN b).1≤4:=by unfold G0j at hn;omega
   refine(J1k (st.length+1) st.length (tsU b).1 (.sc (.int .i64 0)) (tsX b).1 (tsY b).1 ⟨(tsM b).1,(tsA b).1,(tsZ b).1⟩ _ hwu wx wy ⟨j2h (by omega) _ _,j2g (by omega) (by omega) _ _,wz⟩ (apgD st _ D 1 (by simp [tsW])) (apgD st (tsW b st.length 5) D 0 (by simp [tsW])) (by omega)).mono ?_
   rintro r st' ⟨rfl,rfl⟩
   exact⟨rfl,D,apsD st (tsW b st.length 5) D 0 _ (by simp [tsW])⟩)
 rw [X3p] at hr
 refine hr.mono ?_
 rintro r st' ⟨e,rfl,hc⟩
 simp -dsimp only [go_sem]
 have key:(e≠0∧stR b=(default,e)∧ ∃X,st'=st++X)∨(e=0∧stR b=(tsS b,0)∧ ∃D,st'=st++((tsW b st.length 5).set 0 (J0v (tsS b))++D)):=by
  rw [Q3b]
  rcases hc with ⟨i,hi,hall,hbad,D,hJ⟩ | ⟨hall,hend⟩
  · refine .inl ?_
    dsimp only at hall hbad
    by_cases h3:i<3
    · rcases hbad with ⟨h1,rfl⟩ | ⟨_,h2,_⟩
      · have hz:=ts_e b (i:=i+1) (by omega) h1
        exact⟨h1,by rw [if_pos (by rw [hz];exact h1),hz],_,hJ⟩
      · simp [tsK,show¬i=3 by omega] at h2
    · have hy:(tsY b).2.2=0:=(hall 2 (by omega)).1
      by_cases hB:G0j b
      · have h4:i=3:=by
         by_cases h4:i=3
         · exact h4
         · have:=(hall 3 (by omega)).2
           simp [tsK,hB] at this
        subst h4
        have eL:(tsLE b 4).2=(tsN b).2.2:=by simp [tsLE,hB]
        rcases hbad with ⟨h1,rfl⟩ | ⟨h1,_,rfl⟩
        · have h1:(tsLE b 4).2≠0:=h1
          refine⟨h1,?_,_,hJ⟩
          show _=(default,(tsLE b 4).2)
          rw [eL] at h1⊢
          rw [if_pos h1]
        · have h1:(tsLE b 4).2=0:=h1
          rw [eL] at h1
          have c1: ¬((tsN b).2.2≠0):=fun h=>h h1
          exact⟨by decide,by rw [if_neg c1,if_pos hB],_,hJ⟩
      · have eL:(tsLE b 4).2=(tsA b).2.2:=by simp [tsLE,hB]
        have hn0:(tsN b).2.2=0:=by
         refine Classical.byContradiction fun hne=>hB ?_
         refine .inl ?_
         show(Q0k (tsY b).2.1 (tsY b).2.2).1<1
         rw [v0s _ _ hne];omega
        have c1: ¬((tsN b).2.2≠0):=fun h=>h hn0
        rcases hbad with ⟨h1,rfl⟩ | ⟨_,h2,_⟩
        · have hz:(tsZ b).2.2=(tsLE b (i+1)).2:=by
           by_cases h4:i=3
           · subst h4
             rw [eL] at h1⊢
             show(X0b (tsA b).2.1 (tsA b).2.2).2.2=_
             rw [z0k _ _ h1]
           · have:i=4:=by omega
             subst this;rfl
          refine⟨h1,?_,_,hJ⟩
          rw [if_neg c1,if_neg hB,if_pos (by rw [hz];exact h1),hz]
        · simp [tsK,hB] at h2
  · have hz:(tsZ b).2.2=0:=(hall 4 (by omega)).1
    have hB: ¬G0j b:=fun hB=>by have:=(hall 3 (by omega)).2;simp [tsK,hB] at this
    have hn0:(tsN b).2.2=0:=by
     refine Classical.byContradiction fun hne=>hB ?_
     refine .inl ?_
     show(Q0k (tsY b).2.1 (tsY b).2.2).1<1
     rw [v0s _ _ hne];omega
    have c1: ¬((tsN b).2.2≠0):=fun h=>h hn0
    have c3: ¬((tsZ b).2.2≠0):=fun h=>h hz
    rw [if_neg c1,if_neg hB,if_neg c3]
    rcases hend with ⟨h1,rfl,D,hJ⟩ | ⟨h1,h2,rfl,D,hJ⟩ | ⟨h1,h2,rfl,hJ⟩
    · exact .inl ⟨by decide,by rw [if_neg fun hh=>h1 hh.1],_,hJ⟩
    · exact .inl ⟨by decide,by rw [if_neg fun hh=>by rw [h2] at hh;cases hh.2],_,hJ⟩
    · exact .inr ⟨rfl,by rw [if_pos ⟨h1,h2⟩],hJ⟩
 refine Q0h (Q0a ?_)
 rcases key with ⟨h1,h2,X,rfl⟩ | ⟨rfl,h2,D,rfl⟩
 · have d1:(e !=0)=true:=bne_iff_ne.2 h1
   simp -dsimp only [go_sem,d1]
   rw [h2]
   exact⟨⟨_,rfl⟩,H1j _ default _,rfl⟩
 · have g:=apgD st ((tsW b st.length 5).set 0 (J0v (tsS b))) D 0 (by simp [tsW])
   rw [show((tsW b st.length 5).set 0 (J0v (tsS b))).getD 0 []=J0v (tsS b) from rfl,Nat.add_zero] at g
   simp only [J0v] at g
   simp -dsimp only [go_sem]
   refine Q0a ?_
   simp -dsimp only [go_sem,g]
   rw [h2]
   exact⟨⟨_,rfl⟩,H1j _ (tsS b) _,rfl⟩
end Go.Pv
end
section
/-The document's ReadState. -/
set_option maxRecDepth 100000
namespace Go.Pv
open Go.Proofs
theorem x0y : ∀(n:Nat) (l:List UInt8) (e:Int) (o:List Nm),(Q0v n l e o).2.1<:+l
 | 0,l,e,o=>List.suffix_refl _
 | n+1,l,e,o=>by
  rw [Q0v];split
  · exact(x0y n _ _ _).trans (K0p l e)
  · exact List.suffix_refl _
theorem Y1h (m:Nat): ∀(n:Nat) (l:List UInt8) (e:Int) (o:List (List Nm)),(Z0v m n l e o).2.1<:+l
 | 0,l,e,o=>List.suffix_refl _
 | n+1,l,e,o=>by
  rw [Z0v];split
  · exact(Y1h m n _ _ _).trans (x0y m l e [])
  · exact List.suffix_refl _
theorem J1n : ∀(n:Nat) (l:List UInt8) (e:Int) (o:List Nm),(Q0v n l e o).1.length≤o.length+n∧(o.all Q0f=true→(Q0v n l e o).1.all Q0f=true)
 | 0,l,e,o=>⟨Nat.le_refl _,id⟩
 | n+1,l,e,o=>by
  rw [Q0v];split
  · obtain⟨h1,h2⟩:=J1n n (Q0m l e).2.1 (Q0m l e).2.2 (o++ [(Q0m l e).1])
    simp only [List.length_append,List.length_cons,List.length_nil] at h1
    exact⟨by omega,fun h=>h2 (by simp [h,X0e])⟩
  · exact⟨by show o.length≤_;omega,id⟩
theorem z1q (m:Nat) (hm:m≤1000): ∀(n:Nat) (l:List UInt8) (e:Int) (o:List (List Nm)),(Z0v m n l e o).1.length≤o.length+n∧((∀x∈o,wNs' x)→ ∀x∈(Z0v m n l e o).1,wNs' x)
 | 0,l,e,o=>⟨Nat.le_refl _,id⟩
 | n+1,l,e,o=>by
  rw [Z0v];split
  · obtain⟨h1,h2⟩:=z1q m hm n (Q0v m l e []).2.1 (Q0v m l e []).2.2 (o++ [(Q0v m l e []).1])
    simp only [List.length_append,List.length_cons,List.length_nil] at h1
    obtain⟨k1,k2⟩:=J1n m l e []
    refine⟨by omega,fun h=>h2 fun x hx=> ?_⟩
    rcases List.mem_append.1 hx with hx | hx
    · exact h x hx
    · rw [List.mem_singleton.1 hx]
      exact H0m (n:=(Q0v m l e []).1.length) (by unfold Z0l;rw [k2 rfl];simp) (by simp at k1;omega)
  · exact⟨by show o.length≤_;omega,id⟩
theorem J1m {n i:Nat} {l':List UInt8} {o:List Nm} {M:List Nm×List UInt8×Int} (hi:i<n) (h:Q0v (n-i) l' 0 o=M):Q0v (n-(i+1)) (Q0m l' 0).2.1 (Q0m l' 0).2.2 (o++ [(Q0m l' 0).1])=M:=by
 rw [show n-i=(n-(i+1))+1 from by omega,Q0v,if_pos rfl] at h
 exact h
theorem v1h {m n i:Nat} {l':List UInt8} {o:List (List Nm)} {M:List (List Nm)×List UInt8×Int} (hi:i<n) (h:Z0v m (n-i) l' 0 o=M):Z0v m (n-(i+1)) (Q0v m l' 0 []).2.1 (Q0v m l' 0 []).2.2 (o++ [(Q0v m l' 0 []).1])=M:=by
 rw [show n-i=(n-(i+1))+1 from by omega,Z0v,if_pos rfl] at h
 exact h
def tdM (b:List UInt8):=Q0v (tsN b).1 (tsN b).2.1 (tsN b).2.2 []
def tdA (b:List UInt8):=Z0v (tsN b).1 (tsN b).1 (tdM b).2.1 (tdM b).2.2 []
def tdZ (b:List UInt8):=X0b (tdA b).2.1 (tdA b).2.2
theorem J3a (b:List UInt8):stR b=if (tsN b).2.2=0∧G0j b then(default,11) else if (tdZ b).2.2≠0 then(default,(tdZ b).2.2) else if (tsU b).1≤4096∧(tdZ b).2.1.length=0∧Z0g ⟨(tsU b).1,(tsX b).1,(tsY b).1,⟨(tdM b).1,(tdA b).1,(tdZ b).1⟩⟩=true
 then(⟨(tsU b).1,(tsX b).1,(tsY b).1,⟨(tdM b).1,(tdA b).1,(tdZ b).1⟩⟩,0) else(default,11):=by
 have e1:stR b=if (tsN b).2.2≠0 then(default,(tsN b).2.2) else if G0j b then(default,11) else if (tdZ b).2.2≠0 then(default,(tdZ b).2.2) else if (tsU b).1≤4096∧(tdZ b).2.1.length=0∧Z0g ⟨(tsU b).1,(tsX b).1,(tsY b).1,⟨(tdM b).1,(tdA b).1,(tdZ b).1⟩⟩=true
  then(⟨(tsU b).1,(tsX b).1,(tsY b).1,⟨(tdM b).1,(tdA b).1,(tdZ b).1⟩⟩,0) else(default,11):=rfl
 rw [e1]
 by_cases h1:(tsN b).2.2=0
 · have c1: ¬((tsN b).2.2≠0):=fun h=>h h1
   rw [if_neg c1]
   by_cases h2:G0j b
   · rw [if_pos h2,if_pos ⟨h1,h2⟩]
   · rw [if_neg h2,if_neg (fun h:(tsN b).2.2=0∧G0j b=>h2 h.2)]
 · have hM:tdM b=([],(tsN b).2.1,(tsN b).2.2):=v0v _ _ _ _ h1
   have hA:tdA b=([],(tsN b).2.1,(tsN b).2.2):=by unfold tdA;rw [hM];exact v0u _ _ _ _ _ h1
   have hZ:(tdZ b).2.2=(tsN b).2.2:=by unfold tdZ;rw [hA,z0k _ _ h1]
   rw [if_pos h1,if_neg (fun h:(tsN b).2.2=0∧G0j b=>h1 h.1),hZ,if_pos h1]
set_option maxHeartbeats 4000000 in
theorem V1z (b:List UInt8) (st:Q0g) (hb:b.length≤1000000000000):PCalls Tryz.prog 56 [.sl .no (encB b)] st
 (fun r st'=>r= .tup [.agg (J0v (stR b).1),.sc (.int .i64 (stR b).2)]∧st'=st):=by
 refine q0h (Q:=fun r _=>r= .tup [.agg (J0v (stR b).1),.sc (.int .i64 (stR b).2)]) ?_
 have s1:(tsU b).2.1<:+b:=U0v b 0
 have s2:(tsX b).2.1<:+b:=(K0p _ _).trans s1
 have s3:(tsY b).2.1<:+b:=(K0p _ _).trans s2
 have s4:(tsN b).2.1<:+b:=(U0v _ _).trans s3
 have s5:(tdM b).2.1<:+b:=(x0y _ _ _ _).trans s4
 have s6:(tdA b).2.1<:+b:=(Y1h _ _ _ _ _).trans s5
 have s7:(tdZ b).2.1<:+b:=(z1s _ _).trans s6
 have at': ∀l e,atF (st++ [rf b l e]) st.length b l e:=fun l e=>apg0 st [rf b l e]
 have G: ∀(l:List UInt8) (e:Int),(st++ [rf b l e]).getD st.length []= [.sl .no (encB b),.sc (.int .i64 (b.length-l.length:Nat)),.sc (.int .i64 e)]:=fun l e=>apg0 st _
 have S: ∀(l l':List UInt8) (e e':Int),(st++ [rf b l e]).set st.length (rf b l' e')=st++ [rf b l' e']:=fun l l' e e'=>aps0 st _ _
 have hwu:(tsU b).1<18446744073709551616:=K0j _ _
 have hwn:(tsN b).1<18446744073709551616:=K0j _ _
 have wx:wN (tsX b).1:=Q0t (X0e _ _)
 have wy:wN (tsY b).1:=Q0t (X0e _ _)
 have wz:wB (tdZ b).1:=Z1p _ _
 have cN: ∀l e,l<:+b→PCalls Tryz.prog 102 [.gp st.length 0] (st++ [rf b l e]) (fun r st'=>r= .agg (encN (Q0m l e).1)∧st'=st++ [rf b (Q0m l e).2.1 (Q0m l e).2.2]):=fun l e hs=>
  (j1l b l e st.length _ (at' _ _) hs hb).mono (by rintro r st' ⟨rfl,rfl⟩;exact⟨rfl,S _ _ _ _⟩)
 have c1:PCalls Tryz.prog 101 [.gp st.length 0] (st++ [rf b b 0]) (fun r st'=>r= .sc (.int .u64 (tsU b).1)∧st'=st++ [rf b (tsU b).2.1 (tsU b).2.2]):=
  (k0s b b 0 st.length _ (at' b 0) (List.suffix_refl _) hb).mono (by rintro r st' ⟨rfl,rfl⟩;exact⟨rfl,S _ _ _ _⟩)
 have c2:PCalls Tryz.prog 102 [.gp st.length 0] (st++ [rf b (tsU b).2.1 (tsU b).2.2]) (fun r st'=>r= .agg (encN (tsX b).1)∧st'=st++ [rf b (tsX b).2.1 (tsX b).2.2]):=cN _ _ s1
 have c3:PCalls Tryz.prog 102 [.gp st.length 0] (st++ [rf b (tsX b).2.1 (tsX b).2.2]) (fun r st'=>r= .agg (encN (tsY b).1)∧st'=st++ [rf b (tsY b).2.1 (tsY b).2.2]):=cN _ _ s2
 have c4:PCalls Tryz.prog 101 [.gp st.length 0] (st++ [rf b (tsY b).2.1 (tsY b).2.2]) (fun r st'=>r= .sc (.int .u64 (tsN b).1)∧st'=st++ [rf b (tsN b).2.1 (tsN b).2.2]):=
  (k0s b (tsY b).2.1 (tsY b).2.2 st.length _ (at' _ _) s3 hb).mono (by rintro r st' ⟨rfl,rfl⟩;exact⟨rfl,S _ _ _ _⟩)
 have c5:PCalls Tryz.prog 103 [.gp st.length 0] (st++ [rf b (tdA b).2.1 (tdA b).2.2]) (fun r st'=>r= .sl .no (Q0u (tdZ b).1)∧st'=st++ [rf b (tdZ b).2.1 (tdZ b).2.2]):=
  (Z3c b (tdA b).2.1 (tdA b).2.2 st.length _ (at' _ _) s6 hb).mono (by rintro r st' ⟨rfl,rfl⟩;exact⟨rfl,S _ _ _ _⟩)
 have c6:PCalls Tryz.prog 104 [.gp st.length 0] (st++ [rf b (tdZ b).2.1 (tdZ b).2.2]) (fun r st'=>r= .sc (.int .i64 (tdZ b).2.1.length)∧st'=st++ [rf b (tdZ b).2.1 (tdZ b).2.2]):=
  H2p b (tdZ b).2.1 (tdZ b).2.2 st.length _ (at' _ _) s7 hb
 refine Q0b none Tryz.func56 rfl fun E=>Q0h (Q0a ?_)
 simp -dsimp only [go_sem]
 refine Q0h (Q0a ?_)
 simp -dsimp only [go_sem]
 refine V0l 1 (by simp [go_sem]) (by simp) ?_
 simp -dsimp only [go_sem]
 have e0:(st++ [[PV.sl .no (encB b),.sc (.int .i64 0),.sc (.int .i64 0)]]:Q0g)=st++ [rf b b 0]:=by unfold rf;rw [Nat.sub_self];rfl
 rw [e0]
 refine Q0h (Q0a ?_)
 simp -dsimp only [go_sem]
 refine c1.mono ?_
 rintro r st' ⟨rfl,rfl⟩
 simp -dsimp only [go_sem]
 refine Q0h (Q0a ?_)
 simp -dsimp only [go_sem]
 refine Q0h (Q0a ?_)
 simp -dsimp only [go_sem]
 refine c2.mono ?_
 rintro r st' ⟨rfl,rfl⟩
 simp -dsimp only [go_sem]
 refine Q0h (Q0a ?_)
 simp -dsimp only [go_sem]
 refine c3.mono ?_
 rintro r st' ⟨rfl,rfl⟩
 simp -dsimp only [go_sem]
 refine Q0h (Q0a ?_)
 simp -dsimp only [go_sem]
 refine c4.mono ?_
 rintro r st' ⟨rfl,rfl⟩
 simp -dsimp only [go_sem]
 have gN:=G (tsN b).2.1 (tsN b).2.2
 rw [J3a]
 have bad: ∀(l:List UInt8) (e e2:Int),(∃X,st++ [rf b l e2]=st++X)∧LowR st.length (.tup [.agg (J0v default),.sc (.int .i64 e)])∧PV.tup [.agg (J0v default),.sc (.int .i64 e)]= .tup [.agg (J0v default),.sc (.int .i64 e)]:=fun l e e2=>⟨⟨_,rfl⟩,H1j _ default _,rfl⟩
 by_cases hbad:(tsN b).2.2=0∧G0j b
 · rw [if_pos hbad]
   refine Q0h (Q0a ?_)
   obtain⟨hn0,hB⟩:=hbad
   have d1:((tsN b).2.2==0)=true:=by rw [hn0];rfl
   rw [hn0] at gN⊢
   by_cases h1:(tsN b).1<1
   · have d2:decide (((tsN b).1:Int)<1)=true:=decide_eq_true (by omega)
     simp -dsimp only [go_sem,gN,d2]
     exact bad _ 11 _
   · have d2:decide (((tsN b).1:Int)<1)=false:=decide_eq_false (by omega)
     have d3:decide (((tsN b).1:Int)>4)=true:=decide_eq_true (by have:(tsN b).1<1∨4<(tsN b).1:=hB;omega)
     simp -dsimp only [go_sem,gN,d2,d3]
     exact bad _ 11 _
 rw [if_neg hbad]
 have hn4:(tsN b).1≤4:=by
  by_cases hn0:(tsN b).2.2=0
  · have: ¬((tsN b).1<1∨4<(tsN b).1):=fun h=>hbad ⟨hn0,h⟩
    omega
  · have:(tsN b).1=0:=v0s _ _ hn0
    omega
 have hm:=J1n (tsN b).1 (tsN b).2.1 (tsN b).2.2 []
 have ha:=z1q (tsN b).1 (by omega) (tsN b).1 (tdM b).2.1 (tdM b).2.2 []
 have hw:wSx ⟨(tsU b).1,(tsX b).1,(tsY b).1,⟨(tdM b).1,(tdA b).1,(tdZ b).1⟩⟩:=by
  refine⟨wx,wy,?_,?_,wz⟩
  · exact H0m (n:=(tdM b).1.length) (by unfold Z0l;rw [show(tdM b).1.all Q0f=true from hm.2 rfl];simp) (by have:=hm.1;simp at this;show(tdM b).1.length≤_;unfold tdM;omega)
  · refine⟨by have:=ha.1;simp at this;show(tdA b).1.length≤_;unfold tdA;omega,fun i hi=>ha.2 (fun x hx=>by cases hx) _ ?_⟩
    show(tdA b).1.getD i []∈(tdA b).1
    rw [List.getD_eq_getElem?_getD,List.getElem?_eq_getElem hi];exact List.getElem_mem hi
 have wn:IntKind.i64.wrap ((tsN b).1:Int)=((tsN b).1:Int):=Q0i _ (by omega)
 refine Q0x [false,false,true,false,true,true,true,true] 3 0 (fun s=>s=⟨List.replicate 2 .junk++([.lp 0 0]++(List.replicate 1 .junk++([.gp st.length 0,.sc (.int .u64 (tsU b).1),.lp 2 0,.sc (.int .u64 (tsN b).1)]++(List.replicate 122 .junk)))),[[.sc (.int .i64 0),.sc (.bool false),.sc (.int .i64 0),.sl .full [],.sc (.bool false),.sc (.int .i64 0),.sl .full [],.sl .full [],.sl .full [],.sl .full []],[],[.sc (.int .i64 0),.sc (.bool (tsX b).1.neg),.sc (.int .i64 (tsX b).1.exp),.sl .no (encW (tsX b).1.w),.sc (.bool (tsY b).1.neg),.sc (.int .i64 (tsY b).1.exp),.sl .no (encW (tsY b).1.w),.sl .full [],.sl .full [],.sl .full []]],[],st++ [rf b (tsN b).2.1 (tsN b).2.2]⟩) ?_ ?_
 · by_cases hn0:(tsN b).2.2=0
   · have hB: ¬((tsN b).1<1∨4<(tsN b).1):=fun h=>hbad ⟨hn0,h⟩
     have d2:decide (((tsN b).1:Int)<1)=false:=decide_eq_false (by omega)
     have d3:decide (((tsN b).1:Int)>4)=false:=decide_eq_false (by omega)
     rw [hn0] at gN⊢
     simp -dsimp only [go_sem,gN,d2,d3]
   · have d1:((tsN b).2.2==0)=false:=beq_eq_false_iff_ne.2 hn0
     simp -dsimp only [go_sem,gN,d1]
 rintro s rfl
 refine Q0x [false,false,true,false,true,true,true,true] 3 1 (fun s=>s=⟨List.replicate 2 .junk++([.lp 0 0]++(List.replicate 1 .junk++([.gp st.length 0,.sc (.int .u64 (tsU b).1),.lp 2 0,.sc (.int .u64 (tsN b).1)]++(List.replicate 122 .junk)))),[[.sc (.int .i64 0),.sc (.bool false),.sc (.int .i64 0),.sl .full [],.sc (.bool false),.sc (.int .i64 0),.sl .full [],.sl .full [],.sl .full [],.sl .full []],[],[.sc (.int .i64 0),.sc (.bool (tsX b).1.neg),.sc (.int .i64 (tsX b).1.exp),.sl .no (encW (tsX b).1.w),.sc (.bool (tsY b).1.neg),.sc (.int .i64 (tsY b).1.exp),.sl .no (encW (tsY b).1.w),.sl (.own 0) (Q0z (tdM b).1),.sl .full [],.sl .full []]],[((tdM b).1.length,3)],st++ [rf b (tdM b).2.1 (tdM b).2.2]⟩) ?_ ?_
 · simp -dsimp only [go_sem]
   refine V0x 2 7 3 ?_
   simp -dsimp only [go_sem]
   refine Q0e [false,false,true,false,true,true,true,true,true] 3 1 (fun c s=> ∃i o l' e',c=(tsN b).1-i∧i≤(tsN b).1∧o.length≤i∧l'<:+b∧Q0v ((tsN b).1-i) l' e' o=tdM b∧
    s=⟨List.replicate 2 .junk++([.lp 0 0]++(List.replicate 1 .junk++([.gp st.length 0,.sc (.int .u64 (tsU b).1),.lp 2 0,.sc (.int .u64 (tsN b).1),.sc (.int .i64 (i:Nat))]++(List.replicate 121 .junk)))),[[.sc (.int .i64 0),.sc (.bool false),.sc (.int .i64 0),.sl .full [],.sc (.bool false),.sc (.int .i64 0),.sl .full [],.sl .full [],.sl .full [],.sl .full []],[],[.sc (.int .i64 0),.sc (.bool (tsX b).1.neg),.sc (.int .i64 (tsX b).1.exp),.sl .no (encW (tsX b).1.w),.sc (.bool (tsY b).1.neg),.sc (.int .i64 (tsY b).1.exp),.sl .no (encW (tsY b).1.w),.sl (.own 0) (Q0z o),.sl .full [],.sl .full []]],[(o.length,3)],st++ [rf b l' e']⟩) (tsN b).1 ?_ ?_
   · simp -dsimp only [go_sem]
     exact⟨0,[],_,_,by omega,by omega,by simp,s4,rfl,rfl⟩
   · rintro c s ⟨i,o,l',e',rfl,hi,ho,hs',hk,rfl⟩
     have gL:=G l' e'
     have x1:IntKind.i64.wrap ((i:Int)+1)=((i+1:Nat):Int):=by rw [show((i:Int)+1)=((i+1:Nat):Int) from rfl,Q0i _ (by omega)]
     by_cases hlt:i<(tsN b).1
     · have d1:decide ((i:Int)<((tsN b).1:Int))=true:=decide_eq_true (by omega)
       by_cases he:e'=0
       · subst he
         have hst:=J1m hlt hk
         simp -dsimp only [go_sem,wn,d1,gL]
         refine Q0o Z0p 130 (.step 0 [] (.step 1 [] (.step 2 [] (.step 3 [] (.step 4 [2] (.step 5 [] (.step 6 [] (.step 7 [] (.step 8 [] (.step 9 [] (.done))))))))))) (by decide+kernel) (by simp) ?_
         simp -dsimp only [go_sem]
         refine(cN l' 0 hs').mono ?_
         rintro r st' ⟨rfl,rfl⟩
         simp -dsimp only [go_sem,x1]
         refine⟨by omega,(tsN b).1-(i+1),by omega,i+1,o++ [(Q0m l' 0).1],_,_,rfl,by omega,by simp;omega,(K0p _ _).trans hs',hst,?_⟩
         simp [Q0z,encN]
       · have d2:(e'==0)=false:=beq_eq_false_iff_ne.2 he
         rw [v0v _ _ _ _ he] at hk
         simp -dsimp only [go_sem,wn,d1,d2,gL]
         rw [←hk]
     · have d1:decide ((i:Int)<((tsN b).1:Int))=false:=decide_eq_false (by omega)
       rw [show(tsN b).1-i=0 by omega,Q0v] at hk
       simp -dsimp only [go_sem,wn,d1]
       rw [←hk]
 rintro s rfl
 refine Q0x [false,false,true,false,true,true,true,true] 3 2 (fun s=>s=⟨List.replicate 2 .junk++([.lp 0 0]++(List.replicate 1 .junk++([.gp st.length 0,.sc (.int .u64 (tsU b).1),.lp 2 0,.sc (.int .u64 (tsN b).1)]++(List.replicate 122 .junk)))),[[.sc (.int .i64 0),.sc (.bool false),.sc (.int .i64 0),.sl .full [],.sc (.bool false),.sc (.int .i64 0),.sl .full [],.sl .full [],.sl .full [],.sl .full []],[],[.sc (.int .i64 0),.sc (.bool (tsX b).1.neg),.sc (.int .i64 (tsX b).1.exp),.sl .no (encW (tsX b).1.w),.sc (.bool (tsY b).1.neg),.sc (.int .i64 (tsY b).1.exp),.sl .no (encW (tsY b).1.w),.sl (.own 0) (Q0z (tdM b).1),.sl (.own 1) (encQ (tdA b).1),.sl .full []]],[((tdM b).1.length,3),((tdA b).1.length,1)],st++ [rf b (tdA b).2.1 (tdA b).2.2]⟩) ?_ ?_
 · simp -dsimp only [go_sem]
   refine V0x 2 8 1 ?_
   simp -dsimp only [go_sem]
   refine Q0e [false,false,true,false,true,true,true,true,false,true] 3 2 (fun c s=> ∃i o l' e',c=(tsN b).1-i∧i≤(tsN b).1∧o.length≤i∧l'<:+b∧Z0v (tsN b).1 ((tsN b).1-i) l' e' o=tdA b∧
    s=⟨List.replicate 2 .junk++([.lp 0 0]++(List.replicate 1 .junk++([.gp st.length 0,.sc (.int .u64 (tsU b).1),.lp 2 0,.sc (.int .u64 (tsN b).1)]++(List.replicate 1 .junk++([.sc (.int .i64 (i:Nat))]++(List.replicate 120 .junk)))))),[[.sc (.int .i64 0),.sc (.bool false),.sc (.int .i64 0),.sl .full [],.sc (.bool false),.sc (.int .i64 0),.sl .full [],.sl .full [],.sl .full [],.sl .full []],[],[.sc (.int .i64 0),.sc (.bool (tsX b).1.neg),.sc (.int .i64 (tsX b).1.exp),.sl .no (encW (tsX b).1.w),.sc (.bool (tsY b).1.neg),.sc (.int .i64 (tsY b).1.exp),.sl .no (encW (tsY b).1.w),.sl (.own 0) (Q0z (tdM b).1),.sl (.own 1) (encQ o),.sl .full []]],[((tdM b).1.length,3),(o.length,1)],st++ [rf b l' e']⟩) (tsN b).1 ?_ ?_
   · simp -dsimp only [go_sem]
     exact⟨0,[],_,_,by omega,by omega,by simp,s5,rfl,rfl⟩
   · rintro c s ⟨i,o,l',e',rfl,hi,ho,hs',hk,rfl⟩
     have gL:=G l' e'
     have x1:IntKind.i64.wrap ((i:Int)+1)=((i+1:Nat):Int):=by rw [show((i:Int)+1)=((i+1:Nat):Int) from rfl,Q0i _ (by omega)]
     by_cases hlt:i<(tsN b).1
     · have d1:decide ((i:Int)<((tsN b).1:Int))=true:=decide_eq_true (by omega)
       by_cases he:e'=0
       · subst he
         have hst:=v1h hlt hk
         simp -dsimp only [go_sem,wn,d1,gL]
         refine Z0y 10 3 ?_
         simp -dsimp only [go_sem]
         have hRs:=(x0y (tsN b).1 l' 0 []).trans hs'
         generalize hR:Q0v (tsN b).1 l' 0 []=R at hst hRs
         refine Q0e [false,false,true,false,true,true,true,true,false,true,true,true] 3 3 (fun c s=> ∃j q l2 e2,c=(tsN b).1-j∧j≤(tsN b).1∧q.length≤j∧l2<:+b∧Q0v ((tsN b).1-j) l2 e2 q=R∧
          s=⟨List.replicate 2 .junk++([.lp 0 0]++(List.replicate 1 .junk++([.gp st.length 0,.sc (.int .u64 (tsU b).1),.lp 2 0,.sc (.int .u64 (tsN b).1)]++(List.replicate 1 .junk++([.sc (.int .i64 (i:Nat)),.sl (.own 2) (Q0z q),.sc (.int .i64 (j:Nat))]++(List.replicate 118 .junk)))))),[[.sc (.int .i64 0),.sc (.bool false),.sc (.int .i64 0),.sl .full [],.sc (.bool false),.sc (.int .i64 0),.sl .full [],.sl .full [],.sl .full [],.sl .full []],[],[.sc (.int .i64 0),.sc (.bool (tsX b).1.neg),.sc (.int .i64 (tsX b).1.exp),.sl .no (encW (tsX b).1.w),.sc (.bool (tsY b).1.neg),.sc (.int .i64 (tsY b).1.exp),.sl .no (encW (tsY b).1.w),.sl (.own 0) (Q0z (tdM b).1),.sl (.own 1) (encQ o),.sl .full []]],[((tdM b).1.length,3),(o.length,1),(q.length,3)],st++ [rf b l2 e2]⟩) (tsN b).1 ?_ ?_
         · simp -dsimp only [go_sem]
           exact⟨0,[],_,_,by omega,by omega,by simp,hs',hR,rfl⟩
         · rintro c s ⟨j,q,l2,e2,rfl,hj,hq,hs2,hk2,rfl⟩
           have gL2:=G l2 e2
           have x2:IntKind.i64.wrap ((j:Int)+1)=((j+1:Nat):Int):=by rw [show((j:Int)+1)=((j+1:Nat):Int) from rfl,Q0i _ (by omega)]
           by_cases hlt2:j<(tsN b).1
           · have d3:decide ((j:Int)<((tsN b).1:Int))=true:=decide_eq_true (by omega)
             by_cases he2:e2=0
             · subst he2
               have hst2:=J1m hlt2 hk2
               simp -dsimp only [go_sem,wn,d3,gL2]
               refine(cN l2 0 hs2).mono ?_
               rintro r st' ⟨rfl,rfl⟩
               simp -dsimp only [go_sem,x2]
               refine⟨by omega,(tsN b).1-(j+1),by omega,j+1,q++ [(Q0m l2 0).1],_,_,rfl,by omega,by simp;omega,(K0p _ _).trans hs2,hst2,?_⟩
               simp [Q0z,encN]
             · have d4:(e2==0)=false:=beq_eq_false_iff_ne.2 he2
               rw [v0v _ _ _ _ he2] at hk2
               subst hk2
               simp -dsimp only [go_sem,wn,d3,d4,gL2]
               refine Q0a ?_
               simp -dsimp only [go_sem]
               refine⟨by omega,Q0a ?_⟩
               simp -dsimp only [go_sem,x1]
               exact⟨(tsN b).1-(i+1),by omega,i+1,o++ [q],l2,e2,rfl,by omega,by simp;omega,hs2,hst,by simp⟩
           · have d3:decide ((j:Int)<((tsN b).1:Int))=false:=decide_eq_false (by omega)
             rw [show(tsN b).1-j=0 by omega,Q0v] at hk2
             subst hk2
             simp -dsimp only [go_sem,wn,d3]
             refine Q0a ?_
             simp -dsimp only [go_sem]
             refine⟨by omega,Q0a ?_⟩
             simp -dsimp only [go_sem,x1]
             exact⟨(tsN b).1-(i+1),by omega,i+1,o++ [q],l2,e2,rfl,by omega,by simp;omega,hs2,hst,by simp⟩
       · have d2:(e'==0)=false:=beq_eq_false_iff_ne.2 he
         rw [v0u _ _ _ _ _ he] at hk
         simp -dsimp only [go_sem,wn,d1,d2,gL]
         rw [←hk]
     · have d1:decide ((i:Int)<((tsN b).1:Int))=false:=decide_eq_false (by omega)
       rw [show(tsN b).1-i=0 by omega,Z0v] at hk
       simp -dsimp only [go_sem,wn,d1]
       rw [←hk]
 rintro s rfl
 refine Y0u 2 ?_
 simp -dsimp only [go_sem]
 refine Q0h (Q0a ?_)
 simp -dsimp only [go_sem]
 refine c5.mono ?_
 rintro r st' ⟨rfl,rfl⟩
 simp -dsimp only [go_sem]
 have gZ:=G (tdZ b).2.1 (tdZ b).2.2
 refine Q0h (Q0a ?_)
 by_cases hz:(tdZ b).2.2=0
 rotate_left
 · have d1:((tdZ b).2.2 !=0)=true:=bne_iff_ne.2 hz
   rw [if_pos hz]
   simp -dsimp only [go_sem,gZ,d1]
   refine Q0o Z0p 130 (.step 0 [] (.step 1 [] (.step 2 [] (.step 3 [] (.step 4 [] (.step 5 [4] (.step 6 [] (.done)))))))) (by decide+kernel) (by simp) ?_
   simp -dsimp only [go_sem,gZ,d1]
   exact bad _ _ _
 have d1:((tdZ b).2.2 !=0)=false:=by rw [hz];rfl
 have c0: ¬((tdZ b).2.2≠0):=fun h=>h hz
 rw [if_neg c0]
 simp -dsimp only [go_sem,gZ,d1]
 refine Q0h (Q0a ?_)
 by_cases hU:(tsU b).1≤4096
 rotate_left
 · have d2:decide (((tsU b).1:Int)>4096)=true:=decide_eq_true (by omega)
   rw [if_neg fun h=>hU h.1]
   simp -dsimp only [go_sem,d2]
   exact bad _ 11 _
 have d2:decide (((tsU b).1:Int)>4096)=false:=decide_eq_false (by omega)
 simp -dsimp only [go_sem,d2]
 refine c6.mono ?_
 rintro r st' ⟨rfl,rfl⟩
 by_cases hL:(tdZ b).2.1.length=0
 rotate_left
 · have d4:decide (((tdZ b).2.1.length:Int)>0)=true:=decide_eq_true (by omega)
   rw [if_neg fun h=>hL h.2.1]
   simp -dsimp only [go_sem,d2,d4]
   exact bad _ 11 _
 have d4:decide (((tdZ b).2.1.length:Int)>0)=false:=decide_eq_false (by omega)
 have w1:IntKind.i64.wrap ((tsU b).1:Int)=((tsU b).1:Int):=Q0i _ (by omega)
 simp -dsimp only [go_sem,d2,d4]
 refine Q0a ?_
 simp -dsimp only [go_sem,w1]
 refine(J1h ⟨(tsU b).1,(tsX b).1,(tsY b).1,⟨(tdM b).1,(tdA b).1,(tdZ b).1⟩⟩ _ hw).mono ?_
 rintro r st' ⟨rfl,rfl⟩
 cases hR:Z0g ⟨(tsU b).1,(tsX b).1,(tsY b).1,⟨(tdM b).1,(tdA b).1,(tdZ b).1⟩⟩ with
 | false=>
  rw [if_neg (by simp)]
  simp -dsimp only [go_sem]
  exact bad _ 11 _
 | true=>
  rw [if_pos ⟨hU,hL,rfl⟩]
  simp -dsimp only [go_sem]
  exact⟨⟨_,rfl⟩,H1j _ ⟨(tsU b).1,(tsX b).1,(tsY b).1,⟨(tdM b).1,(tdA b).1,(tdZ b).1⟩⟩ _⟩
end Go.Pv
end
