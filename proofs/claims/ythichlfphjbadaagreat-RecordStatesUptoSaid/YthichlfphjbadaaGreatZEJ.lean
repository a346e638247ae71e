/- Parts of the walk: N120, N122. -/
import Derived.Test.YthichlfphjbadaaGreatZEI
import Derived.Test.YthichlfphjbadaaGreatZEH
set_option linter.unusedVariables false
set_option linter.unusedSimpArgs false
section
/-record.ReadState:the state that bytes tell. -/
set_option maxRecDepth 100000
namespace Go.Pv
open Go.Proofs
theorem w0r : ∀(n:Nat) (l:List UInt8) (e:Int) (o:List Nm),o.all Q0f=true→(Z0j n l e o).1.all Q0f=true∧(Z0j n l e o).1.length=o.length+n
 | 0,l,e,o,h=>⟨h,rfl⟩
 | n+1,l,e,o,h=>by
  rw [Z0j]
  have:=w0r n (Q0r l e).2.1 (Q0r l e).2.2 (o++ [(Q0r l e).1]) (by simp [h,V0g])
  refine⟨this.1,?_⟩
  rw [this.2];simp;omega
theorem V1u (m:Nat): ∀(n:Nat) (l:List UInt8) (e:Int) (o:List (List Nm)),o.all (fun x=>Z0k x m)=true→(V0o m n l e o).1.all (fun x=>Z0k x m)=true∧(V0o m n l e o).1.length=o.length+n
 | 0,l,e,o,h=>⟨h,rfl⟩
 | n+1,l,e,o,h=>by
  rw [V0o]
  have hn:=w0r m l e [] rfl
  have:=V1u m n (Z0j m l e []).2.1 (Z0j m l e []).2.2 (o++ [(Z0j m l e []).1]) (by
   rw [List.all_append,h,Bool.true_and]
   simp only [List.all_cons,List.all_nil,Bool.and_true]
   unfold Z0k
   rw [hn.1,hn.2];simp)
  refine⟨this.1,?_⟩
  rw [this.2];simp;omega
theorem q2v {n:Nat} (hn:n≤1000) (l:List UInt8) (e:Int):wNs' (Z0j n l e []).1:=by
 have h:=w0r n l e [] rfl
 exact k0t (n:=n) (by unfold Z0k;rw [h.1,h.2];simp) hn
theorem q2u {m n:Nat} (hm:m≤1000) (hn:n≤1000) (l:List UInt8) (e:Int):wQs (V0o m n l e []).1:=by
 have h:=V1u m n l e [] rfl
 refine⟨by rw [h.2];simp;omega,fun i hi=>k0t (n:=m) ?_ hm⟩
 have:=List.all_eq_true.1 h.1 ((V0o m n l e []).1.getD i []) (by rw [List.getD_eq_getElem?_getD,List.getElem?_eq_getElem hi];exact List.getElem_mem hi)
 exact this
theorem Z1y (f s a:Nat) (c0:PV) (x y:Nm) (fm:Fm) (st:Q0g) (ha:a<18446744073709551616) (wx:wN x) (wy:wN y) (wf:wFm fm)
 (hf:st.getD f []= [.sc (.int .u64 a)]) (hs:st.getD s []= [c0,.sc (.bool x.neg),.sc (.int .i64 x.exp),.sl .no (encW x.w),.sc (.bool y.neg),.sc (.int .i64 y.exp),.sl .no (encW y.w),.sl .no (Q0w fm.m),.sl .no (encQ fm.a),.sl .no (Q0t fm.r)])
 (hft:f≠s):PCalls Tryz.prog 66 [.gp f 0,.gp s 0] st
 (fun r st'=>r= .sc (.bool (decide (a≤4096)&&Q0z ⟨cntV a,x,y,fm⟩))∧st'=st.set s (J0h ⟨cntV a,x,y,fm⟩)):=by
 have hsl:s<st.length:=Nat.lt_of_not_le fun hn=>by rw [List.getD_eq_getElem?_getD,List.getElem?_eq_none hn] at hs;cases hs
 refine Q0b none Tryz.func66 rfl fun E=>Q0h (Q0a ?_)
 simp -dsimp only [go_sem]
 refine Q0h (Q0a ?_)
 simp -dsimp only [go_sem]
 refine Q0h (Q0a ?_)
 simp -dsimp only [go_sem,hf]
 refine(G1g a st ha).mono ?_
 rintro r st ⟨rfl,rfl⟩
 simp -dsimp only [go_sem,hs]
 have g3:=Q0n st s (J0h ⟨cntV a,x,y,fm⟩) [] hsl
 simp only [J0h] at g3
 refine Q0a ?_
 cases da:decide (a≤4096) with
 | false=>
  simp -dsimp only [go_sem]
  rfl
 | true=>
  simp -dsimp only [go_sem,g3]
  refine(Y0f ⟨cntV a,x,y,fm⟩ _ ⟨wx,wy,wf⟩).mono ?_
  rintro r st' ⟨rfl,rfl⟩
  simp -dsimp only [go_sem]
def tsU (b:List UInt8):=Q0s b 0
def tsX (b:List UInt8):=Q0r (tsU b).2.1 (tsU b).2.2
def tsY (b:List UInt8):=Q0r (tsX b).2.1 (tsX b).2.2
def tsN (b:List UInt8):=Q0s (tsY b).2.1 (tsY b).2.2
def tsM (b:List UInt8):=Z0j (tsN b).1 (tsN b).2.1 (tsN b).2.2 []
def tsA (b:List UInt8):=V0o (tsN b).1 (tsN b).1 (tsM b).2.1 (tsM b).2.2 []
def tsZ (b:List UInt8):=X0s (tsA b).2.1 (tsA b).2.2
def x0t (b:List UInt8):Prop:=(tsN b).1<1∨4<(tsN b).1
instance (b :List UInt8):Decidable (x0t b):=by unfold x0t;exact inferInstance
def tsLE (b:List UInt8):Nat→List UInt8×Int
 | 0=>(b,0) | 1=>(tsU b).2 | 2=>(tsX b).2 | 3=>(tsY b).2 | 4=>if x0t b then(tsN b).2 else(tsA b).2 | _=>(tsZ b).2
def G1r :List PV:= [.sc (.bool false),.sc (.int .i64 0),.sl .full []]
def K1u :List PV:= [.sl .full [],.sl .full [],.sl .full []]
def tsO (b:List UInt8):Nat→List PV
 | 0 | 1=> [.sc (.int .i64 0)]++(G1r++(G1r++K1u))
 | 2=> [.sc (.int .i64 0)]++(encN (tsX b).1++(G1r++K1u))
 | 3=> [.sc (.int .i64 0)]++(encN (tsX b).1++(encN (tsY b).1++K1u))
 | 4=> [.sc (.int .i64 0)]++(encN (tsX b).1++(encN (tsY b).1++(if x0t b then K1u else [.sl .no (Q0w (tsM b).1),.sl .no (encQ (tsA b).1),.sl .full []])))
 | _=> [.sc (.int .i64 0)]++(encN (tsX b).1++(encN (tsY b).1++ [.sl .no (Q0w (tsM b).1),.sl .no (encQ (tsA b).1),.sl .no (Q0t (tsZ b).1)]))
def tsF (b:List UInt8) (i:Nat):PV:= .sc (.int .u64 (if i=0 then 0 else(tsU b).1:Nat))
def tsW (b:List UInt8) (n i:Nat):Q0g:= [tsO b i,[tsF b i],[.gp (n+1) 0],[.gp n 1],[.gp n 4],[.gp n 7],[.gp n 9],rd (tsLE b i).1 (tsLE b i).2]
def tsG :Nat→FuncId
 | 0=>108 | 1 | 2=>110 | 3=>116 | _=>112
def tsK (b:List UInt8) (i:Nat):Bool:=if i=3 then !decide (x0t b) else true
theorem V1t (m:Nat): ∀(n:Nat) (l:List UInt8) (e:Int) (o:List (List Nm)),(V0o m n l e o).2.1.length≤l.length
 | 0,l,e,o=>Nat.le_refl _
 | n+1,l,e,o=>Nat.le_trans (V1t m n _ _ _) (Y0i m l e [])
theorem apsD (st W D:Q0g) (i:Nat) (v:List PV) (h:i<W.length):(st++(W++D)).set (st.length+i) v=st++(W.set i v++D):=by
 rw [aps,List.set_append_left _ _ h]
theorem apgD (st W D:Q0g) (i:Nat) (h:i<W.length):(st++(W++D)).getD (st.length+i) []=W.getD i []:=by
 rw [apg,Q0o _ _ _ _ h]
set_option maxHeartbeats 1000000 in
theorem Q3f (b:List UInt8) (st D:Q0g) (hb:b.length≤1000000000000) (i:Nat) (hi:i<5) (h4:i=4→ ¬x0t b):PCalls Tryz.prog (tsG i) [.gp (st.length+7) 0,.gp (st.length+2+i) 0] (st++(tsW b st.length i++D))
 (fun r st'=>r= .sc (.bool (tsK b i))∧ ∃D,st'=st++(tsW b st.length (i+1)++D)):=by
 have l1:(tsU b).2.1.length≤b.length:=Y0h _ _
 have l2:(tsX b).2.1.length≤b.length:=Nat.le_trans (V0y _ _) l1
 have l3:(tsY b).2.1.length≤b.length:=Nat.le_trans (V0y _ _) l2
 have l4:(tsN b).2.1.length≤b.length:=Nat.le_trans (Y0h _ _) l3
 have l5:(tsM b).2.1.length≤b.length:=Nat.le_trans (Y0i _ _ _ _) l4
 have l6:(tsA b).2.1.length≤b.length:=Nat.le_trans (V1t _ _ _ _ _) l5
 have at': ∀i,atR (st++(tsW b st.length i++D)) (st.length+7) (tsLE b i).1 (tsLE b i).2:=fun i=>apgD st (tsW b st.length i) D 7 (by simp [tsW])
 have gg: ∀i j,j<8→(st++(tsW b st.length i++D)).getD (st.length+j) []=(tsW b st.length i).getD j []:=fun i j hj=>apgD st _ D j (by simp [tsW];omega)
 have gs: ∀i j v,j<8→(st++(tsW b st.length i++D)).set (st.length+j) v=st++((tsW b st.length i).set j v++D):=fun i j v hj=>apsD st _ D j v (by simp [tsW];omega)
 have g0: ∀i,(st++(tsW b st.length i++D)).getD st.length []=tsO b i:=fun i=>gg i 0 (by omega)
 have c:i=0∨i=1∨i=2∨i=3∨i=4:=by omega
 rcases c with rfl | rfl | rfl | rfl | rfl
 · refine(q0q b 0 (st.length+7) (st.length+2) (st.length+1) (tsF b 0) _ (at' 0) hb (gg 0 2 (by omega)) (gg 0 1 (by omega)) (by omega) (by omega)).mono ?_
   rintro r st' ⟨rfl,rfl⟩
   rw [gs 0 7 _ (by omega),apsD _ _ _ 1 _ (by simp [tsW])]
   exact⟨rfl,D,rfl⟩
 · refine(x0f (tsU b).2.1 (tsU b).2.2 (st.length+7) (st.length+3) st.length 1 (tsO b 1) _ (at' 1) (by omega) (gg 1 3 (by omega)) (g0 1) (by simp [tsO,G1r,K1u]) (by omega) (by omega)).mono ?_
   rintro r st' ⟨rfl,rfl⟩
   rw [gs 1 7 _ (by omega)]
   have:=apsD st ((tsW b st.length 1).set 7 (rd (Q0r (tsU b).2.1 (tsU b).2.2).2.1 (Q0r (tsU b).2.1 (tsU b).2.2).2.2)) D 0 (over (tsO b 1) 1 (encN (Q0r (tsU b).2.1 (tsU b).2.2).1)) (by simp [tsW])
   rw [Nat.add_zero] at this
   rw [this]
   exact⟨rfl,D,rfl⟩
 · refine(x0f (tsX b).2.1 (tsX b).2.2 (st.length+7) (st.length+4) st.length 4 (tsO b 2) _ (at' 2) (by omega) (gg 2 4 (by omega)) (g0 2) (by simp [tsO,encN,G1r,K1u]) (by omega) (by omega)).mono ?_
   rintro r st' ⟨rfl,rfl⟩
   rw [gs 2 7 _ (by omega)]
   have:=apsD st ((tsW b st.length 2).set 7 (rd (Q0r (tsX b).2.1 (tsX b).2.2).2.1 (Q0r (tsX b).2.1 (tsX b).2.2).2.2)) D 0 (over (tsO b 2) 4 (encN (Q0r (tsX b).2.1 (tsX b).2.2).1)) (by simp [tsW])
   rw [Nat.add_zero] at this
   rw [this]
   exact⟨rfl,D,rfl⟩
 · refine(V2i (tsY b).2.1 (tsY b).2.2 (st.length+7) (st.length+5) st.length (.sc (.int .i64 0)) (.sc (.bool (tsX b).1.neg)) (.sc (.int .i64 (tsX b).1.exp)) (.sl .no (encW (tsX b).1.w)) (.sc (.bool (tsY b).1.neg)) (.sc (.int .i64 (tsY b).1.exp)) (.sl .no (encW (tsY b).1.w)) (.sl .full []) _
    (at' 3) (by omega) (gg 3 5 (by omega)) (g0 3) (by omega) (by omega) (by omega)).mono ?_
   rintro r st' (⟨hbad,rfl,rfl⟩ | ⟨h1,h2,rfl,D',rfl⟩)
   · have hB:x0t b:=hbad
     rw [gs 3 7 _ (by omega)]
     refine⟨by simp [tsK,hB],D,?_⟩
     simp only [tsW,tsO,tsLE,if_pos hB];rfl
   · have hB: ¬x0t b:=by
      have h1:1≤(tsN b).1:=h1
      have h2:(tsN b).1≤4:=h2
      unfold x0t;omega
     rw [gs 3 7 _ (by omega)]
     have:=apsD st ((tsW b st.length 3).set 7 (rd (tsA b).2.1 (tsA b).2.2)) D 0 [.sc (.int .i64 0),.sc (.bool (tsX b).1.neg),.sc (.int .i64 (tsX b).1.exp),.sl .no (encW (tsX b).1.w),.sc (.bool (tsY b).1.neg),.sc (.int .i64 (tsY b).1.exp),.sl .no (encW (tsY b).1.w),.sl .no (Q0w (tsM b).1),.sl .no (encQ (tsA b).1),.sl .full []] (by simp [tsW])
     rw [Nat.add_zero] at this
     refine⟨by simp [tsK,hB],D++D',?_⟩
     refine(congrArg (· ++D') this).trans ?_
     simp only [tsW,tsO,tsLE,if_neg hB,List.append_assoc];rfl
 · have hB:=h4 rfl
   refine(Z1z (tsA b).2.1 (tsA b).2.2 (st.length+7) (st.length+6) st.length 9 (tsO b 4) _ (by have:=at' 4;simp only [tsLE,if_neg hB] at this;exact this) (by omega) (gg 4 6 (by omega)) (g0 4) (by simp only [tsO,if_neg hB];simp [encN]) (by omega) (by omega)).mono ?_
   rintro r st' ⟨rfl,rfl⟩
   rw [gs 4 7 _ (by omega)]
   have:=apsD st ((tsW b st.length 4).set 7 (rd (X0s (tsA b).2.1 (tsA b).2.2).2.1 (X0s (tsA b).2.1 (tsA b).2.2).2.2)) D 0 (over (tsO b 4) 9 [.sl .no (Q0t (X0s (tsA b).2.1 (tsA b).2.2).1)]) (by simp [tsW])
   rw [Nat.add_zero] at this
   refine⟨by simp [tsK],D,?_⟩
   refine this.trans ?_
   simp only [tsW,tsO,tsLE,if_neg hB];rfl
theorem Q3g (st:Q0g):q0w tsG (fun i=>st.length+2+i) 5= [.fn (.func 108) [] [.gp (st.length+2) 0],.fn (.func 110) [] [.gp (st.length+3) 0],
 .fn (.func 110) [] [.gp (st.length+4) 0],.fn (.func 116) [] [.gp (st.length+5) 0],.fn (.func 112) [] [.gp (st.length+6) 0]]:=rfl
def tsS (b:List UInt8):Sx:=⟨cntV (tsU b).1,(tsX b).1,(tsY b).1,⟨(tsM b).1,(tsA b).1,(tsZ b).1⟩⟩
def tsOk (b:List UInt8):Bool:=decide ((tsU b).1≤4096)&&Q0z (tsS b)
theorem Y3w (b:List UInt8):stR b=if (tsN b).2.2≠0 then(default,(tsN b).2.2) else if x0t b then(default,11) else if (tsZ b).2.2≠0 then(default,(tsZ b).2.2) else if (tsZ b).2.1= []∧tsOk b=true then(tsS b,0) else(default,11):=by
 have e1:stR b=if (tsN b).2.2≠0 then(default,(tsN b).2.2) else if x0t b then(default,11) else
  (if (X0s (X0n (tsN b).1 (tsN b).1 (Z0i (tsN b).1 (tsN b).2.1 (tsN b).2.2 []).2.1 (Z0i (tsN b).1 (tsN b).2.1 (tsN b).2.2 []).2.2 []).2.1 (X0n (tsN b).1 (tsN b).1 (Z0i (tsN b).1 (tsN b).2.1 (tsN b).2.2 []).2.1 (Z0i (tsN b).1 (tsN b).2.1 (tsN b).2.2 []).2.2 []).2.2).2.2≠0
   then(default,(X0s (X0n (tsN b).1 (tsN b).1 (Z0i (tsN b).1 (tsN b).2.1 (tsN b).2.2 []).2.1 (Z0i (tsN b).1 (tsN b).2.1 (tsN b).2.2 []).2.2 []).2.1 (X0n (tsN b).1 (tsN b).1 (Z0i (tsN b).1 (tsN b).2.1 (tsN b).2.2 []).2.1 (Z0i (tsN b).1 (tsN b).2.1 (tsN b).2.2 []).2.2 []).2.2).2.2)
   else if (tsU b).1≤4096∧(X0s (X0n (tsN b).1 (tsN b).1 (Z0i (tsN b).1 (tsN b).2.1 (tsN b).2.2 []).2.1 (Z0i (tsN b).1 (tsN b).2.1 (tsN b).2.2 []).2.2 []).2.1 (X0n (tsN b).1 (tsN b).1 (Z0i (tsN b).1 (tsN b).2.1 (tsN b).2.2 []).2.1 (Z0i (tsN b).1 (tsN b).2.1 (tsN b).2.2 []).2.2 []).2.2).2.1.length=0∧
    Q0z ⟨(tsU b).1,(tsX b).1,(tsY b).1,⟨(Z0i (tsN b).1 (tsN b).2.1 (tsN b).2.2 []).1,(X0n (tsN b).1 (tsN b).1 (Z0i (tsN b).1 (tsN b).2.1 (tsN b).2.2 []).2.1 (Z0i (tsN b).1 (tsN b).2.1 (tsN b).2.2 []).2.2 []).1,(X0s (X0n (tsN b).1 (tsN b).1 (Z0i (tsN b).1 (tsN b).2.1 (tsN b).2.2 []).2.1 (Z0i (tsN b).1 (tsN b).2.1 (tsN b).2.2 []).2.2 []).2.1 (X0n (tsN b).1 (tsN b).1 (Z0i (tsN b).1 (tsN b).2.1 (tsN b).2.2 []).2.1 (Z0i (tsN b).1 (tsN b).2.1 (tsN b).2.2 []).2.2 []).2.2).1⟩⟩=true
    then(⟨(tsU b).1,(tsX b).1,(tsY b).1,⟨(Z0i (tsN b).1 (tsN b).2.1 (tsN b).2.2 []).1,(X0n (tsN b).1 (tsN b).1 (Z0i (tsN b).1 (tsN b).2.1 (tsN b).2.2 []).2.1 (Z0i (tsN b).1 (tsN b).2.1 (tsN b).2.2 []).2.2 []).1,(X0s (X0n (tsN b).1 (tsN b).1 (Z0i (tsN b).1 (tsN b).2.1 (tsN b).2.2 []).2.1 (Z0i (tsN b).1 (tsN b).2.1 (tsN b).2.2 []).2.2 []).2.1 (X0n (tsN b).1 (tsN b).1 (Z0i (tsN b).1 (tsN b).2.1 (tsN b).2.2 []).2.1 (Z0i (tsN b).1 (tsN b).2.1 (tsN b).2.2 []).2.2 []).2.2).1⟩⟩,0)
    else(default,11)):=rfl
 rw [e1]
 obtain⟨m1,m2⟩:=X1c (tsN b).1 (tsN b).2.1 (tsN b).2.2 []
 obtain⟨a1,a2⟩:=H1y (tsN b).1 (tsN b).1 (tsM b).2.1 (tsM b).2.2 []
 have hM:(tsM b).2=(Z0i (tsN b).1 (tsN b).2.1 (tsN b).2.2 []).2:=m1
 rw [←hM]
 have hA:(tsA b).2=(X0n (tsN b).1 (tsN b).1 (tsM b).2.1 (tsM b).2.2 []).2:=a1
 rw [←hA]
 by_cases h1:(tsN b).2.2=0
 rotate_left
 · rw [if_pos h1,if_pos h1]
 have c1: ¬((tsN b).2.2≠0):=fun h=>h h1
 rw [if_neg c1,if_neg c1]
 by_cases h2:x0t b
 · rw [if_pos h2,if_pos h2]
 rw [if_neg h2,if_neg h2]
 show(if (tsZ b).2.2≠0 then _ else _)=_
 by_cases h3:(tsZ b).2.2=0
 rotate_left
 · rw [if_pos h3,if_pos h3];rfl
 have c3: ¬((tsZ b).2.2≠0):=fun h=>h h3
 rw [if_neg c3,if_neg c3]
 have ea:(tsA b).2.2=0:=q2x h3
 rw [hA] at ea
 have em:=(V1s _ _ _ _ _ ea).1
 rw [hM] at em
 have eM:tsM b=Z0i (tsN b).1 (tsN b).2.1 (tsN b).2.2 []:=m2 em
 have eA:tsA b=X0n (tsN b).1 (tsN b).1 (tsM b).2.1 (tsM b).2.2 []:=a2 ea
 rw [←eM,←eA]
 show(if (tsU b).1≤4096∧(tsZ b).2.1.length=0∧Q0z ⟨(tsU b).1,(tsX b).1,(tsY b).1,⟨(tsM b).1,(tsA b).1,(tsZ b).1⟩⟩=true then((⟨(tsU b).1,(tsX b).1,(tsY b).1,⟨(tsM b).1,(tsA b).1,(tsZ b).1⟩⟩:Sx),(0:Int)) else _)=_
 by_cases h4:(tsU b).1≤4096
 · have ec:tsS b=⟨(tsU b).1,(tsX b).1,(tsY b).1,⟨(tsM b).1,(tsA b).1,(tsZ b).1⟩⟩:=by unfold tsS;rw [show cntV (tsU b).1=(((tsU b).1:Nat):Int) from if_pos h4]
   have eo:tsOk b=Q0z (tsS b):=by unfold tsOk;rw [decide_eq_true h4,Bool.true_and]
   rw [eo,ec]
   by_cases h5:(tsZ b).2.1= []∧Q0z ⟨(tsU b).1,(tsX b).1,(tsY b).1,⟨(tsM b).1,(tsA b).1,(tsZ b).1⟩⟩=true
   · rw [if_pos h5,if_pos ⟨h4,by rw [h5.1];rfl,h5.2⟩]
   · rw [if_neg h5,if_neg fun hh=>h5 ⟨List.length_eq_zero_iff.1 hh.2.1,hh.2.2⟩]
 · have eo:tsOk b=false:=by unfold tsOk;rw [decide_eq_false h4,Bool.false_and]
   have c5: ¬((tsZ b).2.1= []∧false=true):=by simp
   have c6: ∀q,¬((tsU b).1≤4096∧q):=fun q hh=>h4 hh.1
   rw [eo,if_neg (c6 _),if_neg c5]
theorem ts_e (b:List UInt8) {i:Nat} (hi:i≤3) (h:(tsLE b i).2≠0):(tsN b).2.2=(tsLE b i).2:=by
 have e1:(tsU b).2.2≠0→(tsX b).2.2=(tsU b).2.2:=fun h=>by unfold tsX;rw [q0s _ _ h]
 have e2:(tsX b).2.2≠0→(tsY b).2.2=(tsX b).2.2:=fun h=>by unfold tsY;rw [q0s _ _ h]
 have e3:(tsY b).2.2≠0→(tsN b).2.2=(tsY b).2.2:=fun h=>by unfold tsN;rw [V2j _ _ h]
 have f2:(tsX b).2.2≠0→(tsN b).2.2=(tsX b).2.2:=fun h=>by rw [e3 (by rw [e2 h];exact h),e2 h]
 have f1:(tsU b).2.2≠0→(tsN b).2.2=(tsU b).2.2:=fun h=>by rw [f2 (by rw [e1 h];exact h),e1 h]
 have c:i=0∨i=1∨i=2∨i=3:=by omega
 rcases c with rfl | rfl | rfl | rfl
 · exact absurd rfl h
 · exact f1 h
 · exact f2 h
 · exact e3 h
set_option maxHeartbeats 2000000 in
theorem K1n (b:List UInt8) (st:Q0g) (hb:b.length≤1000000000000):PCalls Tryz.prog 26 [.sl .no (encB b)] st
 (fun r st'=>r= .tup [.agg (J0h (stR b).1),.sc (.int .i64 (stR b).2)]∧st'=st):=by
 refine X1o (Q:=fun r _=>r= .tup [.agg (J0h (stR b).1),.sc (.int .i64 (stR b).2)]) ?_
 refine Q0b none Tryz.func26 rfl fun E=>Q0h (Q0a ?_)
 simp -dsimp only [go_sem]
 refine Q0h (Q0a ?_)
 simp -dsimp only [go_sem]
 refine Q0h (Q0a ?_)
 simp -dsimp only [go_sem]
 refine V2v 1 (by simp [go_sem]) (by simp) ?_
 simp -dsimp only [go_sem]
 refine Y0a 2 (by simp [go_sem]) (by simp) ?_
 simp -dsimp only [go_sem,List.append_assoc]
 refine Q0h (Q0a ?_)
 simp -dsimp only [go_sem]
 refine(j0n _ _).mono ?_
 rintro r st' ⟨rfl,rfl⟩
 simp -dsimp only [go_sem,List.append_assoc]
 refine(k0x _ _ _).mono ?_
 rintro r st' ⟨rfl,rfl⟩
 simp -dsimp only [go_sem,List.append_assoc]
 refine(k0x _ _ _).mono ?_
 rintro r st' ⟨rfl,rfl⟩
 simp -dsimp only [go_sem,List.append_assoc]
 refine(q2s _ _ _).mono ?_
 rintro r st' ⟨rfl,rfl⟩
 simp -dsimp only [go_sem,List.append_assoc]
 refine(V1p _ _ _).mono ?_
 rintro r st' ⟨rfl,rfl⟩
 simp -dsimp only [go_sem,List.append_assoc]
 have hlen:(st++(tsW b st.length 0).take 7).length=st.length+7:=by simp [tsW]
 have hwu:(tsU b).1<18446744073709551616:=H0m _ _
 have wx:wN (tsX b).1:=Z0g (V0g _ _)
 have wy:wN (tsY b).1:=Z0g (V0g _ _)
 have wz:wB (tsZ b).1:=w1c _ _
 have hr:=H1x b (st++(tsW b st.length 0).take 7) 5 tsG (fun i=>st.length+2+i) (tsK b) (fun i=>(tsLE b i).1) (fun i=>(tsLE b i).2) (fun i st'=> ∃D,st'=st++(tsW b st.length i++D)) 66
  [.gp (st.length+1) 0,.gp st.length 0] (tsOk b) (fun st'=> ∃D,st'=st++((tsW b st.length 5).set 0 (J0h (tsS b))++D)) (by omega) (by omega)
  (fun i hi=>by
   have c:i=0∨i=1∨i=2∨i=3∨i=4:=by omega
   rcases c with rfl | rfl | rfl | rfl | rfl<;>simp -dsimp only [go_sem,tsG])
  (by simp -dsimp only [go_sem]) (by simp -dsimp only [go_sem]) (by simp -dsimp only [go_sem]) (by simp -dsimp only [go_sem]) rfl
  ⟨[],by rw [List.append_assoc];rfl⟩
  (fun i st' hi hJ=>by
   obtain⟨D,rfl⟩:=hJ
   rw [hlen];exact apgD st (tsW b st.length i) D 7 (by simp [tsW]))
  (fun i st' hi hok _ hJ=>by
   obtain⟨D,rfl⟩:=hJ
   rw [hlen]
   refine Q3f b st D hb i hi fun h4 hB=> ?_
   have:=hok 3 (by omega)
   simp [tsK,hB] at this)
  (fun st' hok h0 hJ=>by
   obtain⟨D,rfl⟩:=hJ
   have hn: ¬x0t b:=fun hB=>by
    have:=hok 3 (by omega)
    simp [tsK,hB] at this
   have hn1:(tsN b).1≤4:=by unfold x0t at hn;omega
   refine(Z1y (st.length+1) st.length (tsU b).1 (.sc (.int .i64 0)) (tsX b).1 (tsY b).1 ⟨(tsM b).1,(tsA b).1,(tsZ b).1⟩ _ hwu wx wy ⟨q2v (by omega) _ _,q2u (by omega) (by omega) _ _,wz⟩ (apgD st _ D 1 (by simp [tsW])) (apgD st (tsW b st.length 5) D 0 (by simp [tsW])) (by omega)).mono ?_
   rintro r st' ⟨rfl,rfl⟩
   exact⟨rfl,D,apsD st (tsW b st.length 5) D 0 _ (by simp [tsW])⟩)
 rw [Q3g] at hr
 refine hr.mono ?_
 rintro r st' ⟨e,rfl,hc⟩
 simp -dsimp only [go_sem]
 have key:(e≠0∧stR b=(default,e)∧ ∃X,st'=st++X)∨(e=0∧stR b=(tsS b,0)∧ ∃D,st'=st++((tsW b st.length 5).set 0 (J0h (tsS b))++D)):=by
  rw [Y3w]
  rcases hc with ⟨i,hi,hall,hbad,D,hJ⟩ | ⟨hall,hend⟩
  · refine .inl ?_
    dsimp only at hall hbad
    by_cases h3:i<3
    · rcases hbad with ⟨h1,rfl⟩ | ⟨_,h2,_⟩
      · have hz:=ts_e b (i:=i+1) (by omega) h1
        exact⟨h1,by rw [if_pos (by rw [hz];exact h1),hz],_,hJ⟩
      · simp [tsK,show¬i=3 by omega] at h2
    · have hy:(tsY b).2.2=0:=(hall 2 (by omega)).1
      by_cases hB:x0t b
      · have h4:i=3:=by
         by_cases h4:i=3
         · exact h4
         · have:=(hall 3 (by omega)).2
           simp [tsK,hB] at this
        subst h4
        have eL:(tsLE b 4).2=(tsN b).2.2:=by simp [tsLE,hB]
        rcases hbad with ⟨h1,rfl⟩ | ⟨h1,_,rfl⟩
        · have h1:(tsLE b 4).2≠0:=h1
          refine⟨h1,?_,_,hJ⟩
          show _=(default,(tsLE b 4).2)
          rw [eL] at h1⊢
          rw [if_pos h1]
        · have h1:(tsLE b 4).2=0:=h1
          rw [eL] at h1
          have c1: ¬((tsN b).2.2≠0):=fun h=>h h1
          exact⟨by decide,by rw [if_neg c1,if_pos hB],_,hJ⟩
      · have eL:(tsLE b 4).2=(tsA b).2.2:=by simp [tsLE,hB]
        have hn0:(tsN b).2.2=0:=by
         refine Classical.byContradiction fun hne=>hB ?_
         refine .inl ?_
         show(Q0s (tsY b).2.1 (tsY b).2.2).1<1
         rw [X1b _ _ hne];omega
        have c1: ¬((tsN b).2.2≠0):=fun h=>h hn0
        rcases hbad with ⟨h1,rfl⟩ | ⟨_,h2,_⟩
        · have hz:(tsZ b).2.2=(tsLE b (i+1)).2:=by
           by_cases h4:i=3
           · subst h4
             rw [eL] at h1⊢
             show(X0s (tsA b).2.1 (tsA b).2.2).2.2=_
             rw [X1d _ _ h1]
           · have:i=4:=by omega
             subst this;rfl
          refine⟨h1,?_,_,hJ⟩
          rw [if_neg c1,if_neg hB,if_pos (by rw [hz];exact h1),hz]
        · simp [tsK,hB] at h2
  · have hz:(tsZ b).2.2=0:=(hall 4 (by omega)).1
    have hB: ¬x0t b:=fun hB=>by have:=(hall 3 (by omega)).2;simp [tsK,hB] at this
    have hn0:(tsN b).2.2=0:=by
     refine Classical.byContradiction fun hne=>hB ?_
     refine .inl ?_
     show(Q0s (tsY b).2.1 (tsY b).2.2).1<1
     rw [X1b _ _ hne];omega
    have c1: ¬((tsN b).2.2≠0):=fun h=>h hn0
    have c3: ¬((tsZ b).2.2≠0):=fun h=>h hz
    rw [if_neg c1,if_neg hB,if_neg c3]
    rcases hend with ⟨h1,rfl,D,hJ⟩ | ⟨h1,h2,rfl,D,hJ⟩ | ⟨h1,h2,rfl,hJ⟩
    · exact .inl ⟨by decide,by rw [if_neg fun hh=>h1 hh.1],_,hJ⟩
    · exact .inl ⟨by decide,by rw [if_neg fun hh=>by rw [h2] at hh;cases hh.2],_,hJ⟩
    · exact .inr ⟨rfl,by rw [if_pos ⟨h1,h2⟩],hJ⟩
 refine Q0h (Q0a ?_)
 rcases key with ⟨h1,h2,X,rfl⟩ | ⟨rfl,h2,D,rfl⟩
 · have d1:(e !=0)=true:=bne_iff_ne.2 h1
   simp -dsimp only [go_sem,d1]
   rw [h2]
   exact⟨⟨_,rfl⟩,Y2d _ default _,rfl⟩
 · have g:=apgD st ((tsW b st.length 5).set 0 (J0h (tsS b))) D 0 (by simp [tsW])
   rw [show((tsW b st.length 5).set 0 (J0h (tsS b))).getD 0 []=J0h (tsS b) from rfl,Nat.add_zero] at g
   simp only [J0h] at g
   simp -dsimp only [go_sem]
   refine Q0a ?_
   simp -dsimp only [go_sem,g]
   rw [h2]
   exact⟨⟨_,rfl⟩,Y2d _ (tsS b) _,rfl⟩
end Go.Pv
end
section
/-The document's ReadState. -/
set_option maxRecDepth 100000
namespace Go.Pv
open Go.Proofs
def tdM (b:List UInt8):=Z0i (tsN b).1 (tsN b).2.1 (tsN b).2.2 []
def tdA (b:List UInt8):=X0n (tsN b).1 (tsN b).1 (tdM b).2.1 (tdM b).2.2 []
def tdZ (b:List UInt8):=X0s (tdA b).2.1 (tdA b).2.2
end Go.Pv
end
