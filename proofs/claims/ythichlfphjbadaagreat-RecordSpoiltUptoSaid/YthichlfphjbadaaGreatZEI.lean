/- Parts of the walk: N119, N121. -/
import Derived.Test.YthichlfphjbadaaGreatZEG
import Derived.Test.YthichlfphjbadaaGreatZEF
import Derived.Test.YthichlfphjbadaaGreatZU
import Derived.Test.YthichlfphjbadaaGreatZH
set_option linter.unusedVariables false
set_option linter.unusedSimpArgs false
section
/-record.ReadSeg:the piece that bytes tell. -/
set_option maxRecDepth 100000
namespace Go.Pv
open Go.Proofs
def cntV (v:Nat):Int:=if v≤4096 then(v:Int) else 0
theorem H1w (v:Nat) (st:Q0g) (hv:v<18446744073709551616):PCalls Tryz.prog 62 [.sc (.int .u64 v)] st
 (fun r st'=>r= .tup [.sc (.int .i64 (cntV v)),.sc (.bool (decide (v≤4096)))]∧st'=st):=W3k v st hv
theorem G1p (f s t a b:Nat) (c0 c1:PV) (x y:Nm) (z:List Ivl) (st:Q0g) (ha:a<18446744073709551616) (hb:b<18446744073709551616) (wx:wN x) (wy:wN y) (wz:wB z)
 (hf:st.getD f []= [.sc (.int .u64 a)]) (ht:st.getD t []= [.sc (.int .u64 b)]) (hs:st.getD s []= [c0,c1,.sc (.bool x.neg),.sc (.int .i64 x.exp),.sl .no (encW x.w),.sc (.bool y.neg),.sc (.int .i64 y.exp),.sl .no (encW y.w),.sl .no (Q0u z)])
 (hft:f≠s) (hts:t≠s):PCalls Tryz.prog 61 [.gp f 0,.gp s 0,.gp t 0] st
 (fun r st'=>r= .sc (.bool (decide (a≤4096)&&(decide (b≤4096)&&X0d ⟨cntV a,cntV b,x,y,z⟩)))∧st'=st.set s (encS ⟨cntV a,cntV b,x,y,z⟩)):=by
 have hsl:s<st.length:=Nat.lt_of_not_le fun hn=>by rw [List.getD_eq_getElem?_getD,List.getElem?_eq_none hn] at hs;cases hs
 refine Q0b none Tryz.func61 rfl fun E=>Q0h (Q0a ?_)
 simp -dsimp only [go_sem]
 refine Q0h (Q0a ?_)
 simp -dsimp only [go_sem]
 refine Q0h (Q0a ?_)
 simp -dsimp only [go_sem,hf]
 refine(H1w a st ha).mono ?_
 rintro r st ⟨rfl,rfl⟩
 simp -dsimp only [go_sem,hs]
 have g1:(st.set s [.sc (.int .i64 (cntV a)),c1,.sc (.bool x.neg),.sc (.int .i64 x.exp),.sl .no (encW x.w),.sc (.bool y.neg),.sc (.int .i64 y.exp),.sl .no (encW y.w),.sl .no (Q0u z)]).getD t []= [.sc (.int .u64 b)]:=by rw [Q0j _ _ _ _ _ hts.symm];exact ht
 have g2:=Q0p st s [.sc (.int .i64 (cntV a)),c1,.sc (.bool x.neg),.sc (.int .i64 x.exp),.sl .no (encW x.w),.sc (.bool y.neg),.sc (.int .i64 y.exp),.sl .no (encW y.w),.sl .no (Q0u z)] [] hsl
 refine Q0h (Q0a ?_)
 simp -dsimp only [go_sem,g1]
 refine(H1w b _ hb).mono ?_
 rintro r st' ⟨rfl,rfl⟩
 simp -dsimp only [go_sem,g2,List.set_set]
 have g3:=Q0p st s (encS ⟨cntV a,cntV b,x,y,z⟩) [] hsl
 simp only [encS,encN,List.cons_append,List.nil_append] at g3
 refine Q0a ?_
 cases da:decide (a≤4096) with
 | false=>
  simp -dsimp only [go_sem]
  rfl
 | true=>
  cases db:decide (b≤4096) with
  | false=>
   simp -dsimp only [go_sem]
   rfl
  | true=>
   simp -dsimp only [go_sem,g3]
   refine(y0n ⟨cntV a,cntV b,x,y,z⟩ _ ⟨wx,wy,wz⟩).mono ?_
   rintro r st' ⟨rfl,rfl⟩
   simp -dsimp only [go_sem]
def sgU (b:List UInt8):=Q0k b 0
def sgV (b:List UInt8):=Q0k (sgU b).2.1 (sgU b).2.2
def sgX (b:List UInt8):=Q0m (sgV b).2.1 (sgV b).2.2
def sgY (b:List UInt8):=Q0m (sgX b).2.1 (sgX b).2.2
def sgZ (b:List UInt8):=X0b (sgY b).2.1 (sgY b).2.2
def sgLE (b:List UInt8):Nat→List UInt8×Int
 | 0=>(b,0) | 1=>(sgU b).2 | 2=>(sgV b).2 | 3=>(sgX b).2 | 4=>(sgY b).2 | _=>(sgZ b).2
def X2j :List PV:= [.sc (.bool false),.sc (.int .i64 0),.sl .no []]
def sgO (b:List UInt8):Nat→List PV
 | 0 | 1 | 2=> [.sc (.int .i64 0),.sc (.int .i64 0)]++(X2j++(X2j++ [.sl .no []]))
 | 3=> [.sc (.int .i64 0),.sc (.int .i64 0)]++(encN (sgX b).1++(X2j++ [.sl .no []]))
 | 4=> [.sc (.int .i64 0),.sc (.int .i64 0)]++(encN (sgX b).1++(encN (sgY b).1++ [.sl .no []]))
 | _=> [.sc (.int .i64 0),.sc (.int .i64 0)]++(encN (sgX b).1++(encN (sgY b).1++ [.sl .no (Q0u (sgZ b).1)]))
def sgF (b:List UInt8) (i:Nat):PV:= .sc (.int .u64 (if i=0 then 0 else(sgU b).1:Nat))
def sgT (b:List UInt8) (i:Nat):PV:= .sc (.int .u64 (if i≤1 then 0 else(sgV b).1:Nat))
def sgW (b:List UInt8) (n i:Nat):Q0g:= [sgO b i,[sgF b i],[sgT b i],[.gp (n+1) 0],[.gp (n+2) 0],[.gp n 2],[.gp n 5],[.gp n 8],rd (sgLE b i).1 (sgLE b i).2]
def sgG :Nat→FuncId
 | 0 | 1=>108 | 2 | 3=>110 | _=>112
theorem J3d (b:List UInt8) (st:Q0g) (hb:b.length≤1000000000000) (i:Nat) (hi:i<5):PCalls Tryz.prog (sgG i) [.gp (st.length+8) 0,.gp (st.length+3+i) 0] (st++sgW b st.length i)
 (fun r st'=>r= .sc (.bool true)∧st'=st++sgW b st.length (i+1)):=by
 have l1:(sgU b).2.1.length≤b.length:=Y0r _ _
 have l2:(sgV b).2.1.length≤b.length:=Nat.le_trans (Y0r _ _) l1
 have l3:(sgX b).2.1.length≤b.length:=Nat.le_trans (W0h _ _) l2
 have l4:(sgY b).2.1.length≤b.length:=Nat.le_trans (W0h _ _) l3
 have at': ∀i,atR (st++sgW b st.length i) (st.length+8) (sgLE b i).1 (sgLE b i).2:=fun i=>apg st (sgW b st.length i) 8
 have c:i=0∨i=1∨i=2∨i=3∨i=4:=by omega
 rcases c with rfl | rfl | rfl | rfl | rfl
 · refine(z0i b 0 (st.length+8) (st.length+3) (st.length+1) (sgF b 0) _ (at' 0) hb (apg st _ 3) (apg st _ 1) (by omega) (by omega)).mono ?_
   rintro r st' ⟨rfl,rfl⟩
   rw [aps,aps];exact⟨rfl,rfl⟩
 · refine(z0i (sgU b).2.1 (sgU b).2.2 (st.length+8) (st.length+4) (st.length+2) (sgT b 1) _ (at' 1) (by omega) (apg st _ 4) (apg st _ 2) (by omega) (by omega)).mono ?_
   rintro r st' ⟨rfl,rfl⟩
   rw [aps,aps];exact⟨rfl,rfl⟩
 · refine(x0v (sgV b).2.1 (sgV b).2.2 (st.length+8) (st.length+5) st.length 2 (sgO b 2) _ (at' 2) (by omega) (apg st _ 5) (apg0 st _) (by simp [sgO,X2j]) (by omega) (by omega)).mono ?_
   rintro r st' ⟨rfl,rfl⟩
   rw [aps,aps0];exact⟨rfl,rfl⟩
 · refine(x0v (sgX b).2.1 (sgX b).2.2 (st.length+8) (st.length+6) st.length 5 (sgO b 3) _ (at' 3) (by omega) (apg st _ 6) (apg0 st _) (by simp [sgO,encN,X2j]) (by omega) (by omega)).mono ?_
   rintro r st' ⟨rfl,rfl⟩
   rw [aps,aps0];exact⟨rfl,rfl⟩
 · refine(J1l (sgY b).2.1 (sgY b).2.2 (st.length+8) (st.length+7) st.length 8 (sgO b 4) _ (at' 4) (by omega) (apg st _ 7) (apg0 st _) (by simp [sgO,encN,X2j]) (by omega) (by omega)).mono ?_
   rintro r st' ⟨rfl,rfl⟩
   rw [aps,aps0];exact⟨rfl,rfl⟩
theorem J3e (st:Q0g):z0n sgG (fun i=>st.length+3+i) 5= [.fn (.func 108) [] [.gp (st.length+3) 0],.fn (.func 108) [] [.gp (st.length+4) 0],
 .fn (.func 110) [] [.gp (st.length+5) 0],.fn (.func 110) [] [.gp (st.length+6) 0],.fn (.func 112) [] [.gp (st.length+7) 0]]:=rfl
theorem sg_e (b:List UInt8) {i:Nat} (hi:i≤5) (h:(sgLE b i).2≠0):(sgZ b).2.2=(sgLE b i).2:=by
 have e1:(sgU b).2.2≠0→(sgV b).2.2=(sgU b).2.2:=fun h=>by unfold sgV;rw [k0h _ _ h]
 have e2:(sgV b).2.2≠0→(sgX b).2.2=(sgV b).2.2:=fun h=>by unfold sgX;rw [Y0b _ _ h]
 have e3:(sgX b).2.2≠0→(sgY b).2.2=(sgX b).2.2:=fun h=>by unfold sgY;rw [Y0b _ _ h]
 have e4:(sgY b).2.2≠0→(sgZ b).2.2=(sgY b).2.2:=fun h=>by unfold sgZ;rw [z0k _ _ h]
 have f4:(sgY b).2.2≠0→(sgZ b).2.2=(sgY b).2.2:=e4
 have f3:(sgX b).2.2≠0→(sgZ b).2.2=(sgX b).2.2:=fun h=>by rw [f4 (by rw [e3 h];exact h),e3 h]
 have f2:(sgV b).2.2≠0→(sgZ b).2.2=(sgV b).2.2:=fun h=>by rw [f3 (by rw [e2 h];exact h),e2 h]
 have f1:(sgU b).2.2≠0→(sgZ b).2.2=(sgU b).2.2:=fun h=>by rw [f2 (by rw [e1 h];exact h),e1 h]
 have c:i=0∨i=1∨i=2∨i=3∨i=4∨i=5:=by omega
 rcases c with rfl | rfl | rfl | rfl | rfl | rfl
 · exact absurd rfl h
 · exact f1 h
 · exact f2 h
 · exact f3 h
 · exact f4 h
 · rfl
theorem X1t (b:List UInt8):segR b=if (sgZ b).2.2≠0 then(default,(sgZ b).2.2)
 else if (sgU b).1≤4096∧(sgV b).1≤4096∧(sgZ b).2.1.length=0∧X0d ⟨(sgU b).1,(sgV b).1,(sgX b).1,(sgY b).1,(sgZ b).1⟩=true then(⟨(sgU b).1,(sgV b).1,(sgX b).1,(sgY b).1,(sgZ b).1⟩,0) else(default,11):=rfl
def sgOk (b:List UInt8):Bool:=decide ((sgU b).1≤4096)&&(decide ((sgV b).1≤4096)&&X0d ⟨cntV (sgU b).1,cntV (sgV b).1,(sgX b).1,(sgY b).1,(sgZ b).1⟩)
theorem y1r (b:List UInt8):sgOk b=true↔(sgU b).1≤4096∧(sgV b).1≤4096∧X0d ⟨(sgU b).1,(sgV b).1,(sgX b).1,(sgY b).1,(sgZ b).1⟩=true:=by
 unfold sgOk
 simp only [Bool.and_eq_true,decide_eq_true_eq]
 constructor
 · rintro⟨h1,h2,h3⟩
   rw [show cntV (sgU b).1=(((sgU b).1:Nat):Int) from if_pos h1,show cntV (sgV b).1=(((sgV b).1:Nat):Int) from if_pos h2] at h3
   exact⟨h1,h2,h3⟩
 · rintro⟨h1,h2,h3⟩
   rw [show cntV (sgU b).1=(((sgU b).1:Nat):Int) from if_pos h1,show cntV (sgV b).1=(((sgV b).1:Nat):Int) from if_pos h2]
   exact⟨h1,h2,h3⟩
set_option maxHeartbeats 2000000 in
theorem Y0q (b:List UInt8) (st:Q0g) (hb:b.length≤1000000000000):PCalls Tryz.prog 24 [.sl .no (encB b)] st
 (fun r st'=>r= .tup [.agg (encS (segR b).1),.sc (.int .i64 (segR b).2)]∧st'=st):=by
 refine q0h (Q:=fun r _=>r= .tup [.agg (encS (segR b).1),.sc (.int .i64 (segR b).2)]) ?_
 refine Q0b none Tryz.func24 rfl fun E=>Q0h (Q0a ?_)
 simp -dsimp only [go_sem]
 refine Q0h (Q0a ?_)
 simp -dsimp only [go_sem]
 refine Q0h (Q0a ?_)
 simp -dsimp only [go_sem]
 refine V0l 1 (by simp [go_sem]) (by simp) ?_
 simp -dsimp only [go_sem]
 refine V0l 2 (by simp [go_sem]) (by simp) ?_
 simp -dsimp only [go_sem]
 refine V0l 3 (by simp [go_sem]) (by simp) ?_
 simp -dsimp only [go_sem,List.append_assoc]
 refine Q0h (Q0a ?_)
 simp -dsimp only [go_sem]
 refine(k0g _ _).mono ?_
 rintro r st' ⟨rfl,rfl⟩
 simp -dsimp only [go_sem,List.append_assoc]
 refine(k0g _ _).mono ?_
 rintro r st' ⟨rfl,rfl⟩
 simp -dsimp only [go_sem,List.append_assoc]
 refine(v0q _ _ _).mono ?_
 rintro r st' ⟨rfl,rfl⟩
 simp -dsimp only [go_sem,List.append_assoc]
 refine(v0q _ _ _).mono ?_
 rintro r st' ⟨rfl,rfl⟩
 simp -dsimp only [go_sem,List.append_assoc]
 refine(Y1e _ _ _).mono ?_
 rintro r st' ⟨rfl,rfl⟩
 simp -dsimp only [go_sem,List.append_assoc]
 have hlen:(st++(sgW b st.length 0).take 8).length=st.length+8:=by simp [sgW]
 have hwu:(sgU b).1<18446744073709551616:=K0j _ _
 have hwv:(sgV b).1<18446744073709551616:=K0j _ _
 have wx:wN (sgX b).1:=Q0t (X0e _ _)
 have wy:wN (sgY b).1:=Q0t (X0e _ _)
 have wz:wB (sgZ b).1:=Z1p _ _
 have hr:=z1o b (st++(sgW b st.length 0).take 8) 5 sgG (fun i=>st.length+3+i) (fun _=>true) (fun i=>(sgLE b i).1) (fun i=>(sgLE b i).2) (fun i st'=>st'=st++sgW b st.length i) 61
  [.gp (st.length+1) 0,.gp st.length 0,.gp (st.length+2) 0] (sgOk b) (fun st'=>st'=st++(sgW b st.length 5).set 0 (encS ⟨cntV (sgU b).1,cntV (sgV b).1,(sgX b).1,(sgY b).1,(sgZ b).1⟩)) (by omega) (by omega)
  (fun i hi=>by
   have c:i=0∨i=1∨i=2∨i=3∨i=4:=by omega
   rcases c with rfl | rfl | rfl | rfl | rfl<;>simp -dsimp only [go_sem,sgG])
  (by simp -dsimp only [go_sem]) (by simp -dsimp only [go_sem]) (by simp -dsimp only [go_sem]) (by simp -dsimp only [go_sem]) rfl
  (by rw [List.append_assoc];rfl)
  (fun i st' hi hJ=>by rw [hlen,hJ];exact apg st (sgW b st.length i) 8)
  (fun i st' hi _ _ hJ=>by rw [hlen,hJ];exact J3d b st hb i hi)
  (fun st' _ h0 hJ=>by
   subst hJ
   refine(G1p (st.length+1) st.length (st.length+2) (sgU b).1 (sgV b).1 (.sc (.int .i64 0)) (.sc (.int .i64 0)) (sgX b).1 (sgY b).1 (sgZ b).1 _ hwu hwv wx wy wz (apg st _ 1) (apg st _ 2) (apg0 st _) (by omega) (by omega)).mono ?_
   rintro r st' ⟨rfl,rfl⟩
   exact⟨rfl,aps0 _ _ _⟩)
 rw [J3e] at hr
 refine hr.mono ?_
 rintro r st' ⟨e,rfl,hc⟩
 simp -dsimp only [go_sem]
 have key:(e≠0∧segR b=(default,e)∧ ∃X,st'=st++X)∨(e=0∧segR b=(⟨cntV (sgU b).1,cntV (sgV b).1,(sgX b).1,(sgY b).1,(sgZ b).1⟩,0)∧st'=st++(sgW b st.length 5).set 0 (encS ⟨cntV (sgU b).1,cntV (sgV b).1,(sgX b).1,(sgY b).1,(sgZ b).1⟩)):=by
  rcases hc with ⟨i,hi,hall,hbad,hJ⟩ | ⟨hall,hend⟩
  · refine .inl ?_
    rcases hbad with ⟨h1,rfl⟩ | ⟨_,h2,_⟩
    · have hz:=sg_e b (by omega) h1
      exact⟨h1,by rw [X1t,if_pos (by rw [hz];exact h1),hz],_,hJ⟩
    · cases h2
  · have hz:(sgZ b).2.2=0:=(hall 4 (by omega)).1
    rcases hend with ⟨h1,rfl,hJ⟩ | ⟨h1,h2,rfl,hJ⟩ | ⟨h1,h2,rfl,hJ⟩
    · refine .inl ⟨by decide,?_,_,hJ⟩
      rw [X1t,if_neg (by simp [hz]),if_neg fun hh=>h1 (List.length_eq_zero_iff.1 hh.2.2.1)]
    · refine .inl ⟨by decide,?_,_,hJ⟩
      rw [X1t,if_neg (by simp [hz]),if_neg fun hh=>by rw [(y1r b).2 ⟨hh.1,hh.2.1,hh.2.2.2⟩] at h2;cases h2]
    · refine .inr ⟨rfl,?_,hJ⟩
      obtain⟨k1,k2,k3⟩:=(y1r b).1 h2
      rw [X1t,if_neg (by simp [hz]),if_pos ⟨k1,k2,by rw [show(sgZ b).2.1= [] from h1];rfl,k3⟩]
      rw [show cntV (sgU b).1=(((sgU b).1:Nat):Int) from if_pos k1,show cntV (sgV b).1=(((sgV b).1:Nat):Int) from if_pos k2]
 refine Q0h (Q0a ?_)
 rcases key with ⟨h1,h2,X,rfl⟩ | ⟨rfl,h2,rfl⟩
 · have d1:(e !=0)=true:=bne_iff_ne.2 h1
   simp -dsimp only [go_sem,d1]
   rw [h2]
   exact⟨⟨_,rfl⟩,Z2g _ default _,rfl⟩
 · have g:=apg0 st ((sgW b st.length 5).set 0 (encS ⟨cntV (sgU b).1,cntV (sgV b).1,(sgX b).1,(sgY b).1,(sgZ b).1⟩))
   rw [show((sgW b st.length 5).set 0 (encS ⟨cntV (sgU b).1,cntV (sgV b).1,(sgX b).1,(sgY b).1,(sgZ b).1⟩)).getD 0 []=encS ⟨cntV (sgU b).1,cntV (sgV b).1,(sgX b).1,(sgY b).1,(sgZ b).1⟩ from rfl] at g
   simp only [encS,encN,List.cons_append,List.nil_append] at g
   simp -dsimp only [go_sem]
   refine Q0a ?_
   simp -dsimp only [go_sem,g]
   rw [h2]
   exact⟨⟨_,rfl⟩,Z2g _ ⟨cntV (sgU b).1,cntV (sgV b).1,(sgX b).1,(sgY b).1,(sgZ b).1⟩ _,rfl⟩
end Go.Pv
end
section
/-The document's ReadSeg. -/
set_option maxRecDepth 100000
namespace Go.Pv
open Go.Proofs
set_option maxHeartbeats 2000000 in
theorem z1j (b:List UInt8) (st:Q0g) (hb:b.length≤1000000000000):PCalls Tryz.prog 55 [.sl .no (encB b)] st
 (fun r st'=>r= .tup [.agg (encS (segR b).1),.sc (.int .i64 (segR b).2)]∧st'=st):=by
 refine q0h (Q:=fun r _=>r= .tup [.agg (encS (segR b).1),.sc (.int .i64 (segR b).2)]) ?_
 have s1:(sgU b).2.1<:+b:=U0v b 0
 have s2:(sgV b).2.1<:+b:=(U0v _ _).trans s1
 have s3:(sgX b).2.1<:+b:=(K0p _ _).trans s2
 have s4:(sgY b).2.1<:+b:=(K0p _ _).trans s3
 have s5:(sgZ b).2.1<:+b:=(z1s _ _).trans s4
 have at': ∀l e,atF (st++ [rf b l e]) st.length b l e:=fun l e=>apg0 st [rf b l e]
 have G: ∀(l:List UInt8) (e:Int),(st++ [rf b l e]).getD st.length []= [.sl .no (encB b),.sc (.int .i64 (b.length-l.length:Nat)),.sc (.int .i64 e)]:=fun l e=>apg0 st _
 have S: ∀(l l':List UInt8) (e e':Int),(st++ [rf b l e]).set st.length (rf b l' e')=st++ [rf b l' e']:=fun l l' e e'=>aps0 st _ _
 have hwu:(sgU b).1<18446744073709551616:=K0j _ _
 have hwv:(sgV b).1<18446744073709551616:=K0j _ _
 have wx:wN (sgX b).1:=Q0t (X0e _ _)
 have wy:wN (sgY b).1:=Q0t (X0e _ _)
 have wz:wB (sgZ b).1:=Z1p _ _
 have c1:PCalls Tryz.prog 101 [.gp st.length 0] (st++ [rf b b 0]) (fun r st'=>r= .sc (.int .u64 (sgU b).1)∧st'=st++ [rf b (sgU b).2.1 (sgU b).2.2]):=
  (k0s b b 0 st.length _ (at' b 0) (List.suffix_refl _) hb).mono (by rintro r st' ⟨rfl,rfl⟩;exact⟨rfl,S _ _ _ _⟩)
 have c2:PCalls Tryz.prog 101 [.gp st.length 0] (st++ [rf b (sgU b).2.1 (sgU b).2.2]) (fun r st'=>r= .sc (.int .u64 (sgV b).1)∧st'=st++ [rf b (sgV b).2.1 (sgV b).2.2]):=
  (k0s b (sgU b).2.1 (sgU b).2.2 st.length _ (at' _ _) s1 hb).mono (by rintro r st' ⟨rfl,rfl⟩;exact⟨rfl,S _ _ _ _⟩)
 have c3:PCalls Tryz.prog 102 [.gp st.length 0] (st++ [rf b (sgV b).2.1 (sgV b).2.2]) (fun r st'=>r= .agg (encN (sgX b).1)∧st'=st++ [rf b (sgX b).2.1 (sgX b).2.2]):=
  (j1l b (sgV b).2.1 (sgV b).2.2 st.length _ (at' _ _) s2 hb).mono (by rintro r st' ⟨rfl,rfl⟩;exact⟨rfl,S _ _ _ _⟩)
 have c4:PCalls Tryz.prog 102 [.gp st.length 0] (st++ [rf b (sgX b).2.1 (sgX b).2.2]) (fun r st'=>r= .agg (encN (sgY b).1)∧st'=st++ [rf b (sgY b).2.1 (sgY b).2.2]):=
  (j1l b (sgX b).2.1 (sgX b).2.2 st.length _ (at' _ _) s3 hb).mono (by rintro r st' ⟨rfl,rfl⟩;exact⟨rfl,S _ _ _ _⟩)
 have c5:PCalls Tryz.prog 103 [.gp st.length 0] (st++ [rf b (sgY b).2.1 (sgY b).2.2]) (fun r st'=>r= .sl .no (Q0u (sgZ b).1)∧st'=st++ [rf b (sgZ b).2.1 (sgZ b).2.2]):=
  (Z3c b (sgY b).2.1 (sgY b).2.2 st.length _ (at' _ _) s4 hb).mono (by rintro r st' ⟨rfl,rfl⟩;exact⟨rfl,S _ _ _ _⟩)
 have c6:PCalls Tryz.prog 104 [.gp st.length 0] (st++ [rf b (sgZ b).2.1 (sgZ b).2.2]) (fun r st'=>r= .sc (.int .i64 (sgZ b).2.1.length)∧st'=st++ [rf b (sgZ b).2.1 (sgZ b).2.2]):=
  H2p b (sgZ b).2.1 (sgZ b).2.2 st.length _ (at' _ _) s5 hb
 refine Q0b none Tryz.func55 rfl fun E=>Q0h (Q0a ?_)
 simp -dsimp only [go_sem]
 refine Q0h (Q0a ?_)
 simp -dsimp only [go_sem]
 refine V0l 1 (by simp [go_sem]) (by simp) ?_
 simp -dsimp only [go_sem]
 have e0:(st++ [[PV.sl .no (encB b),.sc (.int .i64 0),.sc (.int .i64 0)]]:Q0g)=st++ [rf b b 0]:=by unfold rf;rw [Nat.sub_self];rfl
 rw [e0]
 refine Q0h (Q0a ?_)
 simp -dsimp only [go_sem]
 refine c1.mono ?_
 rintro r st' ⟨rfl,rfl⟩
 simp -dsimp only [go_sem]
 refine c2.mono ?_
 rintro r st' ⟨rfl,rfl⟩
 simp -dsimp only [go_sem]
 refine Q0h (Q0a ?_)
 simp -dsimp only [go_sem]
 refine Q0h (Q0a ?_)
 simp -dsimp only [go_sem]
 refine c3.mono ?_
 rintro r st' ⟨rfl,rfl⟩
 simp -dsimp only [go_sem]
 refine Q0h (Q0a ?_)
 simp -dsimp only [go_sem]
 refine c4.mono ?_
 rintro r st' ⟨rfl,rfl⟩
 simp -dsimp only [go_sem]
 refine Q0h (Q0a ?_)
 simp -dsimp only [go_sem]
 refine c5.mono ?_
 rintro r st' ⟨rfl,rfl⟩
 simp -dsimp only [go_sem]
 have gZ:=G (sgZ b).2.1 (sgZ b).2.2
 refine Q0h (Q0a ?_)
 rw [X1t]
 have bad: ∀e:Int,(∃X,st++ [rf b (sgZ b).2.1 (sgZ b).2.2]=st++X)∧LowR st.length (.tup [.agg (encS default),.sc (.int .i64 e)])∧PV.tup [.agg (encS default),.sc (.int .i64 e)]= .tup [.agg (encS default),.sc (.int .i64 e)]:=fun e=>⟨⟨_,rfl⟩,Z2g _ default _,rfl⟩
 by_cases hz:(sgZ b).2.2=0
 rotate_left
 · have d1:((sgZ b).2.2 !=0)=true:=bne_iff_ne.2 hz
   rw [if_pos hz]
   simp -dsimp only [go_sem,gZ,d1]
   refine Q0o Z0p 57 (.step 0 [] (.step 1 [] (.step 2 [] (.step 3 [] (.step 4 [] (.step 5 [4] (.step 6 [] (.done)))))))) (by decide+kernel) (by simp) ?_
   simp -dsimp only [go_sem,gZ,d1]
   exact bad _
 have d1:((sgZ b).2.2 !=0)=false:=by rw [hz];rfl
 have c0: ¬((sgZ b).2.2≠0):=fun h=>h hz
 rw [if_neg c0]
 simp -dsimp only [go_sem,gZ,d1]
 refine Q0h (Q0a ?_)
 by_cases hU:(sgU b).1≤4096
 rotate_left
 · have d2:decide (((sgU b).1:Int)>4096)=true:=decide_eq_true (by omega)
   rw [if_neg fun h=>hU h.1]
   simp -dsimp only [go_sem,d2]
   exact bad 11
 have d2:decide (((sgU b).1:Int)>4096)=false:=decide_eq_false (by omega)
 by_cases hV:(sgV b).1≤4096
 rotate_left
 · have d3:decide (((sgV b).1:Int)>4096)=true:=decide_eq_true (by omega)
   rw [if_neg fun h=>hV h.2.1]
   simp -dsimp only [go_sem,d2,d3]
   exact bad 11
 have d3:decide (((sgV b).1:Int)>4096)=false:=decide_eq_false (by omega)
 simp -dsimp only [go_sem,d2,d3]
 refine c6.mono ?_
 rintro r st' ⟨rfl,rfl⟩
 by_cases hL:(sgZ b).2.1.length=0
 rotate_left
 · have d4:decide (((sgZ b).2.1.length:Int)>0)=true:=decide_eq_true (by omega)
   rw [if_neg fun h=>hL h.2.2.1]
   simp -dsimp only [go_sem,d2,d3,d4]
   exact bad 11
 have d4:decide (((sgZ b).2.1.length:Int)>0)=false:=decide_eq_false (by omega)
 have w1:IntKind.i64.wrap ((sgU b).1:Int)=((sgU b).1:Int):=Q0i _ (by omega)
 have w2:IntKind.i64.wrap ((sgV b).1:Int)=((sgV b).1:Int):=Q0i _ (by omega)
 simp -dsimp only [go_sem,d2,d3,d4]
 refine Q0a ?_
 simp -dsimp only [go_sem,w1,w2]
 refine(G1n ⟨(sgU b).1,(sgV b).1,(sgX b).1,(sgY b).1,(sgZ b).1⟩ _ ⟨wx,wy,wz⟩).mono ?_
 rintro r st' ⟨rfl,rfl⟩
 cases hR:X0d ⟨(sgU b).1,(sgV b).1,(sgX b).1,(sgY b).1,(sgZ b).1⟩ with
 | false=>
  rw [if_neg (by simp)]
  simp -dsimp only [go_sem]
  exact bad 11
 | true=>
  rw [if_pos ⟨hU,hV,hL,rfl⟩]
  simp -dsimp only [go_sem]
  exact⟨⟨_,rfl⟩,Z2g _ ⟨(sgU b).1,(sgV b).1,(sgX b).1,(sgY b).1,(sgZ b).1⟩ _⟩
end Go.Pv
end
