/- Parts of the walk: N119, N121. -/
import Derived.Test.YthichlfphjbadaaGreatZEG
import Derived.Test.YthichlfphjbadaaGreatZEF
import Derived.Test.YthichlfphjbadaaGreatZU
import Derived.Test.YthichlfphjbadaaGreatZH
set_option linter.unusedVariables false
set_option linter.unusedSimpArgs false
section
/-record.ReadSeg:the piece that bytes tell. -/
set_option maxRecDepth 100000
namespace Go.Pv
open Go.Proofs
def cntV (v:Nat):Int:=if v≤4096 then(v:Int) else 0
theorem G1g (v:Nat) (st:Q0g) (hv:v<18446744073709551616):PCalls Tryz.prog 62 [.sc (.int .u64 v)] st
 (fun r st'=>r= .tup [.sc (.int .i64 (cntV v)),.sc (.bool (decide (v≤4096)))]∧st'=st):=K3b v st hv
theorem Y1z (f s t a b:Nat) (c0 c1:PV) (x y:Nm) (z:List Ivl) (st:Q0g) (ha:a<18446744073709551616) (hb:b<18446744073709551616) (wx:wN x) (wy:wN y) (wz:wB z)
 (hf:st.getD f []= [.sc (.int .u64 a)]) (ht:st.getD t []= [.sc (.int .u64 b)]) (hs:st.getD s []= [c0,c1,.sc (.bool x.neg),.sc (.int .i64 x.exp),.sl .no (encW x.w),.sc (.bool y.neg),.sc (.int .i64 y.exp),.sl .no (encW y.w),.sl .no (Q0t z)])
 (hft:f≠s) (hts:t≠s):PCalls Tryz.prog 61 [.gp f 0,.gp s 0,.gp t 0] st
 (fun r st'=>r= .sc (.bool (decide (a≤4096)&&(decide (b≤4096)&&K0y ⟨cntV a,cntV b,x,y,z⟩)))∧st'=st.set s (encS ⟨cntV a,cntV b,x,y,z⟩)):=by
 have hsl:s<st.length:=Nat.lt_of_not_le fun hn=>by rw [List.getD_eq_getElem?_getD,List.getElem?_eq_none hn] at hs;cases hs
 refine Q0b none Tryz.func61 rfl fun E=>Q0h (Q0a ?_)
 simp -dsimp only [go_sem]
 refine Q0h (Q0a ?_)
 simp -dsimp only [go_sem]
 refine Q0h (Q0a ?_)
 simp -dsimp only [go_sem,hf]
 refine(G1g a st ha).mono ?_
 rintro r st ⟨rfl,rfl⟩
 simp -dsimp only [go_sem,hs]
 have g1:(st.set s [.sc (.int .i64 (cntV a)),c1,.sc (.bool x.neg),.sc (.int .i64 x.exp),.sl .no (encW x.w),.sc (.bool y.neg),.sc (.int .i64 y.exp),.sl .no (encW y.w),.sl .no (Q0t z)]).getD t []= [.sc (.int .u64 b)]:=by rw [Q0i _ _ _ _ _ hts.symm];exact ht
 have g2:=Q0n st s [.sc (.int .i64 (cntV a)),c1,.sc (.bool x.neg),.sc (.int .i64 x.exp),.sl .no (encW x.w),.sc (.bool y.neg),.sc (.int .i64 y.exp),.sl .no (encW y.w),.sl .no (Q0t z)] [] hsl
 refine Q0h (Q0a ?_)
 simp -dsimp only [go_sem,g1]
 refine(G1g b _ hb).mono ?_
 rintro r st' ⟨rfl,rfl⟩
 simp -dsimp only [go_sem,g2,List.set_set]
 have g3:=Q0n st s (encS ⟨cntV a,cntV b,x,y,z⟩) [] hsl
 simp only [encS,encN,List.cons_append,List.nil_append] at g3
 refine Q0a ?_
 cases da:decide (a≤4096) with
 | false=>
  simp -dsimp only [go_sem]
  rfl
 | true=>
  cases db:decide (b≤4096) with
  | false=>
   simp -dsimp only [go_sem]
   rfl
  | true=>
   simp -dsimp only [go_sem,g3]
   refine(w0h ⟨cntV a,cntV b,x,y,z⟩ _ ⟨wx,wy,wz⟩).mono ?_
   rintro r st' ⟨rfl,rfl⟩
   simp -dsimp only [go_sem]
def sgU (b:List UInt8):=Q0s b 0
def sgV (b:List UInt8):=Q0s (sgU b).2.1 (sgU b).2.2
def sgX (b:List UInt8):=Q0r (sgV b).2.1 (sgV b).2.2
def sgY (b:List UInt8):=Q0r (sgX b).2.1 (sgX b).2.2
def sgZ (b:List UInt8):=X0s (sgY b).2.1 (sgY b).2.2
def sgLE (b:List UInt8):Nat→List UInt8×Int
 | 0=>(b,0) | 1=>(sgU b).2 | 2=>(sgV b).2 | 3=>(sgX b).2 | 4=>(sgY b).2 | _=>(sgZ b).2
def Q2k :List PV:= [.sc (.bool false),.sc (.int .i64 0),.sl .no []]
def sgO (b:List UInt8):Nat→List PV
 | 0 | 1 | 2=> [.sc (.int .i64 0),.sc (.int .i64 0)]++(Q2k++(Q2k++ [.sl .no []]))
 | 3=> [.sc (.int .i64 0),.sc (.int .i64 0)]++(encN (sgX b).1++(Q2k++ [.sl .no []]))
 | 4=> [.sc (.int .i64 0),.sc (.int .i64 0)]++(encN (sgX b).1++(encN (sgY b).1++ [.sl .no []]))
 | _=> [.sc (.int .i64 0),.sc (.int .i64 0)]++(encN (sgX b).1++(encN (sgY b).1++ [.sl .no (Q0t (sgZ b).1)]))
def sgF (b:List UInt8) (i:Nat):PV:= .sc (.int .u64 (if i=0 then 0 else(sgU b).1:Nat))
def sgT (b:List UInt8) (i:Nat):PV:= .sc (.int .u64 (if i≤1 then 0 else(sgV b).1:Nat))
def sgW (b:List UInt8) (n i:Nat):Q0g:= [sgO b i,[sgF b i],[sgT b i],[.gp (n+1) 0],[.gp (n+2) 0],[.gp n 2],[.gp n 5],[.gp n 8],rd (sgLE b i).1 (sgLE b i).2]
def sgG :Nat→FuncId
 | 0 | 1=>108 | 2 | 3=>110 | _=>112
theorem Q3u (b:List UInt8) (st:Q0g) (hb:b.length≤1000000000000) (i:Nat) (hi:i<5):PCalls Tryz.prog (sgG i) [.gp (st.length+8) 0,.gp (st.length+3+i) 0] (st++sgW b st.length i)
 (fun r st'=>r= .sc (.bool true)∧st'=st++sgW b st.length (i+1)):=by
 have l1:(sgU b).2.1.length≤b.length:=Y0h _ _
 have l2:(sgV b).2.1.length≤b.length:=Nat.le_trans (Y0h _ _) l1
 have l3:(sgX b).2.1.length≤b.length:=Nat.le_trans (V0y _ _) l2
 have l4:(sgY b).2.1.length≤b.length:=Nat.le_trans (V0y _ _) l3
 have at': ∀i,atR (st++sgW b st.length i) (st.length+8) (sgLE b i).1 (sgLE b i).2:=fun i=>apg st (sgW b st.length i) 8
 have c:i=0∨i=1∨i=2∨i=3∨i=4:=by omega
 rcases c with rfl | rfl | rfl | rfl | rfl
 · refine(q0q b 0 (st.length+8) (st.length+3) (st.length+1) (sgF b 0) _ (at' 0) hb (apg st _ 3) (apg st _ 1) (by omega) (by omega)).mono ?_
   rintro r st' ⟨rfl,rfl⟩
   rw [aps,aps];exact⟨rfl,rfl⟩
 · refine(q0q (sgU b).2.1 (sgU b).2.2 (st.length+8) (st.length+4) (st.length+2) (sgT b 1) _ (at' 1) (by omega) (apg st _ 4) (apg st _ 2) (by omega) (by omega)).mono ?_
   rintro r st' ⟨rfl,rfl⟩
   rw [aps,aps];exact⟨rfl,rfl⟩
 · refine(x0f (sgV b).2.1 (sgV b).2.2 (st.length+8) (st.length+5) st.length 2 (sgO b 2) _ (at' 2) (by omega) (apg st _ 5) (apg0 st _) (by simp [sgO,Q2k]) (by omega) (by omega)).mono ?_
   rintro r st' ⟨rfl,rfl⟩
   rw [aps,aps0];exact⟨rfl,rfl⟩
 · refine(x0f (sgX b).2.1 (sgX b).2.2 (st.length+8) (st.length+6) st.length 5 (sgO b 3) _ (at' 3) (by omega) (apg st _ 6) (apg0 st _) (by simp [sgO,encN,Q2k]) (by omega) (by omega)).mono ?_
   rintro r st' ⟨rfl,rfl⟩
   rw [aps,aps0];exact⟨rfl,rfl⟩
 · refine(Z1z (sgY b).2.1 (sgY b).2.2 (st.length+8) (st.length+7) st.length 8 (sgO b 4) _ (at' 4) (by omega) (apg st _ 7) (apg0 st _) (by simp [sgO,encN,Q2k]) (by omega) (by omega)).mono ?_
   rintro r st' ⟨rfl,rfl⟩
   rw [aps,aps0];exact⟨rfl,rfl⟩
theorem Q3v (st:Q0g):q0w sgG (fun i=>st.length+3+i) 5= [.fn (.func 108) [] [.gp (st.length+3) 0],.fn (.func 108) [] [.gp (st.length+4) 0],
 .fn (.func 110) [] [.gp (st.length+5) 0],.fn (.func 110) [] [.gp (st.length+6) 0],.fn (.func 112) [] [.gp (st.length+7) 0]]:=rfl
theorem sg_e (b:List UInt8) {i:Nat} (hi:i≤5) (h:(sgLE b i).2≠0):(sgZ b).2.2=(sgLE b i).2:=by
 have e1:(sgU b).2.2≠0→(sgV b).2.2=(sgU b).2.2:=fun h=>by unfold sgV;rw [V2j _ _ h]
 have e2:(sgV b).2.2≠0→(sgX b).2.2=(sgV b).2.2:=fun h=>by unfold sgX;rw [q0s _ _ h]
 have e3:(sgX b).2.2≠0→(sgY b).2.2=(sgX b).2.2:=fun h=>by unfold sgY;rw [q0s _ _ h]
 have e4:(sgY b).2.2≠0→(sgZ b).2.2=(sgY b).2.2:=fun h=>by unfold sgZ;rw [X1d _ _ h]
 have f4:(sgY b).2.2≠0→(sgZ b).2.2=(sgY b).2.2:=e4
 have f3:(sgX b).2.2≠0→(sgZ b).2.2=(sgX b).2.2:=fun h=>by rw [f4 (by rw [e3 h];exact h),e3 h]
 have f2:(sgV b).2.2≠0→(sgZ b).2.2=(sgV b).2.2:=fun h=>by rw [f3 (by rw [e2 h];exact h),e2 h]
 have f1:(sgU b).2.2≠0→(sgZ b).2.2=(sgU b).2.2:=fun h=>by rw [f2 (by rw [e1 h];exact h),e1 h]
 have c:i=0∨i=1∨i=2∨i=3∨i=4∨i=5:=by omega
 rcases c with rfl | rfl | rfl | rfl | rfl | rfl
 · exact absurd rfl h
 · exact f1 h
 · exact f2 h
 · exact f3 h
 · exact f4 h
 · rfl
theorem Y1u (b:List UInt8):segR b=if (sgZ b).2.2≠0 then(default,(sgZ b).2.2)
 else if (sgU b).1≤4096∧(sgV b).1≤4096∧(sgZ b).2.1.length=0∧K0y ⟨(sgU b).1,(sgV b).1,(sgX b).1,(sgY b).1,(sgZ b).1⟩=true then(⟨(sgU b).1,(sgV b).1,(sgX b).1,(sgY b).1,(sgZ b).1⟩,0) else(default,11):=rfl
def sgOk (b:List UInt8):Bool:=decide ((sgU b).1≤4096)&&(decide ((sgV b).1≤4096)&&K0y ⟨cntV (sgU b).1,cntV (sgV b).1,(sgX b).1,(sgY b).1,(sgZ b).1⟩)
theorem v1t (b:List UInt8):sgOk b=true↔(sgU b).1≤4096∧(sgV b).1≤4096∧K0y ⟨(sgU b).1,(sgV b).1,(sgX b).1,(sgY b).1,(sgZ b).1⟩=true:=by
 unfold sgOk
 simp only [Bool.and_eq_true,decide_eq_true_eq]
 constructor
 · rintro⟨h1,h2,h3⟩
   rw [show cntV (sgU b).1=(((sgU b).1:Nat):Int) from if_pos h1,show cntV (sgV b).1=(((sgV b).1:Nat):Int) from if_pos h2] at h3
   exact⟨h1,h2,h3⟩
 · rintro⟨h1,h2,h3⟩
   rw [show cntV (sgU b).1=(((sgU b).1:Nat):Int) from if_pos h1,show cntV (sgV b).1=(((sgV b).1:Nat):Int) from if_pos h2]
   exact⟨h1,h2,h3⟩
set_option maxHeartbeats 2000000 in
theorem y0s (b:List UInt8) (st:Q0g) (hb:b.length≤1000000000000):PCalls Tryz.prog 24 [.sl .no (encB b)] st
 (fun r st'=>r= .tup [.agg (encS (segR b).1),.sc (.int .i64 (segR b).2)]∧st'=st):=by
 refine X1o (Q:=fun r _=>r= .tup [.agg (encS (segR b).1),.sc (.int .i64 (segR b).2)]) ?_
 refine Q0b none Tryz.func24 rfl fun E=>Q0h (Q0a ?_)
 simp -dsimp only [go_sem]
 refine Q0h (Q0a ?_)
 simp -dsimp only [go_sem]
 refine Q0h (Q0a ?_)
 simp -dsimp only [go_sem]
 refine Y0a 1 (by simp [go_sem]) (by simp) ?_
 simp -dsimp only [go_sem]
 refine Y0a 2 (by simp [go_sem]) (by simp) ?_
 simp -dsimp only [go_sem]
 refine Y0a 3 (by simp [go_sem]) (by simp) ?_
 simp -dsimp only [go_sem,List.append_assoc]
 refine Q0h (Q0a ?_)
 simp -dsimp only [go_sem]
 refine(j0n _ _).mono ?_
 rintro r st' ⟨rfl,rfl⟩
 simp -dsimp only [go_sem,List.append_assoc]
 refine(j0n _ _).mono ?_
 rintro r st' ⟨rfl,rfl⟩
 simp -dsimp only [go_sem,List.append_assoc]
 refine(k0x _ _ _).mono ?_
 rintro r st' ⟨rfl,rfl⟩
 simp -dsimp only [go_sem,List.append_assoc]
 refine(k0x _ _ _).mono ?_
 rintro r st' ⟨rfl,rfl⟩
 simp -dsimp only [go_sem,List.append_assoc]
 refine(V1p _ _ _).mono ?_
 rintro r st' ⟨rfl,rfl⟩
 simp -dsimp only [go_sem,List.append_assoc]
 have hlen:(st++(sgW b st.length 0).take 8).length=st.length+8:=by simp [sgW]
 have hwu:(sgU b).1<18446744073709551616:=H0m _ _
 have hwv:(sgV b).1<18446744073709551616:=H0m _ _
 have wx:wN (sgX b).1:=Z0g (V0g _ _)
 have wy:wN (sgY b).1:=Z0g (V0g _ _)
 have wz:wB (sgZ b).1:=w1c _ _
 have hr:=H1x b (st++(sgW b st.length 0).take 8) 5 sgG (fun i=>st.length+3+i) (fun _=>true) (fun i=>(sgLE b i).1) (fun i=>(sgLE b i).2) (fun i st'=>st'=st++sgW b st.length i) 61
  [.gp (st.length+1) 0,.gp st.length 0,.gp (st.length+2) 0] (sgOk b) (fun st'=>st'=st++(sgW b st.length 5).set 0 (encS ⟨cntV (sgU b).1,cntV (sgV b).1,(sgX b).1,(sgY b).1,(sgZ b).1⟩)) (by omega) (by omega)
  (fun i hi=>by
   have c:i=0∨i=1∨i=2∨i=3∨i=4:=by omega
   rcases c with rfl | rfl | rfl | rfl | rfl<;>simp -dsimp only [go_sem,sgG])
  (by simp -dsimp only [go_sem]) (by simp -dsimp only [go_sem]) (by simp -dsimp only [go_sem]) (by simp -dsimp only [go_sem]) rfl
  (by rw [List.append_assoc];rfl)
  (fun i st' hi hJ=>by rw [hlen,hJ];exact apg st (sgW b st.length i) 8)
  (fun i st' hi _ _ hJ=>by rw [hlen,hJ];exact Q3u b st hb i hi)
  (fun st' _ h0 hJ=>by
   subst hJ
   refine(Y1z (st.length+1) st.length (st.length+2) (sgU b).1 (sgV b).1 (.sc (.int .i64 0)) (.sc (.int .i64 0)) (sgX b).1 (sgY b).1 (sgZ b).1 _ hwu hwv wx wy wz (apg st _ 1) (apg st _ 2) (apg0 st _) (by omega) (by omega)).mono ?_
   rintro r st' ⟨rfl,rfl⟩
   exact⟨rfl,aps0 _ _ _⟩)
 rw [Q3v] at hr
 refine hr.mono ?_
 rintro r st' ⟨e,rfl,hc⟩
 simp -dsimp only [go_sem]
 have key:(e≠0∧segR b=(default,e)∧ ∃X,st'=st++X)∨(e=0∧segR b=(⟨cntV (sgU b).1,cntV (sgV b).1,(sgX b).1,(sgY b).1,(sgZ b).1⟩,0)∧st'=st++(sgW b st.length 5).set 0 (encS ⟨cntV (sgU b).1,cntV (sgV b).1,(sgX b).1,(sgY b).1,(sgZ b).1⟩)):=by
  rcases hc with ⟨i,hi,hall,hbad,hJ⟩ | ⟨hall,hend⟩
  · refine .inl ?_
    rcases hbad with ⟨h1,rfl⟩ | ⟨_,h2,_⟩
    · have hz:=sg_e b (by omega) h1
      exact⟨h1,by rw [Y1u,if_pos (by rw [hz];exact h1),hz],_,hJ⟩
    · cases h2
  · have hz:(sgZ b).2.2=0:=(hall 4 (by omega)).1
    rcases hend with ⟨h1,rfl,hJ⟩ | ⟨h1,h2,rfl,hJ⟩ | ⟨h1,h2,rfl,hJ⟩
    · refine .inl ⟨by decide,?_,_,hJ⟩
      rw [Y1u,if_neg (by simp [hz]),if_neg fun hh=>h1 (List.length_eq_zero_iff.1 hh.2.2.1)]
    · refine .inl ⟨by decide,?_,_,hJ⟩
      rw [Y1u,if_neg (by simp [hz]),if_neg fun hh=>by rw [(v1t b).2 ⟨hh.1,hh.2.1,hh.2.2.2⟩] at h2;cases h2]
    · refine .inr ⟨rfl,?_,hJ⟩
      obtain⟨k1,k2,k3⟩:=(v1t b).1 h2
      rw [Y1u,if_neg (by simp [hz]),if_pos ⟨k1,k2,by rw [show(sgZ b).2.1= [] from h1];rfl,k3⟩]
      rw [show cntV (sgU b).1=(((sgU b).1:Nat):Int) from if_pos k1,show cntV (sgV b).1=(((sgV b).1:Nat):Int) from if_pos k2]
 refine Q0h (Q0a ?_)
 rcases key with ⟨h1,h2,X,rfl⟩ | ⟨rfl,h2,rfl⟩
 · have d1:(e !=0)=true:=bne_iff_ne.2 h1
   simp -dsimp only [go_sem,d1]
   rw [h2]
   exact⟨⟨_,rfl⟩,w2c _ default _,rfl⟩
 · have g:=apg0 st ((sgW b st.length 5).set 0 (encS ⟨cntV (sgU b).1,cntV (sgV b).1,(sgX b).1,(sgY b).1,(sgZ b).1⟩))
   rw [show((sgW b st.length 5).set 0 (encS ⟨cntV (sgU b).1,cntV (sgV b).1,(sgX b).1,(sgY b).1,(sgZ b).1⟩)).getD 0 []=encS ⟨cntV (sgU b).1,cntV (sgV b).1,(sgX b).1,(sgY b).1,(sgZ b).1⟩ from rfl] at g
   simp only [encS,encN,List.cons_append,List.nil_append] at g
   simp -dsimp only [go_sem]
   refine Q0a ?_
   simp -dsimp only [go_sem,g]
   rw [h2]
   exact⟨⟨_,rfl⟩,w2c _ ⟨cntV (sgU b).1,cntV (sgV b).1,(sgX b).1,(sgY b).1,(sgZ b).1⟩ _,rfl⟩
end Go.Pv
end
