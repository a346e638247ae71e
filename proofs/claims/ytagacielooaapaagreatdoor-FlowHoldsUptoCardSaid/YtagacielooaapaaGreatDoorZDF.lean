/- Parts of the walk: M72, N104. -/
import Derived.Test.YtagacielooaapaaGreatDoorZDB
import Derived.Test.YtagacielooaapaaGreatDoorZBN
import Derived.Test.YtagacielooaapaaGreatDoorZCE
import Derived.Test.YtagacielooaapaaGreatDoorZDC
import Derived.Test.YtagacielooaapaaGreatDoorZDE
set_option linter.unusedVariables false
set_option linter.unusedSimpArgs false
section
/-Drawn fields:what their derivatives need. No program in it. -/
namespace Go.Pv
theorem y2l {ks:List Int} (h:J0t ks=true): ∀i,i≤ks.length→(sumE ks i:Int)=(ks.take i).sum
 | 0,_=>by simp [sumE]
 | i+1,hi=>by
  have ih:=y2l h i (by omega)
  have hk:=K0l h i (by omega)
  have e:(ks.take (i+1)).sum=(ks.take i).sum+ks.getD i 0:=by
   rw [List.take_succ_eq_append_getElem (by omega),List.sum_append]
   simp [List.getD_eq_getElem?_getD,(show i<ks.length by omega)]
  rw [e,←ih,sumE]
  omega
theorem okField.der {n M:Nat} {D:Nat} {f:List (List Mn)} (h:okField n M D f): ∀i,i<f.length→ ∀j,j<(f.getD i []).length→Q0i ((f.getD i []).getD j default).c=true∧luQ 12 (18+M) (qN ((f.getD i []).getD j default).c)∧J0t ((f.getD i []).getD j default).ks=true∧((f.getD i []).getD j default).ks.length=f.length∧sumE ((f.getD i []).getD j default).ks f.length≤D:=fun i hi j hj=>by
 obtain⟨a1,a2,a3,a4,a5,a6⟩:=(h.at hi).at hj
 have hfl:=h.1
 refine⟨a4,a6,a2,by omega,?_⟩
 have h1:=y2l a2 f.length (by omega)
 rw [List.take_of_length_le (by omega)] at h1
 omega
theorem q3m {x F lo hi:Rat} (hF:0<F) (h:lo≤x/F∧x/F≤hi):lo*F≤x∧x≤hi*F:=by
 have e:x/F*F=x:=by grind
 have h1:=Rat.mul_le_mul_of_nonneg_right h.1 (Rat.le_of_lt hF)
 have h2:=Rat.mul_le_mul_of_nonneg_right h.2 (Rat.le_of_lt hF)
 rw [e] at h1 h2
 exact⟨h1,h2⟩
theorem v2e (k:Nat):(0:Rat)<(fctN k:Rat):=by
 have:=k1c k
 exact_mod_cast this
theorem Z2l (X:Nat→Nat→Rat) (i:Nat):k0j X i 0=X i 0:=by
 unfold k0j
 show X i 0/((1:Nat):Rat)=X i 0
 grind
end Go.Pv
end
section
/-Layer 15:FlowHolds. -/
set_option maxRecDepth 100000
namespace Go.Pv
open Go.Proofs
set_option maxHeartbeats 4000000 in
theorem j1z (l:List UInt64):PCalls Tryz.prog 6 [.sl .no (encW l)] [] (fun r st'=>r= .sc (.bool true)):=by
 refine Q0b none Tryz.func6 rfl fun E=>Q0a ?_
 simp -dsimp only [go_sem]
 refine(U2n _).mono ?_
 rintro r st ⟨rfl,rfl⟩
 simp -dsimp only [go_sem]
 refine(v2t l _).mono ?_
 rintro r st ⟨rfl,rfl⟩
 simp -dsimp only [go_sem]
 refine(q0k l 0 0 3 [dk l 0] rfl (by omega) (by omega) (by omega)).mono ?_
 rintro r st ⟨rfl,rfl⟩
 have hk:=H1h l 0 (n:=3) (by omega)
 have x1:IntKind.i64.wrap (1+((nx l 0 3:Nat):Int))=((1+nx l 0 3:Nat):Int):=by rw [Q0h _ (by omega) (by omega)];omega
 simp -dsimp only [go_sem,x1]
 generalize hn:1+nx l 0 3=n
 refine(k1i l 1 0 n 3 3 [dk l 1] rfl (by omega) (by omega) (by omega) (by omega) (by omega)).mono ?_
 rintro r st ⟨f,j1,hf,hj1,hj2,rfl,rfl⟩
 simp -dsimp only [go_sem]
 refine(x1g l j1 0 n [dk l j1] rfl (by omega) (by omega)).mono ?_
 rintro r st ⟨x,j2,hxl,hx,hj3,hj4,rfl,rfl⟩
 simp -dsimp only [go_sem]
 refine(q0k l j2 0 6 [dk l j2] rfl (by omega) (by omega) (by omega)).mono ?_
 rintro r st ⟨rfl,rfl⟩
 have ho:=H1h l j2 (n:=6) (by omega)
 generalize nx l j2 6=o at ho⊢
 simp -dsimp only [go_sem]
 refine(q3a l (j2+1) 0 [dk l (j2+1)] rfl (by omega)).mono ?_
 rintro r st ⟨p,j4,hp1,hp2,hj7,hj8,rfl,rfl⟩
 have wf:=hf.wF (by omega) (by omega)
 have wx:=H3i hxl (by omega) hx
 have hpp:Z0j (p:Int)=true:=by unfold Z0j;simp;omega
 have hx2: ∀j,j<n→luI 62 105 (x.getD j default):=fun j hj=>(H3h (hx j (by omega))).mono (by omega) (by omega)
 obtain⟨a0,a1,a2,a3⟩:=k1a (k:=o) hf (by omega) (by omega) hxl hx2 hpp (by omega)
 have hfl:=hf.1
 simp -dsimp only [go_sem]
 refine(q1c f x o p _ wf wx).mono ?_
 rintro r st ⟨rfl,rfl⟩
 have hmem: ∀c:Nat→Nat→Rat,(∀i,i<f.length→memI (c i 0) (x.getD i default))→serR f c o→memX o c (z0n f x o p).1:=fun c h1 h2=>by
  rw [a0] at a1⊢
  refine q1d (by omega) (fun a ha=> ?_) h1 o h2 a1
  obtain⟨i,hi,rfl⟩:=List.mem_iff_getElem.1 ha
  have:=wx.2 i hi
  rwa [show x.getD i default=x[i] by simp [List.getD_eq_getElem?_getD,hi]] at this
 clear a0
 generalize z0n f x o p=A at a1 a2 a3 hmem⊢
 have z1:(A.2 !=0)=false:=by rw [a1];rfl
 have z3:((A.1.length:Int) !=(n:Int))=false:=by rw [a2];simp
 simp -dsimp only [go_sem,z1,z3]
 refine(k2r l j4 0 x [dk l j4] rfl (by omega) (by omega) (fun j hj=>(hx j hj).1)).mono ?_
 rintro r st ⟨y,hyl,hy,rfl,rfl⟩
 have hyp:=J4s hx hy
 simp -dsimp only [go_sem]
 refine(U1b (a:=136) (u:=297) (Lc:=12) (Uc:=21) (s1:=62) (r1:=105) (D:=3) (M:=3) f y o _ wf (by omega) (by omega) (by omega) (by omega) (fun i hi=>(hyp i (by omega)).1) (fun i hi=>(hf.at hi).2.1) hf.der (fun i hi=>(hyp i (by omega)).2.2) (by omega) (by omega) (by omega)).mono ?_
 rintro r st ⟨X,V,hX0,hX,hVl,hV,rfl,rfl⟩
 have hin:=hmem (k0j X) (fun i hi=>by rw [Z2l,hX0 i hi];exact(hyp i (by omega)).2.1) (W3a (by omega) hX)
 have hgr:=y1v (K:=o) (a:=136) (u:=297) (Lc:=12) (Uc:=21) (s1:=62) (r1:=105) (D:=3) (M:=3) (by omega) hX (fun i hi=>(hf.at hi).2.1) (fun i hi j hj=>⟨(hf.der i hi j hj).2.1,(hf.der i hi j hj).2.2.2.2⟩) (fun i hi=>by rw [hX0 i hi];exact(hyp i (by omega)).2.2) (by omega) (by omega) o (Nat.le_refl _)
 clear hmem hyp
 simp -dsimp only [go_sem]
 have wo:IntKind.i64.wrap ((o:Int)+1)=((o+1:Nat):Int):=by rw [Q0h _ (by omega) (by omega)];omega
 refine Q0e [false,false,false,false,true,false,false,true,false,true,false,true,true] 0 0 (fun m s=> ∃i,i≤n∧m=n-i∧
  s=⟨[.junk,.junk,.junk,.junk,.sc (.int .i64 (n:Nat)),.junk,.junk,.sc (.int .i64 (o:Nat)),.junk,.sl .no (encM A.1),.junk,.sl .no (Z0e V),.sc (.int .i64 (i:Nat))]++List.replicate 87 .junk,[],[],[dk l (j4+x.length)]⟩) n ?_ ?_
 · simp -dsimp only [go_sem]
   exact⟨0,by omega,by omega,rfl⟩
 · rintro m s ⟨i,hi,rfl,rfl⟩
   simp -dsimp only [go_sem]
   refine ck (fun h'=> ?_) (fun h'=> ?_)
   · have hlt:i<n:=by have:=of_decide_eq_true h';omega
     have e1:=Z1b A.1 i (by omega)
     have e2:=J1o V i (by omega)
     obtain⟨c1,c2,c3⟩:=a3 i hlt
     have hm:=hin i (by omega)
     have hv:=hV i (by omega)
     have hg:=hgr i (by omega)
     have e3:IntKind.i64.wrap ((i:Int)+1)=((i+1:Nat):Int):=by rw [Q0h _ (by omega) (by omega)];omega
     generalize A.1.getD i []=Z at e1 c1 c2 c3 hm
     generalize V.getD i []=Y at e2 hv
     have z5:((Z.length:Int) !=((o+1:Nat):Int))=false:=by rw [c1];simp
     simp -dsimp only [go_sem,e1,wo,z5]
     refine⟨by omega,?_⟩
     refine Q0e [false,false,false,false,true,false,false,true,false,true,false,true,true,true] 0 0 (fun m s=> ∃k,k≤o+1∧m=o+1-k∧
      s=⟨[.junk,.junk,.junk,.junk,.sc (.int .i64 (n:Nat)),.junk,.junk,.sc (.int .i64 (o:Nat)),.junk,.sl .no (encM A.1),.junk,.sl .no (Z0e V),.sc (.int .i64 (i:Nat)),.sc (.int .i64 (k:Nat))]++List.replicate 86 .junk,[],[],[dk l (j4+x.length)]⟩) (o+1) ?_ ?_
     · simp -dsimp only [go_sem]
       exact⟨0,by omega,by omega,rfl⟩
     · rintro m s ⟨k,hk2,rfl,rfl⟩
       simp -dsimp only [go_sem]
       refine ck (fun h3=> ?_) (fun h3=> ?_)
       · have hkl:k≤o:=by have:=of_decide_eq_true h3;omega
         have f1:=J0s Z k (by omega)
         have f2:=U0p Y k (by have:=hv.1;omega)
         have e4:IntKind.i64.wrap ((k:Int)+1)=((k+1:Nat):Int):=by rw [Q0h _ (by omega) (by omega)];omega
         have w1:=c2 _ (Q0o Z k default (by omega))
         have hr:=c3 k hkl
         have hmk:=q3m (v2e k) (show qN (Z.getD k default).lo≤X i k/(fctN k:Rat)∧X i k/(fctN k:Rat)≤qN (Z.getD k default).hi from hm k hkl)
         have hrv:=hv.2 k hkl
         have hl1:=(hg k hkl).mono (L':=2000) (U':=2000) (by omega) (by omega)
         have hl2:=(z3p k (by omega)).mono (L':=2000) (U':=2000) (by omega) (by omega)
         simp -dsimp only [go_sem]
         refine Q0m Z0u 100 (.step 0 [] (.step 1 [] (.step 2 [] (.step 3 [] (.step 4 [] (.step 5 [] (.step 6 [] (.step 7 [] (.step 8 [] (.step 9 [] (.step 10 [] (.step 11 [] (.step 12 [] (.step 13 [] (.step 14 [] (.step 15 [] (.step 16 [] (.step 17 [] (.step 19 [] (.step 20 [] (.step 21 [] (.step 22 [] (.step 23 [] (.step 24 [] (.step 25 [] (.step 18 [3,13,16,22,25] (.step 26 [3] (.step 27 [] (.step 28 [] (.done)))))))))))))))))))))))))))))) (by decide+kernel) (by simp) ?_
         simp -dsimp only [go_sem,e1,f1]
         refine⟨by omega,by omega,?_⟩
         refine(U0j _ _ w1).mono ?_
         rintro r st ⟨rfl,rfl⟩
         rw [hr]
         simp -dsimp only [go_sem,e1,e2,f1,f2]
         have hYl:=hv.1
         refine⟨⟨by omega,by omega⟩,⟨by omega,by omega⟩,⟨by omega,by omega⟩,⟨by omega,by omega⟩,?_⟩
         refine(k1d k _ (by omega)).mono ?_
         rintro r st ⟨w,hw,rfl,rfl⟩
         simp -dsimp only [go_sem,e1,e2,f1,f2]
         refine(G1a (Y.getD k default) w (Z.getD k default) _ _ _ hrv hw hr hl1 hl2 (by omega) hmk.1 hmk.2).mono ?_
         rintro r st ⟨rfl,rfl⟩
         simp -dsimp only [go_sem,e4]
         exact⟨o+1-(k+1),by omega,k+1,by omega,rfl,rfl⟩
       · simp -dsimp only [go_sem]
         refine Q0a ?_
         simp -dsimp only [go_sem,e3]
         exact⟨n-(i+1),by omega,i+1,by omega,rfl,rfl⟩
   · simp -dsimp only [go_sem]
     refine Q0a ?_
     simp -dsimp only [go_sem]
end Go.Pv
end
