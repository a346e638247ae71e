/- Parts of the walk: N110. -/
import Derived.Test.YtagacielooaapaaGreatDoorZBR
import Derived.Test.YtagacielooaapaaGreatDoorZBV
import Derived.Test.YtagacielooaapaaGreatDoorZDE
import Derived.Test.YtagacielooaapaaGreatDoorZDG
import Derived.Test.YtagacielooaapaaGreatDoorZDJ
import Derived.Test.YtagacielooaapaaGreatDoorZAQ
set_option linter.unusedVariables false
set_option linter.unusedSimpArgs false
section
/-Layer 17:PicardStairs. -/
set_option maxRecDepth 100000
namespace Go.Pv
open Go.Proofs
theorem Y1y {f:List (List Mn)} {x:List Ivl} {h:Nm} {p:Int} : ∀l:List (List Ivl×List Ivl),(boxL f x h p l).2=false→(boxL f x h p l).1= []
 | [],_=>rfl
 | e::l,hb=>by
  rw [x0n] at hb⊢
  split at hb
  · cases hb
  · rename_i hin;rw [if_neg hin];exact Y1y l hb
theorem Y2b {x:Nm} {p:Nat} (h:bdV 6 12 (ofN x)) (hp:8≤p):q0v p (qN x):=by
 refine⟨Z0u (ofN x),(ofN x).e,rfl,?_⟩
 rw [q0r]
 have:=bitlen_le_iff.1 h.1
 exact Nat.le_trans (Nat.le_of_lt this) (Nat.pow_le_pow_right (by decide) (by omega))
theorem okField.three {n M:Nat} {f:List (List Mn)} (h:okField n M 2 f):okField n M 3 f:=⟨h.1,fun p hp=>by
 obtain⟨a1,a2,a3⟩:=h.2 p hp
 exact⟨a1,a2,fun m hm=>by
  obtain⟨b1,b2,b3,b4,b5,b6⟩:=a3 m hm
  exact⟨b1,b2,by omega,b4,b5,b6⟩⟩⟩
theorem K1b {L U:Nat} {x y:Rat} (h:luQ L U x) (e:y*2=x):luQ (L+1) U y:=by
 obtain⟨z,h1,h2⟩:=h
 refine⟨z,?_,Nat.le_trans h2 (Nat.pow_le_pow_right (by decide) (by omega))⟩
 have:=V3o z (-(L:Int))
 rw [show -(L:Int)-1= -((L+1:Nat):Int) from by omega,←h1] at this
 exact K3q (by rw [e,this])
theorem RV.eighth {x y:Rat} {v:Vl} (h:RV x v) (hx:0<x) (e:y*8=x):RV y (oddV false v.m (v.e-3))∧K0l v=1:=by
 have hm:v.m≠0:=fun h0=>by
  have:=z0h h0
  rw [h.2] at this
  grind
 have hs:K0l v=1:=by
  have h1:=q0i v
  have h2:qV v=qM (Z0u v) v.e:=rfl
  unfold K0l at h1⊢
  rw [if_neg hm] at h1⊢
  cases hn:v.neg with
  | false=>rfl
  | true=>
   have h3:Z0u v= -(v.m:Int):=by unfold Z0u;rw [hn];rfl
   have h4:qM (Z0u v) v.e≤qM 0 v.e:=by rw [h3];exact qM_le.2 (by omega)
   rw [X0x,←h2,h.2] at h4
   grind
 refine⟨⟨Y0y _ _ _,?_⟩,hs⟩
 have hn:v.neg=false:=by
  cases hn:v.neg with
  | false=>rfl
  | true=>
   unfold K0l at hs
   rw [if_neg hm,hn] at hs
   cases hs
 have h1:=z1h (v.m:Int) v.e
 have h3:Z0u v=(v.m:Int):=by unfold Z0u;rw [hn];rfl
 have h2:qV v=qM (Z0u v) v.e:=rfl
 rw [h3,h.2] at h2
 rw [←h2] at h1
 rw [Z1g]
 show qM (v.m:Int) (v.e-3)=y
 grind
set_option maxHeartbeats 8000000 in
theorem V1p (l:List UInt64):PCalls Tryz.prog 3 [.sl .no (encW l)] [] (fun r st'=>r= .sc (.bool true)):=by
 refine Q0b none Tryz.func3 rfl fun E=>Q0v (Q0a ?_)
 simp -dsimp only [go_sem]
 refine Q0v (Q0a ?_)
 simp -dsimp only [go_sem]
 refine(H2h _).mono ?_
 rintro r st ⟨rfl,rfl⟩
 simp -dsimp only [go_sem]
 refine Q0v (Q0a ?_)
 simp -dsimp only [go_sem]
 refine(Q3e l _).mono ?_
 rintro r st ⟨rfl,rfl⟩
 simp -dsimp only [go_sem]
 refine Q0v (Q0a ?_)
 simp -dsimp only [go_sem]
 refine(H0h l 0 0 3 [dk l 0] rfl (by omega) (by omega) (by omega)).mono ?_
 rintro r st ⟨rfl,rfl⟩
 have hk:=G1k l 0 (n:=3) (by omega)
 have x1:IntKind.i64.wrap (1+((nx l 0 3:Nat):Int))=((1+nx l 0 3:Nat):Int):=by rw [Q0j _ (by omega) (by omega)];omega
 simp -dsimp only [go_sem,x1]
 generalize hn:1+nx l 0 3=n
 refine Q0v (Q0a ?_)
 simp -dsimp only [go_sem]
 refine(V3a l 1 0 n 3 2 [dk l 1] rfl (by omega) (by omega) (by omega) (by omega) (by omega)).mono ?_
 rintro r st ⟨f,raw,X0,j1,hf,hraw,hj1,hj2,rfl,rfl⟩
 have at2: ∀j,atD ([dk l 1].set 0 (dk l j)++X0) 0 l j:=fun j=>rfl
 have st2: ∀a b,([dk l 1].set 0 (dk l a)++X0).set 0 (dk l b)= [dk l 1].set 0 (dk l b)++X0:=fun a b=>rfl
 simp -dsimp only [go_sem]
 refine(k1t l j1 0 n _ (at2 j1) (by omega) (by omega)).mono ?_
 rintro r st ⟨x,j2,hxl,hx,hj3,hj4,rfl,rfl⟩
 rw [st2]
 simp -dsimp only [go_sem]
 refine(x3u l j2 0 _ (at2 j2) (by omega)).mono ?_
 rintro r st ⟨p,j3,hp1,hp2,hj5,hj6,rfl,rfl⟩
 rw [st2]
 simp -dsimp only [go_sem]
 refine Q0v (Q0a ?_)
 simp -dsimp only [go_sem]
 refine(z3o l j3 0 _ (at2 j3) (by omega)).mono ?_
 rintro r st ⟨q,hq1,hq2,rfl,rfl⟩
 rw [st2]
 simp -dsimp only [go_sem]
 refine(H0h l (j3+2) 0 12 _ (at2 _) (by omega) (by omega) (by omega)).mono ?_
 rintro r st ⟨rfl,rfl⟩
 rw [st2]
 have hk:=G1k l (j3+2) (n:=12) (by omega)
 generalize nx l (j3+2) 12=k at hk⊢
 have x2:IntKind.i64.wrap (0-(k:Int))= -(k:Int):=by rw [Q0j _ (by omega) (by omega)];omega
 simp -dsimp only [go_sem,x2]
 refine(W1x (tq q) (-(k:Int)) _ (V0a (q1t q))).mono ?_
 rintro r st ⟨rfl,rfl⟩
 obtain⟨t1,t2⟩:=V4k hq1 hq2
 obtain⟨s0,s1⟩:=q1l (k:=k) (q1t q) t1 (by omega) (by omega)
 have sv:=(y0w s0).2
 have hr:=z0n (tq q) (-(k:Int))
 have hpos:=U2n sv t2
 clear sv
 have wh:=V0a hr
 generalize X0f (tq q) (-(k:Int))=h at s0 s1 hr hpos wh⊢
 have z0:(h.2==0)=true:=by rw [s0];rfl
 have z1:(h.2 !=0)=false:=by rw [s0];rfl
 have wf:=hf.wF (by omega) (by omega)
 have wx:=x3a hxl (by omega) hx
 have hpp:Z0l (p:Int)=true:=by unfold Z0l;simp;omega
 have S:Seek f x h.1 p n:=⟨hf.three,by omega,by omega,hxl,fun j hj=>(hx j (by omega)).1,fun j hj=>⟨(x1d (hx j (by omega)).2.1).mul,(x1d (hx j (by omega)).2.2).mul⟩,fun j hj=>Y2b (hx j (by omega)).2.1 (by omega),hpos,hr,s1.mul.down (by omega),hpp⟩
 simp -dsimp only [go_sem]
 refine Q0v (Q0a ?_)
 simp -dsimp only [go_sem]
 refine(Q2r f x h.1 p _ wf wx wh).mono ?_
 rintro r st ⟨rfl,rfl⟩
 have hfound:=fun e=>z2o S (p:=p) e
 have hnone:(boxP f x h.1 p).2=false→(boxP f x h.1 p).1= []:=fun e=>Y1y _ e
 have wo:=z2p f x h.1 p wx
 generalize boxP f x h.1 p=b at hfound hnone wo⊢
 cases hb:b.2 with
 | false=>
  rw [hnone hb]
  simp -dsimp only [go_sem,z1]
  refine Q0a ?_
  simp -dsimp only [go_sem,z0,z1]
  rfl
 | true=>
  obtain⟨N,hin,hcon,hfine⟩:=hfound hb
  generalize b.1=o at*
  have hfl:=hf.1
  have hol:o.length=n:=by rw [N.la,hfl]
  have z3:((o.length:Int) !=(n:Int))=false:=by rw [hol];simp
  have hro: ∀j,j<n→Q0h (o.getD j default)=true:=fun j hj=>W0b N.ra (by omega)
  simp -dsimp only [go_sem,z1]
  refine Q0v (Q0a ?_)
  simp -dsimp only [go_sem,z1]
  refine Q0v (Q0a ?_)
  simp -dsimp only [go_sem,z1,z3]
  refine Q0v (Q0a ?_)
  simp -dsimp only [go_sem,z1,z3]
  refine(w2y l (j3+2+1) 0 x _ (at2 _) (by omega) (by omega) (fun j hj=>(hx j hj).1)).mono ?_
  rintro r st ⟨y,hyl,hy,rfl,rfl⟩
  have hyp:=W4q hx hy
  rw [st2]
  simp -dsimp only [go_sem]
  refine(V3m n _ (by omega) (by omega)).mono ?_
  rintro r st ⟨rfl,rfl⟩
  have ho:rchN 2 (n-1)≤7:=by
   have: ∀i,i<3→rchN 2 i≤7:=by decide
   exact this _ (by omega)
  simp -dsimp only [go_sem]
  refine(H1h (a:=136) (u:=297) (Lc:=12) (Uc:=21) (s1:=62) (r1:=105) (D:=2) (M:=3) f y (rchN 2 (n-1)) _ wf (by omega) (by omega) (by omega) (by omega) (fun i hi=>(hyp i (by omega)).1) (fun i hi=>(hf.at hi).2.1) hf.der (fun i hi=>(hyp i (by omega)).2.2) (by omega) (by omega) (by omega)).mono ?_
  rintro r st ⟨X,V,hX0,hX,hVl,hV,rfl,rfl⟩
  have hgr:=X2a (K:=rchN 2 (n-1)) (a:=136) (u:=297) (Lc:=12) (Uc:=21) (s1:=62) (r1:=105) (D:=2) (M:=3) (by omega) hX (fun i hi=>(hf.at hi).2.1) (fun i hi j hj=>⟨(hf.der i hi j hj).2.1,(hf.der i hi j hj).2.2.2.2⟩) (fun i hi=>by rw [hX0 i hi];exact(hyp i (by omega)).2.2) (by omega) (by omega) _ (Nat.le_refl _)
  have hstay: ∀τ,0≤τ→τ≤qN h.1→ ∀i,i<n→memI (valR (z0c X i) τ (rchN 2 (n-1))) (o.getD i default):=fun τ h0 h1 i hi=>by
   obtain⟨_,_,_,hsub⟩:=inB_sub.1 hin
   refine k1r hfl (by omega) (by omega) N (fun j hj=>hsub j (by rw [N.len,hfl];exact hj)) hro (fun i hi=>by rw [hX0 i (by omega)];exact(hyp i (by omega)).2.1) hX (fun i hi m hm=> ?_) h0 h1 hi
   obtain⟨e1,e2,e3⟩:=hraw i hi
   have hmem:(f.getD i []).getD m default∈f.getD i []:=Q0t _ _ _ hm
   refine⟨by have:=(hf.der i (by omega) m hm).2.2.2.2;rw [hfl] at this;exact this,fun t ht=> ?_⟩
   generalize (f.getD i []).getD m default=mo at hmem⊢
   rw [e1] at hmem
   refine K1i (P:=fun ks=> ∀t,i≤t→ks.getD t 0=0) (gatT ((raw.getD i []).map tmOf) []) [] (Z2t (P:=fun ks=> ∀t,i≤t→ks.getD t 0=0) _ [] (fun tm htm=> ?_) (fun _ h=>by simp at h)) (fun _ h=>by simp at h) mo hmem t ht
   obtain⟨mm,hmm,rfl⟩:=List.mem_map.1 htm
   exact(e3 mm hmm).2
  clear hraw hyp hfound S hfine hcon
  generalize rchN 2 (n-1)=K at ho hX hV hgr hstay
  have hlh:luQ 14 6 (qN h.1):=s1.mono (by omega) (by omega)
  have hnh:=RV.num hr
  have hsh:=hnh.sm hlh (by omega)
  simp -dsimp only [go_sem]
  refine Q0a ?_
  simp -dsimp only [go_sem]
  refine J0g [false,false,false,false,true,false,false,false,true,false,true,false,true,true] 1 0 (fun m s=> ∃w,w≤9∧m=9-w∧
   s=⟨[.junk,.junk,.junk,.junk,.sc (.int .i64 (n:Nat)),.junk,.junk,.junk,.lp 0 0,.junk,.sl .no (Q0m o),.junk,.sl .no (Z0g V),.sc (.int .i64 (w:Nat))]++List.replicate 108 .junk,[encN h.1],[],[dk l 1].set 0 (dk l (j3+2+1+x.length))++X0⟩) 9 ?_ ?_
  · simp -dsimp only [go_sem]
    exact⟨0,by omega,by omega,rfl⟩
  · rintro m s ⟨w,hw,rfl,rfl⟩
    refine Q0v (Q0a ?_)
    simp -dsimp only [go_sem]
    refine ck (fun h'=> ?_) (fun h'=> ?_)
    · have hw8:w≤8:=by have:=of_decide_eq_true h';omega
      have e3:IntKind.i64.wrap ((w:Int)+1)=((w+1:Nat):Int):=by rw [Q0j _ (by omega) (by omega)];omega
      have hrw:=RV.whole w
      have hsw:=hrw.sm (U0x (n:=4) (by omega)) (by omega)
      have hrb:=hnh.by hrw
      have hlb:=W0r hlh (U0x (m:=w) (n:=4) (by omega))
      have hsb:=hrb.sm hlb (by omega)
      simp -dsimp only [go_sem]
      refine Q0v (Y0c ?_)
      refine Q0v (Q0a ?_)
      simp -dsimp only [go_sem]
      refine(of_c h.1 _ (by unfold wN at wh;omega)).mono ?_
      rintro r st ⟨rfl,rfl⟩
      simp -dsimp only [go_sem]
      refine(q0g w _ (by omega)).mono ?_
      rintro r st ⟨rfl,rfl⟩
      simp -dsimp only [go_sem]
      refine(by_c _ _ _ hsh hsw).mono ?_
      rintro r st ⟨rfl,rfl⟩
      simp -dsimp only [go_sem]
      generalize hgv:byV (ofN h.1) (oddV false w 0)=v0 at hrb hsb⊢
      refine G0q [false,false,false,false,true,false,false,false,true,false,true,false,true,true,true] 2 0
       (fun s=> ∃tv,RV (qN h.1*(w:Rat)/8) tv∧s=⟨[.junk,.junk,.junk,.junk,.sc (.int .i64 (n:Nat)),.junk,.junk,.junk,.lp 0 0,.junk,.sl .no (Q0m o),.junk,.sl .no (Z0g V),.sc (.int .i64 (w:Nat)),.lp 1 0]++List.replicate 107 .junk,[encN h.1,encV tv],[],[dk l 1].set 0 (dk l (j3+2+1+x.length))++X0⟩) ?_ ?_
      · simp -dsimp only [go_sem]
        refine(U1p v0 _).mono ?_
        rintro r st ⟨rfl,rfl⟩
        by_cases hw0:w=0
        · have ex:qN h.1*(w:Rat)=0:=by rw [hw0];show qN h.1*((0:Nat):Rat)=0;grind
          have hv0:v0=⟨false,0,0⟩:=hrb.uniq (by rw [ex];exact RV.zero)
          have hs0:decide (K0l v0>0)=false:=by rw [hv0];rfl
          simp -dsimp only [go_sem,hs0]
          exact⟨v0,hrb.same (by rw [ex];grind),rfl⟩
        · have hxp:0<qN h.1*(w:Rat):=Rat.mul_pos hpos (by exact_mod_cast (by omega:0<w))
          obtain⟨he1,he2⟩:=hrb.eighth (y:=qN h.1*(w:Rat)/8) hxp (by grind)
          have hs0:decide (K0l v0>0)=true:=by rw [he2];rfl
          have e5:IntKind.i64.wrap (v0.e-3)=v0.e-3:=by
           obtain⟨_,b2,b3⟩:=hsb
           rw [Q0j _ (by omega) (by omega)]
          simp -dsimp only [go_sem,hs0,e5]
          refine(K2p false v0.m (v0.e-3) _ (by have:=hsb.1;omega) (by have:=hsb.2.1;omega) (by have:=hsb.2.2;omega)).mono ?_
          rintro r st ⟨rfl,rfl⟩
          simp -dsimp only [go_sem]
          exact⟨_,he1,rfl⟩
      rintro s ⟨tv,htv,rfl⟩
      clear hgv hrb hsb
      have hτ0:0≤qN h.1*(w:Rat)/8:=by
       have:(0:Rat)≤qN h.1*(w:Rat):=Rat.mul_nonneg (Rat.le_of_lt hpos) (by exact_mod_cast (Nat.zero_le w))
       grind
      have hτ1:qN h.1*(w:Rat)/8≤qN h.1:=by
       have h8:(w:Rat)≤((8:Nat):Rat):=by exact_mod_cast hw8
       have:=Rat.mul_le_mul_of_nonneg_left h8 (Rat.le_of_lt hpos)
       have e8:((8:Nat):Rat)=8:=by rfl
       rw [e8] at this
       grind
      have hlτ:luQ 17 10 (qN h.1*(w:Rat)/8):=by
       have l1:=K1b (y:=qN h.1*(w:Rat)/2) hlb (by grind)
       have l2:=K1b (y:=qN h.1*(w:Rat)/4) l1 (by grind)
       exact K1b (y:=qN h.1*(w:Rat)/8) l2 (by grind)
      have hst:=hstay _ hτ0 hτ1
      generalize qN h.1*(w:Rat)/8=τ at htv hτ0 hτ1 hlτ hst
      refine Q0a ?_
      simp -dsimp only [go_sem]
      refine J0g [false,false,false,false,true,false,false,false,true,false,true,false,true,true,true,true] 2 0 (fun m s=> ∃i,i≤n∧m=n-i∧
       s=⟨[.junk,.junk,.junk,.junk,.sc (.int .i64 (n:Nat)),.junk,.junk,.junk,.lp 0 0,.junk,.sl .no (Q0m o),.junk,.sl .no (Z0g V),.sc (.int .i64 (w:Nat)),.lp 1 0,.sc (.int .i64 (i:Nat))]++List.replicate 106 .junk,[encN h.1,encV tv],[],[dk l 1].set 0 (dk l (j3+2+1+x.length))++X0⟩) n ?_ ?_
      · simp -dsimp only [go_sem]
        exact⟨0,by omega,by omega,rfl⟩
      · rintro m s ⟨i,hi,rfl,rfl⟩
        refine Q0v (Q0a ?_)
        simp -dsimp only [go_sem]
        refine ck (fun h''=> ?_) (fun h''=> ?_)
        · have hlt:i<n:=by have:=of_decide_eq_true h'';omega
          have e1:=K0t o i (by omega)
          have e2:=K1v V i (by omega)
          have e4:IntKind.i64.wrap ((i:Int)+1)=((i+1:Nat):Int):=by rw [Q0j _ (by omega) (by omega)];omega
          have hg:=hgr i (by omega)
          have hat:=fun st=>at_c (V.getD i []) tv K (X i) τ st (by omega) (hV i (by omega)) htv hg hlτ (by omega)
          have hms:=hst i hlt
          have hr2:=hro i hlt
          have w4:wI (o.getD i default):=wo.2 i (by omega)
          have hv2:=x2d (g:=X i) (t:=τ) (K:=K) (by omega) K (Nat.le_refl _)
          have hlu:=U1o (K+1) fun k hk=>(x2c (k:=k) (K:=K) (by omega) hg hlτ (by omega)).1
          have hl1:=hlu.mono (L':=5000) (U':=5000) (by omega) (by omega)
          have hl2:=(k3q K (by omega)).mono (L':=5000) (U':=5000) (by omega) (by omega)
          have hposF:=y2o K
          have hmk:qN (o.getD i default).lo*(fctN K:Rat)≤sumR (atT (X i) τ K) (K+1)∧sumR (atT (X i) τ K) (K+1)≤qN (o.getD i default).hi*(fctN K:Rat):=by
           rw [hv2,Rat.mul_comm (fctN K:Rat)]
           have hms:qN (o.getD i default).lo≤valR (fun k=>X i k/(fctN k:Rat)) τ K∧valR (fun k=>X i k/(fctN k:Rat)) τ K≤qN (o.getD i default).hi:=hms
           exact⟨Rat.mul_le_mul_of_nonneg_right hms.1 (Rat.le_of_lt hposF),Rat.mul_le_mul_of_nonneg_right hms.2 (Rat.le_of_lt hposF)⟩
          clear hv2 hlu hms
          simp -dsimp only [go_sem]
          refine Q0v (Y0c ?_)
          refine G0q [false,false,false,false,true,false,false,false,true,false,true,false,true,true,true,true,true,true] 4 0
           (fun s=> ∃v u,RV (sumR (atT (X i) τ K) (K+1)) v∧RV (fctN K:Rat) u∧
            (s=⟨[.junk,.junk,.junk,.junk,.sc (.int .i64 (n:Nat)),.junk,.junk,.junk,.lp 0 0,.junk,.sl .no (Q0m o),.junk,.sl .no (Z0g V),.sc (.int .i64 (w:Nat)),.lp 1 0,.sc (.int .i64 (i:Nat)),.lp 2 0,.lp 3 0]++List.replicate 104 .junk,[encN h.1,encV tv,encV v,encV u],[],[dk l 1].set 0 (dk l (j3+2+1+x.length))++X0⟩∨
             s=⟨[.junk,.junk,.junk,.junk,.sc (.int .i64 (n:Nat)),.junk,.junk,.junk,.lp 0 0,.junk,.sl .no (Q0m o),.junk,.sl .no (Z0g V),.sc (.int .i64 (w:Nat)),.lp 1 0,.sc (.int .i64 (i:Nat)),.lp 3 0,.lp 2 0]++List.replicate 104 .junk,[encN h.1,encV tv,encV u,encV v],[],[dk l 1].set 0 (dk l (j3+2+1+x.length))++X0⟩)) ?_ ?_
          · simp -dsimp only [go_sem]
            refine Q0l Z0x 122 (.step 0 [] (.step 1 [] (.step 2 [] (.step 3 [] (.step 4 [] (.alt (.step 5 [] (.step 6 [] (.step 7 [] (.step 8 [] (.alt (.step 9 [3,4] (.step 10 [3,4] (.step 11 [] (.step 12 [] (.done))))) (.step 10 [3,4] (.step 9 [3,4] (.step 11 [] (.step 12 [] (.done)))))))))) (.alt (.step 9 [3,4] (.alt (.step 5 [] (.step 6 [] (.step 7 [] (.step 8 [] (.step 10 [3,4] (.step 11 [] (.step 12 [] (.done)))))))) (.step 10 [3,4] (.step 5 [] (.step 6 [] (.step 7 [] (.step 8 [] (.step 11 [] (.step 12 [] (.done)))))))))) (.step 10 [3,4] (.alt (.step 5 [] (.step 6 [] (.step 7 [] (.step 8 [] (.step 9 [3,4] (.step 11 [] (.step 12 [] (.done)))))))) (.step 9 [3,4] (.step 5 [] (.step 6 [] (.step 7 [] (.step 8 [] (.step 11 [] (.step 12 [] (.done))))))))))))))))) (by decide+kernel) (by simp) ?_
            simp -dsimp only [go_sem,e2]
            refine And.intro (by omega) (And.intro ?_ (And.intro (And.intro ?_ ?_) (And.intro ?_ ?_)))
            · refine(hat _).mono ?_
              rintro r st ⟨v,u,hv1,hw1,rfl,rfl⟩
              simp -dsimp only [go_sem]
              refine And.intro ?_ ?_
              · exact⟨v,u,hv1,hw1,.inl rfl⟩
              · exact⟨v,u,hv1,hw1,.inr rfl⟩
            all_goals
             refine(hat _).mono ?_
             rintro r st ⟨v,u,hv1,hw1,rfl,rfl⟩
             simp -dsimp only [go_sem]
             first | exact⟨v,u,hv1,hw1,.inl rfl⟩ | exact⟨v,u,hv1,hw1,.inr rfl⟩
          rintro s ⟨v,u,hv1,hw1,rfl | rfl⟩
          all_goals
           refine Q0a ?_
           simp -dsimp only [go_sem]
           refine Q0l Z0x 122 (.step 0 [] (.step 1 [] (.step 2 [] (.step 3 [] (.step 4 [] (.step 5 [] (.step 6 [] (.step 7 [] (.step 8 [] (.step 9 [] (.step 10 [] (.step 11 [] (.step 12 [] (.step 13 [] (.step 14 [] (.step 15 [] (.done))))))))))))))))) (by decide+kernel) (by simp) ?_
           simp -dsimp only [go_sem,e1]
           refine⟨by omega,?_⟩
           refine(K0q _ _ w4).mono ?_
           rintro r st ⟨rfl,rfl⟩
           rw [hr2]
           simp -dsimp only [go_sem,e1]
           refine⟨by omega,?_⟩
           refine(q1k v u (o.getD i default) _ _ _ hv1 hw1 hr2 hl1 hl2 (by omega) hmk.1 hmk.2).mono ?_
           rintro r st ⟨rfl,rfl⟩
           simp -dsimp only [go_sem,e4]
           refine Q0a ?_
           simp -dsimp only [go_sem,e4]
           exact⟨n-(i+1),by omega,i+1,by omega,rfl,rfl⟩
        · have hge:i=n:=by have:=of_decide_eq_false h'';omega
          subst hge
          simp -dsimp only [go_sem]
          refine Q0a ?_
          simp -dsimp only [go_sem,e3]
          exact⟨9-(w+1),by omega,w+1,by omega,rfl,rfl⟩
    · simp -dsimp only [go_sem]
      refine Q0a ?_
      simp -dsimp only [go_sem]
end Go.Pv
end
