/- Parts of the walk: F16, F17, F18, F19, F20. -/
import Derived.Test.YtagacielooaapaaGreatDoorZG
import Derived.Test.YtagacielooaapaaGreatDoorZE
set_option linter.unusedVariables false
set_option linter.unusedSimpArgs false
section
/-The document's values:Of,Turned,Plus,Less,Sign,Order,CmpNum. -/
set_option maxRecDepth 100000
namespace Go.Pv
open Go.Proofs
theorem of_c (x:Nm) (st:Q0e) (hl:x.w.length≤1000000000000):PCalls Tryz.prog 27 [.agg (encN x)] st (fun r st'=>r= .agg (encV (ofN x))∧st'=st):=by
 refine Q0b none Tryz.func27 rfl fun E=>Q0a ?_
 simp -dsimp only [go_sem]
 refine Q0l Z0x 11 (.step 0 [] (.step 1 [] (.step 2 [] (.step 3 [] (.step 5 [] (.step 6 [] (.step 4 [1,6] (.step 7 [] (.step 8 [] (.done)))))))))) (by decide+kernel) (by simp) ?_
 simp -dsimp only [go_sem]
 refine(U2p x.w st hl).mono ?_
 rintro r st ⟨rfl,rfl⟩
 simp -dsimp only [go_sem]
 rfl
theorem lenV (m:Nat):((((Q0d m).length:Nat):Int)==0)=decide (m=0):=by
 by_cases h:m=0
 · subst h;rw [Z0f];rfl
 · rw [decide_eq_false h]
   have:(Q0d m).length≠0:=fun e=>h (digitsOf_nil.1 (List.length_eq_zero_iff.1 e))
   exact beq_eq_false_iff_ne.2 (by omega)
theorem j2d (v:Vl) (st:Q0e):PCalls Tryz.prog 118 [.agg (encV v)] st (fun r st'=>r= .agg (encV (V0s v))∧st'=st):=by
 refine Q0b none Tryz.func118 rfl fun E=>Q0a ?_
 simp -dsimp only [go_sem]
 refine ck (fun h=> ?_) (fun h=> ?_)
 · have h0:v.m≠0:=fun e=>by rw [e,Z0f] at h;cases h
   simp -dsimp only [go_sem]
   rw [V0s,if_neg h0]
 · have h0:v.m=0:=by
    have:=of_decide_eq_false h
    exact digitsOf_nil.1 (List.length_eq_zero_iff.1 (by omega))
   simp -dsimp only [go_sem]
   rw [V0s,if_pos h0]
theorem U1p (v:Vl) (st:Q0e):PCalls Tryz.prog 29 [.agg (encV v)] st (fun r st'=>r= .sc (.int .i64 (K0l v))∧st'=st):=by
 refine Q0b none Tryz.func29 rfl fun E=>Q0a ?_
 simp -dsimp only [go_sem,lenV]
 refine ck (fun h=> ?_) (fun h=> ?_)
 · have h0:v.m=0:=of_decide_eq_true h
   simp -dsimp only [go_sem]
   rw [K0l,if_pos h0]
 · have h0:v.m≠0:=of_decide_eq_false h
   simp -dsimp only [go_sem]
   refine ck (fun h=> ?_) (fun h=> ?_)
   · simp -dsimp only [go_sem]
     rw [K0l,if_neg h0,if_pos h]
   · simp -dsimp only [go_sem]
     rw [K0l,if_neg h0,if_neg (by simp [h])]
def smV (v:Vl):Prop:=Q0i v.m≤1000000000000∧ -100000000000≤v.e∧v.e≤100000000000
theorem Q2n (v:Vl) (k:Nat):Z0u v*2^k=if v.neg then -((v.m*2^k:Nat):Int) else((v.m*2^k:Nat):Int):=by
 unfold Z0u
 cases v.neg
 · simp
 · simp [Int.neg_mul]
theorem W1u (a b:Vl) (st:Q0e) (ha:smV a) (hb:smV b):PCalls Tryz.prog 74 [.agg (encV a),.agg (encV b)] st (fun r st'=>r= .agg (encV (K0o a b))∧st'=st):=by
 obtain⟨a1,a2,a3⟩:=ha
 obtain⟨b1,b2,b3⟩:=hb
 refine Q0b none Tryz.func74 rfl fun E=>Q0a ?_
 simp -dsimp only [go_sem,lenV]
 refine ck (fun h=> ?_) (fun h=> ?_)
 · have h0:a.m=0:=of_decide_eq_true h
   simp -dsimp only [go_sem]
   rw [K0o,if_pos h0]
 · have ha0:a.m≠0:=of_decide_eq_false h
   simp -dsimp only [go_sem,lenV]
   refine ck (fun h=> ?_) (fun h=> ?_)
   · have h0:b.m=0:=of_decide_eq_true h
     simp -dsimp only [go_sem]
     rw [K0o,if_neg ha0,if_pos h0]
   · have hb0:b.m≠0:=of_decide_eq_false h
     simp -dsimp only [go_sem]
     have hmin:(if b.e<a.e then b.e else a.e)=min a.e b.e:=by split<;>omega
     have w1:IntKind.i64.wrap (a.e-min a.e b.e)=(((a.e-min a.e b.e).toNat:Nat):Int):=by rw [Q0j _ (by omega) (by omega)];omega
     have w2:IntKind.i64.wrap (b.e-min a.e b.e)=(((b.e-min a.e b.e).toNat:Nat):Int):=by rw [Q0j _ (by omega) (by omega)];omega
     have la:=X0s a.m
     have lb:=X0s b.m
     have l1:=K0y a.m (a.e-min a.e b.e).toNat
     have l2:=K0y b.m (b.e-min a.e b.e).toNat
     have px:a.m*2^(a.e-min a.e b.e).toNat≠0:=Nat.mul_ne_zero ha0 (by have:0<2^(a.e-min a.e b.e).toNat:=Nat.pow_pos (by decide)
                                                                      omega)
     have py:b.m*2^(b.e-min a.e b.e).toNat≠0:=Nat.mul_ne_zero hb0 (by have:0<2^(b.e-min a.e b.e).toNat:=Nat.pow_pos (by decide)
                                                                      omega)
     have hspec:K0o a b=mkV ((if a.neg then -((a.m*2^(a.e-min a.e b.e).toNat:Nat):Int) else((a.m*2^(a.e-min a.e b.e).toNat:Nat):Int))+(if b.neg then -((b.m*2^(b.e-min a.e b.e).toNat:Nat):Int) else((b.m*2^(b.e-min a.e b.e).toNat:Nat):Int))) (min a.e b.e):=by
      rw [K0o,if_neg ha0,if_neg hb0,Q2n,Q2n]
     have he1:(a.e-min a.e b.e).toNat≤200000000000:=by omega
     have he2:(b.e-min a.e b.e).toNat≤200000000000:=by omega
     have hm1: -100000000000≤min a.e b.e:=by omega
     have hm2:min a.e b.e≤100000000000:=by omega
     rw [hmin]
     refine Q0l Z0x 71 (.step 0 [] (.step 1 [] (.step 2 [] (.step 3 [] (.step 4 [] (.step 5 [] (.step 7 [] (.step 8 [] (.step 9 [] (.step 10 [] (.step 11 [] (.step 12 [] (.step 6 [8,10] (.step 13 [] (.step 14 [] (.step 15 [] (.done))))))))))))))))) (by decide+kernel) (by simp) ?_
     simp -dsimp only [go_sem,w1,w2]
     refine(z1b a.m _ st (by omega) (by omega)).mono ?_
     rintro r st ⟨rfl,rfl⟩
     simp -dsimp only [go_sem,w1,w2]
     refine(z1b b.m _ st (by omega) (by omega)).mono ?_
     rintro r st ⟨rfl,rfl⟩
     simp -dsimp only [go_sem,w1,w2]
     rw [hspec]
     generalize a.m*2^(a.e-min a.e b.e).toNat=x at*
     generalize b.m*2^(b.e-min a.e b.e).toNat=y at*
     generalize min a.e b.e=e at*
     have lx:=X0s x
     have ly:=X0s y
     have ls:=y0m x y
     refine ck (fun h=> ?_) (fun h=> ?_)
     · have hn:a.neg=b.neg:=by simpa using h
       simp -dsimp only [go_sem]
       refine Q0l Z0x 71 (.step 0 [] (.step 1 [] (.step 2 [] (.step 3 [] (.step 5 [] (.step 4 [1] (.step 6 [] (.step 7 [] (.done))))))))) (by decide+kernel) (by simp) ?_
       simp -dsimp only [go_sem]
       refine(j2z x y st (by omega) (by omega)).mono ?_
       rintro r st ⟨rfl,rfl⟩
       simp -dsimp only [go_sem]
       refine(K2p a.neg (x+y) e st (by omega) (by omega) (by omega)).mono ?_
       rintro r st ⟨rfl,rfl⟩
       simp -dsimp only [go_sem]
       have:mkV ((if a.neg then -(x:Int) else x)+(if b.neg then -(y:Int) else y)) e=oddV a.neg (x+y) e:=by
        rw [←hn]
        unfold mkV
        cases a.neg
        · simp only [Bool.false_eq_true,if_false]
          rw [decide_eq_false (by omega),show((x:Int)+y).natAbs=x+y from by omega]
        · simp only [if_true]
          rw [decide_eq_true (by omega),show(-(x:Int)+ -(y:Int)).natAbs=x+y from by omega]
       rw [this]
     · have hn:a.neg= !b.neg:=by cases hx:a.neg<;>cases hy:b.neg<;>simp [hx,hy] at h⊢
       simp -dsimp only [go_sem]
       refine(j2y x y st (by omega) (by omega)).mono ?_
       rintro r st ⟨rfl,rfl⟩
       simp -dsimp only [go_sem]
       by_cases hxy:y<x
       · have c1:cmpW x y=1:=Y0p (by omega)
         have l3:=G0j (Nat.sub_le x y)
         simp -dsimp only [go_sem,c1]
         refine Q0l Z0x 71 (.step 0 [] (.step 1 [] (.step 2 [] (.step 3 [] (.step 5 [] (.step 4 [1] (.step 6 [] (.step 7 [] (.done))))))))) (by decide+kernel) (by simp) ?_
         simp -dsimp only [go_sem]
         refine(Q2a x y st (by omega) (by omega)).mono ?_
         rintro r st ⟨rfl,rfl⟩
         simp -dsimp only [go_sem]
         refine(K2p a.neg (x-y) e st (by omega) (by omega) (by omega)).mono ?_
         rintro r st ⟨rfl,rfl⟩
         simp -dsimp only [go_sem]
         have:mkV ((if a.neg then -(x:Int) else x)+(if b.neg then -(y:Int) else y)) e=oddV a.neg (x-y) e:=by
          rw [hn]
          unfold mkV
          cases b.neg
          · simp only [Bool.not_false,if_true,Bool.false_eq_true,if_false]
            rw [decide_eq_true (by omega),show(-(x:Int)+y).natAbs=x-y from by omega]
          · simp only [Bool.not_true,if_true,Bool.false_eq_true,if_false]
            rw [decide_eq_false (by omega),show((x:Int)+ -(y:Int)).natAbs=x-y from by omega]
         rw [this]
       · by_cases hyx:x<y
         · have c1:cmpW x y= -1:=Y0o (by omega)
           have l3:=G0j (Nat.sub_le y x)
           simp -dsimp only [go_sem,c1]
           refine Q0l Z0x 71 (.step 0 [] (.step 1 [] (.step 2 [] (.step 3 [] (.step 5 [] (.step 4 [1] (.step 6 [] (.step 7 [] (.done))))))))) (by decide+kernel) (by simp) ?_
           simp -dsimp only [go_sem]
           refine(Q2a y x st (by omega) (by omega)).mono ?_
           rintro r st ⟨rfl,rfl⟩
           simp -dsimp only [go_sem]
           refine(K2p b.neg (y-x) e st (by omega) (by omega) (by omega)).mono ?_
           rintro r st ⟨rfl,rfl⟩
           simp -dsimp only [go_sem]
           have:mkV ((if a.neg then -(x:Int) else x)+(if b.neg then -(y:Int) else y)) e=oddV b.neg (y-x) e:=by
            rw [hn]
            unfold mkV
            cases b.neg
            · simp only [Bool.not_false,if_true,Bool.false_eq_true,if_false]
              rw [decide_eq_false (by omega),show(-(x:Int)+y).natAbs=y-x from by omega]
            · simp only [Bool.not_true,if_true,Bool.false_eq_true,if_false]
              rw [decide_eq_true (by omega),show((x:Int)+ -(y:Int)).natAbs=y-x from by omega]
           rw [this]
         · have hxy:x=y:=by omega
           subst hxy
           have c1:cmpW x x=0:=Q1u rfl
           simp -dsimp only [go_sem,c1]
           have:mkV ((if a.neg then -(x:Int) else x)+(if b.neg then -(x:Int) else x)) e=⟨false,0,0⟩:=by
            rw [hn]
            unfold mkV oddV
            cases b.neg<;>simp<;>omega
           rw [this,Z0f];rfl
theorem j3n (a b:Vl) (st:Q0e) (ha:smV a) (hb:smV b):PCalls Tryz.prog 57 [.agg (encV a),.agg (encV b)] st (fun r st'=>r= .agg (encV (H0c a b))∧st'=st):=by
 refine Q0b none Tryz.func57 rfl fun E=>Q0a ?_
 simp -dsimp only [go_sem]
 refine Q0l Z0x 9 (.step 0 [] (.step 1 [] (.step 2 [0] (.step 3 [] (.step 4 [] (.done)))))) (by decide+kernel) (by simp) ?_
 simp -dsimp only [go_sem]
 refine(j2d b st).mono ?_
 rintro r st ⟨rfl,rfl⟩
 simp -dsimp only [go_sem]
 refine(W1u a (V0s b) st ha (by unfold smV;rw [U1j,U1k];exact hb)).mono ?_
 rintro r st ⟨rfl,rfl⟩
 simp -dsimp only [go_sem]
 rfl
theorem v1m (a b:Vl) (st:Q0e) (ha:smV a) (hb:smV b):PCalls Tryz.prog 76 [.agg (encV a),.agg (encV b)] st (fun r st'=>r= .sc (.int .i64 (V0d a b))∧st'=st):=by
 refine Q0b none Tryz.func76 rfl fun E=>Q0a ?_
 simp -dsimp only [go_sem]
 refine(j3n a b st ha hb).mono ?_
 rintro r st ⟨rfl,rfl⟩
 simp -dsimp only [go_sem]
 refine(U1p _ st).mono ?_
 rintro r st ⟨rfl,rfl⟩
 simp -dsimp only [go_sem]
 rfl
theorem Y2a {x:Nm} (h:sm x):smV (ofN x):=by
 obtain⟨h1,h2,h3⟩:=h
 have:=G0x x.w
 unfold K0j at this
 refine⟨?_,?_,?_⟩
 · show Q0i (valW x.w)≤_;omega
 · show _≤x.exp;omega
 · show x.exp≤_;omega
theorem Q3i (a b:Nm) (st:Q0e) (ha:a.w.length≤1000000000000) (hb:b.w.length≤1000000000000):PCalls Tryz.prog 149 [.agg (encN a),.agg (encN b)] st (fun r st'=>r= .sc (.int .i64 (cmpR a b))∧st'=st):=by
 refine Q0b none Tryz.func149 rfl fun E=>Q0a ?_
 simp -dsimp only [go_sem]
 refine(j0c a st (by omega)).mono ?_
 rintro r st ⟨rfl,rfl⟩
 simp -dsimp only [go_sem]
 refine gkF (fun h=> ?_) (fun h=> ?_)
 · have h1:Q0g a=true:=by simpa using h
   simp -dsimp only [go_sem,h1]
   refine(j0c b st (by omega)).mono ?_
   rintro r st ⟨rfl,rfl⟩
   simp -dsimp only [go_sem]
   refine ck (fun h=> ?_) (fun h=> ?_)
   · have h2:Q0g b=false:=by simpa using h
     simp -dsimp only [go_sem]
     rw [cmpR,if_neg (by simp [h2])]
   · have h2:Q0g b=true:=by simpa using h
     simp -dsimp only [go_sem]
     refine Q0l Z0x 18 (.step 0 [] (.step 2 [] (.step 1 [2] (.step 3 [] (.step 4 [] (.step 5 [] (.done))))))) (by decide+kernel) (by simp) ?_
     simp -dsimp only [go_sem]
     refine(of_c a st (by omega)).mono ?_
     rintro r st ⟨rfl,rfl⟩
     simp -dsimp only [go_sem]
     refine(of_c b st (by omega)).mono ?_
     rintro r st ⟨rfl,rfl⟩
     simp -dsimp only [go_sem]
     refine(v1m _ _ st (Y2a (Q0u h1)) (Y2a (Q0u h2))).mono ?_
     rintro r st ⟨rfl,rfl⟩
     simp -dsimp only [go_sem]
     rw [cmpR,if_pos ⟨h1,h2⟩,Q1j]
 · have h1:Q0g a=false:=by simpa using h
   simp -dsimp only [go_sem,h1]
   rw [cmpR,if_neg (by simp [h1])]
end Go.Pv
end
section
/-Intervals:iv.Right,Of,Hull,In;num.Same,iv.Same. -/
set_option maxRecDepth 100000
namespace Go.Pv
open Go.Proofs
theorem K0q (x:Ivl) (st:Q0e) (hw:wI x):PCalls Tryz.prog 32 [.agg (encI x)] st (fun r st'=>r= .sc (.bool (Q0h x))∧st'=st):=by
 obtain⟨h1,h2⟩:=hw
 unfold wN at h1 h2
 refine Q0b none Tryz.func32 rfl fun E=>Q0a ?_
 simp -dsimp only [go_sem]
 refine(K0x x.lo st (by omega)).mono ?_
 rintro r st ⟨rfl,rfl⟩
 simp -dsimp only [go_sem]
 refine gkT (fun h=> ?_) (fun h=> ?_)
 · simp -dsimp only [go_sem,h]
   refine(K0x x.hi st (by omega)).mono ?_
   rintro r st ⟨rfl,rfl⟩
   simp -dsimp only [go_sem,h]
   refine gkT (fun h'=> ?_) (fun h'=> ?_)
   · simp -dsimp only [go_sem,h,h']
     refine(K1r x.lo x.hi st (Q0u h) (Q0u h')).mono ?_
     rintro r st ⟨rfl,rfl⟩
     simp -dsimp only [go_sem,h,h']
     simp [Q0h,h,h']
   · simp -dsimp only [go_sem,h,h']
     simp [Q0h,h,h']
 · simp -dsimp only [go_sem,h]
   simp [Q0h,h]
theorem X2b (x:Nm) (st:Q0e) (hw:wN x):PCalls Tryz.prog 180 [.agg (encN x)] st (fun r st'=>r= .agg (encN x)∧st'=st):=by
 unfold wN at hw
 refine Q0b none Tryz.func180 rfl fun E=>Q0a ?_
 simp -dsimp only [go_sem]
 omega
theorem j3a (x y:Nm) (st:Q0e) (hx:wN x) (hy:wN y):PCalls Tryz.prog 114 [.agg (encN x),.agg (encN y)] st (fun r st'=>r= .agg (encI ⟨x,y⟩)∧st'=st):=by
 refine Q0b none Tryz.func114 rfl fun E=>Q0a ?_
 simp -dsimp only [go_sem]
 refine Q0l Z0x 10 (.step 0 [] (.step 2 [] (.step 1 [2] (.step 3 [] (.step 4 [] (.step 5 [] (.done))))))) (by decide+kernel) (by simp) ?_
 simp -dsimp only [go_sem]
 refine(X2b x st hx).mono ?_
 rintro r st ⟨rfl,rfl⟩
 simp -dsimp only [go_sem]
 refine(X2b y st hy).mono ?_
 rintro r st ⟨rfl,rfl⟩
 simp -dsimp only [go_sem]
theorem j3x (x:Nm) (st:Q0e) (hx:wN x):PCalls Tryz.prog 55 [.agg (encN x)] st (fun r st'=>r= .agg (encI ⟨x,x⟩)∧st'=st):=by
 refine Q0b none Tryz.func55 rfl fun E=>Q0a ?_
 simp -dsimp only [go_sem]
 refine(j3a x x st hx hx).mono ?_
 rintro r st ⟨rfl,rfl⟩
 simp -dsimp only [go_sem]
theorem v1z (a b:Nm) (st:Q0e) (ha:sm a) (hb:sm b):PCalls Tryz.prog 217 [.agg (encN a),.agg (encN b)] st (fun r st'=>r= .agg (encN (Z0c a b))∧st'=st):=by
 refine Q0b none Tryz.func217 rfl fun E=>Q0a ?_
 simp -dsimp only [go_sem]
 refine(K1r b a st hb ha).mono ?_
 rintro r st ⟨rfl,rfl⟩
 simp -dsimp only [go_sem]
 refine ck (fun h=> ?_) (fun h=> ?_)
 · simp -dsimp only [go_sem]
   rw [Z0c,if_pos (of_decide_eq_true h)]
 · simp -dsimp only [go_sem]
   rw [Z0c,if_neg (of_decide_eq_false h)]
theorem Q1q (a b:Nm) (st:Q0e) (ha:sm a) (hb:sm b):PCalls Tryz.prog 218 [.agg (encN a),.agg (encN b)] st (fun r st'=>r= .agg (encN (Z0d a b))∧st'=st):=by
 refine Q0b none Tryz.func218 rfl fun E=>Q0a ?_
 simp -dsimp only [go_sem]
 refine(K1r b a st hb ha).mono ?_
 rintro r st ⟨rfl,rfl⟩
 simp -dsimp only [go_sem]
 refine ck (fun h=> ?_) (fun h=> ?_)
 · simp -dsimp only [go_sem]
   rw [Z0d,if_pos (of_decide_eq_true h)]
 · simp -dsimp only [go_sem]
   rw [Z0d,if_neg (of_decide_eq_false h)]
theorem k2x (g1 g2:FuncId) (f1 f2:Nm→Nm→Nm) (a b:Ivl) (st:Q0e) (c1:Q0c Tryz.prog g1=true) (c2:Q0c Tryz.prog g2=true)
 (h1:PCalls Tryz.prog g1 [.agg (encN a.lo),.agg (encN b.lo)] st (fun r st'=>r= .agg (encN (f1 a.lo b.lo))∧st'=st))
 (h2:PCalls Tryz.prog g2 [.agg (encN a.hi),.agg (encN b.hi)] st (fun r st'=>r= .agg (encN (f2 a.hi b.hi))∧st'=st))
 (w1:wN (f1 a.lo b.lo)) (w2:wN (f2 a.hi b.hi)):
 PCalls Tryz.prog 250 [.agg (encI a),.agg (encI b),.fn (.func g1) [] [],.fn (.func g2) [] []] st (fun r st'=>r= .agg (encI ⟨f1 a.lo b.lo,f2 a.hi b.hi⟩)∧st'=st):=by
 refine Q0b none Tryz.func250 rfl fun E=>Q0a ?_
 simp -dsimp only [go_sem]
 refine Q0l Z0x 22 (.step 0 [] (.step 1 [] (.step 2 [] (.step 3 [] (.step 4 [] (.step 6 [] (.step 7 [] (.step 8 [] (.step 9 [] (.step 10 [] (.step 5 [8,10] (.step 11 [] (.step 12 [] (.step 13 [] (.done))))))))))))))) (by decide+kernel) (by simp) ?_
 simp -dsimp only [go_sem,c1,c2]
 refine h1.mono ?_
 rintro r st ⟨rfl,rfl⟩
 simp -dsimp only [go_sem,c1,c2]
 refine h2.mono ?_
 rintro r st ⟨rfl,rfl⟩
 simp -dsimp only [go_sem]
 refine(j3a _ _ st w1 w2).mono ?_
 rintro r st ⟨rfl,rfl⟩
 simp -dsimp only [go_sem]
theorem w2u (a b:Ivl) (st:Q0e) (ha:wI a) (hb:wI b):PCalls Tryz.prog 232 [.agg (encI a),.agg (encI b)] st (fun r st'=>r= .tup [.agg (encI (q0t a b).1),.sc (.int .i64 (q0t a b).2)]∧st'=st):=by
 refine Q0b none Tryz.func232 rfl fun E=>Q0a ?_
 simp -dsimp only [go_sem]
 refine(K0q a st ha).mono ?_
 rintro r st ⟨rfl,rfl⟩
 simp -dsimp only [go_sem]
 refine gkF (fun h=> ?_) (fun h=> ?_)
 · have r1:Q0h a=true:=by simpa using h
   simp -dsimp only [go_sem,r1]
   refine(K0q b st hb).mono ?_
   rintro r st ⟨rfl,rfl⟩
   simp -dsimp only [go_sem]
   refine ck (fun h=> ?_) (fun h=> ?_)
   · have r2:Q0h b=false:=by simpa using h
     simp -dsimp only [go_sem]
     rw [q0t,if_neg (by simp [r2])];rfl
   · have r2:Q0h b=true:=by simpa using h
     obtain⟨a1,a2,_⟩:=Q0n r1
     obtain⟨b1,b2,_⟩:=Q0n r2
     have s1:=Q0u a1;have s2:=Q0u a2;have s3:=Q0u b1;have s4:=Q0u b2
     simp -dsimp only [go_sem]
     refine(k2x _ _ Z0c Z0d a b st rfl rfl (v1z a.lo b.lo st s1 s3) (Q1q a.hi b.hi st s2 s4) (w0y ha.1 hb.1) (y0b ha.2 hb.2)).mono ?_
     rintro r st ⟨rfl,rfl⟩
     simp -dsimp only [go_sem]
     rw [q0t,if_pos ⟨r1,r2⟩]
 · have r1:Q0h a=false:=by simpa using h
   simp -dsimp only [go_sem,r1]
   rw [q0t,if_neg (by simp [r1])];rfl
theorem U3b (a b:Ivl) (st:Q0e) (ha:wI a) (hb:wI b):PCalls Tryz.prog 96 [.agg (encI a),.agg (encI b),.sc (.int .i64 0)] st (fun r st'=>r= .sc (.bool (inI a b))∧st'=st):=by
 refine Q0b none Tryz.func96 rfl fun E=>Q0a ?_
 simp -dsimp only [go_sem]
 refine(K0q a st ha).mono ?_
 rintro r st ⟨rfl,rfl⟩
 simp -dsimp only [go_sem]
 refine gkT (fun h=> ?_) (fun h=> ?_)
 · simp -dsimp only [go_sem,h]
   refine(K0q b st hb).mono ?_
   rintro r st ⟨rfl,rfl⟩
   simp -dsimp only [go_sem,h]
   refine gkT (fun h'=> ?_) (fun h'=> ?_)
   · obtain⟨a1,a2,_⟩:=Q0n h
     obtain⟨b1,b2,_⟩:=Q0n h'
     simp -dsimp only [go_sem,h,h']
     refine(K1r a.lo b.lo st (Q0u a1) (Q0u b1)).mono ?_
     rintro r st ⟨rfl,rfl⟩
     simp -dsimp only [go_sem,h,h']
     refine gkT (fun h2=> ?_) (fun h2=> ?_)
     · simp -dsimp only [go_sem,h,h',h2]
       refine(K1r b.hi a.hi st (Q0u b2) (Q0u a2)).mono ?_
       rintro r st ⟨rfl,rfl⟩
       simp -dsimp only [go_sem,h,h',h2]
       have h2':0≤cmpN a.lo b.lo:=of_decide_eq_true h2
       simp [inI,h,h',h2']
     · have h2': ¬0≤cmpN a.lo b.lo:=of_decide_eq_false h2
       simp -dsimp only [go_sem,h,h',h2]
       simp [inI,h,h',h2']
   · simp -dsimp only [go_sem,h,h']
     simp [inI,h,h']
 · simp -dsimp only [go_sem,h]
   simp [inI,h]
theorem j3y (a b:Ivl) (st:Q0e) (ha:wI a) (hb:wI b):PCalls Tryz.prog 43 [.agg (encI a),.agg (encI b)] st (fun r st'=>r= .sc (.bool (inI a b))∧st'=st):=by
 refine Q0b none Tryz.func43 rfl fun E=>Q0a ?_
 simp -dsimp only [go_sem]
 refine(U3b a b st ha hb).mono ?_
 rintro r st ⟨rfl,rfl⟩
 simp -dsimp only [go_sem]
end Go.Pv
end
section
/-Boxes:box.Right,all,In,Same,each,pairs,Hull. -/
set_option maxRecDepth 100000
namespace Go.Pv
open Go.Proofs
theorem y1j {α:Type} (d:α) (f:α→Bool) (l:List α):l.all f=true↔ ∀i,i<l.length→f (l.getD i d)=true:=by
 rw [List.all_eq_true]
 constructor
 · intro h i hi
   exact h _ (Q0t l i d hi)
 · intro h x hx
   obtain⟨i,hi,rfl⟩:=List.mem_iff_getElem.1 hx
   have:=h i hi
   rwa [List.getD_eq_getElem?_getD,List.getElem?_eq_getElem hi] at this
theorem Z3h {α:Type} (f:α→Bool) (l:List α) (i:Nat) (d:α) (h:i<l.length):(l.take (i+1)).all f=((l.take i).all f&&f (l.getD i d)):=by
 rw [X1x l i d h,List.all_append];simp
theorem K0g (l:List Ivl) (st:Q0e) (hw:wB l):PCalls Tryz.prog 86 [.sl .no (Q0m l)] st (fun r st'=>r= .sc (.bool (rightB l))∧st'=st):=by
 obtain⟨hl,hw⟩:=hw
 refine Q0b none Tryz.func86 rfl fun E=>Q0a ?_
 simp -dsimp only [go_sem]
 refine Q0f [true,false,false,false,false,true,true,true] 0 0 (fun n s=> ∃i,n=l.length-i∧i≤l.length∧(l.take i).all Q0h=true∧s=⟨[.sl .no (Q0m l),.junk,.junk,.junk,.junk,.sl .no (Q0m l),.sc (.int .i64 l.length),.sc (.int .i64 i)]++List.replicate 15 .junk,[],[],st⟩) l.length ?_ ?_
 · simp -dsimp only [go_sem]
   exact⟨0,by omega,by omega,rfl,rfl⟩
 · rintro n s ⟨i,rfl,hi,hr,rfl⟩
   simp -dsimp only [go_sem]
   refine ck (fun h=> ?_) (fun h=> ?_)
   · have hlt:i<l.length:=by have:=of_decide_eq_true h;omega
     have e1:=K0t l i hlt
     have e3:IntKind.i64.wrap ((i:Int)+1)=((i+1:Nat):Int):=by rw [Q0j _ (by omega) (by omega)];omega
     have e4:=Z3h Q0h l i default hlt
     simp -dsimp only [go_sem,e1]
     refine⟨by omega,?_⟩
     refine(K0q _ st (hw i hlt)).mono ?_
     rintro r st ⟨rfl,rfl⟩
     simp -dsimp only [go_sem,e1]
     refine ck (fun h=> ?_) (fun h=> ?_)
     · have hf:Q0h (l.getD i default)=false:=by simpa using h
       simp -dsimp only [go_sem]
       have:rightB l=false:=by
        cases hb:rightB l with
        | false=>rfl
        | true=>
         unfold rightB at hb
         simp only [Bool.and_eq_true] at hb
         have:=(y1j default Q0h l).1 hb.1.1 i hlt
         rw [this] at hf;cases hf
       rw [this]
     · have ht:Q0h (l.getD i default)=true:=by simpa using h
       simp -dsimp only [go_sem,e3]
       exact⟨l.length-(i+1),by omega,i+1,rfl,by omega,by rw [e4,hr,ht];rfl,rfl⟩
   · have hge:i=l.length:=by have:=of_decide_eq_false h;omega
     simp -dsimp only [go_sem]
     refine Q0a ?_
     simp -dsimp only [go_sem]
     have hall:l.all Q0h=true:=by rw [←List.take_length (l:=l),←hge];exact hr
     refine gkT (fun h=> ?_) (fun h=> ?_)
     · have h1:1≤l.length:=by have:=of_decide_eq_true h;omega
       simp -dsimp only [go_sem,h]
       have:rightB l=decide ((l.length:Int)≤4):=by
        unfold rightB
        rw [hall,decide_eq_true h1]
        simp only [Bool.true_and]
        exact decide_eq_decide.2 (by omega)
       rw [this]
     · have h1: ¬1≤l.length:=by have:=of_decide_eq_false h;omega
       simp -dsimp only [go_sem,h]
       have:rightB l=false:=by unfold rightB;rw [decide_eq_false h1];simp
       rw [this]
theorem x2j {α:Type} [Inhabited α] (f:α→α→Bool) (a b:List α) (hl:a.length=b.length):allF f a b=(List.range a.length).all fun i=>f (a.getD i default) (b.getD i default):=by
 unfold allF;rw [decide_eq_true hl];rfl
theorem Q3v (g:FuncId) (f:Ivl→Ivl→Bool) (a b:List Ivl) (st:Q0e) (hc:Q0c Tryz.prog g=true) (ha:a.length≤100000000000) (hb:b.length≤100000000000)
 (h: ∀i,i<a.length→i<b.length→PCalls Tryz.prog g [.agg (encI (a.getD i default)),.agg (encI (b.getD i default))] st (fun r st'=>r= .sc (.bool (f (a.getD i default) (b.getD i default)))∧st'=st)):
 PCalls Tryz.prog 123 [.sl .no (Q0m a),.sl .no (Q0m b),.fn (.func g) [] []] st (fun r st'=>r= .sc (.bool (allF f a b))∧st'=st):=by
 refine Q0b none Tryz.func123 rfl fun E=>Q0a ?_
 simp -dsimp only [go_sem]
 refine ck (fun h0=> ?_) (fun h0=> ?_)
 · have hne:=Z1i h0
   simp -dsimp only [go_sem]
   have:allF f a b=false:=by unfold allF;rw [decide_eq_false hne];rfl
   rw [this]
 · have hl:=j0v h0
   rw [x2j f a b hl]
   simp -dsimp only [go_sem]
   refine Q0f [true,true,true,false,false,false,false,false,false,false,false,false,false,false,true,true] 0 0 (fun n s=> ∃i,n=a.length-i∧i≤a.length∧(∀j,j<i→f (a.getD j default) (b.getD j default)=true)∧s=⟨[.sl .no (Q0m a),.sl .no (Q0m b),.fn (.func g) [] [],.junk,.junk,.junk,.junk,.junk,.junk,.junk,.junk,.junk,.junk,.junk,.sc (.int .i64 a.length),.sc (.int .i64 i)]++List.replicate 14 .junk,[],[],st⟩) a.length ?_ ?_
   · simp -dsimp only [go_sem]
     exact⟨0,by omega,by omega,fun j hj=>by omega,rfl⟩
   · rintro n s ⟨i,rfl,hi,hr,rfl⟩
     simp -dsimp only [go_sem]
     refine ck (fun h'=> ?_) (fun h'=> ?_)
     · have hlt:i<a.length:=by have:=of_decide_eq_true h';omega
       have e1:=K0t a i hlt
       have e2:=K0t b i (by omega)
       have e3:IntKind.i64.wrap ((i:Int)+1)=((i+1:Nat):Int):=by rw [Q0j _ (by omega) (by omega)];omega
       simp -dsimp only [go_sem]
       refine Q0l Z0x 30 (.step 0 [] (.step 1 [] (.step 2 [] (.step 3 [] (.step 4 [] (.step 5 [] (.step 6 [] (.step 7 [] (.step 8 [] (.step 9 [] (.step 10 [] (.done)))))))))))) (by decide+kernel) (by simp) ?_
       simp -dsimp only [go_sem,e1,e2,hc]
       refine⟨by omega,by omega,?_⟩
       refine(h i hlt (by omega)).mono ?_
       rintro r st ⟨rfl,rfl⟩
       simp -dsimp only [go_sem]
       refine ck (fun h2=> ?_) (fun h2=> ?_)
       · have hf:f (a.getD i default) (b.getD i default)=false:=by simpa using h2
         simp -dsimp only [go_sem]
         have:((List.range a.length).all fun i=>f (a.getD i default) (b.getD i default))=false:=by
          rw [List.all_eq_false];exact⟨i,by simpa using hlt,fun e=>by rw [hf] at e;cases e⟩
         first | rw [this] | rw [←List.range_eq_range',this]
       · have ht:f (a.getD i default) (b.getD i default)=true:=by simpa using h2
         simp -dsimp only [go_sem,e3]
         refine⟨a.length-(i+1),by omega,i+1,rfl,by omega,fun j hj=> ?_,rfl⟩
         by_cases e:j=i
         · subst e;exact ht
         · exact hr j (by omega)
     · have hge:i=a.length:=by have:=of_decide_eq_false h';omega
       simp -dsimp only [go_sem]
       refine Q0a ?_
       simp -dsimp only [go_sem]
       have:((List.range a.length).all fun i=>f (a.getD i default) (b.getD i default))=true:=by
        rw [List.all_eq_true];intro j hj;exact hr j (by rw [hge];simpa using hj)
       first | rw [this] | rw [←List.range_eq_range',this]
theorem y1e (a b:List Ivl) (st:Q0e) (ha:wB a) (hb:wB b):PCalls Tryz.prog 60 [.sl .no (Q0m a),.sl .no (Q0m b)] st (fun r st'=>r= .sc (.bool (inB a b))∧st'=st):=by
 refine Q0b none Tryz.func60 rfl fun E=>Q0a ?_
 simp -dsimp only [go_sem]
 refine(K0g a st ha).mono ?_
 rintro r st ⟨rfl,rfl⟩
 simp -dsimp only [go_sem]
 refine gkT (fun h=> ?_) (fun h=> ?_)
 · simp -dsimp only [go_sem,h]
   refine(K0g b st hb).mono ?_
   rintro r st ⟨rfl,rfl⟩
   simp -dsimp only [go_sem,h]
   refine gkT (fun h'=> ?_) (fun h'=> ?_)
   · simp -dsimp only [go_sem,h,h']
     refine(Q3v _ inI a b st rfl ha.1 hb.1 fun i h1 h2=>j3y _ _ st (ha.2 i h1) (hb.2 i h2)).mono ?_
     rintro r st ⟨rfl,rfl⟩
     simp -dsimp only [go_sem,h,h']
     simp [inB,h,h']
   · simp -dsimp only [go_sem,h,h']
     simp [inB,h,h']
 · simp -dsimp only [go_sem,h]
   simp [inB,h]
theorem V2n {α β:Type} [Inhabited α] (F:Nat→α→β×Int) (l:List α) (i:Nat) (acc:List β) (h:i<l.length):W0e F i (l.drop i) acc=if (F i (l.getD i default)).2≠0 then([],(F i (l.getD i default)).2) else W0e F (i+1) (l.drop (i+1)) (acc++ [(F i (l.getD i default)).1]):=by
 rw [List.drop_eq_getElem_cons h,W0e,List.getD_eq_getElem?_getD,List.getElem?_eq_getElem h];rfl
theorem q2r (g:FuncId) (caps:List PV) (F:Nat→Ivl→Ivl×Int) (l:List Ivl) (st:Q0e) (hc:Q0c Tryz.prog g=true) (hl:l.length≤100000000000) (h1:caps.all PV.closed2=true) (h1':caps.all PV.closed1=true) (h2:caps.map PV.forget2=caps) (h2':caps.map PV.forget1=caps) (hlim:caps.all (PV.lim1 0 1)=true)
 (h: ∀i,i<l.length→PCalls Tryz.prog g ([.sc (.int .i64 i),.agg (encI (l.getD i default))]++caps) st (fun r st'=>r= .tup [.agg (encI (F i (l.getD i default)).1),.sc (.int .i64 (F i (l.getD i default)).2)]∧st'=st)):
 PCalls Tryz.prog 228 [.sl .no (Q0m l),.fn (.func g) [] caps] st (fun r st'=>r= .tup [.sl .no (Q0m (W0e F 0 l []).1),.sc (.int .i64 (W0e F 0 l []).2)]∧st'=st):=by
 refine Q0b none Tryz.func228 rfl fun E=>Q0a ?_
 simp -dsimp only [go_sem]
 refine X0y 6 6 ?_
 simp -dsimp only [go_sem]
 refine Q0f [false,true,false,false,false,false,true,false,false,false,false,true,true,true] 0 1 (fun n s=> ∃i o,n=l.length-i∧i≤l.length∧o.length=i∧W0e F 0 l []=W0e F i (l.drop i) o∧s=⟨[.junk,.fn (.func g) [] caps,.junk,.junk,.junk,.junk,.sl (.own 0) (Q0m o),.junk,.junk,.junk,.junk,.sl .no (Q0m l),.sc (.int .i64 l.length),.sc (.int .i64 i)]++List.replicate 20 .junk,[],[(o.length,6)],st⟩) l.length ?_ ?_
 · simp -dsimp only [go_sem,hlim]
   exact⟨0,[],by omega,by omega,rfl,rfl,rfl⟩
 · rintro n s ⟨i,o,rfl,hi,ho,hr,rfl⟩
   simp -dsimp only [go_sem]
   refine ck (fun h'=> ?_) (fun h'=> ?_)
   · have hlt:i<l.length:=by have:=of_decide_eq_true h';omega
     have e1:=K0t l i hlt
     have e3:IntKind.i64.wrap ((i:Int)+1)=((i+1:Nat):Int):=by rw [Q0j _ (by omega) (by omega)];omega
     have e4:=V2n F l i o hlt
     simp -dsimp only [go_sem,e1,hc,h1,h2]
     refine⟨by omega,?_⟩
     refine(h i hlt).mono ?_
     rintro r st ⟨rfl,rfl⟩
     simp -dsimp only [go_sem,e1]
     refine ck (fun h2=> ?_) (fun h2=> ?_)
     · have hne:=V0p h2
       simp -dsimp only [go_sem]
       rw [hr,e4,if_pos hne];rfl
     · have he:=W0y h2
       simp -dsimp only [go_sem,e3,hlim]
       refine⟨by omega,l.length-(i+1),by omega,i+1,o++ [(F i (l.getD i default)).1],rfl,by omega,by simp [ho],?_,?_⟩
       · rw [hr,e4,if_neg (fun hh=>hh he)]
       · simp [Q0m,encI]
   · have hge:i=l.length:=by have:=of_decide_eq_false h';omega
     simp -dsimp only [go_sem]
     refine Q0a ?_
     simp -dsimp only [go_sem]
     rw [hr,hge,List.drop_length];rfl
end Go.Pv
end
section
/-Boxes:pairs,Hull. -/
set_option maxRecDepth 100000
namespace Go.Pv
open Go.Proofs
theorem k2y (g:FuncId) (G:Ivl→Ivl→Ivl×Int) (i:Nat) (x:Ivl) (b:List Ivl) (st:Q0e) (hc:Q0c Tryz.prog g=true) (hi:i<b.length)
 (h:PCalls Tryz.prog g [.agg (encI x),.agg (encI (b.getD i default))] st (fun r st'=>r= .tup [.agg (encI (G x (b.getD i default)).1),.sc (.int .i64 (G x (b.getD i default)).2)]∧st'=st)):
 PCalls Tryz.prog 229 ([.sc (.int .i64 i),.agg (encI x)]++ [.ep [.fn (.func g) [] []] 0,.ep [.sl .no (Q0m b)] 0]) st (fun r st'=>r= .tup [.agg (encI (G x (b.getD i default)).1),.sc (.int .i64 (G x (b.getD i default)).2)]∧st'=st):=by
 refine Q0b none Tryz.func229 rfl fun E=>Q0a ?_
 simp -dsimp only [go_sem]
 have e1:=K0t b i hi
 refine Q0l Z0x 17 (.step 0 [] (.step 1 [] (.step 2 [] (.step 3 [] (.step 4 [] (.step 5 [] (.step 6 [] (.step 7 [] (.step 8 [] (.step 9 [] (.step 10 [] (.done)))))))))))) (by decide+kernel) (by simp) ?_
 simp -dsimp only [go_sem,e1,hc]
 refine⟨by omega,?_⟩
 refine h.mono ?_
 rintro r st ⟨rfl,rfl⟩
 simp -dsimp only [go_sem]
def H0t (G:Ivl→Ivl→Ivl×Int) (a b:List Ivl):List Ivl×Int:=if rightB a=true∧rightB b=true∧a.length=b.length then W0e (fun i x=>G x (b.getD i default)) 0 a [] else([],1)
theorem W3b (g:FuncId) (G:Ivl→Ivl→Ivl×Int) (a b:List Ivl) (st:Q0e) (hc:Q0c Tryz.prog g=true) (ha:wB a) (hb:wB b)
 (h:rightB a=true→rightB b=true→ ∀i,i<a.length→i<b.length→PCalls Tryz.prog g [.agg (encI (a.getD i default)),.agg (encI (b.getD i default))] st (fun r st'=>r= .tup [.agg (encI (G (a.getD i default) (b.getD i default)).1),.sc (.int .i64 (G (a.getD i default) (b.getD i default)).2)]∧st'=st)):
 PCalls Tryz.prog 183 [.sl .no (Q0m a),.sl .no (Q0m b),.fn (.func g) [] []] st (fun r st'=>r= .tup [.sl .no (Q0m (H0t G a b).1),.sc (.int .i64 (H0t G a b).2)]∧st'=st):=by
 refine Q0b none Tryz.func183 rfl fun E=>Q0v (Q0a ?_)
 simp -dsimp only [go_sem]
 refine Z0w 0 ?_ ?_
 · simp -dsimp only [go_sem]
 simp -dsimp only [go_sem]
 refine Z0w 1 ?_ ?_
 · simp -dsimp only [go_sem]
 refine Q0a ?_
 simp -dsimp only [go_sem]
 refine(K0g a st ha).mono ?_
 rintro r st ⟨rfl,rfl⟩
 simp -dsimp only [go_sem]
 have bad: ∀st:Q0e,¬(rightB a=true∧rightB b=true∧a.length=b.length)→H0t G a b=([],1):=fun _ h=>if_neg h
 refine gkF (fun h1=> ?_) (fun h1=> ?_)
 · have r1:rightB a=true:=by simpa using h1
   simp -dsimp only [go_sem,r1]
   refine(K0g b st hb).mono ?_
   rintro r st ⟨rfl,rfl⟩
   simp -dsimp only [go_sem,r1]
   refine gkF (fun h2=> ?_) (fun h2=> ?_)
   · have r2:rightB b=true:=by simpa using h2
     simp -dsimp only [go_sem,r1,r2]
     refine ck (fun h3=> ?_) (fun h3=> ?_)
     · have hne:=Z1i h3
       simp -dsimp only [go_sem]
       rw [bad st (fun h=>hne h.2.2)];rfl
     · have hl:=j0v h3
       simp -dsimp only [go_sem]
       refine(q2r _ [.ep [.fn (.func g) [] []] 0,.ep [.sl .no (Q0m b)] 0] (fun i x=>G x (b.getD i default)) a st rfl ha.1 rfl rfl rfl rfl rfl fun i hi=>k2y g G i _ b st hc (by omega) (h r1 r2 i hi (by omega))).mono ?_
       rintro r st ⟨rfl,rfl⟩
       simp -dsimp only [go_sem]
       rw [H0t,if_pos ⟨r1,r2,hl⟩]
   · have r2:rightB b=false:=by simpa using h2
     simp -dsimp only [go_sem,r1,r2]
     rw [bad st (fun h=>by simp [r2] at h)];rfl
 · have r1:rightB a=false:=by simpa using h1
   simp -dsimp only [go_sem,r1]
   rw [bad st (fun h=>by simp [r1] at h)];rfl
theorem y2a (a b:List Ivl):Y0g a b=H0t q0t a b:=rfl
theorem z2s (a b:List Ivl) (st:Q0e) (ha:wB a) (hb:wB b):PCalls Tryz.prog 191 [.sl .no (Q0m a),.sl .no (Q0m b)] st (fun r st'=>r= .tup [.sl .no (Q0m (Y0g a b).1),.sc (.int .i64 (Y0g a b).2)]∧st'=st):=by
 refine Q0b none Tryz.func191 rfl fun E=>Q0a ?_
 simp -dsimp only [go_sem]
 refine(W3b _ q0t a b st rfl ha hb fun _ _ i h1 h2=>w2u _ _ st (ha.2 i h1) (hb.2 i h2)).mono ?_
 rintro r st ⟨rfl,rfl⟩
 simp -dsimp only [go_sem,y2a]
end Go.Pv
end
section
/-The document's intervals:RightIv,Hull,Meet,SameIv. -/
set_option maxRecDepth 100000
namespace Go.Pv
open Go.Proofs
def q4p (a b:Ivl):Ivl×Int:=if Q0h a=true∧Q0h b=true then(if cmpN (Z0d a.lo b.lo) (Z0c a.hi b.hi)>0 then(default,4) else(⟨Z0d a.lo b.lo,Z0c a.hi b.hi⟩,0)) else(default,1)
end Go.Pv
end
