/- Parts of the walk: F16, F17, F18, F19, F20. -/
import Derived.Test.YtagacielooaapaaGreatDoorZG
import Derived.Test.YtagacielooaapaaGreatDoorZE
set_option linter.unusedVariables false
set_option linter.unusedSimpArgs false
section
/-The document's values:Of,Turned,Plus,Less,Sign,Order,CmpNum. -/
set_option maxRecDepth 100000
namespace Go.Pv
open Go.Proofs
theorem of_c (x:Nm) (st:Q0g) (hl:x.w.length≤1000000000000):PCalls Tryz.prog 27 [.agg (encN x)] st (fun r st'=>r= .agg (encV (ofN x))∧st'=st):=by
 refine Q0b none Tryz.func27 rfl fun E=>Q0a ?_
 simp -dsimp only [go_sem]
 refine Q0l Z0k 11 (.step 0 [] (.step 1 [] (.step 2 [] (.step 3 [] (.step 5 [] (.step 6 [] (.step 4 [1,6] (.step 7 [] (.step 8 [] (.done)))))))))) (by decide+kernel) (by simp) ?_
 simp -dsimp only [go_sem]
 refine(G2o x.w st hl).mono ?_
 rintro r st ⟨rfl,rfl⟩
 simp -dsimp only [go_sem]
 rfl
theorem lenV (m:Nat):((((Q0c m).length:Nat):Int)==0)=decide (m=0):=by
 by_cases h:m=0
 · subst h;rw [Z0f];rfl
 · rw [decide_eq_false h]
   have:(Q0c m).length≠0:=fun e=>h (digitsOf_nil.1 (List.length_eq_zero_iff.1 e))
   exact beq_eq_false_iff_ne.2 (by omega)
theorem X1i (v:Vl) (st:Q0g):PCalls Tryz.prog 118 [.agg (encV v)] st (fun r st'=>r= .agg (encV (J0x v))∧st'=st):=by
 refine Q0b none Tryz.func118 rfl fun E=>Q0a ?_
 simp -dsimp only [go_sem]
 refine ck (fun h=> ?_) (fun h=> ?_)
 · have h0:v.m≠0:=fun e=>by rw [e,Z0f] at h;cases h
   simp -dsimp only [go_sem]
   rw [J0x,if_neg h0]
 · have h0:v.m=0:=by
    have:=of_decide_eq_false h
    exact digitsOf_nil.1 (List.length_eq_zero_iff.1 (by omega))
   simp -dsimp only [go_sem]
   rw [J0x,if_pos h0]
theorem W0n (v:Vl) (st:Q0g):PCalls Tryz.prog 29 [.agg (encV v)] st (fun r st'=>r= .sc (.int .i64 (X0n v))∧st'=st):=by
 refine Q0b none Tryz.func29 rfl fun E=>Q0a ?_
 simp -dsimp only [go_sem,lenV]
 refine ck (fun h=> ?_) (fun h=> ?_)
 · have h0:v.m=0:=of_decide_eq_true h
   simp -dsimp only [go_sem]
   rw [X0n,if_pos h0]
 · have h0:v.m≠0:=of_decide_eq_false h
   simp -dsimp only [go_sem]
   refine ck (fun h=> ?_) (fun h=> ?_)
   · simp -dsimp only [go_sem]
     rw [X0n,if_neg h0,if_pos h]
   · simp -dsimp only [go_sem]
     rw [X0n,if_neg h0,if_neg (by simp [h])]
def smV (v:Vl):Prop:=Q0f v.m≤1000000000000∧ -100000000000≤v.e∧v.e≤100000000000
theorem Z2l (v:Vl) (k:Nat):X0b v*2^k=if v.neg then -((v.m*2^k:Nat):Int) else((v.m*2^k:Nat):Int):=by
 unfold X0b
 cases v.neg
 · simp
 · simp [Int.neg_mul]
theorem x1f (a b:Vl) (st:Q0g) (ha:smV a) (hb:smV b):PCalls Tryz.prog 74 [.agg (encV a),.agg (encV b)] st (fun r st'=>r= .agg (encV (V0d a b))∧st'=st):=by
 obtain⟨a1,a2,a3⟩:=ha
 obtain⟨b1,b2,b3⟩:=hb
 refine Q0b none Tryz.func74 rfl fun E=>Q0a ?_
 simp -dsimp only [go_sem,lenV]
 refine ck (fun h=> ?_) (fun h=> ?_)
 · have h0:a.m=0:=of_decide_eq_true h
   simp -dsimp only [go_sem]
   rw [V0d,if_pos h0]
 · have ha0:a.m≠0:=of_decide_eq_false h
   simp -dsimp only [go_sem,lenV]
   refine ck (fun h=> ?_) (fun h=> ?_)
   · have h0:b.m=0:=of_decide_eq_true h
     simp -dsimp only [go_sem]
     rw [V0d,if_neg ha0,if_pos h0]
   · have hb0:b.m≠0:=of_decide_eq_false h
     simp -dsimp only [go_sem]
     have hmin:(if b.e<a.e then b.e else a.e)=min a.e b.e:=by split<;>omega
     have w1:IntKind.i64.wrap (a.e-min a.e b.e)=(((a.e-min a.e b.e).toNat:Nat):Int):=by rw [Q0h _ (by omega) (by omega)];omega
     have w2:IntKind.i64.wrap (b.e-min a.e b.e)=(((b.e-min a.e b.e).toNat:Nat):Int):=by rw [Q0h _ (by omega) (by omega)];omega
     have la:=Z0n a.m
     have lb:=Z0n b.m
     have l1:=V0e a.m (a.e-min a.e b.e).toNat
     have l2:=V0e b.m (b.e-min a.e b.e).toNat
     have px:a.m*2^(a.e-min a.e b.e).toNat≠0:=Nat.mul_ne_zero ha0 (by have:0<2^(a.e-min a.e b.e).toNat:=Nat.pow_pos (by decide)
                                                                      omega)
     have py:b.m*2^(b.e-min a.e b.e).toNat≠0:=Nat.mul_ne_zero hb0 (by have:0<2^(b.e-min a.e b.e).toNat:=Nat.pow_pos (by decide)
                                                                      omega)
     have hspec:V0d a b=mkV ((if a.neg then -((a.m*2^(a.e-min a.e b.e).toNat:Nat):Int) else((a.m*2^(a.e-min a.e b.e).toNat:Nat):Int))+(if b.neg then -((b.m*2^(b.e-min a.e b.e).toNat:Nat):Int) else((b.m*2^(b.e-min a.e b.e).toNat:Nat):Int))) (min a.e b.e):=by
      rw [V0d,if_neg ha0,if_neg hb0,Z2l,Z2l]
     have he1:(a.e-min a.e b.e).toNat≤200000000000:=by omega
     have he2:(b.e-min a.e b.e).toNat≤200000000000:=by omega
     have hm1: -100000000000≤min a.e b.e:=by omega
     have hm2:min a.e b.e≤100000000000:=by omega
     rw [hmin]
     refine Q0l Z0k 71 (.step 0 [] (.step 1 [] (.step 2 [] (.step 3 [] (.step 4 [] (.step 5 [] (.step 7 [] (.step 8 [] (.step 9 [] (.step 10 [] (.step 11 [] (.step 12 [] (.step 6 [8,10] (.step 13 [] (.step 14 [] (.step 15 [] (.done))))))))))))))))) (by decide+kernel) (by simp) ?_
     simp -dsimp only [go_sem,w1,w2]
     refine(x0a a.m _ st (by omega) (by omega)).mono ?_
     rintro r st ⟨rfl,rfl⟩
     simp -dsimp only [go_sem,w1,w2]
     refine(x0a b.m _ st (by omega) (by omega)).mono ?_
     rintro r st ⟨rfl,rfl⟩
     simp -dsimp only [go_sem,w1,w2]
     rw [hspec]
     generalize a.m*2^(a.e-min a.e b.e).toNat=x at*
     generalize b.m*2^(b.e-min a.e b.e).toNat=y at*
     generalize min a.e b.e=e at*
     have lx:=Z0n x
     have ly:=Z0n y
     have ls:=U0s x y
     refine ck (fun h=> ?_) (fun h=> ?_)
     · have hn:a.neg=b.neg:=by simpa using h
       simp -dsimp only [go_sem]
       refine Q0l Z0k 71 (.step 0 [] (.step 1 [] (.step 2 [] (.step 3 [] (.step 5 [] (.step 4 [1] (.step 6 [] (.step 7 [] (.done))))))))) (by decide+kernel) (by simp) ?_
       simp -dsimp only [go_sem]
       refine(X1m x y st (by omega) (by omega)).mono ?_
       rintro r st ⟨rfl,rfl⟩
       simp -dsimp only [go_sem]
       refine(W1w a.neg (x+y) e st (by omega) (by omega) (by omega)).mono ?_
       rintro r st ⟨rfl,rfl⟩
       simp -dsimp only [go_sem]
       have:mkV ((if a.neg then -(x:Int) else x)+(if b.neg then -(y:Int) else y)) e=oddV a.neg (x+y) e:=by
        rw [←hn]
        unfold mkV
        cases a.neg
        · simp only [Bool.false_eq_true,if_false]
          rw [decide_eq_false (by omega),show((x:Int)+y).natAbs=x+y from by omega]
        · simp only [if_true]
          rw [decide_eq_true (by omega),show(-(x:Int)+ -(y:Int)).natAbs=x+y from by omega]
       rw [this]
     · have hn:a.neg= !b.neg:=by cases hx:a.neg<;>cases hy:b.neg<;>simp [hx,hy] at h⊢
       simp -dsimp only [go_sem]
       refine(Z2a x y st (by omega) (by omega)).mono ?_
       rintro r st ⟨rfl,rfl⟩
       simp -dsimp only [go_sem]
       by_cases hxy:y<x
       · have c1:cmpW x y=1:=U0b (by omega)
         have l3:=X0p (Nat.sub_le x y)
         simp -dsimp only [go_sem,c1]
         refine Q0l Z0k 71 (.step 0 [] (.step 1 [] (.step 2 [] (.step 3 [] (.step 5 [] (.step 4 [1] (.step 6 [] (.step 7 [] (.done))))))))) (by decide+kernel) (by simp) ?_
         simp -dsimp only [go_sem]
         refine(G1v x y st (by omega) (by omega)).mono ?_
         rintro r st ⟨rfl,rfl⟩
         simp -dsimp only [go_sem]
         refine(W1w a.neg (x-y) e st (by omega) (by omega) (by omega)).mono ?_
         rintro r st ⟨rfl,rfl⟩
         simp -dsimp only [go_sem]
         have:mkV ((if a.neg then -(x:Int) else x)+(if b.neg then -(y:Int) else y)) e=oddV a.neg (x-y) e:=by
          rw [hn]
          unfold mkV
          cases b.neg
          · simp only [Bool.not_false,if_true,Bool.false_eq_true,if_false]
            rw [decide_eq_true (by omega),show(-(x:Int)+y).natAbs=x-y from by omega]
          · simp only [Bool.not_true,if_true,Bool.false_eq_true,if_false]
            rw [decide_eq_false (by omega),show((x:Int)+ -(y:Int)).natAbs=x-y from by omega]
         rw [this]
       · by_cases hyx:x<y
         · have c1:cmpW x y= -1:=U0a (by omega)
           have l3:=X0p (Nat.sub_le y x)
           simp -dsimp only [go_sem,c1]
           refine Q0l Z0k 71 (.step 0 [] (.step 1 [] (.step 2 [] (.step 3 [] (.step 5 [] (.step 4 [1] (.step 6 [] (.step 7 [] (.done))))))))) (by decide+kernel) (by simp) ?_
           simp -dsimp only [go_sem]
           refine(G1v y x st (by omega) (by omega)).mono ?_
           rintro r st ⟨rfl,rfl⟩
           simp -dsimp only [go_sem]
           refine(W1w b.neg (y-x) e st (by omega) (by omega) (by omega)).mono ?_
           rintro r st ⟨rfl,rfl⟩
           simp -dsimp only [go_sem]
           have:mkV ((if a.neg then -(x:Int) else x)+(if b.neg then -(y:Int) else y)) e=oddV b.neg (y-x) e:=by
            rw [hn]
            unfold mkV
            cases b.neg
            · simp only [Bool.not_false,if_true,Bool.false_eq_true,if_false]
              rw [decide_eq_false (by omega),show(-(x:Int)+y).natAbs=y-x from by omega]
            · simp only [Bool.not_true,if_true,Bool.false_eq_true,if_false]
              rw [decide_eq_true (by omega),show((x:Int)+ -(y:Int)).natAbs=y-x from by omega]
           rw [this]
         · have hxy:x=y:=by omega
           subst hxy
           have c1:cmpW x x=0:=Z1a rfl
           simp -dsimp only [go_sem,c1]
           have:mkV ((if a.neg then -(x:Int) else x)+(if b.neg then -(x:Int) else x)) e=⟨false,0,0⟩:=by
            rw [hn]
            unfold mkV oddV
            cases b.neg<;>simp<;>omega
           rw [this,Z0f];rfl
theorem z3z (a b:Vl) (st:Q0g) (ha:smV a) (hb:smV b):PCalls Tryz.prog 57 [.agg (encV a),.agg (encV b)] st (fun r st'=>r= .agg (encV (q0i a b))∧st'=st):=by
 refine Q0b none Tryz.func57 rfl fun E=>Q0a ?_
 simp -dsimp only [go_sem]
 refine Q0l Z0k 9 (.step 0 [] (.step 1 [] (.step 2 [0] (.step 3 [] (.step 4 [] (.done)))))) (by decide+kernel) (by simp) ?_
 simp -dsimp only [go_sem]
 refine(X1i b st).mono ?_
 rintro r st ⟨rfl,rfl⟩
 simp -dsimp only [go_sem]
 refine(x1f a (J0x b) st ha (by unfold smV;rw [y0x,y0y];exact hb)).mono ?_
 rintro r st ⟨rfl,rfl⟩
 simp -dsimp only [go_sem]
 rfl
theorem w1n (a b:Vl) (st:Q0g) (ha:smV a) (hb:smV b):PCalls Tryz.prog 76 [.agg (encV a),.agg (encV b)] st (fun r st'=>r= .sc (.int .i64 (V0m a b))∧st'=st):=by
 refine Q0b none Tryz.func76 rfl fun E=>Q0a ?_
 simp -dsimp only [go_sem]
 refine(z3z a b st ha hb).mono ?_
 rintro r st ⟨rfl,rfl⟩
 simp -dsimp only [go_sem]
 refine(W0n _ st).mono ?_
 rintro r st ⟨rfl,rfl⟩
 simp -dsimp only [go_sem]
 rfl
theorem Y2u {x:Nm} (h:sm x):smV (ofN x):=by
 obtain⟨h1,h2,h3⟩:=h
 have:=W0u x.w
 unfold X0l at this
 refine⟨?_,?_,?_⟩
 · show Q0f (valW x.w)≤_;omega
 · show _≤x.exp;omega
 · show x.exp≤_;omega
theorem J1e (a b:Nm) (st:Q0g) (ha:a.w.length≤1000000000000) (hb:b.w.length≤1000000000000):PCalls Tryz.prog 149 [.agg (encN a),.agg (encN b)] st (fun r st'=>r= .sc (.int .i64 (cmpR a b))∧st'=st):=by
 refine Q0b none Tryz.func149 rfl fun E=>Q0a ?_
 simp -dsimp only [go_sem]
 refine(Y0a a st (by omega)).mono ?_
 rintro r st ⟨rfl,rfl⟩
 simp -dsimp only [go_sem]
 refine gkF (fun h=> ?_) (fun h=> ?_)
 · have h1:Q0j a=true:=by simpa using h
   simp -dsimp only [go_sem,h1]
   refine(Y0a b st (by omega)).mono ?_
   rintro r st ⟨rfl,rfl⟩
   simp -dsimp only [go_sem]
   refine ck (fun h=> ?_) (fun h=> ?_)
   · have h2:Q0j b=false:=by simpa using h
     simp -dsimp only [go_sem]
     rw [cmpR,if_neg (by simp [h2])]
   · have h2:Q0j b=true:=by simpa using h
     simp -dsimp only [go_sem]
     refine Q0l Z0k 18 (.step 0 [] (.step 2 [] (.step 1 [2] (.step 3 [] (.step 4 [] (.step 5 [] (.done))))))) (by decide+kernel) (by simp) ?_
     simp -dsimp only [go_sem]
     refine(of_c a st (by omega)).mono ?_
     rintro r st ⟨rfl,rfl⟩
     simp -dsimp only [go_sem]
     refine(of_c b st (by omega)).mono ?_
     rintro r st ⟨rfl,rfl⟩
     simp -dsimp only [go_sem]
     refine(w1n _ _ st (Y2u (J0b h1)) (Y2u (J0b h2))).mono ?_
     rintro r st ⟨rfl,rfl⟩
     simp -dsimp only [go_sem]
     rw [cmpR,if_pos ⟨h1,h2⟩,Q1m]
 · have h1:Q0j a=false:=by simpa using h
   simp -dsimp only [go_sem,h1]
   rw [cmpR,if_neg (by simp [h1])]
end Go.Pv
end
section
/-Intervals:iv.Right,Of,Hull,In;num.Same,iv.Same. -/
set_option maxRecDepth 100000
namespace Go.Pv
open Go.Proofs
theorem Y0s (x:Ivl) (st:Q0g) (hw:wI x):PCalls Tryz.prog 32 [.agg (encI x)] st (fun r st'=>r= .sc (.bool (Q0i x))∧st'=st):=by
 obtain⟨h1,h2⟩:=hw
 unfold wN at h1 h2
 refine Q0b none Tryz.func32 rfl fun E=>Q0a ?_
 simp -dsimp only [go_sem]
 refine(U0w x.lo st (by omega)).mono ?_
 rintro r st ⟨rfl,rfl⟩
 simp -dsimp only [go_sem]
 refine gkT (fun h=> ?_) (fun h=> ?_)
 · simp -dsimp only [go_sem,h]
   refine(U0w x.hi st (by omega)).mono ?_
   rintro r st ⟨rfl,rfl⟩
   simp -dsimp only [go_sem,h]
   refine gkT (fun h'=> ?_) (fun h'=> ?_)
   · simp -dsimp only [go_sem,h,h']
     refine(V1s x.lo x.hi st (J0b h) (J0b h')).mono ?_
     rintro r st ⟨rfl,rfl⟩
     simp -dsimp only [go_sem,h,h']
     simp [Q0i,h,h']
   · simp -dsimp only [go_sem,h,h']
     simp [Q0i,h,h']
 · simp -dsimp only [go_sem,h]
   simp [Q0i,h]
theorem X2z (x:Nm) (st:Q0g) (hw:wN x):PCalls Tryz.prog 180 [.agg (encN x)] st (fun r st'=>r= .agg (encN x)∧st'=st):=by
 unfold wN at hw
 refine Q0b none Tryz.func180 rfl fun E=>Q0a ?_
 simp -dsimp only [go_sem]
 omega
theorem z3o (x y:Nm) (st:Q0g) (hx:wN x) (hy:wN y):PCalls Tryz.prog 114 [.agg (encN x),.agg (encN y)] st (fun r st'=>r= .agg (encI ⟨x,y⟩)∧st'=st):=by
 refine Q0b none Tryz.func114 rfl fun E=>Q0a ?_
 simp -dsimp only [go_sem]
 refine Q0l Z0k 10 (.step 0 [] (.step 2 [] (.step 1 [2] (.step 3 [] (.step 4 [] (.step 5 [] (.done))))))) (by decide+kernel) (by simp) ?_
 simp -dsimp only [go_sem]
 refine(X2z x st hx).mono ?_
 rintro r st ⟨rfl,rfl⟩
 simp -dsimp only [go_sem]
 refine(X2z y st hy).mono ?_
 rintro r st ⟨rfl,rfl⟩
 simp -dsimp only [go_sem]
theorem X2m (x:Nm) (st:Q0g) (hx:wN x):PCalls Tryz.prog 55 [.agg (encN x)] st (fun r st'=>r= .agg (encI ⟨x,x⟩)∧st'=st):=by
 refine Q0b none Tryz.func55 rfl fun E=>Q0a ?_
 simp -dsimp only [go_sem]
 refine(z3o x x st hx hx).mono ?_
 rintro r st ⟨rfl,rfl⟩
 simp -dsimp only [go_sem]
theorem W3c (a b:Nm) (st:Q0g) (ha:sm a) (hb:sm b):PCalls Tryz.prog 217 [.agg (encN a),.agg (encN b)] st (fun r st'=>r= .agg (encN (Z0r a b))∧st'=st):=by
 refine Q0b none Tryz.func217 rfl fun E=>Q0a ?_
 simp -dsimp only [go_sem]
 refine(V1s b a st hb ha).mono ?_
 rintro r st ⟨rfl,rfl⟩
 simp -dsimp only [go_sem]
 refine ck (fun h=> ?_) (fun h=> ?_)
 · simp -dsimp only [go_sem]
   rw [Z0r,if_pos (of_decide_eq_true h)]
 · simp -dsimp only [go_sem]
   rw [Z0r,if_neg (of_decide_eq_false h)]
theorem V2z (a b:Nm) (st:Q0g) (ha:sm a) (hb:sm b):PCalls Tryz.prog 218 [.agg (encN a),.agg (encN b)] st (fun r st'=>r= .agg (encN (Z0q a b))∧st'=st):=by
 refine Q0b none Tryz.func218 rfl fun E=>Q0a ?_
 simp -dsimp only [go_sem]
 refine(V1s b a st hb ha).mono ?_
 rintro r st ⟨rfl,rfl⟩
 simp -dsimp only [go_sem]
 refine ck (fun h=> ?_) (fun h=> ?_)
 · simp -dsimp only [go_sem]
   rw [Z0q,if_pos (of_decide_eq_true h)]
 · simp -dsimp only [go_sem]
   rw [Z0q,if_neg (of_decide_eq_false h)]
theorem Y3c (a b:Ivl) (st:Q0g) (ha:wI a) (hb:wI b):PCalls Tryz.prog 96 [.agg (encI a),.agg (encI b),.sc (.int .i64 0)] st (fun r st'=>r= .sc (.bool (inI a b))∧st'=st):=by
 refine Q0b none Tryz.func96 rfl fun E=>Q0a ?_
 simp -dsimp only [go_sem]
 refine(Y0s a st ha).mono ?_
 rintro r st ⟨rfl,rfl⟩
 simp -dsimp only [go_sem]
 refine gkT (fun h=> ?_) (fun h=> ?_)
 · simp -dsimp only [go_sem,h]
   refine(Y0s b st hb).mono ?_
   rintro r st ⟨rfl,rfl⟩
   simp -dsimp only [go_sem,h]
   refine gkT (fun h'=> ?_) (fun h'=> ?_)
   · obtain⟨a1,a2,_⟩:=Q0p h
     obtain⟨b1,b2,_⟩:=Q0p h'
     simp -dsimp only [go_sem,h,h']
     refine(V1s a.lo b.lo st (J0b a1) (J0b b1)).mono ?_
     rintro r st ⟨rfl,rfl⟩
     simp -dsimp only [go_sem,h,h']
     refine gkT (fun h2=> ?_) (fun h2=> ?_)
     · simp -dsimp only [go_sem,h,h',h2]
       refine(V1s b.hi a.hi st (J0b b2) (J0b a2)).mono ?_
       rintro r st ⟨rfl,rfl⟩
       simp -dsimp only [go_sem,h,h',h2]
       have h2':0≤cmpN a.lo b.lo:=of_decide_eq_true h2
       simp [inI,h,h',h2']
     · have h2': ¬0≤cmpN a.lo b.lo:=of_decide_eq_false h2
       simp -dsimp only [go_sem,h,h',h2]
       simp [inI,h,h',h2']
   · simp -dsimp only [go_sem,h,h']
     simp [inI,h,h']
 · simp -dsimp only [go_sem,h]
   simp [inI,h]
theorem x3i (a b:Ivl) (st:Q0g) (ha:wI a) (hb:wI b):PCalls Tryz.prog 43 [.agg (encI a),.agg (encI b)] st (fun r st'=>r= .sc (.bool (inI a b))∧st'=st):=by
 refine Q0b none Tryz.func43 rfl fun E=>Q0a ?_
 simp -dsimp only [go_sem]
 refine(Y3c a b st ha hb).mono ?_
 rintro r st ⟨rfl,rfl⟩
 simp -dsimp only [go_sem]
end Go.Pv
end
section
/-Boxes:box.Right,all,In,Same,each,pairs,Hull. -/
set_option maxRecDepth 100000
namespace Go.Pv
open Go.Proofs
theorem W1o {α:Type} (d:α) (f:α→Bool) (l:List α):l.all f=true↔ ∀i,i<l.length→f (l.getD i d)=true:=by
 rw [List.all_eq_true]
 constructor
 · intro h i hi
   exact h _ (Q0s l i d hi)
 · intro h x hx
   obtain⟨i,hi,rfl⟩:=List.mem_iff_getElem.1 hx
   have:=h i hi
   rwa [List.getD_eq_getElem?_getD,List.getElem?_eq_getElem hi] at this
theorem J2l {α:Type} (f:α→Bool) (l:List α) (i:Nat) (d:α) (h:i<l.length):(l.take (i+1)).all f=((l.take i).all f&&f (l.getD i d)):=by
 rw [J1n l i d h,List.all_append];simp
theorem W2q (l:List Ivl) (st:Q0g) (hw:wB l):PCalls Tryz.prog 86 [.sl .no (Q0n l)] st (fun r st'=>r= .sc (.bool (rightB l))∧st'=st):=by
 obtain⟨hl,hw⟩:=hw
 refine Q0b none Tryz.func86 rfl fun E=>Q0a ?_
 simp -dsimp only [go_sem]
 refine Q0e [true,false,false,false,false,true,true,true] 0 0 (fun n s=> ∃i,n=l.length-i∧i≤l.length∧(l.take i).all Q0i=true∧s=⟨[.sl .no (Q0n l),.junk,.junk,.junk,.junk,.sl .no (Q0n l),.sc (.int .i64 l.length),.sc (.int .i64 i)]++List.replicate 15 .junk,[],[],st⟩) l.length ?_ ?_
 · simp -dsimp only [go_sem]
   exact⟨0,by omega,by omega,rfl,rfl⟩
 · rintro n s ⟨i,rfl,hi,hr,rfl⟩
   simp -dsimp only [go_sem]
   refine ck (fun h=> ?_) (fun h=> ?_)
   · have hlt:i<l.length:=by have:=of_decide_eq_true h;omega
     have e1:=Z0m l i hlt
     have e3:IntKind.i64.wrap ((i:Int)+1)=((i+1:Nat):Int):=by rw [Q0h _ (by omega) (by omega)];omega
     have e4:=J2l Q0i l i default hlt
     simp -dsimp only [go_sem,e1]
     refine⟨by omega,?_⟩
     refine(Y0s _ st (hw i hlt)).mono ?_
     rintro r st ⟨rfl,rfl⟩
     simp -dsimp only [go_sem,e1]
     refine ck (fun h=> ?_) (fun h=> ?_)
     · have hf:Q0i (l.getD i default)=false:=by simpa using h
       simp -dsimp only [go_sem]
       have:rightB l=false:=by
        cases hb:rightB l with
        | false=>rfl
        | true=>
         unfold rightB at hb
         simp only [Bool.and_eq_true] at hb
         have:=(W1o default Q0i l).1 hb.1.1 i hlt
         rw [this] at hf;cases hf
       rw [this]
     · have ht:Q0i (l.getD i default)=true:=by simpa using h
       simp -dsimp only [go_sem,e3]
       exact⟨l.length-(i+1),by omega,i+1,rfl,by omega,by rw [e4,hr,ht];rfl,rfl⟩
   · have hge:i=l.length:=by have:=of_decide_eq_false h;omega
     simp -dsimp only [go_sem]
     refine Q0a ?_
     simp -dsimp only [go_sem]
     have hall:l.all Q0i=true:=by rw [←List.take_length (l:=l),←hge];exact hr
     refine gkT (fun h=> ?_) (fun h=> ?_)
     · have h1:1≤l.length:=by have:=of_decide_eq_true h;omega
       simp -dsimp only [go_sem,h]
       have:rightB l=decide ((l.length:Int)≤4):=by
        unfold rightB
        rw [hall,decide_eq_true h1]
        simp only [Bool.true_and]
        exact decide_eq_decide.2 (by omega)
       rw [this]
     · have h1: ¬1≤l.length:=by have:=of_decide_eq_false h;omega
       simp -dsimp only [go_sem,h]
       have:rightB l=false:=by unfold rightB;rw [decide_eq_false h1];simp
       rw [this]
end Go.Pv
end
section
/-Boxes:pairs,Hull. -/
set_option maxRecDepth 100000
namespace Go.Pv
open Go.Proofs
def Y4z (G:Ivl→Ivl→Ivl×Int) (a b:List Ivl):List Ivl×Int:=if rightB a=true∧rightB b=true∧a.length=b.length then V1w (fun i x=>G x (b.getD i default)) 0 a [] else([],1)
end Go.Pv
end
section
/-The document's intervals:RightIv,Hull,Meet,SameIv. -/
set_option maxRecDepth 100000
namespace Go.Pv
open Go.Proofs
theorem W2n {a b:Nm} (ha:Q0j a=true) (hb:Q0j b=true):cmpR a b=cmpN a b:=if_pos ⟨ha,hb⟩
theorem X0w (x:Ivl) (st:Q0g) (hw:wI x):PCalls Tryz.prog 102 [.agg (encI x)] st (fun r st'=>r= .sc (.bool (Q0i x))∧st'=st):=by
 obtain⟨h1,h2⟩:=hw
 unfold wN at h1 h2
 refine Q0b none Tryz.func102 rfl fun E=>Q0a ?_
 simp -dsimp only [go_sem]
 refine(Y0a x.lo st (by omega)).mono ?_
 rintro r st ⟨rfl,rfl⟩
 simp -dsimp only [go_sem]
 refine gkT (fun h=> ?_) (fun h=> ?_)
 · simp -dsimp only [go_sem,h]
   refine(Y0a x.hi st (by omega)).mono ?_
   rintro r st ⟨rfl,rfl⟩
   simp -dsimp only [go_sem,h]
   refine gkT (fun h'=> ?_) (fun h'=> ?_)
   · simp -dsimp only [go_sem,h,h']
     refine(J1e x.lo x.hi st (by omega) (by omega)).mono ?_
     rintro r st ⟨rfl,rfl⟩
     simp -dsimp only [go_sem,h,h',W2n h h']
     simp [Q0i,h,h']
   · simp -dsimp only [go_sem,h,h']
     simp [Q0i,h,h']
 · simp -dsimp only [go_sem,h]
   simp [Q0i,h]
def G4h (a b:Ivl):Ivl×Int:=if Q0i a=true∧Q0i b=true then(if cmpN (Z0q a.lo b.lo) (Z0r a.hi b.hi)>0 then(default,4) else(⟨Z0q a.lo b.lo,Z0r a.hi b.hi⟩,0)) else(default,1)
theorem k2a (a b:Ivl) (st:Q0g) (ha:wI a) (hb:wI b):PCalls Tryz.prog 148 [.agg (encI a),.agg (encI b)] st (fun r st'=>r= .sc (.bool (decide (a=b)))∧st'=st):=by
 have h1:=ha.1;have h2:=ha.2;have h3:=hb.1;have h4:=hb.2
 unfold wN at h1 h2 h3 h4
 refine Q0b none Tryz.func148 rfl fun E=>Q0a ?_
 simp -dsimp only [go_sem]
 refine(z1r a.lo b.lo st (by omega) (by omega)).mono ?_
 rintro r st ⟨rfl,rfl⟩
 simp -dsimp only [go_sem]
 refine gkT (fun h=> ?_) (fun h=> ?_)
 · have h':=of_decide_eq_true h
   simp -dsimp only [go_sem,h]
   refine(z1r a.hi b.hi st (by omega) (by omega)).mono ?_
   rintro r st ⟨rfl,rfl⟩
   simp -dsimp only [go_sem,h]
   have:decide (a.hi=b.hi)=decide (a=b):=decide_eq_decide.2 ⟨fun e=>by cases a;cases b;simp_all,fun e=>by rw [e]⟩
   rw [this]
 · have h':=of_decide_eq_false h
   simp -dsimp only [go_sem,h]
   rw [decide_eq_false (fun e=>h' (by rw [e]))]
end Go.Pv
end
