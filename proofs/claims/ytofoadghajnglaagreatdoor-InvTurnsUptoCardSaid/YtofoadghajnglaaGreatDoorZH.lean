/- Parts of the walk: F16, F17, F18, F19, F20. -/
import Derived.Test.YtofoadghajnglaaGreatDoorZG
import Derived.Test.YtofoadghajnglaaGreatDoorZE
set_option linter.unusedVariables false
set_option linter.unusedSimpArgs false
section
/-The document's values:Of,Turned,Plus,Less,Sign,Order,CmpNum. -/
set_option maxRecDepth 100000
namespace Go.Pv
open Go.Proofs
theorem of_c (x:Nm) (st:Q0d) (hl:x.w.length≤1000000000000):PCalls Tryz.prog 70 [.agg (encN x)] st (fun r st'=>r= .agg (encV (ofN x))∧st'=st):=by
 refine Q0b none Tryz.func70 rfl fun E=>Q0a ?_
 simp -dsimp only [go_sem]
 refine Q0p Z0y 11 (.step 0 [] (.step 1 [] (.step 2 [] (.step 3 [] (.step 5 [] (.step 6 [] (.step 4 [1,6] (.step 7 [] (.step 8 [] (.done)))))))))) (by decide+kernel) (by simp) ?_
 simp -dsimp only [go_sem]
 refine(W2j x.w st hl).mono ?_
 rintro r st ⟨rfl,rfl⟩
 simp -dsimp only [go_sem]
 rfl
theorem lenV (m:Nat):((((Q0g m).length:Nat):Int)==0)=decide (m=0):=by
 by_cases h:m=0
 · subst h;rw [X0a];rfl
 · rw [decide_eq_false h]
   have:(Q0g m).length≠0:=fun e=>h (digitsOf_nil.1 (List.length_eq_zero_iff.1 e))
   exact beq_eq_false_iff_ne.2 (by omega)
theorem j0t (v:Vl) (st:Q0d):PCalls Tryz.prog 27 [.agg (encV v)] st (fun r st'=>r= .agg (encV (J0r v))∧st'=st):=by
 refine Q0b none Tryz.func27 rfl fun E=>Q0a ?_
 simp -dsimp only [go_sem]
 refine ck (fun h=> ?_) (fun h=> ?_)
 · have h0:v.m≠0:=fun e=>by rw [e,X0a] at h;cases h
   simp -dsimp only [go_sem]
   rw [J0r,if_neg h0]
 · have h0:v.m=0:=by
    have:=of_decide_eq_false h
    exact digitsOf_nil.1 (List.length_eq_zero_iff.1 (by omega))
   simp -dsimp only [go_sem]
   rw [J0r,if_pos h0]
theorem j1d (v:Vl) (st:Q0d):PCalls Tryz.prog 25 [.agg (encV v)] st (fun r st'=>r= .sc (.int .i64 (Y0f v))∧st'=st):=by
 refine Q0b none Tryz.func25 rfl fun E=>Q0a ?_
 simp -dsimp only [go_sem,lenV]
 refine ck (fun h=> ?_) (fun h=> ?_)
 · have h0:v.m=0:=of_decide_eq_true h
   simp -dsimp only [go_sem]
   rw [Y0f,if_pos h0]
 · have h0:v.m≠0:=of_decide_eq_false h
   simp -dsimp only [go_sem]
   refine ck (fun h=> ?_) (fun h=> ?_)
   · simp -dsimp only [go_sem]
     rw [Y0f,if_neg h0,if_pos h]
   · simp -dsimp only [go_sem]
     rw [Y0f,if_neg h0,if_neg (by simp [h])]
def smV (v:Vl):Prop:=Q0f v.m≤1000000000000∧ -100000000000≤v.e∧v.e≤100000000000
theorem y1g (v:Vl) (k:Nat):X0i v*2^k=if v.neg then -((v.m*2^k:Nat):Int) else((v.m*2^k:Nat):Int):=by
 unfold X0i
 cases v.neg
 · simp
 · simp [Int.neg_mul]
theorem W2h (a b:Vl) (st:Q0d) (ha:smV a) (hb:smV b):PCalls Tryz.prog 74 [.agg (encV a),.agg (encV b)] st (fun r st'=>r= .agg (encV (q0m a b))∧st'=st):=by
 obtain⟨a1,a2,a3⟩:=ha
 obtain⟨b1,b2,b3⟩:=hb
 refine Q0b none Tryz.func74 rfl fun E=>Q0a ?_
 simp -dsimp only [go_sem,lenV]
 refine ck (fun h=> ?_) (fun h=> ?_)
 · have h0:a.m=0:=of_decide_eq_true h
   simp -dsimp only [go_sem]
   rw [q0m,if_pos h0]
 · have ha0:a.m≠0:=of_decide_eq_false h
   simp -dsimp only [go_sem,lenV]
   refine ck (fun h=> ?_) (fun h=> ?_)
   · have h0:b.m=0:=of_decide_eq_true h
     simp -dsimp only [go_sem]
     rw [q0m,if_neg ha0,if_pos h0]
   · have hb0:b.m≠0:=of_decide_eq_false h
     simp -dsimp only [go_sem]
     have hmin:(if b.e<a.e then b.e else a.e)=min a.e b.e:=by split<;>omega
     have w1:IntKind.i64.wrap (a.e-min a.e b.e)=(((a.e-min a.e b.e).toNat:Nat):Int):=by rw [Q0v _ (by omega) (by omega)];omega
     have w2:IntKind.i64.wrap (b.e-min a.e b.e)=(((b.e-min a.e b.e).toNat:Nat):Int):=by rw [Q0v _ (by omega) (by omega)];omega
     have la:=J0l a.m
     have lb:=J0l b.m
     have l1:=H0d a.m (a.e-min a.e b.e).toNat
     have l2:=H0d b.m (b.e-min a.e b.e).toNat
     have px:a.m*2^(a.e-min a.e b.e).toNat≠0:=Nat.mul_ne_zero ha0 (by have:0<2^(a.e-min a.e b.e).toNat:=Nat.pow_pos (by decide)
                                                                      omega)
     have py:b.m*2^(b.e-min a.e b.e).toNat≠0:=Nat.mul_ne_zero hb0 (by have:0<2^(b.e-min a.e b.e).toNat:=Nat.pow_pos (by decide)
                                                                      omega)
     have hspec:q0m a b=mkV ((if a.neg then -((a.m*2^(a.e-min a.e b.e).toNat:Nat):Int) else((a.m*2^(a.e-min a.e b.e).toNat:Nat):Int))+(if b.neg then -((b.m*2^(b.e-min a.e b.e).toNat:Nat):Int) else((b.m*2^(b.e-min a.e b.e).toNat:Nat):Int))) (min a.e b.e):=by
      rw [q0m,if_neg ha0,if_neg hb0,y1g,y1g]
     have he1:(a.e-min a.e b.e).toNat≤200000000000:=by omega
     have he2:(b.e-min a.e b.e).toNat≤200000000000:=by omega
     have hm1: -100000000000≤min a.e b.e:=by omega
     have hm2:min a.e b.e≤100000000000:=by omega
     rw [hmin]
     refine Q0p Z0y 71 (.step 0 [] (.step 1 [] (.step 2 [] (.step 3 [] (.step 4 [] (.step 5 [] (.step 7 [] (.step 8 [] (.step 9 [] (.step 10 [] (.step 11 [] (.step 12 [] (.step 6 [8,10] (.step 13 [] (.step 14 [] (.step 15 [] (.done))))))))))))))))) (by decide+kernel) (by simp) ?_
     simp -dsimp only [go_sem,w1,w2]
     refine(H1n a.m _ st (by omega) (by omega)).mono ?_
     rintro r st ⟨rfl,rfl⟩
     simp -dsimp only [go_sem,w1,w2]
     refine(H1n b.m _ st (by omega) (by omega)).mono ?_
     rintro r st ⟨rfl,rfl⟩
     simp -dsimp only [go_sem,w1,w2]
     rw [hspec]
     generalize a.m*2^(a.e-min a.e b.e).toNat=x at*
     generalize b.m*2^(b.e-min a.e b.e).toNat=y at*
     generalize min a.e b.e=e at*
     have lx:=J0l x
     have ly:=J0l y
     have ls:=G1c x y
     refine ck (fun h=> ?_) (fun h=> ?_)
     · have hn:a.neg=b.neg:=by simpa using h
       simp -dsimp only [go_sem]
       refine Q0p Z0y 71 (.step 0 [] (.step 1 [] (.step 2 [] (.step 3 [] (.step 5 [] (.step 4 [1] (.step 6 [] (.step 7 [] (.done))))))))) (by decide+kernel) (by simp) ?_
       simp -dsimp only [go_sem]
       refine(x2e x y st (by omega) (by omega)).mono ?_
       rintro r st ⟨rfl,rfl⟩
       simp -dsimp only [go_sem]
       refine(W2v a.neg (x+y) e st (by omega) (by omega) (by omega)).mono ?_
       rintro r st ⟨rfl,rfl⟩
       simp -dsimp only [go_sem]
       have:mkV ((if a.neg then -(x:Int) else x)+(if b.neg then -(y:Int) else y)) e=oddV a.neg (x+y) e:=by
        rw [←hn]
        unfold mkV
        cases a.neg
        · simp only [Bool.false_eq_true,if_false]
          rw [decide_eq_false (by omega),show((x:Int)+y).natAbs=x+y from by omega]
        · simp only [if_true]
          rw [decide_eq_true (by omega),show(-(x:Int)+ -(y:Int)).natAbs=x+y from by omega]
       rw [this]
     · have hn:a.neg= !b.neg:=by cases hx:a.neg<;>cases hy:b.neg<;>simp [hx,hy] at h⊢
       simp -dsimp only [go_sem]
       refine(x2d x y st (by omega) (by omega)).mono ?_
       rintro r st ⟨rfl,rfl⟩
       simp -dsimp only [go_sem]
       by_cases hxy:y<x
       · have c1:cmpW x y=1:=Y0c (by omega)
         have l3:=W0n (Nat.sub_le x y)
         simp -dsimp only [go_sem,c1]
         refine Q0p Z0y 71 (.step 0 [] (.step 1 [] (.step 2 [] (.step 3 [] (.step 5 [] (.step 4 [1] (.step 6 [] (.step 7 [] (.done))))))))) (by decide+kernel) (by simp) ?_
         simp -dsimp only [go_sem]
         refine(w1t x y st (by omega) (by omega)).mono ?_
         rintro r st ⟨rfl,rfl⟩
         simp -dsimp only [go_sem]
         refine(W2v a.neg (x-y) e st (by omega) (by omega) (by omega)).mono ?_
         rintro r st ⟨rfl,rfl⟩
         simp -dsimp only [go_sem]
         have:mkV ((if a.neg then -(x:Int) else x)+(if b.neg then -(y:Int) else y)) e=oddV a.neg (x-y) e:=by
          rw [hn]
          unfold mkV
          cases b.neg
          · simp only [Bool.not_false,if_true,Bool.false_eq_true,if_false]
            rw [decide_eq_true (by omega),show(-(x:Int)+y).natAbs=x-y from by omega]
          · simp only [Bool.not_true,if_true,Bool.false_eq_true,if_false]
            rw [decide_eq_false (by omega),show((x:Int)+ -(y:Int)).natAbs=x-y from by omega]
         rw [this]
       · by_cases hyx:x<y
         · have c1:cmpW x y= -1:=Y0b (by omega)
           have l3:=W0n (Nat.sub_le y x)
           simp -dsimp only [go_sem,c1]
           refine Q0p Z0y 71 (.step 0 [] (.step 1 [] (.step 2 [] (.step 3 [] (.step 5 [] (.step 4 [1] (.step 6 [] (.step 7 [] (.done))))))))) (by decide+kernel) (by simp) ?_
           simp -dsimp only [go_sem]
           refine(w1t y x st (by omega) (by omega)).mono ?_
           rintro r st ⟨rfl,rfl⟩
           simp -dsimp only [go_sem]
           refine(W2v b.neg (y-x) e st (by omega) (by omega) (by omega)).mono ?_
           rintro r st ⟨rfl,rfl⟩
           simp -dsimp only [go_sem]
           have:mkV ((if a.neg then -(x:Int) else x)+(if b.neg then -(y:Int) else y)) e=oddV b.neg (y-x) e:=by
            rw [hn]
            unfold mkV
            cases b.neg
            · simp only [Bool.not_false,if_true,Bool.false_eq_true,if_false]
              rw [decide_eq_false (by omega),show(-(x:Int)+y).natAbs=y-x from by omega]
            · simp only [Bool.not_true,if_true,Bool.false_eq_true,if_false]
              rw [decide_eq_true (by omega),show((x:Int)+ -(y:Int)).natAbs=y-x from by omega]
           rw [this]
         · have hxy:x=y:=by omega
           subst hxy
           have c1:cmpW x x=0:=y0j rfl
           simp -dsimp only [go_sem,c1]
           have:mkV ((if a.neg then -(x:Int) else x)+(if b.neg then -(x:Int) else x)) e=⟨false,0,0⟩:=by
            rw [hn]
            unfold mkV oddV
            cases b.neg<;>simp<;>omega
           rw [this,X0a];rfl
theorem q3n (a b:Vl) (st:Q0d) (ha:smV a) (hb:smV b):PCalls Tryz.prog 56 [.agg (encV a),.agg (encV b)] st (fun r st'=>r= .agg (encV (U0h a b))∧st'=st):=by
 refine Q0b none Tryz.func56 rfl fun E=>Q0a ?_
 simp -dsimp only [go_sem]
 refine Q0p Z0y 9 (.step 0 [] (.step 1 [] (.step 2 [0] (.step 3 [] (.step 4 [] (.done)))))) (by decide+kernel) (by simp) ?_
 simp -dsimp only [go_sem]
 refine(j0t b st).mono ?_
 rintro r st ⟨rfl,rfl⟩
 simp -dsimp only [go_sem]
 refine(W2h a (J0r b) st ha (by unfold smV;rw [Z1k,Z1l];exact hb)).mono ?_
 rintro r st ⟨rfl,rfl⟩
 simp -dsimp only [go_sem]
 rfl
theorem j1v (a b:Vl) (st:Q0d) (ha:smV a) (hb:smV b):PCalls Tryz.prog 77 [.agg (encV a),.agg (encV b)] st (fun r st'=>r= .sc (.int .i64 (Y0d a b))∧st'=st):=by
 refine Q0b none Tryz.func77 rfl fun E=>Q0a ?_
 simp -dsimp only [go_sem]
 refine(q3n a b st ha hb).mono ?_
 rintro r st ⟨rfl,rfl⟩
 simp -dsimp only [go_sem]
 refine(j1d _ st).mono ?_
 rintro r st ⟨rfl,rfl⟩
 simp -dsimp only [go_sem]
 rfl
theorem Y1m {x:Nm} (h:sm x):smV (ofN x):=by
 obtain⟨h1,h2,h3⟩:=h
 have:=V0h x.w
 unfold X0n at this
 refine⟨?_,?_,?_⟩
 · show Q0f (valW x.w)≤_;omega
 · show _≤x.exp;omega
 · show x.exp≤_;omega
theorem v2t (a b:Nm) (st:Q0d) (ha:a.w.length≤1000000000000) (hb:b.w.length≤1000000000000):PCalls Tryz.prog 76 [.agg (encN a),.agg (encN b)] st (fun r st'=>r= .sc (.int .i64 (cmpR a b))∧st'=st):=by
 refine Q0b none Tryz.func76 rfl fun E=>Q0a ?_
 simp -dsimp only [go_sem]
 refine(x0c a st (by omega)).mono ?_
 rintro r st ⟨rfl,rfl⟩
 simp -dsimp only [go_sem]
 refine gkF (fun h=> ?_) (fun h=> ?_)
 · have h1:Q0h a=true:=by simpa using h
   simp -dsimp only [go_sem,h1]
   refine(x0c b st (by omega)).mono ?_
   rintro r st ⟨rfl,rfl⟩
   simp -dsimp only [go_sem]
   refine ck (fun h=> ?_) (fun h=> ?_)
   · have h2:Q0h b=false:=by simpa using h
     simp -dsimp only [go_sem]
     rw [cmpR,if_neg (by simp [h2])]
   · have h2:Q0h b=true:=by simpa using h
     simp -dsimp only [go_sem]
     refine Q0p Z0y 18 (.step 0 [] (.step 2 [] (.step 1 [2] (.step 3 [] (.step 4 [] (.step 5 [] (.done))))))) (by decide+kernel) (by simp) ?_
     simp -dsimp only [go_sem]
     refine(of_c a st (by omega)).mono ?_
     rintro r st ⟨rfl,rfl⟩
     simp -dsimp only [go_sem]
     refine(of_c b st (by omega)).mono ?_
     rintro r st ⟨rfl,rfl⟩
     simp -dsimp only [go_sem]
     refine(j1v _ _ st (Y1m (Z0f h1)) (Y1m (Z0f h2))).mono ?_
     rintro r st ⟨rfl,rfl⟩
     simp -dsimp only [go_sem]
     rw [cmpR,if_pos ⟨h1,h2⟩,w0q]
 · have h1:Q0h a=false:=by simpa using h
   simp -dsimp only [go_sem,h1]
   rw [cmpR,if_neg (by simp [h1])]
end Go.Pv
end
section
/-Intervals:iv.Right,Of,Hull,In;num.Same,iv.Same. -/
set_option maxRecDepth 100000
namespace Go.Pv
open Go.Proofs
theorem W0u (x:Ivl) (st:Q0d) (hw:wI x):PCalls Tryz.prog 50 [.agg (encI x)] st (fun r st'=>r= .sc (.bool (Q0m x))∧st'=st):=by
 obtain⟨h1,h2⟩:=hw
 unfold wN at h1 h2
 refine Q0b none Tryz.func50 rfl fun E=>Q0a ?_
 simp -dsimp only [go_sem]
 refine(X0p x.lo st (by omega)).mono ?_
 rintro r st ⟨rfl,rfl⟩
 simp -dsimp only [go_sem]
 refine gkT (fun h=> ?_) (fun h=> ?_)
 · simp -dsimp only [go_sem,h]
   refine(X0p x.hi st (by omega)).mono ?_
   rintro r st ⟨rfl,rfl⟩
   simp -dsimp only [go_sem,h]
   refine gkT (fun h'=> ?_) (fun h'=> ?_)
   · simp -dsimp only [go_sem,h,h']
     refine(z0d x.lo x.hi st (Z0f h) (Z0f h')).mono ?_
     rintro r st ⟨rfl,rfl⟩
     simp -dsimp only [go_sem,h,h']
     simp [Q0m,h,h']
   · simp -dsimp only [go_sem,h,h']
     simp [Q0m,h,h']
 · simp -dsimp only [go_sem,h]
   simp [Q0m,h]
theorem U1w (x:Nm) (st:Q0d) (hw:wN x):PCalls Tryz.prog 187 [.agg (encN x)] st (fun r st'=>r= .agg (encN x)∧st'=st):=by
 unfold wN at hw
 refine Q0b none Tryz.func187 rfl fun E=>Q0a ?_
 simp -dsimp only [go_sem]
 omega
theorem q3a (x y:Nm) (st:Q0d) (hx:wN x) (hy:wN y):PCalls Tryz.prog 119 [.agg (encN x),.agg (encN y)] st (fun r st'=>r= .agg (encI ⟨x,y⟩)∧st'=st):=by
 refine Q0b none Tryz.func119 rfl fun E=>Q0a ?_
 simp -dsimp only [go_sem]
 refine Q0p Z0y 10 (.step 0 [] (.step 2 [] (.step 1 [2] (.step 3 [] (.step 4 [] (.step 5 [] (.done))))))) (by decide+kernel) (by simp) ?_
 simp -dsimp only [go_sem]
 refine(U1w x st hx).mono ?_
 rintro r st ⟨rfl,rfl⟩
 simp -dsimp only [go_sem]
 refine(U1w y st hy).mono ?_
 rintro r st ⟨rfl,rfl⟩
 simp -dsimp only [go_sem]
theorem Q2l (x:Nm) (st:Q0d) (hx:wN x):PCalls Tryz.prog 54 [.agg (encN x)] st (fun r st'=>r= .agg (encI ⟨x,x⟩)∧st'=st):=by
 refine Q0b none Tryz.func54 rfl fun E=>Q0a ?_
 simp -dsimp only [go_sem]
 refine(q3a x x st hx hx).mono ?_
 rintro r st ⟨rfl,rfl⟩
 simp -dsimp only [go_sem]
theorem K3d (a b:Nm) (st:Q0d) (ha:sm a) (hb:sm b):PCalls Tryz.prog 214 [.agg (encN a),.agg (encN b)] st (fun r st'=>r= .agg (encN (Z0t a b))∧st'=st):=by
 refine Q0b none Tryz.func214 rfl fun E=>Q0a ?_
 simp -dsimp only [go_sem]
 refine(z0d b a st hb ha).mono ?_
 rintro r st ⟨rfl,rfl⟩
 simp -dsimp only [go_sem]
 refine ck (fun h=> ?_) (fun h=> ?_)
 · simp -dsimp only [go_sem]
   rw [Z0t,if_pos (of_decide_eq_true h)]
 · simp -dsimp only [go_sem]
   rw [Z0t,if_neg (of_decide_eq_false h)]
theorem W1j (a b:Nm) (st:Q0d) (ha:sm a) (hb:sm b):PCalls Tryz.prog 215 [.agg (encN a),.agg (encN b)] st (fun r st'=>r= .agg (encN (Z0r a b))∧st'=st):=by
 refine Q0b none Tryz.func215 rfl fun E=>Q0a ?_
 simp -dsimp only [go_sem]
 refine(z0d b a st hb ha).mono ?_
 rintro r st ⟨rfl,rfl⟩
 simp -dsimp only [go_sem]
 refine ck (fun h=> ?_) (fun h=> ?_)
 · simp -dsimp only [go_sem]
   rw [Z0r,if_pos (of_decide_eq_true h)]
 · simp -dsimp only [go_sem]
   rw [Z0r,if_neg (of_decide_eq_false h)]
theorem V3e (a b:Ivl) (st:Q0d) (ha:wI a) (hb:wI b):PCalls Tryz.prog 217 [.agg (encI a),.agg (encI b),.sc (.int .i64 0)] st (fun r st'=>r= .sc (.bool (inI a b))∧st'=st):=by
 refine Q0b none Tryz.func217 rfl fun E=>Q0a ?_
 simp -dsimp only [go_sem]
 refine(W0u a st ha).mono ?_
 rintro r st ⟨rfl,rfl⟩
 simp -dsimp only [go_sem]
 refine gkT (fun h=> ?_) (fun h=> ?_)
 · simp -dsimp only [go_sem,h]
   refine(W0u b st hb).mono ?_
   rintro r st ⟨rfl,rfl⟩
   simp -dsimp only [go_sem,h]
   refine gkT (fun h'=> ?_) (fun h'=> ?_)
   · obtain⟨a1,a2,_⟩:=Q0y h
     obtain⟨b1,b2,_⟩:=Q0y h'
     simp -dsimp only [go_sem,h,h']
     refine(z0d a.lo b.lo st (Z0f a1) (Z0f b1)).mono ?_
     rintro r st ⟨rfl,rfl⟩
     simp -dsimp only [go_sem,h,h']
     refine gkT (fun h2=> ?_) (fun h2=> ?_)
     · simp -dsimp only [go_sem,h,h',h2]
       refine(z0d b.hi a.hi st (Z0f b2) (Z0f a2)).mono ?_
       rintro r st ⟨rfl,rfl⟩
       simp -dsimp only [go_sem,h,h',h2]
       have h2':0≤cmpN a.lo b.lo:=of_decide_eq_true h2
       simp [inI,h,h',h2']
     · have h2': ¬0≤cmpN a.lo b.lo:=of_decide_eq_false h2
       simp -dsimp only [go_sem,h,h',h2]
       simp [inI,h,h',h2']
   · simp -dsimp only [go_sem,h,h']
     simp [inI,h,h']
 · simp -dsimp only [go_sem,h]
   simp [inI,h]
theorem q3t (a b:Ivl) (st:Q0d) (ha:wI a) (hb:wI b):PCalls Tryz.prog 150 [.agg (encI a),.agg (encI b)] st (fun r st'=>r= .sc (.bool (inI a b))∧st'=st):=by
 refine Q0b none Tryz.func150 rfl fun E=>Q0a ?_
 simp -dsimp only [go_sem]
 refine(V3e a b st ha hb).mono ?_
 rintro r st ⟨rfl,rfl⟩
 simp -dsimp only [go_sem]
end Go.Pv
end
section
/-Boxes:box.Right,all,In,Same,each,pairs,Hull. -/
set_option maxRecDepth 100000
namespace Go.Pv
open Go.Proofs
theorem v1t {α:Type} (d:α) (f:α→Bool) (l:List α):l.all f=true↔ ∀i,i<l.length→f (l.getD i d)=true:=by
 rw [List.all_eq_true]
 constructor
 · intro h i hi
   exact h _ (Q0r l i d hi)
 · intro h x hx
   obtain⟨i,hi,rfl⟩:=List.mem_iff_getElem.1 hx
   have:=h i hi
   rwa [List.getD_eq_getElem?_getD,List.getElem?_eq_getElem hi] at this
theorem w2o {α:Type} (f:α→Bool) (l:List α) (i:Nat) (d:α) (h:i<l.length):(l.take (i+1)).all f=((l.take i).all f&&f (l.getD i d)):=by
 rw [q0p l i d h,List.all_append];simp
theorem y0p (l:List Ivl) (st:Q0d) (hw:wB l):PCalls Tryz.prog 120 [.sl .no (Z0q l)] st (fun r st'=>r= .sc (.bool (rightB l))∧st'=st):=by
 obtain⟨hl,hw⟩:=hw
 refine Q0b none Tryz.func120 rfl fun E=>Q0a ?_
 simp -dsimp only [go_sem]
 refine Q0e [true,false,false,false,false,true,true,true] 0 0 (fun n s=> ∃i,n=l.length-i∧i≤l.length∧(l.take i).all Q0m=true∧s=⟨[.sl .no (Z0q l),.junk,.junk,.junk,.junk,.sl .no (Z0q l),.sc (.int .i64 l.length),.sc (.int .i64 i)]++List.replicate 15 .junk,[],[],st⟩) l.length ?_ ?_
 · simp -dsimp only [go_sem]
   exact⟨0,by omega,by omega,rfl,rfl⟩
 · rintro n s ⟨i,rfl,hi,hr,rfl⟩
   simp -dsimp only [go_sem]
   refine ck (fun h=> ?_) (fun h=> ?_)
   · have hlt:i<l.length:=by have:=of_decide_eq_true h;omega
     have e1:=K0f l i hlt
     have e3:IntKind.i64.wrap ((i:Int)+1)=((i+1:Nat):Int):=by rw [Q0v _ (by omega) (by omega)];omega
     have e4:=w2o Q0m l i default hlt
     simp -dsimp only [go_sem,e1]
     refine⟨by omega,?_⟩
     refine(W0u _ st (hw i hlt)).mono ?_
     rintro r st ⟨rfl,rfl⟩
     simp -dsimp only [go_sem,e1]
     refine ck (fun h=> ?_) (fun h=> ?_)
     · have hf:Q0m (l.getD i default)=false:=by simpa using h
       simp -dsimp only [go_sem]
       have:rightB l=false:=by
        cases hb:rightB l with
        | false=>rfl
        | true=>
         unfold rightB at hb
         simp only [Bool.and_eq_true] at hb
         have:=(v1t default Q0m l).1 hb.1.1 i hlt
         rw [this] at hf;cases hf
       rw [this]
     · have ht:Q0m (l.getD i default)=true:=by simpa using h
       simp -dsimp only [go_sem,e3]
       exact⟨l.length-(i+1),by omega,i+1,rfl,by omega,by rw [e4,hr,ht];rfl,rfl⟩
   · have hge:i=l.length:=by have:=of_decide_eq_false h;omega
     simp -dsimp only [go_sem]
     refine Q0a ?_
     simp -dsimp only [go_sem]
     have hall:l.all Q0m=true:=by rw [←List.take_length (l:=l),←hge];exact hr
     refine gkT (fun h=> ?_) (fun h=> ?_)
     · have h1:1≤l.length:=by have:=of_decide_eq_true h;omega
       simp -dsimp only [go_sem,h]
       have:rightB l=decide ((l.length:Int)≤4):=by
        unfold rightB
        rw [hall,decide_eq_true h1]
        simp only [Bool.true_and]
        exact decide_eq_decide.2 (by omega)
       rw [this]
     · have h1: ¬1≤l.length:=by have:=of_decide_eq_false h;omega
       simp -dsimp only [go_sem,h]
       have:rightB l=false:=by unfold rightB;rw [decide_eq_false h1];simp
       rw [this]
theorem x1l {α:Type} [Inhabited α] (f:α→α→Bool) (a b:List α) (hl:a.length=b.length):allF f a b=(List.range a.length).all fun i=>f (a.getD i default) (b.getD i default):=by
 unfold allF;rw [decide_eq_true hl];rfl
theorem w2e (g:FuncId) (f:Ivl→Ivl→Bool) (a b:List Ivl) (st:Q0d) (hc:Q0c Tryz.prog g=true) (ha:a.length≤100000000000) (hb:b.length≤100000000000)
 (h: ∀i,i<a.length→i<b.length→PCalls Tryz.prog g [.agg (encI (a.getD i default)),.agg (encI (b.getD i default))] st (fun r st'=>r= .sc (.bool (f (a.getD i default) (b.getD i default)))∧st'=st)):
 PCalls Tryz.prog 149 [.sl .no (Z0q a),.sl .no (Z0q b),.fn (.func g) [] []] st (fun r st'=>r= .sc (.bool (allF f a b))∧st'=st):=by
 refine Q0b none Tryz.func149 rfl fun E=>Q0a ?_
 simp -dsimp only [go_sem]
 refine ck (fun h0=> ?_) (fun h0=> ?_)
 · have hne:=X1v h0
   simp -dsimp only [go_sem]
   have:allF f a b=false:=by unfold allF;rw [decide_eq_false hne];rfl
   rw [this]
 · have hl:=y0z h0
   rw [x1l f a b hl]
   simp -dsimp only [go_sem]
   refine Q0e [true,true,true,false,false,false,false,false,false,false,false,false,false,false,true,true] 0 0 (fun n s=> ∃i,n=a.length-i∧i≤a.length∧(∀j,j<i→f (a.getD j default) (b.getD j default)=true)∧s=⟨[.sl .no (Z0q a),.sl .no (Z0q b),.fn (.func g) [] [],.junk,.junk,.junk,.junk,.junk,.junk,.junk,.junk,.junk,.junk,.junk,.sc (.int .i64 a.length),.sc (.int .i64 i)]++List.replicate 14 .junk,[],[],st⟩) a.length ?_ ?_
   · simp -dsimp only [go_sem]
     exact⟨0,by omega,by omega,fun j hj=>by omega,rfl⟩
   · rintro n s ⟨i,rfl,hi,hr,rfl⟩
     simp -dsimp only [go_sem]
     refine ck (fun h'=> ?_) (fun h'=> ?_)
     · have hlt:i<a.length:=by have:=of_decide_eq_true h';omega
       have e1:=K0f a i hlt
       have e2:=K0f b i (by omega)
       have e3:IntKind.i64.wrap ((i:Int)+1)=((i+1:Nat):Int):=by rw [Q0v _ (by omega) (by omega)];omega
       simp -dsimp only [go_sem]
       refine Q0p Z0y 30 (.step 0 [] (.step 1 [] (.step 2 [] (.step 3 [] (.step 4 [] (.step 5 [] (.step 6 [] (.step 7 [] (.step 8 [] (.step 9 [] (.step 10 [] (.done)))))))))))) (by decide+kernel) (by simp) ?_
       simp -dsimp only [go_sem,e1,e2,hc]
       refine⟨by omega,by omega,?_⟩
       refine(h i hlt (by omega)).mono ?_
       rintro r st ⟨rfl,rfl⟩
       simp -dsimp only [go_sem]
       refine ck (fun h2=> ?_) (fun h2=> ?_)
       · have hf:f (a.getD i default) (b.getD i default)=false:=by simpa using h2
         simp -dsimp only [go_sem]
         have:((List.range a.length).all fun i=>f (a.getD i default) (b.getD i default))=false:=by
          rw [List.all_eq_false];exact⟨i,by simpa using hlt,fun e=>by rw [hf] at e;cases e⟩
         first | rw [this] | rw [←List.range_eq_range',this]
       · have ht:f (a.getD i default) (b.getD i default)=true:=by simpa using h2
         simp -dsimp only [go_sem,e3]
         refine⟨a.length-(i+1),by omega,i+1,rfl,by omega,fun j hj=> ?_,rfl⟩
         by_cases e:j=i
         · subst e;exact ht
         · exact hr j (by omega)
     · have hge:i=a.length:=by have:=of_decide_eq_false h';omega
       simp -dsimp only [go_sem]
       refine Q0a ?_
       simp -dsimp only [go_sem]
       have:((List.range a.length).all fun i=>f (a.getD i default) (b.getD i default))=true:=by
        rw [List.all_eq_true];intro j hj;exact hr j (by rw [hge];simpa using hj)
       first | rw [this] | rw [←List.range_eq_range',this]
theorem W3o (a b:List Ivl) (st:Q0d) (ha:wB a) (hb:wB b):PCalls Tryz.prog 86 [.sl .no (Z0q a),.sl .no (Z0q b)] st (fun r st'=>r= .sc (.bool (inB a b))∧st'=st):=by
 refine Q0b none Tryz.func86 rfl fun E=>Q0a ?_
 simp -dsimp only [go_sem]
 refine(y0p a st ha).mono ?_
 rintro r st ⟨rfl,rfl⟩
 simp -dsimp only [go_sem]
 refine gkT (fun h=> ?_) (fun h=> ?_)
 · simp -dsimp only [go_sem,h]
   refine(y0p b st hb).mono ?_
   rintro r st ⟨rfl,rfl⟩
   simp -dsimp only [go_sem,h]
   refine gkT (fun h'=> ?_) (fun h'=> ?_)
   · simp -dsimp only [go_sem,h,h']
     refine(w2e _ inI a b st rfl ha.1 hb.1 fun i h1 h2=>q3t _ _ st (ha.2 i h1) (hb.2 i h2)).mono ?_
     rintro r st ⟨rfl,rfl⟩
     simp -dsimp only [go_sem,h,h']
     simp [inB,h,h']
   · simp -dsimp only [go_sem,h,h']
     simp [inB,h,h']
 · simp -dsimp only [go_sem,h]
   simp [inB,h]
end Go.Pv
end
section
/-The document's intervals:RightIv,Hull,Meet,SameIv. -/
set_option maxRecDepth 100000
namespace Go.Pv
open Go.Proofs
theorem x0k {a b:Nm} (ha:Q0h a=true) (hb:Q0h b=true):cmpR a b=cmpN a b:=if_pos ⟨ha,hb⟩
theorem y0v (x:Ivl) (st:Q0d) (hw:wI x):PCalls Tryz.prog 28 [.agg (encI x)] st (fun r st'=>r= .sc (.bool (Q0m x))∧st'=st):=by
 obtain⟨h1,h2⟩:=hw
 unfold wN at h1 h2
 refine Q0b none Tryz.func28 rfl fun E=>Q0a ?_
 simp -dsimp only [go_sem]
 refine(x0c x.lo st (by omega)).mono ?_
 rintro r st ⟨rfl,rfl⟩
 simp -dsimp only [go_sem]
 refine gkT (fun h=> ?_) (fun h=> ?_)
 · simp -dsimp only [go_sem,h]
   refine(x0c x.hi st (by omega)).mono ?_
   rintro r st ⟨rfl,rfl⟩
   simp -dsimp only [go_sem,h]
   refine gkT (fun h'=> ?_) (fun h'=> ?_)
   · simp -dsimp only [go_sem,h,h']
     refine(v2t x.lo x.hi st (by omega) (by omega)).mono ?_
     rintro r st ⟨rfl,rfl⟩
     simp -dsimp only [go_sem,h,h',x0k h h']
     simp [Q0m,h,h']
   · simp -dsimp only [go_sem,h,h']
     simp [Q0m,h,h']
 · simp -dsimp only [go_sem,h]
   simp [Q0m,h]
end Go.Pv
end
