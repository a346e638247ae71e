/- Parts of the walk: F16, F17, F18, F19, F20, F21. -/
import Derived.Test.YtofoadghajnglaaGreatDoorZG
import Derived.Test.YtofoadghajnglaaGreatDoorZE
set_option linter.unusedVariables false
set_option linter.unusedSimpArgs false
section
/-The document's values:Of,Turned,Plus,Less,Sign,Order,CmpNum. -/
set_option maxRecDepth 100000
namespace Go.Pv
open Go.Proofs
theorem of_c (x:Nm) (st:Q0e) (hl:x.w.length≤1000000000000):PCalls Tryz.prog 70 [.agg (encN x)] st (fun r st'=>r= .agg (encV (ofN x))∧st'=st):=by
 refine Q0b none Tryz.func70 rfl fun E=>Q0a ?_
 simp -dsimp only [go_sem]
 refine Q0p Z0g 11 (.step 0 [] (.step 1 [] (.step 2 [] (.step 3 [] (.step 5 [] (.step 6 [] (.step 4 [1,6] (.step 7 [] (.step 8 [] (.done)))))))))) (by decide+kernel) (by simp) ?_
 simp -dsimp only [go_sem]
 refine(k2d x.w st hl).mono ?_
 rintro r st ⟨rfl,rfl⟩
 simp -dsimp only [go_sem]
 rfl
theorem lenV (m:Nat):((((Q0d m).length:Nat):Int)==0)=decide (m=0):=by
 by_cases h:m=0
 · subst h;rw [Z0j];rfl
 · rw [decide_eq_false h]
   have:(Q0d m).length≠0:=fun e=>h (digitsOf_nil.1 (List.length_eq_zero_iff.1 e))
   exact beq_eq_false_iff_ne.2 (by omega)
theorem y0g (v:Vl) (st:Q0e):PCalls Tryz.prog 27 [.agg (encV v)] st (fun r st'=>r= .agg (encV (K0h v))∧st'=st):=by
 refine Q0b none Tryz.func27 rfl fun E=>Q0a ?_
 simp -dsimp only [go_sem]
 refine ck (fun h=> ?_) (fun h=> ?_)
 · have h0:v.m≠0:=fun e=>by rw [e,Z0j] at h;cases h
   simp -dsimp only [go_sem]
   rw [K0h,if_neg h0]
 · have h0:v.m=0:=by
    have:=of_decide_eq_false h
    exact digitsOf_nil.1 (List.length_eq_zero_iff.1 (by omega))
   simp -dsimp only [go_sem]
   rw [K0h,if_pos h0]
theorem G0u (v:Vl) (st:Q0e):PCalls Tryz.prog 25 [.agg (encV v)] st (fun r st'=>r= .sc (.int .i64 (K0t v))∧st'=st):=by
 refine Q0b none Tryz.func25 rfl fun E=>Q0a ?_
 simp -dsimp only [go_sem,lenV]
 refine ck (fun h=> ?_) (fun h=> ?_)
 · have h0:v.m=0:=of_decide_eq_true h
   simp -dsimp only [go_sem]
   rw [K0t,if_pos h0]
 · have h0:v.m≠0:=of_decide_eq_false h
   simp -dsimp only [go_sem]
   refine ck (fun h=> ?_) (fun h=> ?_)
   · simp -dsimp only [go_sem]
     rw [K0t,if_neg h0,if_pos h]
   · simp -dsimp only [go_sem]
     rw [K0t,if_neg h0,if_neg (by simp [h])]
def smV (v:Vl):Prop:=Q0g v.m≤1000000000000∧ -100000000000≤v.e∧v.e≤100000000000
theorem x1y (v:Vl) (k:Nat):X0v v*2^k=if v.neg then -((v.m*2^k:Nat):Int) else((v.m*2^k:Nat):Int):=by
 unfold X0v
 cases v.neg
 · simp
 · simp [Int.neg_mul]
theorem X2o (a b:Vl) (st:Q0e) (ha:smV a) (hb:smV b):PCalls Tryz.prog 74 [.agg (encV a),.agg (encV b)] st (fun r st'=>r= .agg (encV (H0h a b))∧st'=st):=by
 obtain⟨a1,a2,a3⟩:=ha
 obtain⟨b1,b2,b3⟩:=hb
 refine Q0b none Tryz.func74 rfl fun E=>Q0a ?_
 simp -dsimp only [go_sem,lenV]
 refine ck (fun h=> ?_) (fun h=> ?_)
 · have h0:a.m=0:=of_decide_eq_true h
   simp -dsimp only [go_sem]
   rw [H0h,if_pos h0]
 · have ha0:a.m≠0:=of_decide_eq_false h
   simp -dsimp only [go_sem,lenV]
   refine ck (fun h=> ?_) (fun h=> ?_)
   · have h0:b.m=0:=of_decide_eq_true h
     simp -dsimp only [go_sem]
     rw [H0h,if_neg ha0,if_pos h0]
   · have hb0:b.m≠0:=of_decide_eq_false h
     simp -dsimp only [go_sem]
     have hmin:(if b.e<a.e then b.e else a.e)=min a.e b.e:=by split<;>omega
     have w1:IntKind.i64.wrap (a.e-min a.e b.e)=(((a.e-min a.e b.e).toNat:Nat):Int):=by rw [Q0k _ (by omega) (by omega)];omega
     have w2:IntKind.i64.wrap (b.e-min a.e b.e)=(((b.e-min a.e b.e).toNat:Nat):Int):=by rw [Q0k _ (by omega) (by omega)];omega
     have la:=Z0y a.m
     have lb:=Z0y b.m
     have l1:=K0s a.m (a.e-min a.e b.e).toNat
     have l2:=K0s b.m (b.e-min a.e b.e).toNat
     have px:a.m*2^(a.e-min a.e b.e).toNat≠0:=Nat.mul_ne_zero ha0 (by have:0<2^(a.e-min a.e b.e).toNat:=Nat.pow_pos (by decide)
                                                                      omega)
     have py:b.m*2^(b.e-min a.e b.e).toNat≠0:=Nat.mul_ne_zero hb0 (by have:0<2^(b.e-min a.e b.e).toNat:=Nat.pow_pos (by decide)
                                                                      omega)
     have hspec:H0h a b=mkV ((if a.neg then -((a.m*2^(a.e-min a.e b.e).toNat:Nat):Int) else((a.m*2^(a.e-min a.e b.e).toNat:Nat):Int))+(if b.neg then -((b.m*2^(b.e-min a.e b.e).toNat:Nat):Int) else((b.m*2^(b.e-min a.e b.e).toNat:Nat):Int))) (min a.e b.e):=by
      rw [H0h,if_neg ha0,if_neg hb0,x1y,x1y]
     have he1:(a.e-min a.e b.e).toNat≤200000000000:=by omega
     have he2:(b.e-min a.e b.e).toNat≤200000000000:=by omega
     have hm1: -100000000000≤min a.e b.e:=by omega
     have hm2:min a.e b.e≤100000000000:=by omega
     rw [hmin]
     refine Q0p Z0g 71 (.step 0 [] (.step 1 [] (.step 2 [] (.step 3 [] (.step 4 [] (.step 5 [] (.step 7 [] (.step 8 [] (.step 9 [] (.step 10 [] (.step 11 [] (.step 12 [] (.step 6 [8,10] (.step 13 [] (.step 14 [] (.step 15 [] (.done))))))))))))))))) (by decide+kernel) (by simp) ?_
     simp -dsimp only [go_sem,w1,w2]
     refine(Y1p a.m _ st (by omega) (by omega)).mono ?_
     rintro r st ⟨rfl,rfl⟩
     simp -dsimp only [go_sem,w1,w2]
     refine(Y1p b.m _ st (by omega) (by omega)).mono ?_
     rintro r st ⟨rfl,rfl⟩
     simp -dsimp only [go_sem,w1,w2]
     rw [hspec]
     generalize a.m*2^(a.e-min a.e b.e).toNat=x at*
     generalize b.m*2^(b.e-min a.e b.e).toNat=y at*
     generalize min a.e b.e=e at*
     have lx:=Z0y x
     have ly:=Z0y y
     have ls:=W0z x y
     refine ck (fun h=> ?_) (fun h=> ?_)
     · have hn:a.neg=b.neg:=by simpa using h
       simp -dsimp only [go_sem]
       refine Q0p Z0g 71 (.step 0 [] (.step 1 [] (.step 2 [] (.step 3 [] (.step 5 [] (.step 4 [1] (.step 6 [] (.step 7 [] (.done))))))))) (by decide+kernel) (by simp) ?_
       simp -dsimp only [go_sem]
       refine(x1q x y st (by omega) (by omega)).mono ?_
       rintro r st ⟨rfl,rfl⟩
       simp -dsimp only [go_sem]
       refine(q1l a.neg (x+y) e st (by omega) (by omega) (by omega)).mono ?_
       rintro r st ⟨rfl,rfl⟩
       simp -dsimp only [go_sem]
       have:mkV ((if a.neg then -(x:Int) else x)+(if b.neg then -(y:Int) else y)) e=oddV a.neg (x+y) e:=by
        rw [←hn]
        unfold mkV
        cases a.neg
        · simp only [Bool.false_eq_true,if_false]
          rw [decide_eq_false (by omega),show((x:Int)+y).natAbs=x+y from by omega]
        · simp only [if_true]
          rw [decide_eq_true (by omega),show(-(x:Int)+ -(y:Int)).natAbs=x+y from by omega]
       rw [this]
     · have hn:a.neg= !b.neg:=by cases hx:a.neg<;>cases hy:b.neg<;>simp [hx,hy] at h⊢
       simp -dsimp only [go_sem]
       refine(G2o x y st (by omega) (by omega)).mono ?_
       rintro r st ⟨rfl,rfl⟩
       simp -dsimp only [go_sem]
       by_cases hxy:y<x
       · have c1:cmpW x y=1:=U0d (by omega)
         have l3:=J0y (Nat.sub_le x y)
         simp -dsimp only [go_sem,c1]
         refine Q0p Z0g 71 (.step 0 [] (.step 1 [] (.step 2 [] (.step 3 [] (.step 5 [] (.step 4 [1] (.step 6 [] (.step 7 [] (.done))))))))) (by decide+kernel) (by simp) ?_
         simp -dsimp only [go_sem]
         refine(x1p x y st (by omega) (by omega)).mono ?_
         rintro r st ⟨rfl,rfl⟩
         simp -dsimp only [go_sem]
         refine(q1l a.neg (x-y) e st (by omega) (by omega) (by omega)).mono ?_
         rintro r st ⟨rfl,rfl⟩
         simp -dsimp only [go_sem]
         have:mkV ((if a.neg then -(x:Int) else x)+(if b.neg then -(y:Int) else y)) e=oddV a.neg (x-y) e:=by
          rw [hn]
          unfold mkV
          cases b.neg
          · simp only [Bool.not_false,if_true,Bool.false_eq_true,if_false]
            rw [decide_eq_true (by omega),show(-(x:Int)+y).natAbs=x-y from by omega]
          · simp only [Bool.not_true,if_true,Bool.false_eq_true,if_false]
            rw [decide_eq_false (by omega),show((x:Int)+ -(y:Int)).natAbs=x-y from by omega]
         rw [this]
       · by_cases hyx:x<y
         · have c1:cmpW x y= -1:=U0c (by omega)
           have l3:=J0y (Nat.sub_le y x)
           simp -dsimp only [go_sem,c1]
           refine Q0p Z0g 71 (.step 0 [] (.step 1 [] (.step 2 [] (.step 3 [] (.step 5 [] (.step 4 [1] (.step 6 [] (.step 7 [] (.done))))))))) (by decide+kernel) (by simp) ?_
           simp -dsimp only [go_sem]
           refine(x1p y x st (by omega) (by omega)).mono ?_
           rintro r st ⟨rfl,rfl⟩
           simp -dsimp only [go_sem]
           refine(q1l b.neg (y-x) e st (by omega) (by omega) (by omega)).mono ?_
           rintro r st ⟨rfl,rfl⟩
           simp -dsimp only [go_sem]
           have:mkV ((if a.neg then -(x:Int) else x)+(if b.neg then -(y:Int) else y)) e=oddV b.neg (y-x) e:=by
            rw [hn]
            unfold mkV
            cases b.neg
            · simp only [Bool.not_false,if_true,Bool.false_eq_true,if_false]
              rw [decide_eq_false (by omega),show(-(x:Int)+y).natAbs=y-x from by omega]
            · simp only [Bool.not_true,if_true,Bool.false_eq_true,if_false]
              rw [decide_eq_true (by omega),show((x:Int)+ -(y:Int)).natAbs=y-x from by omega]
           rw [this]
         · have hxy:x=y:=by omega
           subst hxy
           have c1:cmpW x x=0:=Z1t rfl
           simp -dsimp only [go_sem,c1]
           have:mkV ((if a.neg then -(x:Int) else x)+(if b.neg then -(x:Int) else x)) e=⟨false,0,0⟩:=by
            rw [hn]
            unfold mkV oddV
            cases b.neg<;>simp<;>omega
           rw [this,Z0j];rfl
theorem W3p (a b:Vl) (st:Q0e) (ha:smV a) (hb:smV b):PCalls Tryz.prog 56 [.agg (encV a),.agg (encV b)] st (fun r st'=>r= .agg (encV (x0q a b))∧st'=st):=by
 refine Q0b none Tryz.func56 rfl fun E=>Q0a ?_
 simp -dsimp only [go_sem]
 refine Q0p Z0g 9 (.step 0 [] (.step 1 [] (.step 2 [0] (.step 3 [] (.step 4 [] (.done)))))) (by decide+kernel) (by simp) ?_
 simp -dsimp only [go_sem]
 refine(y0g b st).mono ?_
 rintro r st ⟨rfl,rfl⟩
 simp -dsimp only [go_sem]
 refine(X2o a (K0h b) st ha (by unfold smV;rw [v0g,v0h];exact hb)).mono ?_
 rintro r st ⟨rfl,rfl⟩
 simp -dsimp only [go_sem]
 rfl
theorem q1k (a b:Vl) (st:Q0e) (ha:smV a) (hb:smV b):PCalls Tryz.prog 77 [.agg (encV a),.agg (encV b)] st (fun r st'=>r= .sc (.int .i64 (Y0p a b))∧st'=st):=by
 refine Q0b none Tryz.func77 rfl fun E=>Q0a ?_
 simp -dsimp only [go_sem]
 refine(W3p a b st ha hb).mono ?_
 rintro r st ⟨rfl,rfl⟩
 simp -dsimp only [go_sem]
 refine(G0u _ st).mono ?_
 rintro r st ⟨rfl,rfl⟩
 simp -dsimp only [go_sem]
 rfl
theorem Q2z {x:Nm} (h:sm x):smV (ofN x):=by
 obtain⟨h1,h2,h3⟩:=h
 have:=V0t x.w
 unfold X0h at this
 refine⟨?_,?_,?_⟩
 · show Q0g (valW x.w)≤_;omega
 · show _≤x.exp;omega
 · show x.exp≤_;omega
theorem j1x (a b:Nm) (st:Q0e) (ha:a.w.length≤1000000000000) (hb:b.w.length≤1000000000000):PCalls Tryz.prog 76 [.agg (encN a),.agg (encN b)] st (fun r st'=>r= .sc (.int .i64 (cmpR a b))∧st'=st):=by
 refine Q0b none Tryz.func76 rfl fun E=>Q0a ?_
 simp -dsimp only [go_sem]
 refine(z0d a st (by omega)).mono ?_
 rintro r st ⟨rfl,rfl⟩
 simp -dsimp only [go_sem]
 refine gkF (fun h=> ?_) (fun h=> ?_)
 · have h1:Q0r a=true:=by simpa using h
   simp -dsimp only [go_sem,h1]
   refine(z0d b st (by omega)).mono ?_
   rintro r st ⟨rfl,rfl⟩
   simp -dsimp only [go_sem]
   refine ck (fun h=> ?_) (fun h=> ?_)
   · have h2:Q0r b=false:=by simpa using h
     simp -dsimp only [go_sem]
     rw [cmpR,if_neg (by simp [h2])]
   · have h2:Q0r b=true:=by simpa using h
     simp -dsimp only [go_sem]
     refine Q0p Z0g 18 (.step 0 [] (.step 2 [] (.step 1 [2] (.step 3 [] (.step 4 [] (.step 5 [] (.done))))))) (by decide+kernel) (by simp) ?_
     simp -dsimp only [go_sem]
     refine(of_c a st (by omega)).mono ?_
     rintro r st ⟨rfl,rfl⟩
     simp -dsimp only [go_sem]
     refine(of_c b st (by omega)).mono ?_
     rintro r st ⟨rfl,rfl⟩
     simp -dsimp only [go_sem]
     refine(q1k _ _ st (Q2z (J0l h1)) (Q2z (J0l h2))).mono ?_
     rintro r st ⟨rfl,rfl⟩
     simp -dsimp only [go_sem]
     rw [cmpR,if_pos ⟨h1,h2⟩,J1i]
 · have h1:Q0r a=false:=by simpa using h
   simp -dsimp only [go_sem,h1]
   rw [cmpR,if_neg (by simp [h1])]
end Go.Pv
end
section
/-Intervals:iv.Right,Of,Hull,In;num.Same,iv.Same. -/
set_option maxRecDepth 100000
namespace Go.Pv
open Go.Proofs
theorem Y0u (x:Ivl) (st:Q0e) (hw:wI x):PCalls Tryz.prog 50 [.agg (encI x)] st (fun r st'=>r= .sc (.bool (Q0m x))∧st'=st):=by
 obtain⟨h1,h2⟩:=hw
 unfold wN at h1 h2
 refine Q0b none Tryz.func50 rfl fun E=>Q0a ?_
 simp -dsimp only [go_sem]
 refine(V0h x.lo st (by omega)).mono ?_
 rintro r st ⟨rfl,rfl⟩
 simp -dsimp only [go_sem]
 refine gkT (fun h=> ?_) (fun h=> ?_)
 · simp -dsimp only [go_sem,h]
   refine(V0h x.hi st (by omega)).mono ?_
   rintro r st ⟨rfl,rfl⟩
   simp -dsimp only [go_sem,h]
   refine gkT (fun h'=> ?_) (fun h'=> ?_)
   · simp -dsimp only [go_sem,h,h']
     refine(z1c x.lo x.hi st (J0l h) (J0l h')).mono ?_
     rintro r st ⟨rfl,rfl⟩
     simp -dsimp only [go_sem,h,h']
     simp [Q0m,h,h']
   · simp -dsimp only [go_sem,h,h']
     simp [Q0m,h,h']
 · simp -dsimp only [go_sem,h]
   simp [Q0m,h]
theorem j1w (x:Nm) (st:Q0e) (hw:wN x):PCalls Tryz.prog 187 [.agg (encN x)] st (fun r st'=>r= .agg (encN x)∧st'=st):=by
 unfold wN at hw
 refine Q0b none Tryz.func187 rfl fun E=>Q0a ?_
 simp -dsimp only [go_sem]
 omega
theorem W3e (x y:Nm) (st:Q0e) (hx:wN x) (hy:wN y):PCalls Tryz.prog 119 [.agg (encN x),.agg (encN y)] st (fun r st'=>r= .agg (encI ⟨x,y⟩)∧st'=st):=by
 refine Q0b none Tryz.func119 rfl fun E=>Q0a ?_
 simp -dsimp only [go_sem]
 refine Q0p Z0g 10 (.step 0 [] (.step 2 [] (.step 1 [2] (.step 3 [] (.step 4 [] (.step 5 [] (.done))))))) (by decide+kernel) (by simp) ?_
 simp -dsimp only [go_sem]
 refine(j1w x st hx).mono ?_
 rintro r st ⟨rfl,rfl⟩
 simp -dsimp only [go_sem]
 refine(j1w y st hy).mono ?_
 rintro r st ⟨rfl,rfl⟩
 simp -dsimp only [go_sem]
theorem J1p (x:Nm) (st:Q0e) (hx:wN x):PCalls Tryz.prog 54 [.agg (encN x)] st (fun r st'=>r= .agg (encI ⟨x,x⟩)∧st'=st):=by
 refine Q0b none Tryz.func54 rfl fun E=>Q0a ?_
 simp -dsimp only [go_sem]
 refine(W3e x x st hx hx).mono ?_
 rintro r st ⟨rfl,rfl⟩
 simp -dsimp only [go_sem]
theorem Q3c (a b:Nm) (st:Q0e) (ha:sm a) (hb:sm b):PCalls Tryz.prog 214 [.agg (encN a),.agg (encN b)] st (fun r st'=>r= .agg (encN (J0e a b))∧st'=st):=by
 refine Q0b none Tryz.func214 rfl fun E=>Q0a ?_
 simp -dsimp only [go_sem]
 refine(z1c b a st hb ha).mono ?_
 rintro r st ⟨rfl,rfl⟩
 simp -dsimp only [go_sem]
 refine ck (fun h=> ?_) (fun h=> ?_)
 · simp -dsimp only [go_sem]
   rw [J0e,if_pos (of_decide_eq_true h)]
 · simp -dsimp only [go_sem]
   rw [J0e,if_neg (of_decide_eq_false h)]
theorem w1y (a b:Nm) (st:Q0e) (ha:sm a) (hb:sm b):PCalls Tryz.prog 215 [.agg (encN a),.agg (encN b)] st (fun r st'=>r= .agg (encN (J0f a b))∧st'=st):=by
 refine Q0b none Tryz.func215 rfl fun E=>Q0a ?_
 simp -dsimp only [go_sem]
 refine(z1c b a st hb ha).mono ?_
 rintro r st ⟨rfl,rfl⟩
 simp -dsimp only [go_sem]
 refine ck (fun h=> ?_) (fun h=> ?_)
 · simp -dsimp only [go_sem]
   rw [J0f,if_pos (of_decide_eq_true h)]
 · simp -dsimp only [go_sem]
   rw [J0f,if_neg (of_decide_eq_false h)]
end Go.Pv
end
section
/-Boxes:box.Right,all,In,Same,each,pairs,Hull. -/
set_option maxRecDepth 100000
namespace Go.Pv
open Go.Proofs
theorem X1b {α:Type} (d:α) (f:α→Bool) (l:List α):l.all f=true↔ ∀i,i<l.length→f (l.getD i d)=true:=by
 rw [List.all_eq_true]
 constructor
 · intro h i hi
   exact h _ (Q0t l i d hi)
 · intro h x hx
   obtain⟨i,hi,rfl⟩:=List.mem_iff_getElem.1 hx
   have:=h i hi
   rwa [List.getD_eq_getElem?_getD,List.getElem?_eq_getElem hi] at this
theorem k1i {α:Type} (f:α→Bool) (l:List α) (i:Nat) (d:α) (h:i<l.length):(l.take (i+1)).all f=((l.take i).all f&&f (l.getD i d)):=by
 rw [y0y l i d h,List.all_append];simp
theorem K1k (l:List Ivl) (st:Q0e) (hw:wB l):PCalls Tryz.prog 120 [.sl .no (Q0s l)] st (fun r st'=>r= .sc (.bool (rightB l))∧st'=st):=by
 obtain⟨hl,hw⟩:=hw
 refine Q0b none Tryz.func120 rfl fun E=>Q0a ?_
 simp -dsimp only [go_sem]
 refine Q0f [true,false,false,false,false,true,true,true] 0 0 (fun n s=> ∃i,n=l.length-i∧i≤l.length∧(l.take i).all Q0m=true∧s=⟨[.sl .no (Q0s l),.junk,.junk,.junk,.junk,.sl .no (Q0s l),.sc (.int .i64 l.length),.sc (.int .i64 i)]++List.replicate 15 .junk,[],[],st⟩) l.length ?_ ?_
 · simp -dsimp only [go_sem]
   exact⟨0,by omega,by omega,rfl,rfl⟩
 · rintro n s ⟨i,rfl,hi,hr,rfl⟩
   simp -dsimp only [go_sem]
   refine ck (fun h=> ?_) (fun h=> ?_)
   · have hlt:i<l.length:=by have:=of_decide_eq_true h;omega
     have e1:=Z0m l i hlt
     have e3:IntKind.i64.wrap ((i:Int)+1)=((i+1:Nat):Int):=by rw [Q0k _ (by omega) (by omega)];omega
     have e4:=k1i Q0m l i default hlt
     simp -dsimp only [go_sem,e1]
     refine⟨by omega,?_⟩
     refine(Y0u _ st (hw i hlt)).mono ?_
     rintro r st ⟨rfl,rfl⟩
     simp -dsimp only [go_sem,e1]
     refine ck (fun h=> ?_) (fun h=> ?_)
     · have hf:Q0m (l.getD i default)=false:=by simpa using h
       simp -dsimp only [go_sem]
       have:rightB l=false:=by
        cases hb:rightB l with
        | false=>rfl
        | true=>
         unfold rightB at hb
         simp only [Bool.and_eq_true] at hb
         have:=(X1b default Q0m l).1 hb.1.1 i hlt
         rw [this] at hf;cases hf
       rw [this]
     · have ht:Q0m (l.getD i default)=true:=by simpa using h
       simp -dsimp only [go_sem,e3]
       exact⟨l.length-(i+1),by omega,i+1,rfl,by omega,by rw [e4,hr,ht];rfl,rfl⟩
   · have hge:i=l.length:=by have:=of_decide_eq_false h;omega
     simp -dsimp only [go_sem]
     refine Q0a ?_
     simp -dsimp only [go_sem]
     have hall:l.all Q0m=true:=by rw [←List.take_length (l:=l),←hge];exact hr
     refine gkT (fun h=> ?_) (fun h=> ?_)
     · have h1:1≤l.length:=by have:=of_decide_eq_true h;omega
       simp -dsimp only [go_sem,h]
       have:rightB l=decide ((l.length:Int)≤4):=by
        unfold rightB
        rw [hall,decide_eq_true h1]
        simp only [Bool.true_and]
        exact decide_eq_decide.2 (by omega)
       rw [this]
     · have h1: ¬1≤l.length:=by have:=of_decide_eq_false h;omega
       simp -dsimp only [go_sem,h]
       have:rightB l=false:=by unfold rightB;rw [decide_eq_false h1];simp
       rw [this]
theorem J1z {α β:Type} [Inhabited α] (F:Nat→α→β×Int) (l:List α) (i:Nat) (acc:List β) (h:i<l.length):x0v F i (l.drop i) acc=if (F i (l.getD i default)).2≠0 then([],(F i (l.getD i default)).2) else x0v F (i+1) (l.drop (i+1)) (acc++ [(F i (l.getD i default)).1]):=by
 rw [List.drop_eq_getElem_cons h,x0v,List.getD_eq_getElem?_getD,List.getElem?_eq_getElem h];rfl
end Go.Pv
end
section
/-The document's intervals:RightIv,Hull,Meet,SameIv. -/
set_option maxRecDepth 100000
namespace Go.Pv
open Go.Proofs
theorem y1r {a b:Nm} (ha:Q0r a=true) (hb:Q0r b=true):cmpR a b=cmpN a b:=if_pos ⟨ha,hb⟩
theorem J0p (x:Ivl) (st:Q0e) (hw:wI x):PCalls Tryz.prog 28 [.agg (encI x)] st (fun r st'=>r= .sc (.bool (Q0m x))∧st'=st):=by
 obtain⟨h1,h2⟩:=hw
 unfold wN at h1 h2
 refine Q0b none Tryz.func28 rfl fun E=>Q0a ?_
 simp -dsimp only [go_sem]
 refine(z0d x.lo st (by omega)).mono ?_
 rintro r st ⟨rfl,rfl⟩
 simp -dsimp only [go_sem]
 refine gkT (fun h=> ?_) (fun h=> ?_)
 · simp -dsimp only [go_sem,h]
   refine(z0d x.hi st (by omega)).mono ?_
   rintro r st ⟨rfl,rfl⟩
   simp -dsimp only [go_sem,h]
   refine gkT (fun h'=> ?_) (fun h'=> ?_)
   · simp -dsimp only [go_sem,h,h']
     refine(j1x x.lo x.hi st (by omega) (by omega)).mono ?_
     rintro r st ⟨rfl,rfl⟩
     simp -dsimp only [go_sem,h,h',y1r h h']
     simp [Q0m,h,h']
   · simp -dsimp only [go_sem,h,h']
     simp [Q0m,h,h']
 · simp -dsimp only [go_sem,h]
   simp [Q0m,h]
theorem G2d (a b:Ivl) (st:Q0e) (ha:wI a) (hb:wI b):PCalls Tryz.prog 169 [.agg (encI a),.agg (encI b)] st (fun r st'=>r= .sc (.bool (decide (a=b)))∧st'=st):=by
 have h1:=ha.1;have h2:=ha.2;have h3:=hb.1;have h4:=hb.2
 unfold wN at h1 h2 h3 h4
 refine Q0b none Tryz.func169 rfl fun E=>Q0a ?_
 simp -dsimp only [go_sem]
 refine(Y1o a.lo b.lo st (by omega) (by omega)).mono ?_
 rintro r st ⟨rfl,rfl⟩
 simp -dsimp only [go_sem]
 refine gkT (fun h=> ?_) (fun h=> ?_)
 · have h':=of_decide_eq_true h
   simp -dsimp only [go_sem,h]
   refine(Y1o a.hi b.hi st (by omega) (by omega)).mono ?_
   rintro r st ⟨rfl,rfl⟩
   simp -dsimp only [go_sem,h]
   have:decide (a.hi=b.hi)=decide (a=b):=decide_eq_decide.2 ⟨fun e=>by cases a;cases b;simp_all,fun e=>by rw [e]⟩
   rw [this]
 · have h':=of_decide_eq_false h
   simp -dsimp only [go_sem,h]
   rw [decide_eq_false (fun e=>h' (by rw [e]))]
end Go.Pv
end
section
/-The document's boxes:Meet,RightBox,HullBox,SameBox. -/
set_option maxRecDepth 100000
namespace Go.Pv
open Go.Proofs
theorem z0c (l:List Ivl) (st:Q0e) (hw:wB l):PCalls Tryz.prog 166 [.sl .no (Q0s l)] st (fun r st'=>r= .sc (.bool (rightB l))∧st'=st):=by
 obtain⟨hl,hw⟩:=hw
 refine Q0b none Tryz.func166 rfl fun E=>Q0a ?_
 simp -dsimp only [go_sem]
 refine Q0f [true,false,false,true] 0 0 (fun n s=> ∃i,n=l.length-i∧i≤l.length∧(l.take i).all Q0m=true∧s=⟨[.sl .no (Q0s l),.junk,.junk,.sc (.int .i64 i)]++List.replicate 24 .junk,[],[],st⟩) l.length ?_ ?_
 · simp -dsimp only [go_sem]
   exact⟨0,by omega,by omega,rfl,rfl⟩
 · rintro n s ⟨i,rfl,hi,hr,rfl⟩
   have fin:i=l.length∨ ¬(i:Int)<4→decide ((l.length:Int)>0)=true→decide ((l.length:Int)≤4)=rightB l:=fun h h1=>by
    have h1:=of_decide_eq_true h1
    unfold rightB
    rcases h with h | h
    · have hall:l.all Q0m=true:=by rw [←List.take_length (l:=l),←h];exact hr
      rw [hall,decide_eq_true (by omega:1≤l.length)]
      simp only [Bool.true_and]
      exact decide_eq_decide.2 (by omega)
    · by_cases h4:l.length≤4
      · have:i=l.length:=by omega
        have hall:l.all Q0m=true:=by rw [←List.take_length (l:=l),←this];exact hr
        rw [hall,decide_eq_true (by omega:1≤l.length)]
        simp only [Bool.true_and]
        exact decide_eq_decide.2 (by omega)
      · rw [decide_eq_false h4,decide_eq_false (by omega)];simp
   have fin0:decide ((l.length:Int)>0)=false→rightB l=false:=fun h=>by
    have:=of_decide_eq_false h
    unfold rightB;rw [decide_eq_false (by omega: ¬1≤l.length)];simp
   simp -dsimp only [go_sem]
   refine gkT (fun h=> ?_) (fun h=> ?_)
   · have hlt:i<l.length:=by have:=of_decide_eq_true h;omega
     simp -dsimp only [go_sem,h]
     refine ck (fun h4=> ?_) (fun h4=> ?_)
     · have e1:=Z0m l i hlt
       have e3:IntKind.i64.wrap ((i:Int)+1)=((i+1:Nat):Int):=by rw [Q0k _ (by omega) (by omega)];omega
       have e4:=k1i Q0m l i default hlt
       simp -dsimp only [go_sem,e1]
       refine⟨by omega,?_⟩
       refine(J0p _ st (hw i hlt)).mono ?_
       rintro r st ⟨rfl,rfl⟩
       simp -dsimp only [go_sem,e1]
       refine ck (fun h=> ?_) (fun h=> ?_)
       · have hf:Q0m (l.getD i default)=false:=by simpa using h
         simp -dsimp only [go_sem]
         have:rightB l=false:=by
          cases hb:rightB l with
          | false=>rfl
          | true=>
           unfold rightB at hb
           simp only [Bool.and_eq_true] at hb
           have:=(X1b default Q0m l).1 hb.1.1 i hlt
           rw [this] at hf;cases hf
         rw [this]
       · have ht:Q0m (l.getD i default)=true:=by simpa using h
         simp -dsimp only [go_sem,e3]
         exact⟨l.length-(i+1),by omega,i+1,rfl,by omega,by rw [e4,hr,ht];rfl,rfl⟩
     · have h4':=of_decide_eq_false h4
       simp -dsimp only [go_sem]
       refine Q0a ?_
       simp -dsimp only [go_sem]
       refine gkT (fun h=> ?_) (fun h=> ?_)
       · simp -dsimp only [go_sem,h]
         rw [fin (.inr h4') h]
       · simp -dsimp only [go_sem,h]
         rw [fin0 h]
   · have hge:i=l.length:=by have:=of_decide_eq_false h;omega
     simp -dsimp only [go_sem,h]
     refine Q0a ?_
     simp -dsimp only [go_sem]
     refine gkT (fun h=> ?_) (fun h=> ?_)
     · simp -dsimp only [go_sem,h]
       rw [fin (.inl hge) h]
     · simp -dsimp only [go_sem,h]
       rw [fin0 h]
theorem Z2o (a b:List Ivl) (st:Q0e) (ha:wB a) (hb:wB b):PCalls Tryz.prog 107 [.sl .no (Q0s a),.sl .no (Q0s b)] st (fun r st'=>r= .sc (.bool (decide (a=b)))∧st'=st):=by
 have hla:=ha.1
 have hlb:=hb.1
 refine Q0b none Tryz.func107 rfl fun E=>Q0a ?_
 simp -dsimp only [go_sem]
 refine ck (fun h0=> ?_) (fun h0=> ?_)
 · have hne:=w0o h0
   simp -dsimp only [go_sem]
   rw [decide_eq_false (fun e=>hne (by rw [e]))]
 · have hl:=z0x h0
   simp -dsimp only [go_sem]
   refine Q0f [true,true,false,false,false,true] 0 0 (fun n s=> ∃i,n=a.length-i∧i≤a.length∧(∀j,j<i→a.getD j default=b.getD j default)∧s=⟨[.sl .no (Q0s a),.sl .no (Q0s b),.junk,.junk,.junk,.sc (.int .i64 i)]++List.replicate 21 .junk,[],[],st⟩) a.length ?_ ?_
   · simp -dsimp only [go_sem]
     exact⟨0,by omega,by omega,fun j hj=>by omega,rfl⟩
   · rintro n s ⟨i,rfl,hi,hr,rfl⟩
     simp -dsimp only [go_sem]
     refine ck (fun h'=> ?_) (fun h'=> ?_)
     · have hlt:i<a.length:=by have:=of_decide_eq_true h';omega
       have e1:=Z0m a i hlt
       have e2:=Z0m b i (by omega)
       have e3:IntKind.i64.wrap ((i:Int)+1)=((i+1:Nat):Int):=by rw [Q0k _ (by omega) (by omega)];omega
       simp -dsimp only [go_sem]
       refine Q0p Z0g 27 (.step 0 [] (.step 1 [] (.step 2 [] (.step 3 [] (.step 4 [] (.step 5 [] (.step 6 [] (.step 7 [] (.step 8 [] (.step 9 [] (.done))))))))))) (by decide+kernel) (by simp) ?_
       simp -dsimp only [go_sem,e1,e2]
       refine⟨by omega,by omega,?_⟩
       refine(G2d _ _ st (ha.2 i hlt) (hb.2 i (by omega))).mono ?_
       rintro r st ⟨rfl,rfl⟩
       simp -dsimp only [go_sem]
       refine ck (fun h2=> ?_) (fun h2=> ?_)
       · have hf:a.getD i default≠b.getD i default:=by
          intro e;rw [e] at h2;simp at h2
         simp -dsimp only [go_sem]
         rw [decide_eq_false (fun e=>hf (by rw [e]))]
       · have ht:a.getD i default=b.getD i default:=by
          apply Decidable.byContradiction;intro e;rw [decide_eq_false e] at h2;cases h2
         simp -dsimp only [go_sem,e3]
         refine⟨a.length-(i+1),by omega,i+1,rfl,by omega,fun j hj=> ?_,rfl⟩
         by_cases e:j=i
         · subst e;exact ht
         · exact hr j (by omega)
     · have hge:i=a.length:=by have:=of_decide_eq_false h';omega
       simp -dsimp only [go_sem]
       refine Q0a ?_
       simp -dsimp only [go_sem]
       rw [decide_eq_true (G0k default hl fun j hj=>hr j (by omega))]
end Go.Pv
end
