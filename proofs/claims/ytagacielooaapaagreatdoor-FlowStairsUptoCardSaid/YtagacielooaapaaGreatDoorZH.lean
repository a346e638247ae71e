/- Parts of the walk: F16, F17, F18, F19, F20. -/
import Derived.Test.YtagacielooaapaaGreatDoorZG
import Derived.Test.YtagacielooaapaaGreatDoorZE
set_option linter.unusedVariables false
set_option linter.unusedSimpArgs false
section
/-The document's values:Of,Turned,Plus,Less,Sign,Order,CmpNum. -/
set_option maxRecDepth 100000
namespace Go.Pv
open Go.Proofs
theorem of_c (x:Nm) (st:Q0f) (hl:x.w.length≤1000000000000):PCalls Tryz.prog 27 [.agg (encN x)] st (fun r st'=>r= .agg (encV (ofN x))∧st'=st):=by
 refine Q0b none Tryz.func27 rfl fun E=>Q0a ?_
 simp -dsimp only [go_sem]
 refine Q0l Z0t 11 (.step 0 [] (.step 1 [] (.step 2 [] (.step 3 [] (.step 5 [] (.step 6 [] (.step 4 [1,6] (.step 7 [] (.step 8 [] (.done)))))))))) (by decide+kernel) (by simp) ?_
 simp -dsimp only [go_sem]
 refine(Y2z x.w st hl).mono ?_
 rintro r st ⟨rfl,rfl⟩
 simp -dsimp only [go_sem]
 rfl
theorem lenV (m:Nat):((((Q0e m).length:Nat):Int)==0)=decide (m=0):=by
 by_cases h:m=0
 · subst h;rw [Z0d];rfl
 · rw [decide_eq_false h]
   have:(Q0e m).length≠0:=fun e=>h (digitsOf_nil.1 (List.length_eq_zero_iff.1 e))
   exact beq_eq_false_iff_ne.2 (by omega)
theorem x2q (v:Vl) (st:Q0f):PCalls Tryz.prog 118 [.agg (encV v)] st (fun r st'=>r= .agg (encV (K0i v))∧st'=st):=by
 refine Q0b none Tryz.func118 rfl fun E=>Q0a ?_
 simp -dsimp only [go_sem]
 refine ck (fun h=> ?_) (fun h=> ?_)
 · have h0:v.m≠0:=fun e=>by rw [e,Z0d] at h;cases h
   simp -dsimp only [go_sem]
   rw [K0i,if_neg h0]
 · have h0:v.m=0:=by
    have:=of_decide_eq_false h
    exact digitsOf_nil.1 (List.length_eq_zero_iff.1 (by omega))
   simp -dsimp only [go_sem]
   rw [K0i,if_pos h0]
theorem j1h (v:Vl) (st:Q0f):PCalls Tryz.prog 29 [.agg (encV v)] st (fun r st'=>r= .sc (.int .i64 (V0u v))∧st'=st):=by
 refine Q0b none Tryz.func29 rfl fun E=>Q0a ?_
 simp -dsimp only [go_sem,lenV]
 refine ck (fun h=> ?_) (fun h=> ?_)
 · have h0:v.m=0:=of_decide_eq_true h
   simp -dsimp only [go_sem]
   rw [V0u,if_pos h0]
 · have h0:v.m≠0:=of_decide_eq_false h
   simp -dsimp only [go_sem]
   refine ck (fun h=> ?_) (fun h=> ?_)
   · simp -dsimp only [go_sem]
     rw [V0u,if_neg h0,if_pos h]
   · simp -dsimp only [go_sem]
     rw [V0u,if_neg h0,if_neg (by simp [h])]
def smV (v:Vl):Prop:=Q0g v.m≤1000000000000∧ -100000000000≤v.e∧v.e≤100000000000
theorem y1g (v:Vl) (k:Nat):Z0w v*2^k=if v.neg then -((v.m*2^k:Nat):Int) else((v.m*2^k:Nat):Int):=by
 unfold Z0w
 cases v.neg
 · simp
 · simp [Int.neg_mul]
theorem V1u (a b:Vl) (st:Q0f) (ha:smV a) (hb:smV b):PCalls Tryz.prog 74 [.agg (encV a),.agg (encV b)] st (fun r st'=>r= .agg (encV (K0n a b))∧st'=st):=by
 obtain⟨a1,a2,a3⟩:=ha
 obtain⟨b1,b2,b3⟩:=hb
 refine Q0b none Tryz.func74 rfl fun E=>Q0a ?_
 simp -dsimp only [go_sem,lenV]
 refine ck (fun h=> ?_) (fun h=> ?_)
 · have h0:a.m=0:=of_decide_eq_true h
   simp -dsimp only [go_sem]
   rw [K0n,if_pos h0]
 · have ha0:a.m≠0:=of_decide_eq_false h
   simp -dsimp only [go_sem,lenV]
   refine ck (fun h=> ?_) (fun h=> ?_)
   · have h0:b.m=0:=of_decide_eq_true h
     simp -dsimp only [go_sem]
     rw [K0n,if_neg ha0,if_pos h0]
   · have hb0:b.m≠0:=of_decide_eq_false h
     simp -dsimp only [go_sem]
     have hmin:(if b.e<a.e then b.e else a.e)=min a.e b.e:=by split<;>omega
     have w1:IntKind.i64.wrap (a.e-min a.e b.e)=(((a.e-min a.e b.e).toNat:Nat):Int):=by rw [Q0h _ (by omega) (by omega)];omega
     have w2:IntKind.i64.wrap (b.e-min a.e b.e)=(((b.e-min a.e b.e).toNat:Nat):Int):=by rw [Q0h _ (by omega) (by omega)];omega
     have la:=X0t a.m
     have lb:=X0t b.m
     have l1:=K0w a.m (a.e-min a.e b.e).toNat
     have l2:=K0w b.m (b.e-min a.e b.e).toNat
     have px:a.m*2^(a.e-min a.e b.e).toNat≠0:=Nat.mul_ne_zero ha0 (by have:0<2^(a.e-min a.e b.e).toNat:=Nat.pow_pos (by decide)
                                                                      omega)
     have py:b.m*2^(b.e-min a.e b.e).toNat≠0:=Nat.mul_ne_zero hb0 (by have:0<2^(b.e-min a.e b.e).toNat:=Nat.pow_pos (by decide)
                                                                      omega)
     have hspec:K0n a b=mkV ((if a.neg then -((a.m*2^(a.e-min a.e b.e).toNat:Nat):Int) else((a.m*2^(a.e-min a.e b.e).toNat:Nat):Int))+(if b.neg then -((b.m*2^(b.e-min a.e b.e).toNat:Nat):Int) else((b.m*2^(b.e-min a.e b.e).toNat:Nat):Int))) (min a.e b.e):=by
      rw [K0n,if_neg ha0,if_neg hb0,y1g,y1g]
     have he1:(a.e-min a.e b.e).toNat≤200000000000:=by omega
     have he2:(b.e-min a.e b.e).toNat≤200000000000:=by omega
     have hm1: -100000000000≤min a.e b.e:=by omega
     have hm2:min a.e b.e≤100000000000:=by omega
     rw [hmin]
     refine Q0l Z0t 71 (.step 0 [] (.step 1 [] (.step 2 [] (.step 3 [] (.step 4 [] (.step 5 [] (.step 7 [] (.step 8 [] (.step 9 [] (.step 10 [] (.step 11 [] (.step 12 [] (.step 6 [8,10] (.step 13 [] (.step 14 [] (.step 15 [] (.done))))))))))))))))) (by decide+kernel) (by simp) ?_
     simp -dsimp only [go_sem,w1,w2]
     refine(H1h a.m _ st (by omega) (by omega)).mono ?_
     rintro r st ⟨rfl,rfl⟩
     simp -dsimp only [go_sem,w1,w2]
     refine(H1h b.m _ st (by omega) (by omega)).mono ?_
     rintro r st ⟨rfl,rfl⟩
     simp -dsimp only [go_sem,w1,w2]
     rw [hspec]
     generalize a.m*2^(a.e-min a.e b.e).toNat=x at*
     generalize b.m*2^(b.e-min a.e b.e).toNat=y at*
     generalize min a.e b.e=e at*
     have lx:=X0t x
     have ly:=X0t y
     have ls:=w0f x y
     refine ck (fun h=> ?_) (fun h=> ?_)
     · have hn:a.neg=b.neg:=by simpa using h
       simp -dsimp only [go_sem]
       refine Q0l Z0t 71 (.step 0 [] (.step 1 [] (.step 2 [] (.step 3 [] (.step 5 [] (.step 4 [1] (.step 6 [] (.step 7 [] (.done))))))))) (by decide+kernel) (by simp) ?_
       simp -dsimp only [go_sem]
       refine(j2m x y st (by omega) (by omega)).mono ?_
       rintro r st ⟨rfl,rfl⟩
       simp -dsimp only [go_sem]
       refine(U2i a.neg (x+y) e st (by omega) (by omega) (by omega)).mono ?_
       rintro r st ⟨rfl,rfl⟩
       simp -dsimp only [go_sem]
       have:mkV ((if a.neg then -(x:Int) else x)+(if b.neg then -(y:Int) else y)) e=oddV a.neg (x+y) e:=by
        rw [←hn]
        unfold mkV
        cases a.neg
        · simp only [Bool.false_eq_true,if_false]
          rw [decide_eq_false (by omega),show((x:Int)+y).natAbs=x+y from by omega]
        · simp only [if_true]
          rw [decide_eq_true (by omega),show(-(x:Int)+ -(y:Int)).natAbs=x+y from by omega]
       rw [this]
     · have hn:a.neg= !b.neg:=by cases hx:a.neg<;>cases hy:b.neg<;>simp [hx,hy] at h⊢
       simp -dsimp only [go_sem]
       refine(j2l x y st (by omega) (by omega)).mono ?_
       rintro r st ⟨rfl,rfl⟩
       simp -dsimp only [go_sem]
       by_cases hxy:y<x
       · have c1:cmpW x y=1:=Y0l (by omega)
         have l3:=V0o (Nat.sub_le x y)
         simp -dsimp only [go_sem,c1]
         refine Q0l Z0t 71 (.step 0 [] (.step 1 [] (.step 2 [] (.step 3 [] (.step 5 [] (.step 4 [1] (.step 6 [] (.step 7 [] (.done))))))))) (by decide+kernel) (by simp) ?_
         simp -dsimp only [go_sem]
         refine(w1t x y st (by omega) (by omega)).mono ?_
         rintro r st ⟨rfl,rfl⟩
         simp -dsimp only [go_sem]
         refine(U2i a.neg (x-y) e st (by omega) (by omega) (by omega)).mono ?_
         rintro r st ⟨rfl,rfl⟩
         simp -dsimp only [go_sem]
         have:mkV ((if a.neg then -(x:Int) else x)+(if b.neg then -(y:Int) else y)) e=oddV a.neg (x-y) e:=by
          rw [hn]
          unfold mkV
          cases b.neg
          · simp only [Bool.not_false,if_true,Bool.false_eq_true,if_false]
            rw [decide_eq_true (by omega),show(-(x:Int)+y).natAbs=x-y from by omega]
          · simp only [Bool.not_true,if_true,Bool.false_eq_true,if_false]
            rw [decide_eq_false (by omega),show((x:Int)+ -(y:Int)).natAbs=x-y from by omega]
         rw [this]
       · by_cases hyx:x<y
         · have c1:cmpW x y= -1:=Y0k (by omega)
           have l3:=V0o (Nat.sub_le y x)
           simp -dsimp only [go_sem,c1]
           refine Q0l Z0t 71 (.step 0 [] (.step 1 [] (.step 2 [] (.step 3 [] (.step 5 [] (.step 4 [1] (.step 6 [] (.step 7 [] (.done))))))))) (by decide+kernel) (by simp) ?_
           simp -dsimp only [go_sem]
           refine(w1t y x st (by omega) (by omega)).mono ?_
           rintro r st ⟨rfl,rfl⟩
           simp -dsimp only [go_sem]
           refine(U2i b.neg (y-x) e st (by omega) (by omega) (by omega)).mono ?_
           rintro r st ⟨rfl,rfl⟩
           simp -dsimp only [go_sem]
           have:mkV ((if a.neg then -(x:Int) else x)+(if b.neg then -(y:Int) else y)) e=oddV b.neg (y-x) e:=by
            rw [hn]
            unfold mkV
            cases b.neg
            · simp only [Bool.not_false,if_true,Bool.false_eq_true,if_false]
              rw [decide_eq_false (by omega),show(-(x:Int)+y).natAbs=y-x from by omega]
            · simp only [Bool.not_true,if_true,Bool.false_eq_true,if_false]
              rw [decide_eq_true (by omega),show((x:Int)+ -(y:Int)).natAbs=y-x from by omega]
           rw [this]
         · have hxy:x=y:=by omega
           subst hxy
           have c1:cmpW x x=0:=y0q rfl
           simp -dsimp only [go_sem,c1]
           have:mkV ((if a.neg then -(x:Int) else x)+(if b.neg then -(x:Int) else x)) e=⟨false,0,0⟩:=by
            rw [hn]
            unfold mkV oddV
            cases b.neg<;>simp<;>omega
           rw [this,Z0d];rfl
theorem x3j (a b:Vl) (st:Q0f) (ha:smV a) (hb:smV b):PCalls Tryz.prog 57 [.agg (encV a),.agg (encV b)] st (fun r st'=>r= .agg (encV (H0k a b))∧st'=st):=by
 refine Q0b none Tryz.func57 rfl fun E=>Q0a ?_
 simp -dsimp only [go_sem]
 refine Q0l Z0t 9 (.step 0 [] (.step 1 [] (.step 2 [0] (.step 3 [] (.step 4 [] (.done)))))) (by decide+kernel) (by simp) ?_
 simp -dsimp only [go_sem]
 refine(x2q b st).mono ?_
 rintro r st ⟨rfl,rfl⟩
 simp -dsimp only [go_sem]
 refine(V1u a (K0i b) st ha (by unfold smV;rw [Z1r,Z1s];exact hb)).mono ?_
 rintro r st ⟨rfl,rfl⟩
 simp -dsimp only [go_sem]
 rfl
theorem k1d (a b:Vl) (st:Q0f) (ha:smV a) (hb:smV b):PCalls Tryz.prog 76 [.agg (encV a),.agg (encV b)] st (fun r st'=>r= .sc (.int .i64 (W0b a b))∧st'=st):=by
 refine Q0b none Tryz.func76 rfl fun E=>Q0a ?_
 simp -dsimp only [go_sem]
 refine(x3j a b st ha hb).mono ?_
 rintro r st ⟨rfl,rfl⟩
 simp -dsimp only [go_sem]
 refine(j1h _ st).mono ?_
 rintro r st ⟨rfl,rfl⟩
 simp -dsimp only [go_sem]
 rfl
theorem W2d {x:Nm} (h:sm x):smV (ofN x):=by
 obtain⟨h1,h2,h3⟩:=h
 have:=W0g x.w
 unfold X0g at this
 refine⟨?_,?_,?_⟩
 · show Q0g (valW x.w)≤_;omega
 · show _≤x.exp;omega
 · show x.exp≤_;omega
theorem y2k (a b:Nm) (st:Q0f) (ha:a.w.length≤1000000000000) (hb:b.w.length≤1000000000000):PCalls Tryz.prog 149 [.agg (encN a),.agg (encN b)] st (fun r st'=>r= .sc (.int .i64 (cmpR a b))∧st'=st):=by
 refine Q0b none Tryz.func149 rfl fun E=>Q0a ?_
 simp -dsimp only [go_sem]
 refine(x0p a st (by omega)).mono ?_
 rintro r st ⟨rfl,rfl⟩
 simp -dsimp only [go_sem]
 refine gkF (fun h=> ?_) (fun h=> ?_)
 · have h1:Q0i a=true:=by simpa using h
   simp -dsimp only [go_sem,h1]
   refine(x0p b st (by omega)).mono ?_
   rintro r st ⟨rfl,rfl⟩
   simp -dsimp only [go_sem]
   refine ck (fun h=> ?_) (fun h=> ?_)
   · have h2:Q0i b=false:=by simpa using h
     simp -dsimp only [go_sem]
     rw [cmpR,if_neg (by simp [h2])]
   · have h2:Q0i b=true:=by simpa using h
     simp -dsimp only [go_sem]
     refine Q0l Z0t 18 (.step 0 [] (.step 2 [] (.step 1 [2] (.step 3 [] (.step 4 [] (.step 5 [] (.done))))))) (by decide+kernel) (by simp) ?_
     simp -dsimp only [go_sem]
     refine(of_c a st (by omega)).mono ?_
     rintro r st ⟨rfl,rfl⟩
     simp -dsimp only [go_sem]
     refine(of_c b st (by omega)).mono ?_
     rintro r st ⟨rfl,rfl⟩
     simp -dsimp only [go_sem]
     refine(k1d _ _ st (W2d (V0y h1)) (W2d (V0y h2))).mono ?_
     rintro r st ⟨rfl,rfl⟩
     simp -dsimp only [go_sem]
     rw [cmpR,if_pos ⟨h1,h2⟩,y0d]
 · have h1:Q0i a=false:=by simpa using h
   simp -dsimp only [go_sem,h1]
   rw [cmpR,if_neg (by simp [h1])]
end Go.Pv
end
section
/-Intervals:iv.Right,Of,Hull,In;num.Same,iv.Same. -/
set_option maxRecDepth 100000
namespace Go.Pv
open Go.Proofs
theorem U0o (x:Ivl) (st:Q0f) (hw:wI x):PCalls Tryz.prog 32 [.agg (encI x)] st (fun r st'=>r= .sc (.bool (Q0j x))∧st'=st):=by
 obtain⟨h1,h2⟩:=hw
 unfold wN at h1 h2
 refine Q0b none Tryz.func32 rfl fun E=>Q0a ?_
 simp -dsimp only [go_sem]
 refine(U0d x.lo st (by omega)).mono ?_
 rintro r st ⟨rfl,rfl⟩
 simp -dsimp only [go_sem]
 refine gkT (fun h=> ?_) (fun h=> ?_)
 · simp -dsimp only [go_sem,h]
   refine(U0d x.hi st (by omega)).mono ?_
   rintro r st ⟨rfl,rfl⟩
   simp -dsimp only [go_sem,h]
   refine gkT (fun h'=> ?_) (fun h'=> ?_)
   · simp -dsimp only [go_sem,h,h']
     refine(v1e x.lo x.hi st (V0y h) (V0y h')).mono ?_
     rintro r st ⟨rfl,rfl⟩
     simp -dsimp only [go_sem,h,h']
     simp [Q0j,h,h']
   · simp -dsimp only [go_sem,h,h']
     simp [Q0j,h,h']
 · simp -dsimp only [go_sem,h]
   simp [Q0j,h]
theorem Q2u (x:Nm) (st:Q0f) (hw:wN x):PCalls Tryz.prog 180 [.agg (encN x)] st (fun r st'=>r= .agg (encN x)∧st'=st):=by
 unfold wN at hw
 refine Q0b none Tryz.func180 rfl fun E=>Q0a ?_
 simp -dsimp only [go_sem]
 omega
theorem x3a (x y:Nm) (st:Q0f) (hx:wN x) (hy:wN y):PCalls Tryz.prog 114 [.agg (encN x),.agg (encN y)] st (fun r st'=>r= .agg (encI ⟨x,y⟩)∧st'=st):=by
 refine Q0b none Tryz.func114 rfl fun E=>Q0a ?_
 simp -dsimp only [go_sem]
 refine Q0l Z0t 10 (.step 0 [] (.step 2 [] (.step 1 [2] (.step 3 [] (.step 4 [] (.step 5 [] (.done))))))) (by decide+kernel) (by simp) ?_
 simp -dsimp only [go_sem]
 refine(Q2u x st hx).mono ?_
 rintro r st ⟨rfl,rfl⟩
 simp -dsimp only [go_sem]
 refine(Q2u y st hy).mono ?_
 rintro r st ⟨rfl,rfl⟩
 simp -dsimp only [go_sem]
theorem Q2g (x:Nm) (st:Q0f) (hx:wN x):PCalls Tryz.prog 55 [.agg (encN x)] st (fun r st'=>r= .agg (encI ⟨x,x⟩)∧st'=st):=by
 refine Q0b none Tryz.func55 rfl fun E=>Q0a ?_
 simp -dsimp only [go_sem]
 refine(x3a x x st hx hx).mono ?_
 rintro r st ⟨rfl,rfl⟩
 simp -dsimp only [go_sem]
theorem W3a (a b:Nm) (st:Q0f) (ha:sm a) (hb:sm b):PCalls Tryz.prog 217 [.agg (encN a),.agg (encN b)] st (fun r st'=>r= .agg (encN (Z0o a b))∧st'=st):=by
 refine Q0b none Tryz.func217 rfl fun E=>Q0a ?_
 simp -dsimp only [go_sem]
 refine(v1e b a st hb ha).mono ?_
 rintro r st ⟨rfl,rfl⟩
 simp -dsimp only [go_sem]
 refine ck (fun h=> ?_) (fun h=> ?_)
 · simp -dsimp only [go_sem]
   rw [Z0o,if_pos (of_decide_eq_true h)]
 · simp -dsimp only [go_sem]
   rw [Z0o,if_neg (of_decide_eq_false h)]
theorem K2b (a b:Nm) (st:Q0f) (ha:sm a) (hb:sm b):PCalls Tryz.prog 218 [.agg (encN a),.agg (encN b)] st (fun r st'=>r= .agg (encN (Z0m a b))∧st'=st):=by
 refine Q0b none Tryz.func218 rfl fun E=>Q0a ?_
 simp -dsimp only [go_sem]
 refine(v1e b a st hb ha).mono ?_
 rintro r st ⟨rfl,rfl⟩
 simp -dsimp only [go_sem]
 refine ck (fun h=> ?_) (fun h=> ?_)
 · simp -dsimp only [go_sem]
   rw [Z0m,if_pos (of_decide_eq_true h)]
 · simp -dsimp only [go_sem]
   rw [Z0m,if_neg (of_decide_eq_false h)]
end Go.Pv
end
section
/-Boxes:box.Right,all,In,Same,each,pairs,Hull. -/
set_option maxRecDepth 100000
namespace Go.Pv
open Go.Proofs
theorem v1z {α:Type} (d:α) (f:α→Bool) (l:List α):l.all f=true↔ ∀i,i<l.length→f (l.getD i d)=true:=by
 rw [List.all_eq_true]
 constructor
 · intro h i hi
   exact h _ (Q0q l i d hi)
 · intro h x hx
   obtain⟨i,hi,rfl⟩:=List.mem_iff_getElem.1 hx
   have:=h i hi
   rwa [List.getD_eq_getElem?_getD,List.getElem?_eq_getElem hi] at this
theorem Q3i {α:Type} (f:α→Bool) (l:List α) (i:Nat) (d:α) (h:i<l.length):(l.take (i+1)).all f=((l.take i).all f&&f (l.getD i d)):=by
 rw [Z1u l i d h,List.all_append];simp
theorem K2t (l:List Ivl) (st:Q0f) (hw:wB l):PCalls Tryz.prog 86 [.sl .no (Q0t l)] st (fun r st'=>r= .sc (.bool (rightB l))∧st'=st):=by
 obtain⟨hl,hw⟩:=hw
 refine Q0b none Tryz.func86 rfl fun E=>Q0a ?_
 simp -dsimp only [go_sem]
 refine Q0d [true,false,false,false,false,true,true,true] 0 0 (fun n s=> ∃i,n=l.length-i∧i≤l.length∧(l.take i).all Q0j=true∧s=⟨[.sl .no (Q0t l),.junk,.junk,.junk,.junk,.sl .no (Q0t l),.sc (.int .i64 l.length),.sc (.int .i64 i)]++List.replicate 15 .junk,[],[],st⟩) l.length ?_ ?_
 · simp -dsimp only [go_sem]
   exact⟨0,by omega,by omega,rfl,rfl⟩
 · rintro n s ⟨i,rfl,hi,hr,rfl⟩
   simp -dsimp only [go_sem]
   refine ck (fun h=> ?_) (fun h=> ?_)
   · have hlt:i<l.length:=by have:=of_decide_eq_true h;omega
     have e1:=J0u l i hlt
     have e3:IntKind.i64.wrap ((i:Int)+1)=((i+1:Nat):Int):=by rw [Q0h _ (by omega) (by omega)];omega
     have e4:=Q3i Q0j l i default hlt
     simp -dsimp only [go_sem,e1]
     refine⟨by omega,?_⟩
     refine(U0o _ st (hw i hlt)).mono ?_
     rintro r st ⟨rfl,rfl⟩
     simp -dsimp only [go_sem,e1]
     refine ck (fun h=> ?_) (fun h=> ?_)
     · have hf:Q0j (l.getD i default)=false:=by simpa using h
       simp -dsimp only [go_sem]
       have:rightB l=false:=by
        cases hb:rightB l with
        | false=>rfl
        | true=>
         unfold rightB at hb
         simp only [Bool.and_eq_true] at hb
         have:=(v1z default Q0j l).1 hb.1.1 i hlt
         rw [this] at hf;cases hf
       rw [this]
     · have ht:Q0j (l.getD i default)=true:=by simpa using h
       simp -dsimp only [go_sem,e3]
       exact⟨l.length-(i+1),by omega,i+1,rfl,by omega,by rw [e4,hr,ht];rfl,rfl⟩
   · have hge:i=l.length:=by have:=of_decide_eq_false h;omega
     simp -dsimp only [go_sem]
     refine Q0a ?_
     simp -dsimp only [go_sem]
     have hall:l.all Q0j=true:=by rw [←List.take_length (l:=l),←hge];exact hr
     refine gkT (fun h=> ?_) (fun h=> ?_)
     · have h1:1≤l.length:=by have:=of_decide_eq_true h;omega
       simp -dsimp only [go_sem,h]
       have:rightB l=decide ((l.length:Int)≤4):=by
        unfold rightB
        rw [hall,decide_eq_true h1]
        simp only [Bool.true_and]
        exact decide_eq_decide.2 (by omega)
       rw [this]
     · have h1: ¬1≤l.length:=by have:=of_decide_eq_false h;omega
       simp -dsimp only [go_sem,h]
       have:rightB l=false:=by unfold rightB;rw [decide_eq_false h1];simp
       rw [this]
end Go.Pv
end
section
/-Boxes:pairs,Hull. -/
set_option maxRecDepth 100000
namespace Go.Pv
open Go.Proofs
def G4j (G:Ivl→Ivl→Ivl×Int) (a b:List Ivl):List Ivl×Int:=if rightB a=true∧rightB b=true∧a.length=b.length then K1c (fun i x=>G x (b.getD i default)) 0 a [] else([],1)
end Go.Pv
end
section
/-The document's intervals:RightIv,Hull,Meet,SameIv. -/
set_option maxRecDepth 100000
namespace Go.Pv
open Go.Proofs
def H4q (a b:Ivl):Ivl×Int:=if Q0j a=true∧Q0j b=true then(if cmpN (Z0m a.lo b.lo) (Z0o a.hi b.hi)>0 then(default,4) else(⟨Z0m a.lo b.lo,Z0o a.hi b.hi⟩,0)) else(default,1)
end Go.Pv
end
