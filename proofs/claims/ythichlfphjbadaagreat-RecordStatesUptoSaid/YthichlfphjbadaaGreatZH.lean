/- Parts of the walk: F16, F17, F18, F19, F20, F21, F22, F23, F24, F25, F26. -/
import Derived.Test.YthichlfphjbadaaGreatZG
import Derived.Test.YthichlfphjbadaaGreatZE
set_option linter.unusedVariables false
set_option linter.unusedSimpArgs false
section
/-The document's values:Of,Turned,Plus,Less,Sign,Order,CmpNum. -/
set_option maxRecDepth 100000
namespace Go.Pv
open Go.Proofs
theorem of_c (x:Nm) (st:Q0g) (hl:x.w.length≤1000000000000):PCalls Tryz.prog 72 [.agg (encN x)] st (fun r st'=>r= .agg (encV (ofN x))∧st'=st):=by
 refine Q0b none Tryz.func72 rfl fun E=>Q0a ?_
 simp -dsimp only [go_sem]
 refine Q0m Z0t 11 (.step 0 [] (.step 1 [] (.step 2 [] (.step 3 [] (.step 5 [] (.step 6 [] (.step 4 [1,6] (.step 7 [] (.step 8 [] (.done)))))))))) (by decide+kernel) (by simp) ?_
 simp -dsimp only [go_sem]
 refine(W2e x.w st hl).mono ?_
 rintro r st ⟨rfl,rfl⟩
 simp -dsimp only [go_sem]
 rfl
theorem lenV (m:Nat):((((Q0d m).length:Nat):Int)==0)=decide (m=0):=by
 by_cases h:m=0
 · subst h;rw [Z0v];rfl
 · rw [decide_eq_false h]
   have:(Q0d m).length≠0:=fun e=>h (digitsOf_nil.1 (List.length_eq_zero_iff.1 e))
   exact beq_eq_false_iff_ne.2 (by omega)
theorem H2w (v:Vl) (st:Q0g):PCalls Tryz.prog 158 [.agg (encV v)] st (fun r st'=>r= .agg (encV (V0f v))∧st'=st):=by
 refine Q0b none Tryz.func158 rfl fun E=>Q0a ?_
 simp -dsimp only [go_sem]
 refine ck (fun h=> ?_) (fun h=> ?_)
 · have h0:v.m≠0:=fun e=>by rw [e,Z0v] at h;cases h
   simp -dsimp only [go_sem]
   rw [V0f,if_neg h0]
 · have h0:v.m=0:=by
    have:=of_decide_eq_false h
    exact digitsOf_nil.1 (List.length_eq_zero_iff.1 (by omega))
   simp -dsimp only [go_sem]
   rw [V0f,if_pos h0]
theorem K2q (v:Vl) (st:Q0g):PCalls Tryz.prog 160 [.agg (encV v)] st (fun r st'=>r= .sc (.int .i64 (W0j v))∧st'=st):=by
 refine Q0b none Tryz.func160 rfl fun E=>Q0a ?_
 simp -dsimp only [go_sem,lenV]
 refine ck (fun h=> ?_) (fun h=> ?_)
 · have h0:v.m=0:=of_decide_eq_true h
   simp -dsimp only [go_sem]
   rw [W0j,if_pos h0]
 · have h0:v.m≠0:=of_decide_eq_false h
   simp -dsimp only [go_sem]
   refine ck (fun h=> ?_) (fun h=> ?_)
   · simp -dsimp only [go_sem]
     rw [W0j,if_neg h0,if_pos h]
   · simp -dsimp only [go_sem]
     rw [W0j,if_neg h0,if_neg (by simp [h])]
def smV (v:Vl):Prop:=Q0j v.m≤1000000000000∧ -100000000000≤v.e∧v.e≤100000000000
theorem w1l (v:Vl) (k:Nat):Z0x v*2^k=if v.neg then -((v.m*2^k:Nat):Int) else((v.m*2^k:Nat):Int):=by
 unfold Z0x
 cases v.neg
 · simp
 · simp [Int.neg_mul]
theorem w1m (a b:Vl) (st:Q0g) (ha:smV a) (hb:smV b):PCalls Tryz.prog 120 [.agg (encV a),.agg (encV b)] st (fun r st'=>r= .agg (encV (J0p a b))∧st'=st):=by
 obtain⟨a1,a2,a3⟩:=ha
 obtain⟨b1,b2,b3⟩:=hb
 refine Q0b none Tryz.func120 rfl fun E=>Q0a ?_
 simp -dsimp only [go_sem,lenV]
 refine ck (fun h=> ?_) (fun h=> ?_)
 · have h0:a.m=0:=of_decide_eq_true h
   simp -dsimp only [go_sem]
   rw [J0p,if_pos h0]
 · have ha0:a.m≠0:=of_decide_eq_false h
   simp -dsimp only [go_sem,lenV]
   refine ck (fun h=> ?_) (fun h=> ?_)
   · have h0:b.m=0:=of_decide_eq_true h
     simp -dsimp only [go_sem]
     rw [J0p,if_neg ha0,if_pos h0]
   · have hb0:b.m≠0:=of_decide_eq_false h
     simp -dsimp only [go_sem]
     have hmin:(if b.e<a.e then b.e else a.e)=min a.e b.e:=by split<;>omega
     have w1:IntKind.i64.wrap (a.e-min a.e b.e)=(((a.e-min a.e b.e).toNat:Nat):Int):=by rw [Q0p _ (by omega) (by omega)];omega
     have w2:IntKind.i64.wrap (b.e-min a.e b.e)=(((b.e-min a.e b.e).toNat:Nat):Int):=by rw [Q0p _ (by omega) (by omega)];omega
     have la:=X0m a.m
     have lb:=X0m b.m
     have l1:=X0y a.m (a.e-min a.e b.e).toNat
     have l2:=X0y b.m (b.e-min a.e b.e).toNat
     have px:a.m*2^(a.e-min a.e b.e).toNat≠0:=Nat.mul_ne_zero ha0 (by have:0<2^(a.e-min a.e b.e).toNat:=Nat.pow_pos (by decide)
                                                                      omega)
     have py:b.m*2^(b.e-min a.e b.e).toNat≠0:=Nat.mul_ne_zero hb0 (by have:0<2^(b.e-min a.e b.e).toNat:=Nat.pow_pos (by decide)
                                                                      omega)
     have hspec:J0p a b=mkV ((if a.neg then -((a.m*2^(a.e-min a.e b.e).toNat:Nat):Int) else((a.m*2^(a.e-min a.e b.e).toNat:Nat):Int))+(if b.neg then -((b.m*2^(b.e-min a.e b.e).toNat:Nat):Int) else((b.m*2^(b.e-min a.e b.e).toNat:Nat):Int))) (min a.e b.e):=by
      rw [J0p,if_neg ha0,if_neg hb0,w1l,w1l]
     have he1:(a.e-min a.e b.e).toNat≤200000000000:=by omega
     have he2:(b.e-min a.e b.e).toNat≤200000000000:=by omega
     have hm1: -100000000000≤min a.e b.e:=by omega
     have hm2:min a.e b.e≤100000000000:=by omega
     rw [hmin]
     refine Q0m Z0t 71 (.step 0 [] (.step 1 [] (.step 2 [] (.step 3 [] (.step 4 [] (.step 5 [] (.step 7 [] (.step 8 [] (.step 9 [] (.step 10 [] (.step 11 [] (.step 12 [] (.step 6 [8,10] (.step 13 [] (.step 14 [] (.step 15 [] (.done))))))))))))))))) (by decide+kernel) (by simp) ?_
     simp -dsimp only [go_sem,w1,w2]
     refine(H1v a.m _ st (by omega) (by omega)).mono ?_
     rintro r st ⟨rfl,rfl⟩
     simp -dsimp only [go_sem,w1,w2]
     refine(H1v b.m _ st (by omega) (by omega)).mono ?_
     rintro r st ⟨rfl,rfl⟩
     simp -dsimp only [go_sem,w1,w2]
     rw [hspec]
     generalize a.m*2^(a.e-min a.e b.e).toNat=x at*
     generalize b.m*2^(b.e-min a.e b.e).toNat=y at*
     generalize min a.e b.e=e at*
     have lx:=X0m x
     have ly:=X0m y
     have ls:=W0e x y
     refine ck (fun h=> ?_) (fun h=> ?_)
     · have hn:a.neg=b.neg:=by simpa using h
       simp -dsimp only [go_sem]
       refine Q0m Z0t 71 (.step 0 [] (.step 1 [] (.step 2 [] (.step 3 [] (.step 5 [] (.step 4 [1] (.step 6 [] (.step 7 [] (.done))))))))) (by decide+kernel) (by simp) ?_
       simp -dsimp only [go_sem]
       refine(v1y x y st (by omega) (by omega)).mono ?_
       rintro r st ⟨rfl,rfl⟩
       simp -dsimp only [go_sem]
       refine(j1z a.neg (x+y) e st (by omega) (by omega) (by omega)).mono ?_
       rintro r st ⟨rfl,rfl⟩
       simp -dsimp only [go_sem]
       have:mkV ((if a.neg then -(x:Int) else x)+(if b.neg then -(y:Int) else y)) e=oddV a.neg (x+y) e:=by
        rw [←hn]
        unfold mkV
        cases a.neg
        · simp only [Bool.false_eq_true,if_false]
          rw [decide_eq_false (by omega),show((x:Int)+y).natAbs=x+y from by omega]
        · simp only [if_true]
          rw [decide_eq_true (by omega),show(-(x:Int)+ -(y:Int)).natAbs=x+y from by omega]
       rw [this]
     · have hn:a.neg= !b.neg:=by cases hx:a.neg<;>cases hy:b.neg<;>simp [hx,hy] at h⊢
       simp -dsimp only [go_sem]
       refine(q2q x y st (by omega) (by omega)).mono ?_
       rintro r st ⟨rfl,rfl⟩
       simp -dsimp only [go_sem]
       by_cases hxy:y<x
       · have c1:cmpW x y=1:=Y0x (by omega)
         have l3:=J0w (Nat.sub_le x y)
         simp -dsimp only [go_sem,c1]
         refine Q0m Z0t 71 (.step 0 [] (.step 1 [] (.step 2 [] (.step 3 [] (.step 5 [] (.step 4 [1] (.step 6 [] (.step 7 [] (.done))))))))) (by decide+kernel) (by simp) ?_
         simp -dsimp only [go_sem]
         refine(v1x x y st (by omega) (by omega)).mono ?_
         rintro r st ⟨rfl,rfl⟩
         simp -dsimp only [go_sem]
         refine(j1z a.neg (x-y) e st (by omega) (by omega) (by omega)).mono ?_
         rintro r st ⟨rfl,rfl⟩
         simp -dsimp only [go_sem]
         have:mkV ((if a.neg then -(x:Int) else x)+(if b.neg then -(y:Int) else y)) e=oddV a.neg (x-y) e:=by
          rw [hn]
          unfold mkV
          cases b.neg
          · simp only [Bool.not_false,if_true,Bool.false_eq_true,if_false]
            rw [decide_eq_true (by omega),show(-(x:Int)+y).natAbs=x-y from by omega]
          · simp only [Bool.not_true,if_true,Bool.false_eq_true,if_false]
            rw [decide_eq_false (by omega),show((x:Int)+ -(y:Int)).natAbs=x-y from by omega]
         rw [this]
       · by_cases hyx:x<y
         · have c1:cmpW x y= -1:=Y0w (by omega)
           have l3:=J0w (Nat.sub_le y x)
           simp -dsimp only [go_sem,c1]
           refine Q0m Z0t 71 (.step 0 [] (.step 1 [] (.step 2 [] (.step 3 [] (.step 5 [] (.step 4 [1] (.step 6 [] (.step 7 [] (.done))))))))) (by decide+kernel) (by simp) ?_
           simp -dsimp only [go_sem]
           refine(v1x y x st (by omega) (by omega)).mono ?_
           rintro r st ⟨rfl,rfl⟩
           simp -dsimp only [go_sem]
           refine(j1z b.neg (y-x) e st (by omega) (by omega) (by omega)).mono ?_
           rintro r st ⟨rfl,rfl⟩
           simp -dsimp only [go_sem]
           have:mkV ((if a.neg then -(x:Int) else x)+(if b.neg then -(y:Int) else y)) e=oddV b.neg (y-x) e:=by
            rw [hn]
            unfold mkV
            cases b.neg
            · simp only [Bool.not_false,if_true,Bool.false_eq_true,if_false]
              rw [decide_eq_false (by omega),show(-(x:Int)+y).natAbs=y-x from by omega]
            · simp only [Bool.not_true,if_true,Bool.false_eq_true,if_false]
              rw [decide_eq_true (by omega),show((x:Int)+ -(y:Int)).natAbs=y-x from by omega]
           rw [this]
         · have hxy:x=y:=by omega
           subst hxy
           have c1:cmpW x x=0:=y0d rfl
           simp -dsimp only [go_sem,c1]
           have:mkV ((if a.neg then -(x:Int) else x)+(if b.neg then -(x:Int) else x)) e=⟨false,0,0⟩:=by
            rw [hn]
            unfold mkV oddV
            cases b.neg<;>simp<;>omega
           rw [this,Z0v];rfl
theorem Y2h (a b:Vl) (st:Q0g) (ha:smV a) (hb:smV b):PCalls Tryz.prog 121 [.agg (encV a),.agg (encV b)] st (fun r st'=>r= .agg (encV (U0r a b))∧st'=st):=by
 refine Q0b none Tryz.func121 rfl fun E=>Q0a ?_
 simp -dsimp only [go_sem]
 refine Q0m Z0t 9 (.step 0 [] (.step 1 [] (.step 2 [0] (.step 3 [] (.step 4 [] (.done)))))) (by decide+kernel) (by simp) ?_
 simp -dsimp only [go_sem]
 refine(H2w b st).mono ?_
 rintro r st ⟨rfl,rfl⟩
 simp -dsimp only [go_sem]
 refine(w1m a (V0f b) st ha (by unfold smV;rw [Z1g,Z1h];exact hb)).mono ?_
 rintro r st ⟨rfl,rfl⟩
 simp -dsimp only [go_sem]
 rfl
theorem W2h (a b:Vl) (st:Q0g) (ha:smV a) (hb:smV b):PCalls Tryz.prog 124 [.agg (encV a),.agg (encV b)] st (fun r st'=>r= .sc (.int .i64 (V0p a b))∧st'=st):=by
 refine Q0b none Tryz.func124 rfl fun E=>Q0a ?_
 simp -dsimp only [go_sem]
 refine(Y2h a b st ha hb).mono ?_
 rintro r st ⟨rfl,rfl⟩
 simp -dsimp only [go_sem]
 refine(K2q _ st).mono ?_
 rintro r st ⟨rfl,rfl⟩
 simp -dsimp only [go_sem]
 rfl
theorem Y1s {x:Nm} (h:sm x):smV (ofN x):=by
 obtain⟨h1,h2,h3⟩:=h
 have:=v0z x.w
 unfold U0g at this
 refine⟨?_,?_,?_⟩
 · show Q0j (valW x.w)≤_;omega
 · show _≤x.exp;omega
 · show x.exp≤_;omega
theorem x0n (a b:Nm) (st:Q0g) (ha:a.w.length≤1000000000000) (hb:b.w.length≤1000000000000):PCalls Tryz.prog 74 [.agg (encN a),.agg (encN b)] st (fun r st'=>r= .sc (.int .i64 (cmpR a b))∧st'=st):=by
 refine Q0b none Tryz.func74 rfl fun E=>Q0a ?_
 simp -dsimp only [go_sem]
 refine(Z0m a st (by omega)).mono ?_
 rintro r st ⟨rfl,rfl⟩
 simp -dsimp only [go_sem]
 refine gkF (fun h=> ?_) (fun h=> ?_)
 · have h1:Q0f a=true:=by simpa using h
   simp -dsimp only [go_sem,h1]
   refine(Z0m b st (by omega)).mono ?_
   rintro r st ⟨rfl,rfl⟩
   simp -dsimp only [go_sem]
   refine ck (fun h=> ?_) (fun h=> ?_)
   · have h2:Q0f b=false:=by simpa using h
     simp -dsimp only [go_sem]
     rw [cmpR,if_neg (by simp [h2])]
   · have h2:Q0f b=true:=by simpa using h
     simp -dsimp only [go_sem]
     refine Q0m Z0t 18 (.step 0 [] (.step 2 [] (.step 1 [2] (.step 3 [] (.step 4 [] (.step 5 [] (.done))))))) (by decide+kernel) (by simp) ?_
     simp -dsimp only [go_sem]
     refine(of_c a st (by omega)).mono ?_
     rintro r st ⟨rfl,rfl⟩
     simp -dsimp only [go_sem]
     refine(of_c b st (by omega)).mono ?_
     rintro r st ⟨rfl,rfl⟩
     simp -dsimp only [go_sem]
     refine(W2h _ _ st (Y1s (J0o h1)) (Y1s (J0o h2))).mono ?_
     rintro r st ⟨rfl,rfl⟩
     simp -dsimp only [go_sem]
     rw [cmpR,if_pos ⟨h1,h2⟩,w0w]
 · have h1:Q0f a=false:=by simpa using h
   simp -dsimp only [go_sem,h1]
   rw [cmpR,if_neg (by simp [h1])]
end Go.Pv
end
section
/-Intervals:iv.Right,Of,Hull,In;num.Same,iv.Same. -/
set_option maxRecDepth 100000
namespace Go.Pv
open Go.Proofs
theorem v0o (x:Ivl) (st:Q0g) (hw:wI x):PCalls Tryz.prog 81 [.agg (encI x)] st (fun r st'=>r= .sc (.bool (Q0l x))∧st'=st):=by
 obtain⟨h1,h2⟩:=hw
 unfold wN at h1 h2
 refine Q0b none Tryz.func81 rfl fun E=>Q0a ?_
 simp -dsimp only [go_sem]
 refine(X0x x.lo st (by omega)).mono ?_
 rintro r st ⟨rfl,rfl⟩
 simp -dsimp only [go_sem]
 refine gkT (fun h=> ?_) (fun h=> ?_)
 · simp -dsimp only [go_sem,h]
   refine(X0x x.hi st (by omega)).mono ?_
   rintro r st ⟨rfl,rfl⟩
   simp -dsimp only [go_sem,h]
   refine gkT (fun h'=> ?_) (fun h'=> ?_)
   · simp -dsimp only [go_sem,h,h']
     refine(G1a x.lo x.hi st (J0o h) (J0o h')).mono ?_
     rintro r st ⟨rfl,rfl⟩
     simp -dsimp only [go_sem,h,h']
     simp [Q0l,h,h']
   · simp -dsimp only [go_sem,h,h']
     simp [Q0l,h,h']
 · simp -dsimp only [go_sem,h]
   simp [Q0l,h]
theorem v0i (x y:Nm) (st:Q0g) (hl:wN x) (hl2:wN y):PCalls Tryz.prog 63 [.agg (encN x),.agg (encN y)] st (fun r st'=>r= .sc (.bool (decide (x=y)))∧st'=st):=by
 unfold wN at hl hl2
 refine Q0b none Tryz.func63 rfl fun E=>Q0a ?_
 simp -dsimp only [go_sem]
 repeat' (first
  | (refine gkF (fun h=> ?_) (fun h=> ?_)<;>simp -dsimp only [go_sem,h])
  | (refine gkT (fun h=> ?_) (fun h=> ?_)<;>simp -dsimp only [go_sem,h])
  | (refine ck (fun h=> ?_) (fun h=> ?_)<;>simp -dsimp only [go_sem,h])
  | refine And.intro (by omega) ?_)
 case refine_1.refine_1.refine_2=>
  have hneg:= ‹(!x.neg==y.neg)=false›
  have hexp:= ‹(x.exp !=y.exp)=false›
  have hn:= ‹((x.w.length:Int) !=(y.w.length:Int))=false›
  have hneg':x.neg=y.neg:=by cases hx:x.neg<;>cases hy:y.neg<;>simp [hx,hy] at hneg⊢
  have hexp':x.exp=y.exp:=by simpa using hexp
  have hn':x.w.length=y.w.length:=v0j hn
  refine Q0e [false,false,true,true,false,false,false,false,false,false,false,false,false,false,false,false,false,false,false,false,false,false,false,false,false,false,false,false,false,true,true] 2 0 (fun n s=> ∃i,n=x.w.length-i∧i≤x.w.length∧(∀j,j<i→x.w.getD j 0=y.w.getD j 0)∧s=⟨[.junk,.junk,.lp 0 0,.lp 1 0,.junk,.junk,.junk,.junk,.junk,.junk,.junk,.junk,.junk,.junk,.junk,.junk,.junk,.junk,.junk,.junk,.junk,.junk,.junk,.junk,.junk,.junk,.junk,.junk,.junk,.sc (.int .i64 x.w.length),.sc (.int .i64 i)]++List.replicate 14 .junk,[encN x,encN y],[],st⟩) x.w.length ?_ ?_
  · simp -dsimp only [go_sem]
    exact⟨0,by omega,by omega,fun j hj=>by omega,rfl⟩
  · rintro n s ⟨i,rfl,hi,hj,rfl⟩
    simp -dsimp only [go_sem]
    refine ck (fun h=> ?_) (fun h=> ?_)
    · have hlt:i<x.w.length:=by have:=of_decide_eq_true h;omega
      have e1:=X0t x.w i hlt
      have e2:=X0t y.w i (by omega)
      have e3:IntKind.i64.wrap ((i:Int)+1)=((i+1:Nat):Int):=by rw [Q0p _ (by omega) (by omega)];omega
      simp -dsimp only [go_sem,h]
      refine Q0m Z0t 45 (.step 0 [] (.step 1 [] (.step 2 [] (.step 3 [] (.step 4 [] (.step 5 [] (.step 6 [] (.step 7 [] (.step 8 [] (.step 9 [] (.step 10 [] (.done)))))))))))) (by decide+kernel) (by simp) ?_
      simp -dsimp only [go_sem,h,e1,e2]
      refine⟨by omega,by omega,ck (fun h2=> ?_) (fun h2=> ?_)⟩
      · simp -dsimp only [go_sem,h2]
        rw [decide_eq_false (fun e=>by subst e;simp at h2)]
      · simp -dsimp only [go_sem,h2,e3]
        refine⟨x.w.length-(i+1),by omega,i+1,rfl,by omega,fun j hj'=> ?_,rfl⟩
        by_cases hji:j=i
        · subst hji;exact UInt64.toNat.inj (v0j h2)
        · exact hj j (by omega)
    · have hge:i=x.w.length:=by have:=of_decide_eq_false h;omega
      simp -dsimp only [go_sem,h]
      refine Q0a ?_
      simp -dsimp only [go_sem,h]
      rw [decide_eq_true]
      have hw:x.w=y.w:=H0e 0 hn' fun j h1=>hj j (by omega)
      cases x;cases y;simp_all
 all_goals rw [decide_eq_false (fun e=>by subst e;simp at*)]
theorem x2y (a b:Ivl) (st:Q0g) (ha:wI a) (hb:wI b):PCalls Tryz.prog 115 [.agg (encI a),.agg (encI b)] st (fun r st'=>r= .sc (.bool (decide (a=b)))∧st'=st):=by
 refine Q0b none Tryz.func115 rfl fun E=>Q0a ?_
 simp -dsimp only [go_sem]
 refine(v0i a.lo b.lo st ha.1 hb.1).mono ?_
 rintro r st ⟨rfl,rfl⟩
 simp -dsimp only [go_sem]
 refine gkT (fun h=> ?_) (fun h=> ?_)
 · have h':=of_decide_eq_true h
   simp -dsimp only [go_sem,h]
   refine(v0i a.hi b.hi st ha.2 hb.2).mono ?_
   rintro r st ⟨rfl,rfl⟩
   simp -dsimp only [go_sem,h]
   have:decide (a.hi=b.hi)=decide (a=b):=decide_eq_decide.2 ⟨fun e=>by cases a;cases b;simp_all,fun e=>by rw [e]⟩
   rw [this]
 · have h':=of_decide_eq_false h
   simp -dsimp only [go_sem,h]
   rw [decide_eq_false (fun e=>h' (by rw [e]))]
end Go.Pv
end
section
/-Boxes:box.Right,all,In,Same,each,pairs,Hull. -/
set_option maxRecDepth 100000
namespace Go.Pv
open Go.Proofs
theorem K1c {α:Type} (d:α) (f:α→Bool) (l:List α):l.all f=true↔ ∀i,i<l.length→f (l.getD i d)=true:=by
 rw [List.all_eq_true]
 constructor
 · intro h i hi
   exact h _ (Q0y l i d hi)
 · intro h x hx
   obtain⟨i,hi,rfl⟩:=List.mem_iff_getElem.1 hx
   have:=h i hi
   rwa [List.getD_eq_getElem?_getD,List.getElem?_eq_getElem hi] at this
theorem Q2d {α:Type} (f:α→Bool) (l:List α) (i:Nat) (d:α) (h:i<l.length):(l.take (i+1)).all f=((l.take i).all f&&f (l.getD i d)):=by
 rw [Y0d l i d h,List.all_append];simp
theorem Y1d (l:List Ivl) (st:Q0g) (hw:wB l):PCalls Tryz.prog 38 [.sl .no (Q0t l)] st (fun r st'=>r= .sc (.bool (rightB l))∧st'=st):=by
 obtain⟨hl,hw⟩:=hw
 refine Q0b none Tryz.func38 rfl fun E=>Q0a ?_
 simp -dsimp only [go_sem]
 refine Q0e [true,false,false,false,false,true,true,true] 0 0 (fun n s=> ∃i,n=l.length-i∧i≤l.length∧(l.take i).all Q0l=true∧s=⟨[.sl .no (Q0t l),.junk,.junk,.junk,.junk,.sl .no (Q0t l),.sc (.int .i64 l.length),.sc (.int .i64 i)]++List.replicate 15 .junk,[],[],st⟩) l.length ?_ ?_
 · simp -dsimp only [go_sem]
   exact⟨0,by omega,by omega,rfl,rfl⟩
 · rintro n s ⟨i,rfl,hi,hr,rfl⟩
   simp -dsimp only [go_sem]
   refine ck (fun h=> ?_) (fun h=> ?_)
   · have hlt:i<l.length:=by have:=of_decide_eq_true h;omega
     have e1:=J0e l i hlt
     have e3:IntKind.i64.wrap ((i:Int)+1)=((i+1:Nat):Int):=by rw [Q0p _ (by omega) (by omega)];omega
     have e4:=Q2d Q0l l i default hlt
     simp -dsimp only [go_sem,e1]
     refine⟨by omega,?_⟩
     refine(v0o _ st (hw i hlt)).mono ?_
     rintro r st ⟨rfl,rfl⟩
     simp -dsimp only [go_sem,e1]
     refine ck (fun h=> ?_) (fun h=> ?_)
     · have hf:Q0l (l.getD i default)=false:=by simpa using h
       simp -dsimp only [go_sem]
       have:rightB l=false:=by
        cases hb:rightB l with
        | false=>rfl
        | true=>
         unfold rightB at hb
         simp only [Bool.and_eq_true] at hb
         have:=(K1c default Q0l l).1 hb.1.1 i hlt
         rw [this] at hf;cases hf
       rw [this]
     · have ht:Q0l (l.getD i default)=true:=by simpa using h
       simp -dsimp only [go_sem,e3]
       exact⟨l.length-(i+1),by omega,i+1,rfl,by omega,by rw [e4,hr,ht];rfl,rfl⟩
   · have hge:i=l.length:=by have:=of_decide_eq_false h;omega
     simp -dsimp only [go_sem]
     refine Q0a ?_
     simp -dsimp only [go_sem]
     have hall:l.all Q0l=true:=by rw [←List.take_length (l:=l),←hge];exact hr
     refine gkT (fun h=> ?_) (fun h=> ?_)
     · have h1:1≤l.length:=by have:=of_decide_eq_true h;omega
       simp -dsimp only [go_sem,h]
       have:rightB l=decide ((l.length:Int)≤4):=by
        unfold rightB
        rw [hall,decide_eq_true h1]
        simp only [Bool.true_and]
        exact decide_eq_decide.2 (by omega)
       rw [this]
     · have h1: ¬1≤l.length:=by have:=of_decide_eq_false h;omega
       simp -dsimp only [go_sem,h]
       have:rightB l=false:=by unfold rightB;rw [decide_eq_false h1];simp
       rw [this]
theorem x1q {α:Type} [Inhabited α] (f:α→α→Bool) (a b:List α) (hl:a.length=b.length):allF f a b=(List.range a.length).all fun i=>f (a.getD i default) (b.getD i default):=by
 unfold allF;rw [decide_eq_true hl];rfl
theorem k2o (g:FuncId) (f:Ivl→Ivl→Bool) (a b:List Ivl) (st:Q0g) (hc:Q0c Tryz.prog g=true) (ha:a.length≤100000000000) (hb:b.length≤100000000000)
 (h: ∀i,i<a.length→i<b.length→PCalls Tryz.prog g [.agg (encI (a.getD i default)),.agg (encI (b.getD i default))] st (fun r st'=>r= .sc (.bool (f (a.getD i default) (b.getD i default)))∧st'=st)):
 PCalls Tryz.prog 114 [.sl .no (Q0t a),.sl .no (Q0t b),.fn (.func g) [] []] st (fun r st'=>r= .sc (.bool (allF f a b))∧st'=st):=by
 refine Q0b none Tryz.func114 rfl fun E=>Q0a ?_
 simp -dsimp only [go_sem]
 refine ck (fun h0=> ?_) (fun h0=> ?_)
 · have hne:=W1e h0
   simp -dsimp only [go_sem]
   have:allF f a b=false:=by unfold allF;rw [decide_eq_false hne];rfl
   rw [this]
 · have hl:=v0j h0
   rw [x1q f a b hl]
   simp -dsimp only [go_sem]
   refine Q0e [true,true,true,false,false,false,false,false,false,false,false,false,false,false,true,true] 0 0 (fun n s=> ∃i,n=a.length-i∧i≤a.length∧(∀j,j<i→f (a.getD j default) (b.getD j default)=true)∧s=⟨[.sl .no (Q0t a),.sl .no (Q0t b),.fn (.func g) [] [],.junk,.junk,.junk,.junk,.junk,.junk,.junk,.junk,.junk,.junk,.junk,.sc (.int .i64 a.length),.sc (.int .i64 i)]++List.replicate 14 .junk,[],[],st⟩) a.length ?_ ?_
   · simp -dsimp only [go_sem]
     exact⟨0,by omega,by omega,fun j hj=>by omega,rfl⟩
   · rintro n s ⟨i,rfl,hi,hr,rfl⟩
     simp -dsimp only [go_sem]
     refine ck (fun h'=> ?_) (fun h'=> ?_)
     · have hlt:i<a.length:=by have:=of_decide_eq_true h';omega
       have e1:=J0e a i hlt
       have e2:=J0e b i (by omega)
       have e3:IntKind.i64.wrap ((i:Int)+1)=((i+1:Nat):Int):=by rw [Q0p _ (by omega) (by omega)];omega
       simp -dsimp only [go_sem]
       refine Q0m Z0t 30 (.step 0 [] (.step 1 [] (.step 2 [] (.step 3 [] (.step 4 [] (.step 5 [] (.step 6 [] (.step 7 [] (.step 8 [] (.step 9 [] (.step 10 [] (.done)))))))))))) (by decide+kernel) (by simp) ?_
       simp -dsimp only [go_sem,e1,e2,hc]
       refine⟨by omega,by omega,?_⟩
       refine(h i hlt (by omega)).mono ?_
       rintro r st ⟨rfl,rfl⟩
       simp -dsimp only [go_sem]
       refine ck (fun h2=> ?_) (fun h2=> ?_)
       · have hf:f (a.getD i default) (b.getD i default)=false:=by simpa using h2
         simp -dsimp only [go_sem]
         have:((List.range a.length).all fun i=>f (a.getD i default) (b.getD i default))=false:=by
          rw [List.all_eq_false];exact⟨i,by simpa using hlt,fun e=>by rw [hf] at e;cases e⟩
         first | rw [this] | rw [←List.range_eq_range',this]
       · have ht:f (a.getD i default) (b.getD i default)=true:=by simpa using h2
         simp -dsimp only [go_sem,e3]
         refine⟨a.length-(i+1),by omega,i+1,rfl,by omega,fun j hj=> ?_,rfl⟩
         by_cases e:j=i
         · subst e;exact ht
         · exact hr j (by omega)
     · have hge:i=a.length:=by have:=of_decide_eq_false h';omega
       simp -dsimp only [go_sem]
       refine Q0a ?_
       simp -dsimp only [go_sem]
       have:((List.range a.length).all fun i=>f (a.getD i default) (b.getD i default))=true:=by
        rw [List.all_eq_true];intro j hj;exact hr j (by rw [hge];simpa using hj)
       first | rw [this] | rw [←List.range_eq_range',this]
theorem K3u {α:Type} [Inhabited α] [DecidableEq α] (a b:List α):allF (fun x y=>decide (x=y)) a b=decide (a=b):=by
 by_cases hl:a.length=b.length
 · rw [x1q _ _ _ hl,Bool.eq_iff_iff,List.all_eq_true,decide_eq_true_iff]
   constructor
   · intro h
     exact H0e default hl fun j hj=>of_decide_eq_true (h j (by simpa using hj))
   · rintro rfl j hj;simp
 · rw [allF,decide_eq_false hl,decide_eq_false (fun e=>hl (by rw [e]))];rfl
theorem G2h (a b:List Ivl) (st:Q0g) (ha:wB a) (hb:wB b):PCalls Tryz.prog 64 [.sl .no (Q0t a),.sl .no (Q0t b)] st (fun r st'=>r= .sc (.bool (decide (a=b)))∧st'=st):=by
 refine Q0b none Tryz.func64 rfl fun E=>Q0a ?_
 simp -dsimp only [go_sem]
 refine(k2o _ (fun x y=>decide (x=y)) a b st rfl ha.1 hb.1 fun i h1 h2=>x2y _ _ st (ha.2 i h1) (hb.2 i h2)).mono ?_
 rintro r st ⟨rfl,rfl⟩
 simp -dsimp only [go_sem,K3u]
theorem W1y {α β:Type} [Inhabited α] (F:Nat→α→β×Int) (l:List α) (i:Nat) (acc:List β) (h:i<l.length):W0k F i (l.drop i) acc=if (F i (l.getD i default)).2≠0 then([],(F i (l.getD i default)).2) else W0k F (i+1) (l.drop (i+1)) (acc++ [(F i (l.getD i default)).1]):=by
 rw [List.drop_eq_getElem_cons h,W0k,List.getD_eq_getElem?_getD,List.getElem?_eq_getElem h];rfl
end Go.Pv
end
section
/-Boxes:pairs,Hull. -/
set_option maxRecDepth 100000
namespace Go.Pv
open Go.Proofs
def K4j (G:Ivl→Ivl→Ivl×Int) (a b:List Ivl):List Ivl×Int:=if rightB a=true∧rightB b=true∧a.length=b.length then W0k (fun i x=>G x (b.getD i default)) 0 a [] else([],1)
end Go.Pv
end
section
/-The document's intervals:RightIv,Hull,Meet,SameIv. -/
set_option maxRecDepth 100000
namespace Go.Pv
open Go.Proofs
theorem X2z {a b:Nm} (ha:Q0f a=true) (hb:Q0f b=true):cmpR a b=cmpN a b:=if_pos ⟨ha,hb⟩
theorem V0n (x:Ivl) (st:Q0g) (hw:wI x):PCalls Tryz.prog 125 [.agg (encI x)] st (fun r st'=>r= .sc (.bool (Q0l x))∧st'=st):=by
 obtain⟨h1,h2⟩:=hw
 unfold wN at h1 h2
 refine Q0b none Tryz.func125 rfl fun E=>Q0a ?_
 simp -dsimp only [go_sem]
 refine(Z0m x.lo st (by omega)).mono ?_
 rintro r st ⟨rfl,rfl⟩
 simp -dsimp only [go_sem]
 refine gkT (fun h=> ?_) (fun h=> ?_)
 · simp -dsimp only [go_sem,h]
   refine(Z0m x.hi st (by omega)).mono ?_
   rintro r st ⟨rfl,rfl⟩
   simp -dsimp only [go_sem,h]
   refine gkT (fun h'=> ?_) (fun h'=> ?_)
   · simp -dsimp only [go_sem,h,h']
     refine(x0n x.lo x.hi st (by omega) (by omega)).mono ?_
     rintro r st ⟨rfl,rfl⟩
     simp -dsimp only [go_sem,h,h',X2z h h']
     simp [Q0l,h,h']
   · simp -dsimp only [go_sem,h,h']
     simp [Q0l,h,h']
 · simp -dsimp only [go_sem,h]
   simp [Q0l,h]
def V4t (a b:Ivl):Ivl×Int:=if Q0l a=true∧Q0l b=true then(if cmpN (X0d a.lo b.lo) (X0e a.hi b.hi)>0 then(default,4) else(⟨X0d a.lo b.lo,X0e a.hi b.hi⟩,0)) else(default,1)
theorem q2g (a b:Ivl) (st:Q0g) (ha:wI a) (hb:wI b):PCalls Tryz.prog 126 [.agg (encI a),.agg (encI b)] st (fun r st'=>r= .sc (.bool (decide (a=b)))∧st'=st):=by
 have h1:=ha.1;have h2:=ha.2;have h3:=hb.1;have h4:=hb.2
 unfold wN at h1 h2 h3 h4
 refine Q0b none Tryz.func126 rfl fun E=>Q0a ?_
 simp -dsimp only [go_sem]
 refine(H0a a.lo b.lo st (by omega) (by omega)).mono ?_
 rintro r st ⟨rfl,rfl⟩
 simp -dsimp only [go_sem]
 refine gkT (fun h=> ?_) (fun h=> ?_)
 · have h':=of_decide_eq_true h
   simp -dsimp only [go_sem,h]
   refine(H0a a.hi b.hi st (by omega) (by omega)).mono ?_
   rintro r st ⟨rfl,rfl⟩
   simp -dsimp only [go_sem,h]
   have:decide (a.hi=b.hi)=decide (a=b):=decide_eq_decide.2 ⟨fun e=>by cases a;cases b;simp_all,fun e=>by rw [e]⟩
   rw [this]
 · have h':=of_decide_eq_false h
   simp -dsimp only [go_sem,h]
   rw [decide_eq_false (fun e=>h' (by rw [e]))]
end Go.Pv
end
section
/-The document's boxes:Meet,RightBox,HullBox,SameBox. -/
set_option maxRecDepth 100000
namespace Go.Pv
open Go.Proofs
theorem U0i (l:List Ivl) (st:Q0g) (hw:wB l):PCalls Tryz.prog 75 [.sl .no (Q0t l)] st (fun r st'=>r= .sc (.bool (rightB l))∧st'=st):=by
 obtain⟨hl,hw⟩:=hw
 refine Q0b none Tryz.func75 rfl fun E=>Q0a ?_
 simp -dsimp only [go_sem]
 refine Q0e [true,false,false,true] 0 0 (fun n s=> ∃i,n=l.length-i∧i≤l.length∧(l.take i).all Q0l=true∧s=⟨[.sl .no (Q0t l),.junk,.junk,.sc (.int .i64 i)]++List.replicate 24 .junk,[],[],st⟩) l.length ?_ ?_
 · simp -dsimp only [go_sem]
   exact⟨0,by omega,by omega,rfl,rfl⟩
 · rintro n s ⟨i,rfl,hi,hr,rfl⟩
   have fin:i=l.length∨ ¬(i:Int)<4→decide ((l.length:Int)>0)=true→decide ((l.length:Int)≤4)=rightB l:=fun h h1=>by
    have h1:=of_decide_eq_true h1
    unfold rightB
    rcases h with h | h
    · have hall:l.all Q0l=true:=by rw [←List.take_length (l:=l),←h];exact hr
      rw [hall,decide_eq_true (by omega:1≤l.length)]
      simp only [Bool.true_and]
      exact decide_eq_decide.2 (by omega)
    · by_cases h4:l.length≤4
      · have:i=l.length:=by omega
        have hall:l.all Q0l=true:=by rw [←List.take_length (l:=l),←this];exact hr
        rw [hall,decide_eq_true (by omega:1≤l.length)]
        simp only [Bool.true_and]
        exact decide_eq_decide.2 (by omega)
      · rw [decide_eq_false h4,decide_eq_false (by omega)];simp
   have fin0:decide ((l.length:Int)>0)=false→rightB l=false:=fun h=>by
    have:=of_decide_eq_false h
    unfold rightB;rw [decide_eq_false (by omega: ¬1≤l.length)];simp
   simp -dsimp only [go_sem]
   refine gkT (fun h=> ?_) (fun h=> ?_)
   · have hlt:i<l.length:=by have:=of_decide_eq_true h;omega
     simp -dsimp only [go_sem,h]
     refine ck (fun h4=> ?_) (fun h4=> ?_)
     · have e1:=J0e l i hlt
       have e3:IntKind.i64.wrap ((i:Int)+1)=((i+1:Nat):Int):=by rw [Q0p _ (by omega) (by omega)];omega
       have e4:=Q2d Q0l l i default hlt
       simp -dsimp only [go_sem,e1]
       refine⟨by omega,?_⟩
       refine(V0n _ st (hw i hlt)).mono ?_
       rintro r st ⟨rfl,rfl⟩
       simp -dsimp only [go_sem,e1]
       refine ck (fun h=> ?_) (fun h=> ?_)
       · have hf:Q0l (l.getD i default)=false:=by simpa using h
         simp -dsimp only [go_sem]
         have:rightB l=false:=by
          cases hb:rightB l with
          | false=>rfl
          | true=>
           unfold rightB at hb
           simp only [Bool.and_eq_true] at hb
           have:=(K1c default Q0l l).1 hb.1.1 i hlt
           rw [this] at hf;cases hf
         rw [this]
       · have ht:Q0l (l.getD i default)=true:=by simpa using h
         simp -dsimp only [go_sem,e3]
         exact⟨l.length-(i+1),by omega,i+1,rfl,by omega,by rw [e4,hr,ht];rfl,rfl⟩
     · have h4':=of_decide_eq_false h4
       simp -dsimp only [go_sem]
       refine Q0a ?_
       simp -dsimp only [go_sem]
       refine gkT (fun h=> ?_) (fun h=> ?_)
       · simp -dsimp only [go_sem,h]
         rw [fin (.inr h4') h]
       · simp -dsimp only [go_sem,h]
         rw [fin0 h]
   · have hge:i=l.length:=by have:=of_decide_eq_false h;omega
     simp -dsimp only [go_sem,h]
     refine Q0a ?_
     simp -dsimp only [go_sem]
     refine gkT (fun h=> ?_) (fun h=> ?_)
     · simp -dsimp only [go_sem,h]
       rw [fin (.inl hge) h]
     · simp -dsimp only [go_sem,h]
       rw [fin0 h]
theorem K2w (a b:List Ivl) (st:Q0g) (ha:wB a) (hb:wB b):PCalls Tryz.prog 76 [.sl .no (Q0t a),.sl .no (Q0t b)] st (fun r st'=>r= .sc (.bool (decide (a=b)))∧st'=st):=by
 have hla:=ha.1
 have hlb:=hb.1
 refine Q0b none Tryz.func76 rfl fun E=>Q0a ?_
 simp -dsimp only [go_sem]
 refine ck (fun h0=> ?_) (fun h0=> ?_)
 · have hne:=W1e h0
   simp -dsimp only [go_sem]
   rw [decide_eq_false (fun e=>hne (by rw [e]))]
 · have hl:=v0j h0
   simp -dsimp only [go_sem]
   refine Q0e [true,true,false,false,false,true] 0 0 (fun n s=> ∃i,n=a.length-i∧i≤a.length∧(∀j,j<i→a.getD j default=b.getD j default)∧s=⟨[.sl .no (Q0t a),.sl .no (Q0t b),.junk,.junk,.junk,.sc (.int .i64 i)]++List.replicate 21 .junk,[],[],st⟩) a.length ?_ ?_
   · simp -dsimp only [go_sem]
     exact⟨0,by omega,by omega,fun j hj=>by omega,rfl⟩
   · rintro n s ⟨i,rfl,hi,hr,rfl⟩
     simp -dsimp only [go_sem]
     refine ck (fun h'=> ?_) (fun h'=> ?_)
     · have hlt:i<a.length:=by have:=of_decide_eq_true h';omega
       have e1:=J0e a i hlt
       have e2:=J0e b i (by omega)
       have e3:IntKind.i64.wrap ((i:Int)+1)=((i+1:Nat):Int):=by rw [Q0p _ (by omega) (by omega)];omega
       simp -dsimp only [go_sem]
       refine Q0m Z0t 27 (.step 0 [] (.step 1 [] (.step 2 [] (.step 3 [] (.step 4 [] (.step 5 [] (.step 6 [] (.step 7 [] (.step 8 [] (.step 9 [] (.done))))))))))) (by decide+kernel) (by simp) ?_
       simp -dsimp only [go_sem,e1,e2]
       refine⟨by omega,by omega,?_⟩
       refine(q2g _ _ st (ha.2 i hlt) (hb.2 i (by omega))).mono ?_
       rintro r st ⟨rfl,rfl⟩
       simp -dsimp only [go_sem]
       refine ck (fun h2=> ?_) (fun h2=> ?_)
       · have hf:a.getD i default≠b.getD i default:=by
          intro e;rw [e] at h2;simp at h2
         simp -dsimp only [go_sem]
         rw [decide_eq_false (fun e=>hf (by rw [e]))]
       · have ht:a.getD i default=b.getD i default:=by
          apply Decidable.byContradiction;intro e;rw [decide_eq_false e] at h2;cases h2
         simp -dsimp only [go_sem,e3]
         refine⟨a.length-(i+1),by omega,i+1,rfl,by omega,fun j hj=> ?_,rfl⟩
         by_cases e:j=i
         · subst e;exact ht
         · exact hr j (by omega)
     · have hge:i=a.length:=by have:=of_decide_eq_false h';omega
       simp -dsimp only [go_sem]
       refine Q0a ?_
       simp -dsimp only [go_sem]
       rw [decide_eq_true (H0e default hl fun j hj=>hr j (by omega))]
end Go.Pv
end
section
/-Pieces:RightSeg,SameSeg,behind. -/
set_option maxRecDepth 100000
namespace Go.Pv
open Go.Proofs
theorem w0h (s:Sg) (st:Q0g) (hw:wS s):PCalls Tryz.prog 14 [.agg (encS s)] st (fun r st'=>r= .sc (.bool (K0y s))∧st'=st):=by
 obtain⟨w0,w1,wb⟩:=hw
 unfold wN at w0 w1
 refine Q0b none Tryz.func14 rfl fun E=>Q0a ?_
 simp -dsimp only [go_sem]
 refine gkF (fun h1=> ?_) (fun h1=> ?_)
 · have h1':1≤s.fr:=by have:=of_decide_eq_false h1;omega
   simp -dsimp only [go_sem,h1]
   refine gkF (fun h2=> ?_) (fun h2=> ?_)
   · have h2':s.fr≤s.to:=by have:=of_decide_eq_false h2;omega
     simp -dsimp only [go_sem,h1,h2]
     refine gkF (fun h3=> ?_) (fun h3=> ?_)
     · have h3':s.to≤4096:=by have:=of_decide_eq_false h3;omega
       simp -dsimp only [go_sem,h1,h2,h3]
       refine(X0x s.t0 st (by omega)).mono ?_
       rintro r st ⟨rfl,rfl⟩
       simp -dsimp only [go_sem,h1,h2,h3]
       refine gkF (fun h4=> ?_) (fun h4=> ?_)
       · have h4':Q0f s.t0=true:=by simpa using h4
         simp -dsimp only [go_sem,h1,h2,h3,h4']
         refine(X0x s.t1 st (by omega)).mono ?_
         rintro r st ⟨rfl,rfl⟩
         simp -dsimp only [go_sem,h1,h2,h3,h4']
         refine ck (fun h5=> ?_) (fun h5=> ?_)
         · have h5':Q0f s.t1=false:=by simpa using h5
           simp -dsimp only [go_sem]
           simp [K0y,h5']
         · have h5':Q0f s.t1=true:=by simpa using h5
           have hs:=w0c h4'
           simp -dsimp only [go_sem]
           refine(X1u s.t0 st (by omega)).mono ?_
           rintro r st ⟨rfl,rfl⟩
           simp -dsimp only [go_sem]
           refine gkT (fun h6=> ?_) (fun h6=> ?_)
           · have h6':s.t0.neg=false:=hs.1 (of_decide_eq_true h6)
             simp -dsimp only [go_sem,h6]
             refine(x2c s.t0 s.t1 st (by omega) (by omega)).mono ?_
             rintro r st ⟨rfl,rfl⟩
             simp -dsimp only [go_sem,h6]
             refine gkT (fun h7=> ?_) (fun h7=> ?_)
             · have h7':=of_decide_eq_true h7
               simp -dsimp only [go_sem,h6,h7]
               refine(Y1d s.box st wb).mono ?_
               rintro r st ⟨rfl,rfl⟩
               simp -dsimp only [go_sem,h6,h7]
               simp [K0y,h1',h2',h3',h4',h5',h6',h7']
             · have h7':=of_decide_eq_false h7
               simp -dsimp only [go_sem,h6,h7]
               simp [K0y,h7']
           · have h6':s.t0.neg=true:=by
              cases hn:s.t0.neg with
              | true=>rfl
              | false=>exact absurd (hs.2 hn) (of_decide_eq_false h6)
             simp -dsimp only [go_sem,h6]
             simp [K0y,h6']
       · have h4':Q0f s.t0=false:=by simpa using h4
         simp -dsimp only [go_sem,h1,h2,h3,h4']
         simp [K0y,h4']
     · have h3': ¬s.to≤4096:=by have:=of_decide_eq_true h3;omega
       simp -dsimp only [go_sem,h1,h2,h3]
       simp [K0y,h3']
   · have h2': ¬s.fr≤s.to:=by have:=of_decide_eq_true h2;omega
     simp -dsimp only [go_sem,h1,h2]
     simp [K0y,h2']
 · have h1': ¬1≤s.fr:=by have:=of_decide_eq_true h1;omega
   simp -dsimp only [go_sem,h1]
   simp [K0y,h1']
theorem sg_eq {a b:Sg} :a=b↔a.fr=b.fr∧a.to=b.to∧a.t0=b.t0∧a.t1=b.t1∧a.box=b.box:=by
 cases a;cases b;simp
theorem K2v (a b:Sg) (st:Q0g) (ha:wS a) (hb:wS b):PCalls Tryz.prog 25 [.agg (encS a),.agg (encS b)] st (fun r st'=>r= .sc (.bool (decide (a=b)))∧st'=st):=by
 refine Q0b none Tryz.func25 rfl fun E=>Q0a ?_
 simp -dsimp only [go_sem]
 refine gkT (fun h1=> ?_) (fun h1=> ?_)
 · have h1':=G1t h1
   simp -dsimp only [go_sem,h1]
   refine gkT (fun h2=> ?_) (fun h2=> ?_)
   · have h2':=G1t h2
     simp -dsimp only [go_sem,h1,h2]
     refine(v0i a.t0 b.t0 st ha.1 hb.1).mono ?_
     rintro r st ⟨rfl,rfl⟩
     simp -dsimp only [go_sem,h1,h2]
     refine gkT (fun h3=> ?_) (fun h3=> ?_)
     · have h3':=of_decide_eq_true h3
       simp -dsimp only [go_sem,h1,h2,h3]
       refine(v0i a.t1 b.t1 st ha.2.1 hb.2.1).mono ?_
       rintro r st ⟨rfl,rfl⟩
       simp -dsimp only [go_sem,h1,h2,h3]
       refine gkT (fun h4=> ?_) (fun h4=> ?_)
       · have h4':=of_decide_eq_true h4
         simp -dsimp only [go_sem,h1,h2,h3,h4]
         refine(G2h a.box b.box st ha.2.2 hb.2.2).mono ?_
         rintro r st ⟨rfl,rfl⟩
         simp -dsimp only [go_sem,h1,h2,h3,h4]
         have:decide (a.box=b.box)=decide (a=b):=decide_eq_decide.2 ⟨fun e=>sg_eq.2 ⟨h1',h2',h3',h4',e⟩,fun e=>(sg_eq.1 e).2.2.2.2⟩
         rw [this]
       · have h4':=of_decide_eq_false h4
         simp -dsimp only [go_sem,h1,h2,h3,h4]
         rw [decide_eq_false (fun e=>h4' (sg_eq.1 e).2.2.2.1)]
     · have h3':=of_decide_eq_false h3
       simp -dsimp only [go_sem,h1,h2,h3]
       rw [decide_eq_false (fun e=>h3' (sg_eq.1 e).2.2.1)]
   · have h2':=G1u h2
     simp -dsimp only [go_sem,h1,h2]
     rw [decide_eq_false (fun e=>h2' (sg_eq.1 e).2.1)]
 · have h1':=G1u h1
   simp -dsimp only [go_sem,h1]
   rw [decide_eq_false (fun e=>h1' (sg_eq.1 e).1)]
end Go.Pv
end
section
/-merge.Hull,merge.group,merge.Groups. -/
set_option maxRecDepth 100000
namespace Go.Pv
open Go.Proofs
attribute [go_sem] List.take_length
def Y3c :List PV:= [.sc (.int .i64 0),.sc (.int .i64 0),.sc (.bool false),.sc (.int .i64 0),.sl .full [],.sc (.bool false),.sc (.int .i64 0),.sl .full [],.sl .full []]
attribute [go_sem] Y3c
end Go.Pv
end
section
/-The document's Hull and Groups. -/
set_option maxRecDepth 100000
namespace Go.Pv
open Go.Proofs
def curS (l:List Sg) (i:Nat):Sg:=j2n (l.getD 0 default) ((l.drop 1).take (i-1))
end Go.Pv
end
section
/-The law's told and known;MergeAny. -/
set_option maxRecDepth 100000
namespace Go.Pv
open Go.Proofs
def kOne :Nm:=⟨false,0,[1]⟩
def kTwo :Nm:=⟨false,1,[1]⟩
def kL :List Sg:= [⟨1,1,default,kOne,[default]⟩,⟨2,2,kOne,kTwo,[⟨default,kOne⟩]⟩]
def kS :Sg:=⟨1,2,default,kTwo,[⟨default,kOne⟩]⟩
theorem H2t {x:Nm} (h:x.w.length≤5):wN x:=by unfold wN;omega
end Go.Pv
end
