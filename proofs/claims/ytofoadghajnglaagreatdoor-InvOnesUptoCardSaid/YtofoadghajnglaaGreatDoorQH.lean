/- Parts of the walk: F16, F17, F18, F19, F20. -/
import Derived.Test.YtofoadghajnglaaGreatDoorQG
import Derived.Test.YtofoadghajnglaaGreatDoorQE
set_option linter.unusedVariables false
set_option linter.unusedSimpArgs false
section
/-Intervals:iv.Right,Of,Hull,In;num.Same,iv.Same. -/
set_option maxRecDepth 100000
namespace Go.Pv
open Go.Proofs
theorem W0z (x:Ivl) (st:Q0c) (hw:wI x):PCalls Tryz.prog 50 [.agg (encI x)] st (fun r st'=>r= .sc (.bool (Q0v x))∧st'=st):=by
 obtain⟨h1,h2⟩:=hw
 unfold wN at h1 h2
 refine Q0b none Tryz.func50 rfl fun E=>Q0a ?_
 simp -dsimp only [go_sem]
 refine(Z0v x.lo st (by omega)).mono ?_
 rintro r st ⟨rfl,rfl⟩
 simp -dsimp only [go_sem]
 refine gkT (fun h=> ?_) (fun h=> ?_)
 · simp -dsimp only [go_sem,h]
   refine(Z0v x.hi st (by omega)).mono ?_
   rintro r st ⟨rfl,rfl⟩
   simp -dsimp only [go_sem,h]
   refine gkT (fun h'=> ?_) (fun h'=> ?_)
   · simp -dsimp only [go_sem,h,h']
     refine(z0y x.lo x.hi st (Z0q h) (Z0q h')).mono ?_
     rintro r st ⟨rfl,rfl⟩
     simp -dsimp only [go_sem,h,h']
     simp [Q0v,h,h']
   · simp -dsimp only [go_sem,h,h']
     simp [Q0v,h,h']
 · simp -dsimp only [go_sem,h]
   simp [Q0v,h]
theorem Z1x (x:Nm) (st:Q0c) (hw:wN x):PCalls Tryz.prog 187 [.agg (encN x)] st (fun r st'=>r= .agg (encN x)∧st'=st):=by
 unfold wN at hw
 refine Q0b none Tryz.func187 rfl fun E=>Q0a ?_
 simp -dsimp only [go_sem]
 omega
theorem y2m (x y:Nm) (st:Q0c) (hx:wN x) (hy:wN y):PCalls Tryz.prog 119 [.agg (encN x),.agg (encN y)] st (fun r st'=>r= .agg (encI ⟨x,y⟩)∧st'=st):=by
 refine Q0b none Tryz.func119 rfl fun E=>Q0a ?_
 simp -dsimp only [go_sem]
 refine Q0q X0b 10 (.step 0 [] (.step 2 [] (.step 1 [2] (.step 3 [] (.step 4 [] (.step 5 [] (.done))))))) (by decide+kernel) (by simp) ?_
 simp -dsimp only [go_sem]
 refine(Z1x x st hx).mono ?_
 rintro r st ⟨rfl,rfl⟩
 simp -dsimp only [go_sem]
 refine(Z1x y st hy).mono ?_
 rintro r st ⟨rfl,rfl⟩
 simp -dsimp only [go_sem]
theorem H1n (x:Nm) (st:Q0c) (hx:wN x):PCalls Tryz.prog 54 [.agg (encN x)] st (fun r st'=>r= .agg (encI ⟨x,x⟩)∧st'=st):=by
 refine Q0b none Tryz.func54 rfl fun E=>Q0a ?_
 simp -dsimp only [go_sem]
 refine(y2m x x st hx hx).mono ?_
 rintro r st ⟨rfl,rfl⟩
 simp -dsimp only [go_sem]
theorem z2o (a b:Nm) (st:Q0c) (ha:sm a) (hb:sm b):PCalls Tryz.prog 214 [.agg (encN a),.agg (encN b)] st (fun r st'=>r= .agg (encN (X0m a b))∧st'=st):=by
 refine Q0b none Tryz.func214 rfl fun E=>Q0a ?_
 simp -dsimp only [go_sem]
 refine(z0y b a st hb ha).mono ?_
 rintro r st ⟨rfl,rfl⟩
 simp -dsimp only [go_sem]
 refine ck (fun h=> ?_) (fun h=> ?_)
 · simp -dsimp only [go_sem]
   rw [X0m,if_pos (of_decide_eq_true h)]
 · simp -dsimp only [go_sem]
   rw [X0m,if_neg (of_decide_eq_false h)]
theorem y0v (a b:Nm) (st:Q0c) (ha:sm a) (hb:sm b):PCalls Tryz.prog 215 [.agg (encN a),.agg (encN b)] st (fun r st'=>r= .agg (encN (X0j a b))∧st'=st):=by
 refine Q0b none Tryz.func215 rfl fun E=>Q0a ?_
 simp -dsimp only [go_sem]
 refine(z0y b a st hb ha).mono ?_
 rintro r st ⟨rfl,rfl⟩
 simp -dsimp only [go_sem]
 refine ck (fun h=> ?_) (fun h=> ?_)
 · simp -dsimp only [go_sem]
   rw [X0j,if_pos (of_decide_eq_true h)]
 · simp -dsimp only [go_sem]
   rw [X0j,if_neg (of_decide_eq_false h)]
theorem J1z (x y:Nm) (st:Q0c) (hl:wN x) (hl2:wN y):PCalls Tryz.prog 220 [.agg (encN x),.agg (encN y)] st (fun r st'=>r= .sc (.bool (decide (x=y)))∧st'=st):=by
 unfold wN at hl hl2
 refine Q0b none Tryz.func220 rfl fun E=>Q0a ?_
 simp -dsimp only [go_sem]
 repeat' (first
  | (refine gkF (fun h=> ?_) (fun h=> ?_)<;>simp -dsimp only [go_sem,h])
  | (refine gkT (fun h=> ?_) (fun h=> ?_)<;>simp -dsimp only [go_sem,h])
  | (refine ck (fun h=> ?_) (fun h=> ?_)<;>simp -dsimp only [go_sem,h])
  | refine And.intro (by omega) ?_)
 case refine_1.refine_1.refine_2=>
  have hneg:= ‹(!x.neg==y.neg)=false›
  have hexp:= ‹(x.exp !=y.exp)=false›
  have hn:= ‹((x.w.length:Int) !=(y.w.length:Int))=false›
  have hneg':x.neg=y.neg:=by cases hx:x.neg<;>cases hy:y.neg<;>simp [hx,hy] at hneg⊢
  have hexp':x.exp=y.exp:=by simpa using hexp
  have hn':x.w.length=y.w.length:=U0d hn
  refine Q0e [false,false,true,true,false,false,false,false,false,false,false,false,false,false,false,false,false,false,false,false,false,false,false,false,false,false,false,false,false,true,true] 2 0 (fun n s=> ∃i,n=x.w.length-i∧i≤x.w.length∧(∀j,j<i→x.w.getD j 0=y.w.getD j 0)∧s=⟨[.junk,.junk,.lp 0 0,.lp 1 0,.junk,.junk,.junk,.junk,.junk,.junk,.junk,.junk,.junk,.junk,.junk,.junk,.junk,.junk,.junk,.junk,.junk,.junk,.junk,.junk,.junk,.junk,.junk,.junk,.junk,.sc (.int .i64 x.w.length),.sc (.int .i64 i)]++List.replicate 14 .junk,[encN x,encN y],[],st⟩) x.w.length ?_ ?_
  · simp -dsimp only [go_sem]
    exact⟨0,by omega,by omega,fun j hj=>by omega,rfl⟩
  · rintro n s ⟨i,rfl,hi,hj,rfl⟩
    simp -dsimp only [go_sem]
    refine ck (fun h=> ?_) (fun h=> ?_)
    · have hlt:i<x.w.length:=by have:=of_decide_eq_true h;omega
      have e1:=Q0y x.w i hlt
      have e2:=Q0y y.w i (by omega)
      have e3:IntKind.i64.wrap ((i:Int)+1)=((i+1:Nat):Int):=by rw [Q0u _ (by omega) (by omega)];omega
      simp -dsimp only [go_sem,h]
      refine Q0q X0b 45 (.step 0 [] (.step 1 [] (.step 2 [] (.step 3 [] (.step 4 [] (.step 5 [] (.step 6 [] (.step 7 [] (.step 8 [] (.step 9 [] (.step 10 [] (.done)))))))))))) (by decide+kernel) (by simp) ?_
      simp -dsimp only [go_sem,h,e1,e2]
      refine⟨by omega,by omega,ck (fun h2=> ?_) (fun h2=> ?_)⟩
      · simp -dsimp only [go_sem,h2]
        rw [decide_eq_false (fun e=>by subst e;simp at h2)]
      · simp -dsimp only [go_sem,h2,e3]
        refine⟨x.w.length-(i+1),by omega,i+1,rfl,by omega,fun j hj'=> ?_,rfl⟩
        by_cases hji:j=i
        · subst hji;exact UInt64.toNat.inj (U0d h2)
        · exact hj j (by omega)
    · have hge:i=x.w.length:=by have:=of_decide_eq_false h;omega
      simp -dsimp only [go_sem,h]
      refine Q0a ?_
      simp -dsimp only [go_sem,h]
      rw [decide_eq_true]
      have hw:x.w=y.w:=Y0b 0 hn' fun j h1=>hj j (by omega)
      cases x;cases y;simp_all
 all_goals rw [decide_eq_false (fun e=>by subst e;simp at*)]
theorem V2k (a b:Ivl) (st:Q0c) (ha:wI a) (hb:wI b):PCalls Tryz.prog 156 [.agg (encI a),.agg (encI b)] st (fun r st'=>r= .sc (.bool (decide (a=b)))∧st'=st):=by
 refine Q0b none Tryz.func156 rfl fun E=>Q0a ?_
 simp -dsimp only [go_sem]
 refine(J1z a.lo b.lo st ha.1 hb.1).mono ?_
 rintro r st ⟨rfl,rfl⟩
 simp -dsimp only [go_sem]
 refine gkT (fun h=> ?_) (fun h=> ?_)
 · have h':=of_decide_eq_true h
   simp -dsimp only [go_sem,h]
   refine(J1z a.hi b.hi st ha.2 hb.2).mono ?_
   rintro r st ⟨rfl,rfl⟩
   simp -dsimp only [go_sem,h]
   have:decide (a.hi=b.hi)=decide (a=b):=decide_eq_decide.2 ⟨fun e=>by cases a;cases b;simp_all,fun e=>by rw [e]⟩
   rw [this]
 · have h':=of_decide_eq_false h
   simp -dsimp only [go_sem,h]
   rw [decide_eq_false (fun e=>h' (by rw [e]))]
end Go.Pv
end
section
/-Boxes:box.Right,all,In,Same,each,pairs,Hull. -/
set_option maxRecDepth 100000
namespace Go.Pv
open Go.Proofs
theorem U1s {α:Type} (d:α) (f:α→Bool) (l:List α):l.all f=true↔ ∀i,i<l.length→f (l.getD i d)=true:=by
 rw [List.all_eq_true]
 constructor
 · intro h i hi
   exact h _ (Q0m l i d hi)
 · intro h x hx
   obtain⟨i,hi,rfl⟩:=List.mem_iff_getElem.1 hx
   have:=h i hi
   rwa [List.getD_eq_getElem?_getD,List.getElem?_eq_getElem hi] at this
theorem Y2k {α:Type} (f:α→Bool) (l:List α) (i:Nat) (d:α) (h:i<l.length):(l.take (i+1)).all f=((l.take i).all f&&f (l.getD i d)):=by
 rw [H0p l i d h,List.all_append];simp
theorem x1z (l:List Ivl) (st:Q0c) (hw:wB l):PCalls Tryz.prog 120 [.sl .no (Z0e l)] st (fun r st'=>r= .sc (.bool (rightB l))∧st'=st):=by
 obtain⟨hl,hw⟩:=hw
 refine Q0b none Tryz.func120 rfl fun E=>Q0a ?_
 simp -dsimp only [go_sem]
 refine Q0e [true,false,false,false,false,true,true,true] 0 0 (fun n s=> ∃i,n=l.length-i∧i≤l.length∧(l.take i).all Q0v=true∧s=⟨[.sl .no (Z0e l),.junk,.junk,.junk,.junk,.sl .no (Z0e l),.sc (.int .i64 l.length),.sc (.int .i64 i)]++List.replicate 15 .junk,[],[],st⟩) l.length ?_ ?_
 · simp -dsimp only [go_sem]
   exact⟨0,by omega,by omega,rfl,rfl⟩
 · rintro n s ⟨i,rfl,hi,hr,rfl⟩
   simp -dsimp only [go_sem]
   refine ck (fun h=> ?_) (fun h=> ?_)
   · have hlt:i<l.length:=by have:=of_decide_eq_true h;omega
     have e1:=J0j l i hlt
     have e3:IntKind.i64.wrap ((i:Int)+1)=((i+1:Nat):Int):=by rw [Q0u _ (by omega) (by omega)];omega
     have e4:=Y2k Q0v l i default hlt
     simp -dsimp only [go_sem,e1]
     refine⟨by omega,?_⟩
     refine(W0z _ st (hw i hlt)).mono ?_
     rintro r st ⟨rfl,rfl⟩
     simp -dsimp only [go_sem,e1]
     refine ck (fun h=> ?_) (fun h=> ?_)
     · have hf:Q0v (l.getD i default)=false:=by simpa using h
       simp -dsimp only [go_sem]
       have:rightB l=false:=by
        cases hb:rightB l with
        | false=>rfl
        | true=>
         unfold rightB at hb
         simp only [Bool.and_eq_true] at hb
         have:=(U1s default Q0v l).1 hb.1.1 i hlt
         rw [this] at hf;cases hf
       rw [this]
     · have ht:Q0v (l.getD i default)=true:=by simpa using h
       simp -dsimp only [go_sem,e3]
       exact⟨l.length-(i+1),by omega,i+1,rfl,by omega,by rw [e4,hr,ht];rfl,rfl⟩
   · have hge:i=l.length:=by have:=of_decide_eq_false h;omega
     simp -dsimp only [go_sem]
     refine Q0a ?_
     simp -dsimp only [go_sem]
     have hall:l.all Q0v=true:=by rw [←List.take_length (l:=l),←hge];exact hr
     refine gkT (fun h=> ?_) (fun h=> ?_)
     · have h1:1≤l.length:=by have:=of_decide_eq_true h;omega
       simp -dsimp only [go_sem,h]
       have:rightB l=decide ((l.length:Int)≤4):=by
        unfold rightB
        rw [hall,decide_eq_true h1]
        simp only [Bool.true_and]
        exact decide_eq_decide.2 (by omega)
       rw [this]
     · have h1: ¬1≤l.length:=by have:=of_decide_eq_false h;omega
       simp -dsimp only [go_sem,h]
       have:rightB l=false:=by unfold rightB;rw [decide_eq_false h1];simp
       rw [this]
theorem w0h {α:Type} [Inhabited α] (f:α→α→Bool) (a b:List α) (hl:a.length=b.length):allF f a b=(List.range a.length).all fun i=>f (a.getD i default) (b.getD i default):=by
 unfold allF;rw [decide_eq_true hl];rfl
theorem Y2d (g:FuncId) (f:Ivl→Ivl→Bool) (a b:List Ivl) (st:Q0c) (hc:Q0d Tryz.prog g=true) (ha:a.length≤100000000000) (hb:b.length≤100000000000)
 (h: ∀i,i<a.length→i<b.length→PCalls Tryz.prog g [.agg (encI (a.getD i default)),.agg (encI (b.getD i default))] st (fun r st'=>r= .sc (.bool (f (a.getD i default) (b.getD i default)))∧st'=st)):
 PCalls Tryz.prog 149 [.sl .no (Z0e a),.sl .no (Z0e b),.fn (.func g) [] []] st (fun r st'=>r= .sc (.bool (allF f a b))∧st'=st):=by
 refine Q0b none Tryz.func149 rfl fun E=>Q0a ?_
 simp -dsimp only [go_sem]
 refine ck (fun h0=> ?_) (fun h0=> ?_)
 · have hne:=x0q h0
   simp -dsimp only [go_sem]
   have:allF f a b=false:=by unfold allF;rw [decide_eq_false hne];rfl
   rw [this]
 · have hl:=U0d h0
   rw [w0h f a b hl]
   simp -dsimp only [go_sem]
   refine Q0e [true,true,true,false,false,false,false,false,false,false,false,false,false,false,true,true] 0 0 (fun n s=> ∃i,n=a.length-i∧i≤a.length∧(∀j,j<i→f (a.getD j default) (b.getD j default)=true)∧s=⟨[.sl .no (Z0e a),.sl .no (Z0e b),.fn (.func g) [] [],.junk,.junk,.junk,.junk,.junk,.junk,.junk,.junk,.junk,.junk,.junk,.sc (.int .i64 a.length),.sc (.int .i64 i)]++List.replicate 14 .junk,[],[],st⟩) a.length ?_ ?_
   · simp -dsimp only [go_sem]
     exact⟨0,by omega,by omega,fun j hj=>by omega,rfl⟩
   · rintro n s ⟨i,rfl,hi,hr,rfl⟩
     simp -dsimp only [go_sem]
     refine ck (fun h'=> ?_) (fun h'=> ?_)
     · have hlt:i<a.length:=by have:=of_decide_eq_true h';omega
       have e1:=J0j a i hlt
       have e2:=J0j b i (by omega)
       have e3:IntKind.i64.wrap ((i:Int)+1)=((i+1:Nat):Int):=by rw [Q0u _ (by omega) (by omega)];omega
       simp -dsimp only [go_sem]
       refine Q0q X0b 30 (.step 0 [] (.step 1 [] (.step 2 [] (.step 3 [] (.step 4 [] (.step 5 [] (.step 6 [] (.step 7 [] (.step 8 [] (.step 9 [] (.step 10 [] (.done)))))))))))) (by decide+kernel) (by simp) ?_
       simp -dsimp only [go_sem,e1,e2,hc]
       refine⟨by omega,by omega,?_⟩
       refine(h i hlt (by omega)).mono ?_
       rintro r st ⟨rfl,rfl⟩
       simp -dsimp only [go_sem]
       refine ck (fun h2=> ?_) (fun h2=> ?_)
       · have hf:f (a.getD i default) (b.getD i default)=false:=by simpa using h2
         simp -dsimp only [go_sem]
         have:((List.range a.length).all fun i=>f (a.getD i default) (b.getD i default))=false:=by
          rw [List.all_eq_false];exact⟨i,by simpa using hlt,fun e=>by rw [hf] at e;cases e⟩
         first | rw [this] | rw [←List.range_eq_range',this]
       · have ht:f (a.getD i default) (b.getD i default)=true:=by simpa using h2
         simp -dsimp only [go_sem,e3]
         refine⟨a.length-(i+1),by omega,i+1,rfl,by omega,fun j hj=> ?_,rfl⟩
         by_cases e:j=i
         · subst e;exact ht
         · exact hr j (by omega)
     · have hge:i=a.length:=by have:=of_decide_eq_false h';omega
       simp -dsimp only [go_sem]
       refine Q0a ?_
       simp -dsimp only [go_sem]
       have:((List.range a.length).all fun i=>f (a.getD i default) (b.getD i default))=true:=by
        rw [List.all_eq_true];intro j hj;exact hr j (by rw [hge];simpa using hj)
       first | rw [this] | rw [←List.range_eq_range',this]
theorem Z2n {α:Type} [Inhabited α] [DecidableEq α] (a b:List α):allF (fun x y=>decide (x=y)) a b=decide (a=b):=by
 by_cases hl:a.length=b.length
 · rw [w0h _ _ _ hl,Bool.eq_iff_iff,List.all_eq_true,decide_eq_true_iff]
   constructor
   · intro h
     exact Y0b default hl fun j hj=>of_decide_eq_true (h j (by simpa using hj))
   · rintro rfl j hj;simp
 · rw [allF,decide_eq_false hl,decide_eq_false (fun e=>hl (by rw [e]))];rfl
theorem Z2f (a b:List Ivl) (st:Q0c) (ha:wB a) (hb:wB b):PCalls Tryz.prog 94 [.sl .no (Z0e a),.sl .no (Z0e b)] st (fun r st'=>r= .sc (.bool (decide (a=b)))∧st'=st):=by
 refine Q0b none Tryz.func94 rfl fun E=>Q0a ?_
 simp -dsimp only [go_sem]
 refine(Y2d _ (fun x y=>decide (x=y)) a b st rfl ha.1 hb.1 fun i h1 h2=>V2k _ _ st (ha.2 i h1) (hb.2 i h2)).mono ?_
 rintro r st ⟨rfl,rfl⟩
 simp -dsimp only [go_sem,Z2n]
end Go.Pv
end
section
/-The document's intervals:RightIv,Hull,Meet,SameIv. -/
set_option maxRecDepth 100000
namespace Go.Pv
open Go.Proofs
theorem x0d {a b:Nm} (ha:Q0i a=true) (hb:Q0i b=true):cmpR a b=cmpN a b:=if_pos ⟨ha,hb⟩
end Go.Pv
end
