/- Parts of the walk: F10, F11, F12, F13, F14, F15. -/
import Derived.Test.YtofoadghajnglaaGreatDoorQF
import Derived.Test.YtofoadghajnglaaGreatDoorQE
set_option linter.unusedVariables false
set_option linter.unusedSimpArgs false
section
/-exact.Sign,exact.Cmp,num.Cmp,num.Sign. -/
set_option maxRecDepth 100000
namespace Go.Pv
open Go.Proofs
theorem z0a (x:Nm) (st:Q0c) (hl:x.w.length≤10000000000000):PCalls Tryz.prog 182 [.agg (encN x)] st (fun r st'=>r= .sc (.int .i64 (sgnN x))∧st'=st):=by
 refine Q0b none Tryz.func182 rfl fun E=>Q0a ?_
 simp -dsimp only [go_sem]
 refine(V0t x.w st (by omega)).mono ?_
 rintro r st ⟨rfl,rfl⟩
 simp -dsimp only [go_sem]
 refine ck (fun h=> ?_) (fun h=> ?_)
 · have h0:Z0x x.w=0:=y0h (b:=0) h
   have:valW x.w=0:=by
    have:=(bitlen_le_iff (n:=valW x.w) (k:=0)).1 (by rw [←Z0x,h0];exact Nat.le_refl _)
    omega
   simp -dsimp only [go_sem]
   rw [sgnN,if_pos this]
 · have h0:valW x.w≠0:=fun e=>H1i (b:=0) h (by rw [Z0x,e];rfl)
   simp -dsimp only [go_sem]
   refine ck (fun h1=> ?_) (fun h1=> ?_)
   · simp -dsimp only [go_sem]
     rw [sgnN,if_neg h0,if_pos h1]
   · simp -dsimp only [go_sem]
     rw [sgnN,if_neg h0,if_neg (by simp [h1])]
theorem W2f (a b:Nm) (st:Q0c) (ha:sm a) (hb:sm b) (na:valW a.w≠0) (nb:valW b.w≠0):PCalls Tryz.prog 184 [.agg (encN a),.agg (encN b)] st (fun r st'=>r= .sc (.int .i64 (cmpE (valW a.w) a.exp (valW b.w) b.exp))∧st'=st):=by
 obtain⟨a1,a2,a3⟩:=ha
 obtain⟨b1,b2,b3⟩:=hb
 have la:=V0k a.w
 have lb:=V0k b.w
 have w1:IntKind.i64.wrap ((Z0x a.w:Int)+a.exp)=(Z0x a.w:Int)+a.exp:=Q0u _ (by omega) (by omega)
 have w2:IntKind.i64.wrap ((Z0x b.w:Int)+b.exp)=(Z0x b.w:Int)+b.exp:=Q0u _ (by omega) (by omega)
 have w3:IntKind.i64.wrap (a.exp-b.exp)=a.exp-b.exp:=Q0u _ (by omega) (by omega)
 have w4:IntKind.i64.wrap (b.exp-a.exp)=b.exp-a.exp:=Q0u _ (by omega) (by omega)
 refine Q0b none Tryz.func184 rfl fun E=>Q0a ?_
 simp -dsimp only [go_sem]
 refine Q0q X0b 52 (.step 0 [] (.step 1 [] (.step 3 [] (.step 4 [] (.step 6 [] (.step 7 [] (.step 9 [] (.step 10 [] (.step 2 [4,7,10] (.step 5 [] (.step 8 [4,10] (.step 11 [] (.step 12 [] (.step 13 [] (.done))))))))))))))) (by decide+kernel) (by simp) ?_
 simp -dsimp only [go_sem]
 refine(V0t a.w st (by omega)).mono ?_
 rintro r st ⟨rfl,rfl⟩
 simp -dsimp only [go_sem,w1]
 refine(V0t b.w st (by omega)).mono ?_
 rintro r st ⟨rfl,rfl⟩
 simp -dsimp only [go_sem,w2]
 refine ck (fun h=> ?_) (fun h=> ?_)
 · have hne:=w0x h
   simp -dsimp only [go_sem]
   refine(W2x _ _ st).mono ?_
   rintro r st ⟨rfl,rfl⟩
   simp -dsimp only [go_sem]
   rw [Q2y na nb hne];rfl
 · simp -dsimp only [go_sem]
   refine ck (fun h=> ?_) (fun h=> ?_)
   · have hgt:b.exp<a.exp:=of_decide_eq_true h
     have e0:a.exp-b.exp=(((a.exp-b.exp).toNat:Nat):Int):=by omega
     obtain⟨K,hK⟩: ∃K:Nat,K=100000000:=⟨_,rfl⟩
     have lw:(Q0k (valW a.w*2^(a.exp-b.exp).toNat)).length≤100000000:=hK▸Z0h (by
      rw [z0q]
      have h1:=Z0r a.w
      rw [z0q] at h1
      refine Nat.lt_of_lt_of_le (Nat.mul_lt_mul_of_pos_right h1 (Nat.pow_pos (by decide))) ?_
      rw [←Nat.pow_add];exact Nat.pow_le_pow_right (by decide) (by omega))
     simp -dsimp only [go_sem]
     refine Q0q X0b 52 (.step 0 [] (.step 1 [] (.step 2 [] (.step 3 [] (.step 4 [] (.step 5 [] (.step 6 [] (.step 8 [] (.step 9 [] (.step 7 [9] (.step 10 [] (.step 11 [] (.done))))))))))))) (by decide+kernel) (by simp) ?_
     simp -dsimp only [go_sem,w3]
     rw [e0]
     refine(up_c a.w _ st (by omega) (by omega)).mono ?_
     rintro r st ⟨rfl,rfl⟩
     simp -dsimp only [go_sem,w3]
     refine(q0n _ b.w st (by omega) (by omega)).mono ?_
     rintro r st ⟨rfl,rfl⟩
     simp -dsimp only [go_sem]
     rw [Q0t,j2m hgt]
   · have hle:a.exp≤b.exp:=by have:=of_decide_eq_false h;omega
     have e0:b.exp-a.exp=(((b.exp-a.exp).toNat:Nat):Int):=by omega
     obtain⟨K,hK⟩: ∃K:Nat,K=100000000:=⟨_,rfl⟩
     have lw:(Q0k (valW b.w*2^(b.exp-a.exp).toNat)).length≤100000000:=hK▸Z0h (by
      rw [z0q]
      have h1:=Z0r b.w
      rw [z0q] at h1
      refine Nat.lt_of_lt_of_le (Nat.mul_lt_mul_of_pos_right h1 (Nat.pow_pos (by decide))) ?_
      rw [←Nat.pow_add];exact Nat.pow_le_pow_right (by decide) (by omega))
     simp -dsimp only [go_sem]
     refine Q0q X0b 52 (.step 0 [] (.step 1 [] (.step 2 [] (.step 3 [] (.step 4 [] (.step 5 [] (.step 6 [] (.step 7 [] (.step 8 [] (.step 9 [1] (.step 10 [] (.step 11 [] (.done))))))))))))) (by decide+kernel) (by simp) ?_
     simp -dsimp only [go_sem,w4]
     rw [e0]
     refine(up_c b.w _ st (by omega) (by omega)).mono ?_
     rintro r st ⟨rfl,rfl⟩
     simp -dsimp only [go_sem,w4]
     refine(q0n a.w _ st (by omega) (by omega)).mono ?_
     rintro r st ⟨rfl,rfl⟩
     simp -dsimp only [go_sem]
     rw [Q0t,j2l hle]
theorem z0y (a b:Nm) (st:Q0c) (ha:sm a) (hb:sm b):PCalls Tryz.prog 116 [.agg (encN a),.agg (encN b)] st (fun r st'=>r= .sc (.int .i64 (cmpN a b))∧st'=st):=by
 refine Q0b none Tryz.func116 rfl fun E=>Q0a ?_
 simp -dsimp only [go_sem]
 refine Q0q X0b 26 (.step 0 [] (.step 2 [] (.step 1 [2] (.step 3 [] (.step 4 [] (.step 5 [] (.done))))))) (by decide+kernel) (by simp) ?_
 simp -dsimp only [go_sem]
 refine(z0a a st (by have:=ha.1;omega)).mono ?_
 rintro r st ⟨rfl,rfl⟩
 simp -dsimp only [go_sem]
 refine(z0a b st (by have:=hb.1;omega)).mono ?_
 rintro r st ⟨rfl,rfl⟩
 simp -dsimp only [go_sem]
 rw [j2k]
 have fin: ∀(E:Ent),(sgnN a≠sgnN b∨sgnN a=0)→True:=fun _ _=>trivial
 refine gkF (fun h=> ?_) (fun h=> ?_)
 · have he:=X1j h
   simp -dsimp only [go_sem,h]
   refine ck (fun h0=> ?_) (fun h0=> ?_)
   · have h0':=j1g h0
     simp -dsimp only [go_sem]
     refine(Z1z _ _ st).mono ?_
     rintro r st ⟨rfl,rfl⟩
     simp -dsimp only [go_sem]
     rw [if_pos (.inr h0')]
   · have h0':=w2c h0
     have na:valW a.w≠0:=fun e=>h0' (by rw [sgnN,if_pos e])
     have nb:valW b.w≠0:=fun e=>h0' (by rw [he,sgnN,if_pos e])
     simp -dsimp only [go_sem]
     refine(W2f a b st ha hb na nb).mono ?_
     rintro r st ⟨rfl,rfl⟩
     simp -dsimp only [go_sem]
     rw [if_neg (by simp only [he,not_true_eq_false,false_or,ne_eq];rw [←he];exact h0')]
     have hc: ∀x y:Int,IntKind.i64.wrap (sgnN a*cmpI x y)=sgnN a*cmpI x y:=fun x y=>by
      unfold sgnN cmpI
      repeat' split
      all_goals decide
     rw [cmpE,hc]
 · have he:=w0x h
   simp -dsimp only [go_sem,h]
   refine(Z1z _ _ st).mono ?_
   rintro r st ⟨rfl,rfl⟩
   simp -dsimp only [go_sem]
   rw [if_pos (.inl he)]
theorem Z1j (a b:Nm) (st:Q0c) (ha:a.w.length≤10000000000000) (hb:b.w.length≤10000000000000):PCalls Tryz.prog 64 [.agg (encN a),.agg (encN b)] st (fun r st'=>r= .sc (.int .i64 (cmpR a b))∧st'=st):=by
 refine Q0b none Tryz.func64 rfl fun E=>Q0a ?_
 simp -dsimp only [go_sem]
 refine(Z0v a st (by omega)).mono ?_
 rintro r st ⟨rfl,rfl⟩
 simp -dsimp only [go_sem]
 refine gkF (fun h=> ?_) (fun h=> ?_)
 · have h1:Q0i a=true:=by simpa using h
   simp -dsimp only [go_sem,h1]
   refine(Z0v b st (by omega)).mono ?_
   rintro r st ⟨rfl,rfl⟩
   simp -dsimp only [go_sem]
   refine ck (fun h=> ?_) (fun h=> ?_)
   · have h2:Q0i b=false:=by simpa using h
     simp -dsimp only [go_sem]
     rw [cmpR,if_neg (by simp [h2])]
   · have h2:Q0i b=true:=by simpa using h
     simp -dsimp only [go_sem]
     refine(z0y a b st (Z0q h1) (Z0q h2)).mono ?_
     rintro r st ⟨rfl,rfl⟩
     simp -dsimp only [go_sem]
     rw [cmpR,if_pos ⟨h1,h2⟩]
 · have h1:Q0i a=false:=by simpa using h
   simp -dsimp only [go_sem,h1]
   rw [cmpR,if_neg (by simp [h1])]
theorem y2i (x:Nm) (st:Q0c) (hl:x.w.length≤10000000000000):PCalls Tryz.prog 219 [.agg (encN x)] st (fun r st'=>r= .agg (encN (ownN x))∧st'=st):=by
 refine Q0b none Tryz.func219 rfl fun E=>Q0a ?_
 simp -dsimp only [go_sem]
 refine(Z0v x st (by omega)).mono ?_
 rintro r st ⟨rfl,rfl⟩
 simp -dsimp only [go_sem]
 refine ck (fun h=> ?_) (fun h=> ?_)
 · have h1:Q0i x=false:=by simpa using h
   simp -dsimp only [go_sem]
   rw [ownN,if_neg (by simp [h1])];rfl
 · have h1:Q0i x=true:=by simpa using h
   simp -dsimp only [go_sem]
   refine(j0s x.w st (by omega)).mono ?_
   rintro r st ⟨rfl,rfl⟩
   simp -dsimp only [go_sem]
   rw [ownN,if_pos h1,z0m h1]
theorem J1y (x:Nm) (st:Q0c) (hl:x.w.length≤10000000000000):PCalls Tryz.prog 152 [.agg (encN x)] st (fun r st'=>r= .sc (.int .i64 (sgnN (ownN x)))∧st'=st):=by
 refine Q0b none Tryz.func152 rfl fun E=>Q0a ?_
 simp -dsimp only [go_sem]
 refine(y2i x st (by omega)).mono ?_
 rintro r st ⟨rfl,rfl⟩
 simp -dsimp only [go_sem]
 refine(z0a (ownN x) st (by unfold ownN;split;exact hl;simp)).mono ?_
 rintro r st ⟨rfl,rfl⟩
 simp -dsimp only [go_sem]
end Go.Pv
end
