/- Parts of the walk: F10, F11, F12, F13, F14, F15. -/
import Derived.Test.YtofoadghajnglaaGreatDoorZF
import Derived.Test.YtofoadghajnglaaGreatDoorZE
set_option linter.unusedVariables false
set_option linter.unusedSimpArgs false
section
/-exact.Sign,exact.Cmp,num.Cmp,num.Sign. -/
set_option maxRecDepth 100000
namespace Go.Pv
open Go.Proofs
theorem W0g (x:Nm) (st:Q0e) (hl:x.w.length≤10000000000000):PCalls Tryz.prog 182 [.agg (encN x)] st (fun r st'=>r= .sc (.int .i64 (sgnN x))∧st'=st):=by
 refine Q0b none Tryz.func182 rfl fun E=>Q0a ?_
 simp -dsimp only [go_sem]
 refine(Y0r x.w st (by omega)).mono ?_
 rintro r st ⟨rfl,rfl⟩
 simp -dsimp only [go_sem]
 refine ck (fun h=> ?_) (fun h=> ?_)
 · have h0:X0h x.w=0:=U0m (b:=0) h
   have:valW x.w=0:=by
    have:=(bitlen_le_iff (n:=valW x.w) (k:=0)).1 (by rw [←X0h,h0];exact Nat.le_refl _)
    omega
   simp -dsimp only [go_sem]
   rw [sgnN,if_pos this]
 · have h0:valW x.w≠0:=fun e=>H0z (b:=0) h (by rw [X0h,e];rfl)
   simp -dsimp only [go_sem]
   refine ck (fun h1=> ?_) (fun h1=> ?_)
   · simp -dsimp only [go_sem]
     rw [sgnN,if_neg h0,if_pos h1]
   · simp -dsimp only [go_sem]
     rw [sgnN,if_neg h0,if_neg (by simp [h1])]
theorem z2r (a b:Nm) (st:Q0e) (ha:sm a) (hb:sm b) (na:valW a.w≠0) (nb:valW b.w≠0):PCalls Tryz.prog 184 [.agg (encN a),.agg (encN b)] st (fun r st'=>r= .sc (.int .i64 (cmpE (valW a.w) a.exp (valW b.w) b.exp))∧st'=st):=by
 obtain⟨a1,a2,a3⟩:=ha
 obtain⟨b1,b2,b3⟩:=hb
 have la:=V0t a.w
 have lb:=V0t b.w
 have w1:IntKind.i64.wrap ((X0h a.w:Int)+a.exp)=(X0h a.w:Int)+a.exp:=Q0k _ (by omega) (by omega)
 have w2:IntKind.i64.wrap ((X0h b.w:Int)+b.exp)=(X0h b.w:Int)+b.exp:=Q0k _ (by omega) (by omega)
 have w3:IntKind.i64.wrap (a.exp-b.exp)=a.exp-b.exp:=Q0k _ (by omega) (by omega)
 have w4:IntKind.i64.wrap (b.exp-a.exp)=b.exp-a.exp:=Q0k _ (by omega) (by omega)
 refine Q0b none Tryz.func184 rfl fun E=>Q0a ?_
 simp -dsimp only [go_sem]
 refine Q0p Z0g 52 (.step 0 [] (.step 1 [] (.step 3 [] (.step 4 [] (.step 6 [] (.step 7 [] (.step 9 [] (.step 10 [] (.step 2 [4,7,10] (.step 5 [] (.step 8 [4,10] (.step 11 [] (.step 12 [] (.step 13 [] (.done))))))))))))))) (by decide+kernel) (by simp) ?_
 simp -dsimp only [go_sem]
 refine(Y0r a.w st (by omega)).mono ?_
 rintro r st ⟨rfl,rfl⟩
 simp -dsimp only [go_sem,w1]
 refine(Y0r b.w st (by omega)).mono ?_
 rintro r st ⟨rfl,rfl⟩
 simp -dsimp only [go_sem,w2]
 refine ck (fun h=> ?_) (fun h=> ?_)
 · have hne:=H0b h
   simp -dsimp only [go_sem]
   refine(x2m _ _ st).mono ?_
   rintro r st ⟨rfl,rfl⟩
   simp -dsimp only [go_sem]
   rw [W2m na nb hne];rfl
 · simp -dsimp only [go_sem]
   refine ck (fun h=> ?_) (fun h=> ?_)
   · have hgt:b.exp<a.exp:=of_decide_eq_true h
     have e0:a.exp-b.exp=(((a.exp-b.exp).toNat:Nat):Int):=by omega
     obtain⟨K,hK⟩: ∃K:Nat,K=100000000:=⟨_,rfl⟩
     have lw:(Q0q (valW a.w*2^(a.exp-b.exp).toNat)).length≤100000000:=hK▸X0p (by
      rw [j0x]
      have h1:=J0i a.w
      rw [j0x] at h1
      refine Nat.lt_of_lt_of_le (Nat.mul_lt_mul_of_pos_right h1 (Nat.pow_pos (by decide))) ?_
      rw [←Nat.pow_add];exact Nat.pow_le_pow_right (by decide) (by omega))
     simp -dsimp only [go_sem]
     refine Q0p Z0g 52 (.step 0 [] (.step 1 [] (.step 2 [] (.step 3 [] (.step 4 [] (.step 5 [] (.step 6 [] (.step 8 [] (.step 9 [] (.step 7 [9] (.step 10 [] (.step 11 [] (.done))))))))))))) (by decide+kernel) (by simp) ?_
     simp -dsimp only [go_sem,w3]
     rw [e0]
     refine(up_c a.w _ st (by omega) (by omega)).mono ?_
     rintro r st ⟨rfl,rfl⟩
     simp -dsimp only [go_sem,w3]
     refine(y0l _ b.w st (by omega) (by omega)).mono ?_
     rintro r st ⟨rfl,rfl⟩
     simp -dsimp only [go_sem]
     rw [Z0a,Z3x hgt]
   · have hle:a.exp≤b.exp:=by have:=of_decide_eq_false h;omega
     have e0:b.exp-a.exp=(((b.exp-a.exp).toNat:Nat):Int):=by omega
     obtain⟨K,hK⟩: ∃K:Nat,K=100000000:=⟨_,rfl⟩
     have lw:(Q0q (valW b.w*2^(b.exp-a.exp).toNat)).length≤100000000:=hK▸X0p (by
      rw [j0x]
      have h1:=J0i b.w
      rw [j0x] at h1
      refine Nat.lt_of_lt_of_le (Nat.mul_lt_mul_of_pos_right h1 (Nat.pow_pos (by decide))) ?_
      rw [←Nat.pow_add];exact Nat.pow_le_pow_right (by decide) (by omega))
     simp -dsimp only [go_sem]
     refine Q0p Z0g 52 (.step 0 [] (.step 1 [] (.step 2 [] (.step 3 [] (.step 4 [] (.step 5 [] (.step 6 [] (.step 7 [] (.step 8 [] (.step 9 [1] (.step 10 [] (.step 11 [] (.done))))))))))))) (by decide+kernel) (by simp) ?_
     simp -dsimp only [go_sem,w4]
     rw [e0]
     refine(up_c b.w _ st (by omega) (by omega)).mono ?_
     rintro r st ⟨rfl,rfl⟩
     simp -dsimp only [go_sem,w4]
     refine(y0l a.w _ st (by omega) (by omega)).mono ?_
     rintro r st ⟨rfl,rfl⟩
     simp -dsimp only [go_sem]
     rw [Z0a,Z3w hle]
theorem z1c (a b:Nm) (st:Q0e) (ha:sm a) (hb:sm b):PCalls Tryz.prog 116 [.agg (encN a),.agg (encN b)] st (fun r st'=>r= .sc (.int .i64 (cmpN a b))∧st'=st):=by
 refine Q0b none Tryz.func116 rfl fun E=>Q0a ?_
 simp -dsimp only [go_sem]
 refine Q0p Z0g 26 (.step 0 [] (.step 2 [] (.step 1 [2] (.step 3 [] (.step 4 [] (.step 5 [] (.done))))))) (by decide+kernel) (by simp) ?_
 simp -dsimp only [go_sem]
 refine(W0g a st (by have:=ha.1;omega)).mono ?_
 rintro r st ⟨rfl,rfl⟩
 simp -dsimp only [go_sem]
 refine(W0g b st (by have:=hb.1;omega)).mono ?_
 rintro r st ⟨rfl,rfl⟩
 simp -dsimp only [go_sem]
 rw [Z3v]
 have fin: ∀(E:Ent),(sgnN a≠sgnN b∨sgnN a=0)→True:=fun _ _=>trivial
 refine gkF (fun h=> ?_) (fun h=> ?_)
 · have he:=H0i h
   simp -dsimp only [go_sem,h]
   refine ck (fun h0=> ?_) (fun h0=> ?_)
   · have h0':=x1d h0
     simp -dsimp only [go_sem]
     refine(y0o _ _ st).mono ?_
     rintro r st ⟨rfl,rfl⟩
     simp -dsimp only [go_sem]
     rw [if_pos (.inr h0')]
   · have h0':=j2m h0
     have na:valW a.w≠0:=fun e=>h0' (by rw [sgnN,if_pos e])
     have nb:valW b.w≠0:=fun e=>h0' (by rw [he,sgnN,if_pos e])
     simp -dsimp only [go_sem]
     refine(z2r a b st ha hb na nb).mono ?_
     rintro r st ⟨rfl,rfl⟩
     simp -dsimp only [go_sem]
     rw [if_neg (by simp only [he,not_true_eq_false,false_or,ne_eq];rw [←he];exact h0')]
     have hc: ∀x y:Int,IntKind.i64.wrap (sgnN a*cmpI x y)=sgnN a*cmpI x y:=fun x y=>by
      unfold sgnN cmpI
      repeat' split
      all_goals decide
     rw [cmpE,hc]
 · have he:=H0b h
   simp -dsimp only [go_sem,h]
   refine(y0o _ _ st).mono ?_
   rintro r st ⟨rfl,rfl⟩
   simp -dsimp only [go_sem]
   rw [if_pos (.inl he)]
end Go.Pv
end
section
/-The document's natural numbers:trim,Part,digit,Cmp. -/
set_option maxRecDepth 100000
namespace Go.Pv
open Go.Proofs
theorem z0p (n:Nat) (h:n<18446744073709551616):bAnd .u64 (n:Int) 4294967295=((n % 4294967296:Nat):Int):=by
 rw [show(4294967295:Int)=((4294967295:Nat):Int) from rfl,k0x n _ h (by decide),show(4294967295:Nat)=2^32-1 from rfl,Nat.and_two_pow_sub_one_eq_mod]
theorem w2l (n:Nat):bShr .u64 (n:Int) 32=((n/4294967296:Nat):Int):=by
 rw [show(32:Int)=((32:Nat):Int) from rfl,K0z n 32 (by decide)]
theorem X1z (l:List UInt32) (st:Q0e) (hl:l.length≤9223372036854775807):PCalls Tryz.prog 209 [.sl .no (encD l)] st (fun r st'=>r= .sl .no (encD (cutD l))∧st'=st):=by
 refine Q0b none Tryz.func209 rfl fun E=>Q0a ?_
 simp -dsimp only [go_sem]
 refine Q0f [true,false,false,true] 0 0 (fun n s=>n≤l.length∧(∀j,n≤j→j<l.length→l.getD j 0=0)∧s=⟨[.sl .no (encD l),.junk,.junk,.sc (.int .i64 n)]++List.replicate 18 .junk,[],[],st⟩) l.length ?_ ?_
 · simp -dsimp only [go_sem]
   exact fun j h1 h2=>by omega
 · rintro n s ⟨hn,hz,rfl⟩
   have out:n=0∨l.getD (n-1) 0≠0→(PV.sl Tag.no (encD (l.take n))=PV.sl .no (encD (cutD l))):=fun h=>by rw [Z3r l n hn hz h]
   rcases Nat.eq_zero_or_pos n with rfl | hp
   · have hd:decide (((0:Nat):Int)>0)=false:=by simp
     simp -dsimp only [go_sem,hd]
     refine Q0a ?_
     simp -dsimp only [go_sem]
     exact⟨⟨by omega,by omega⟩,out (.inl rfl)⟩
   · have hd:decide ((n:Int)>0)=true:=decide_eq_true (by omega)
     have e1:IntKind.i64.wrap ((n:Int)-1)=((n-1:Nat):Int):=by rw [Q0k _ (by omega) (by omega)];omega
     have e2:=J0a l (n-1) (by omega)
     simp -dsimp only [go_sem,hd,e1,e2]
     refine⟨by omega,ck (fun h=> ?_) (fun h=> ?_)⟩
     · simp -dsimp only [go_sem,e1]
       refine⟨n-1,by omega,by omega,fun j h1 h2=> ?_,rfl⟩
       by_cases hj:j=n-1
       · subst hj
         exact(q0u _).2 (U0m (b:=0) h)
       · exact hz j (by omega) h2
     · simp -dsimp only [go_sem]
       refine Q0a ?_
       simp -dsimp only [go_sem]
       refine⟨⟨by omega,by omega⟩,out (.inr fun e=> ?_)⟩
       rw [e] at h
       cases h
theorem k2d (w:List UInt64) (st:Q0e) (hl:w.length≤1000000000000):PCalls Tryz.prog 140 [.sl .no (encW w)] st (fun r st'=>r= .sl .no (encD (Q0d (valW w)))∧st'=st):=by
 refine Q0b none Tryz.func140 rfl fun E=>Q0a ?_
 simp -dsimp only [go_sem]
 refine Z0l 3 1 ?_
 simp -dsimp only [go_sem]
 refine Q0f [true,false,false,true,true] 0 1 (fun n s=> ∃i o,n=w.length-i∧i≤w.length∧o.length=2*i∧valD o=valW (w.take i)∧
  s=⟨[.sl .no (encW w),.junk,.junk,.sl (.own 0) (encD o),.sc (.int .i64 i)]++List.replicate 23 .junk,[],[(o.length,1)],st⟩) w.length ?_ ?_
 · simp -dsimp only [go_sem]
   exact⟨0,[],by omega,by omega,rfl,rfl,rfl⟩
 · rintro n s ⟨i,o,rfl,hi,ho,hv,rfl⟩
   simp -dsimp only [go_sem]
   refine ck (fun h=> ?_) (fun h=> ?_)
   · have hlt:i<w.length:=by have:=of_decide_eq_true h;omega
     have g1:=Q0z w i hlt
     have hw:=UInt64.toNat_lt (w.getD i 0)
     have x1:IntKind.i64.wrap ((i:Int)+1)=((i+1:Nat):Int):=by
      rw [show((i:Int)+1)=((i+1:Nat):Int) from rfl,Q0n _ (by omega)]
     have s1:IntKind.u32.wrap (bAnd .u64 ((w.getD i 0).toNat:Int) 4294967295)=((UInt32.ofNat ((w.getD i 0).toNat % 4294967296)).toNat:Int):=by
      rw [z0p _ hw,J0h,X0r _ (Nat.mod_lt _ (by decide))];omega
     have s2:IntKind.u32.wrap (bShr .u64 ((w.getD i 0).toNat:Int) 32)=((UInt32.ofNat ((w.getD i 0).toNat/4294967296)).toNat:Int):=by
      rw [w2l,J0h,X0r _ (by omega)];omega
     simp -dsimp only [go_sem]
     refine Q0p Z0g 28 (.step 0 [] (.step 1 [] (.step 2 [] (.step 3 [] (.step 4 [] (.step 5 [] (.step 6 [] (.step 7 [] (.step 8 [] (.step 9 [] (.step 10 [] (.step 11 [] (.step 12 [] (.step 13 [] (.step 14 [4,10] (.step 15 [] (.done))))))))))))))))) (by decide+kernel) (by simp) ?_
     simp -dsimp only [go_sem,g1,s1,s2,x1]
     have e2: ∀a b:UInt32,encD o++ [.sc (.int .u32 a.toNat),.sc (.int .u32 b.toNat)]=encD (o++ [a,b]):=fun a b=>by simp [encD]
     refine⟨by omega,by omega,by omega,w.length-(i+1),by omega,i+1,o++ [UInt32.ofNat ((w.getD i 0).toNat % 4294967296),UInt32.ofNat ((w.getD i 0).toNat/4294967296)],rfl,by omega,by simp;omega,?_,?_⟩
     · rw [X0e w i hlt,x0d,hv,ho]
       simp only [valD,nD,List.map_cons,List.map_nil,val]
       rw [X0r _ (Nat.mod_lt _ (by decide)),X0r _ (by omega),Nat.mul_zero,Nat.add_zero,Nat.mod_add_div,Y1w,j0x]
       congr 3;omega
     · rw [e2];simp
   · have hge:i=w.length:=by have:=of_decide_eq_false h;omega
     subst hge
     simp -dsimp only [go_sem]
     refine Q0a ?_
     simp -dsimp only [go_sem]
     refine(X1z o st (by omega)).mono ?_
     rintro r st ⟨rfl,rfl⟩
     simp -dsimp only [go_sem]
     rw [←J0x o,hv,List.take_length]
theorem q0h (l:List UInt32) (i:Nat) (st:Q0e):PCalls Tryz.prog 211 [.sl .no (encD l),.sc (.int .i64 i)] st (fun r st'=>r= .sc (.int .u64 (l.getD i 0).toNat)∧st'=st):=by
 refine Q0b none Tryz.func211 rfl fun E=>Q0a ?_
 simp -dsimp only [go_sem]
 refine ck (fun h=> ?_) (fun h=> ?_)
 · have hlt:i<l.length:=by have:=of_decide_eq_true h;omega
   have g1:=J0a l i hlt
   have hw:=UInt32.toNat_lt (l.getD i 0)
   have w1:IntKind.u64.wrap ((l.getD i 0).toNat:Int)=((l.getD i 0).toNat:Int):=J0g _ (by omega)
   simp -dsimp only [go_sem,g1,w1]
   omega
 · have hge:l.length≤i:=by have:=of_decide_eq_false h;omega
   simp -dsimp only [go_sem]
   rw [List.getD_eq_getElem?_getD,List.getElem?_eq_none hge];rfl
end Go.Pv
end
section
/-The document's natural numbers:Cmp,Add,Sub. -/
set_option maxRecDepth 100000
namespace Go.Pv
open Go.Proofs
theorem G2o (m n:Nat) (st:Q0e) (hm:(Q0d m).length≤10000000000000) (hn:(Q0d n).length≤10000000000000):PCalls Tryz.prog 145 [.sl .no (encD (Q0d m)),.sl .no (encD (Q0d n))] st (fun r st'=>r= .sc (.int .i64 (cmpW m n))∧st'=st):=by
 refine Q0b none Tryz.func145 rfl fun E=>Q0a ?_
 have hcl:= @z1n m n
 have vm:=Q0y m
 have vn:=Q0y n
 generalize Q0d m=a at*
 generalize Q0d n=b at*
 simp -dsimp only [go_sem]
 refine ck (fun h=> ?_) (fun h=> ?_)
 · have hne:a.length≠b.length:=w0o h
   have hcl:=hcl hne
   simp -dsimp only [go_sem]
   refine ck (fun h=> ?_) (fun h=> ?_)
   · simp -dsimp only [go_sem]
     rw [←hcl,U0c (of_decide_eq_true h)]
   · simp -dsimp only [go_sem]
     rw [←hcl,U0d (by have:=of_decide_eq_false h;omega)]
 · have hlen:a.length=b.length:=z0x h
   have e1:IntKind.i64.wrap ((a.length:Int)-1)=(a.length:Int)-1:=Q0k _ (by omega) (by omega)
   simp -dsimp only [go_sem,e1]
   refine Q0f [true,true,false,false,false,true] 0 0 (fun n s=>n≤a.length∧(∀j,n≤j→j<a.length→a.getD j 0=b.getD j 0)∧s=⟨[.sl .no (encD a),.sl .no (encD b),.junk,.junk,.junk,.sc (.int .i64 ((n:Int)-1))]++List.replicate 35 .junk,[],[],st⟩) a.length ?_ ?_
   · simp -dsimp only [go_sem]
     exact fun j h1 h2=>by omega
   · rintro i s ⟨hn,hz,rfl⟩
     simp -dsimp only [go_sem]
     refine ck (fun h=> ?_) (fun h=> ?_)
     · have hp:0<i:=by have:=of_decide_eq_true h;omega
       have e0:((i:Int)-1)=((i-1:Nat):Int):=by omega
       have g1:=J0a a (i-1) (by omega)
       have g2:=J0a b (i-1) (by omega)
       have e3:IntKind.i64.wrap (((i-1:Nat):Int)-1)=((i-1:Nat):Int)-1:=Q0k _ (by omega) (by omega)
       simp -dsimp only [go_sem]
       rw [e0]
       refine Q0p Z0g 41 (.step 0 [] (.step 1 [] (.step 2 [] (.step 3 [] (.step 4 [] (.step 5 [] (.step 6 [] (.step 7 [] (.step 8 [] (.done)))))))))) (by decide+kernel) (by simp) ?_
       simp -dsimp only [go_sem,g1,g2]
       refine⟨by omega,by omega,ck (fun h2=> ?_) (fun h2=> ?_)⟩
       · have hlt:(a.getD (i-1) 0).toNat<(b.getD (i-1) 0).toNat:=by have:=of_decide_eq_true h2;omega
         have:=X1w hlen (i-1) (by omega) (fun j h1 h2=>hz j (by omega) h2) hlt
         simp -dsimp only [go_sem]
         rw [←vm,←vn,cmpW,U0c (by omega)]
       · have hge:=of_decide_eq_false h2
         simp -dsimp only [go_sem]
         refine Q0p Z0g 41 (.step 0 [] (.step 1 [] (.step 2 [] (.step 3 [] (.step 4 [] (.step 5 [] (.step 6 [] (.step 7 [] (.step 8 [] (.done)))))))))) (by decide+kernel) (by simp) ?_
         simp -dsimp only [go_sem,g1,g2]
         refine⟨by omega,by omega,ck (fun h2=> ?_) (fun h2=> ?_)⟩
         · have hlt:(b.getD (i-1) 0).toNat<(a.getD (i-1) 0).toNat:=by have:=of_decide_eq_true h2;omega
           have:=X1w hlen.symm (i-1) (by omega) (fun j h1 h2=>(hz j (by omega) (by omega)).symm) hlt
           simp -dsimp only [go_sem]
           rw [←vm,←vn,cmpW,U0d (by omega)]
         · have heq:a.getD (i-1) 0=b.getD (i-1) 0:=UInt32.toNat.inj (by have:=of_decide_eq_false h2;omega)
           simp -dsimp only [go_sem,e3]
           refine⟨i-1,by omega,by omega,fun j h1 h2=> ?_,rfl⟩
           by_cases hj:j=i-1
           · subst hj;exact heq
           · exact hz j (by omega) h2
     · have h0:i=0:=by have:=of_decide_eq_false h;omega
       simp -dsimp only [go_sem]
       refine Q0a ?_
       simp -dsimp only [go_sem]
       rw [←vm,←vn,G0k 0 hlen (fun j hj=>hz j (by omega) hj),cmpW,Z1t rfl]
theorem Y2k (a b o:List UInt32) (i c:Nat) (ho:o.length=i) (hv:valD o+4294967296^i*c=valD (a.take i)+valD (b.take i)) (hc:c≤1):
 let x:=c+((a.getD i 0).toNat+(b.getD i 0).toNat)
 x<8589934592∧valD (o++ [UInt32.ofNat (x % 4294967296)])+4294967296^(i+1)*(x/4294967296)=valD (a.take (i+1))+valD (b.take (i+1))∧x/4294967296≤1:=by
 intro x
 have ha:=UInt32.toNat_lt (a.getD i 0)
 have hb:=UInt32.toNat_lt (b.getD i 0)
 have hx:x<8589934592:=by show c+_<_;omega
 refine⟨hx,?_,by omega⟩
 rw [j0g,X0r _ (Nat.mod_lt _ (by decide)),ho,J0j,J0j,Nat.add_assoc,Nat.pow_succ,Nat.mul_assoc,←Nat.mul_add,Nat.mod_add_div]
 show valD o+4294967296^i*(c+_)=_
 rw [Nat.mul_add,Nat.mul_add]
 omega
theorem x1q (m n:Nat) (st:Q0e) (hm:(Q0d m).length≤1000000000000) (hn:(Q0d n).length≤1000000000000):PCalls Tryz.prog 144 [.sl .no (encD (Q0d m)),.sl .no (encD (Q0d n))] st (fun r st'=>r= .sl .no (encD (Q0d (m+n)))∧st'=st):=by
 refine Q0b none Tryz.func144 rfl fun E=>Q0a ?_
 rw [show Q0d (m+n)=Q0d (valD (Q0d m)+valD (Q0d n)) from by rw [Q0y,Q0y]]
 generalize Q0d m=a at*
 generalize Q0d n=b at*
 simp -dsimp only [go_sem]
 refine Z0l 5 1 ?_
 simp -dsimp only [go_sem]
 refine Q0f [true,true,false,false,false,true,true,true] 0 1 (fun n s=> ∃i c o,n=2*(max a.length b.length-i)+c∧i≤max a.length b.length+1∧o.length=i∧c≤1∧(max a.length b.length<i→c=0)∧valD o+4294967296^i*c=valD (a.take i)+valD (b.take i)∧
  s=⟨[.sl .no (encD a),.sl .no (encD b),.junk,.junk,.junk,.sl (.own 0) (encD o),.sc (.int .u64 c),.sc (.int .i64 i)]++List.replicate 35 .junk,[],[(o.length,1)],st⟩) (2*(max a.length b.length)) ?_ ?_
 · simp -dsimp only [go_sem]
   exact⟨0,0,[],by omega,by omega,rfl,by omega,fun _=>rfl,by simp [U0g],rfl⟩
 · rintro k s ⟨i,c,o,rfl,hi,ho,hc,hc2,hv,rfl⟩
   obtain⟨x1,x2,x3⟩:=Y2k a b o i c ho hv hc
   generalize hx:c+((a.getD i 0).toNat+(b.getD i 0).toNat)=x at*
   have w1:IntKind.u64.wrap (((a.getD i 0).toNat:Int)+(b.getD i 0).toNat)=(((a.getD i 0).toNat+(b.getD i 0).toNat:Nat):Int):=by
    rw [←Int.natCast_add,J0g _ (by omega)]
   have w2:IntKind.u64.wrap ((c:Int)+(((a.getD i 0).toNat+(b.getD i 0).toNat:Nat):Int))=(x:Int):=by
    rw [←Int.natCast_add,J0g _ (by omega),hx]
   have w3:IntKind.u32.wrap (bAnd .u64 (x:Int) 4294967295)=((UInt32.ofNat (x % 4294967296)).toNat:Int):=by
    rw [z0p _ (by omega),J0h,X0r _ (Nat.mod_lt _ (by decide))];omega
   have w4:=w2l x
   have w5:IntKind.i64.wrap ((i:Int)+1)=((i+1:Nat):Int):=by
    rw [show((i:Int)+1)=((i+1:Nat):Int) from rfl,Q0n _ (by omega)]
   have body:(i<a.length∨i<b.length∨0<c)→i≤max a.length b.length:=fun h=>by
    rcases h with h | h | h
    · omega
    · omega
    · apply Nat.le_of_not_lt;intro hlt;have:=hc2 hlt;omega
   have fin:a.length≤i→b.length≤i→c=0→Q0d (valD a+valD b)=cutD o:=fun h1 h2 h3=>by
    rw [←J0x,←List.take_of_length_le h1,←List.take_of_length_le h2,←hv,h3];simp
   simp -dsimp only [go_sem]
   have main:i≤max a.length b.length→_:=fun hle=>True.intro
   refine gkF (fun h=> ?_) (fun h=> ?_)
   · have h1:a.length≤i:=by have:=of_decide_eq_false h;omega
     simp -dsimp only [go_sem,h]
     refine gkF (fun h=> ?_) (fun h=> ?_)
     · have h2:b.length≤i:=by have:=of_decide_eq_false h;omega
       simp -dsimp only [go_sem,h]
       refine ck (fun h=> ?_) (fun h=> ?_)
       · have h3:0<c:=by have:=of_decide_eq_true h;omega
         have hle:=body (.inr (.inr h3))
         simp -dsimp only [go_sem]
         refine(q0h a i st).mono ?_
         rintro r st ⟨rfl,rfl⟩
         simp -dsimp only [go_sem]
         refine(q0h b i st).mono ?_
         rintro r st ⟨rfl,rfl⟩
         simp -dsimp only [go_sem,w1,w2,w3,w4,w5]
         refine⟨by omega,2*(max a.length b.length-(i+1))+x/4294967296,?_,i+1,x/4294967296,_,rfl,by omega,by simp [ho],x3,?_,x2,by simp [ho]⟩
         · have e1:=Y0x a i 0 h1
           have e2:=Y0x b i 0 h2
           rw [e1,e2] at hx
           have z:(0:UInt32).toNat=0:=rfl
           omega
         · have e1:=Y0x a i 0 h1
           have e2:=Y0x b i 0 h2
           rw [e1,e2] at hx
           have z:(0:UInt32).toNat=0:=rfl
           omega
       · have h3:c=0:=by have:=of_decide_eq_false h;omega
         simp -dsimp only [go_sem]
         refine Q0a ?_
         simp -dsimp only [go_sem]
         refine(X1z o st (by omega)).mono ?_
         rintro r st ⟨rfl,rfl⟩
         simp -dsimp only [go_sem]
         rw [fin h1 h2 h3]
     · have h2:i<b.length:=by have:=of_decide_eq_true h;omega
       simp -dsimp only [go_sem,h]
       refine(q0h a i st).mono ?_
       rintro r st ⟨rfl,rfl⟩
       simp -dsimp only [go_sem]
       refine(q0h b i st).mono ?_
       rintro r st ⟨rfl,rfl⟩
       simp -dsimp only [go_sem,w1,w2,w3,w4,w5]
       exact⟨by omega,2*(max a.length b.length-(i+1))+x/4294967296,by omega,i+1,x/4294967296,_,rfl,by omega,by simp [ho],x3,by omega,x2,by simp [ho]⟩
   · have h1:i<a.length:=by have:=of_decide_eq_true h;omega
     simp -dsimp only [go_sem,h]
     refine(q0h a i st).mono ?_
     rintro r st ⟨rfl,rfl⟩
     simp -dsimp only [go_sem]
     refine(q0h b i st).mono ?_
     rintro r st ⟨rfl,rfl⟩
     simp -dsimp only [go_sem,w1,w2,w3,w4,w5]
     exact⟨by omega,2*(max a.length b.length-(i+1))+x/4294967296,by omega,i+1,x/4294967296,_,rfl,by omega,by simp [ho],x3,by omega,x2,by simp [ho]⟩
end Go.Pv
end
section
/-The document's natural numbers:Sub,Left. -/
set_option maxRecDepth 100000
namespace Go.Pv
open Go.Proofs
theorem Q2y (a b o:List UInt32) (i c:Nat) (ho:o.length=i) (hv:valD o+valD (b.take i)+c=valD (a.take i)+4294967296^i*c+c) (hc:c≤1):
 let x:=(a.getD i 0).toNat
 let y:=(b.getD i 0).toNat+c
 let c':=if x<y then 1 else 0
 let d:=UInt32.ofNat (x+c'*4294967296-y)
 d.toNat=x+c'*4294967296-y∧y≤x+c'*4294967296∧valD (o++ [d])+valD (b.take (i+1))+c'=valD (a.take (i+1))+4294967296^(i+1)*c'+c':=by
 intro x y c' d
 have ha:x<4294967296:=UInt32.toNat_lt (a.getD i 0)
 have hb:=UInt32.toNat_lt (b.getD i 0)
 have hy:y≤4294967296:=by show _+c≤_;omega
 have hle:y≤x+c'*4294967296:=by
  by_cases h:x<y
  · have:c'=1:=if_pos h
    omega
  · omega
 have hd:d.toNat=x+c'*4294967296-y:=by
  refine X0r _ ?_
  by_cases h:x<y
  · have:c'=1:=if_pos h
    omega
  · have:c'=0:=if_neg h
    omega
 refine⟨hd,hle,?_⟩
 rw [j0g,ho,J0j,J0j,hd]
 have e1:4294967296^i*(x+c'*4294967296-y)+4294967296^i*y=4294967296^i*x+4294967296^(i+1)*c':=by
  rw [←Nat.mul_add,Nat.sub_add_cancel hle,Nat.mul_add,Nat.pow_succ,Nat.mul_comm c',←Nat.mul_assoc]
 have e2:4294967296^i*y=4294967296^i*(b.getD i 0).toNat+4294967296^i*c:=Nat.mul_add _ _ _
 show _+(_+4294967296^i*(b.getD i 0).toNat)+c'=_+4294967296^i*x+_+c'
 omega
theorem x1p (m n:Nat) (st:Q0e) (hm:(Q0d m).length≤1000000000000) (hle:n≤m):PCalls Tryz.prog 146 [.sl .no (encD (Q0d m)),.sl .no (encD (Q0d n))] st (fun r st'=>r= .sl .no (encD (Q0d (m-n)))∧st'=st):=by
 refine Q0b none Tryz.func146 rfl fun E=>Q0a ?_
 have hlen:=G0y hle
 have hle':valD (Q0d n)≤valD (Q0d m):=by rw [Q0y,Q0y];exact hle
 rw [show Q0d (m-n)=Q0d (valD (Q0d m)-valD (Q0d n)) from by rw [Q0y,Q0y]]
 generalize Q0d m=a at*
 generalize Q0d n=b at*
 simp -dsimp only [go_sem]
 refine Z0l 5 1 ?_
 simp -dsimp only [go_sem]
 refine Q0f [true,true,false,false,false,true,true,true] 0 1 (fun n s=> ∃i c o,n=a.length-i∧i≤a.length∧o.length=i∧c≤1∧valD o+valD (b.take i)+c=valD (a.take i)+4294967296^i*c+c∧
  s=⟨[.sl .no (encD a),.sl .no (encD b),.junk,.junk,.junk,.sl (.own 0) (encD o),.sc (.int .u64 c),.sc (.int .i64 i)]++List.replicate 32 .junk,[],[(o.length,1)],st⟩) a.length ?_ ?_
 · simp -dsimp only [go_sem]
   exact⟨0,0,[],by omega,by omega,rfl,by omega,by simp [U0g],rfl⟩
 · rintro k s ⟨i,c,o,rfl,hi,ho,hc,hv,rfl⟩
   simp -dsimp only [go_sem]
   refine ck (fun h=> ?_) (fun h=> ?_)
   · have hlt:i<a.length:=by have:=of_decide_eq_true h;omega
     have g1:=J0a a i hlt
     have ha:=UInt32.toNat_lt (a.getD i 0)
     have hb:=UInt32.toNat_lt (b.getD i 0)
     obtain⟨d1,d2,d3⟩:=Q2y a b o i c ho hv hc
     have w1:IntKind.u64.wrap ((a.getD i 0).toNat:Int)=((a.getD i 0).toNat:Int):=J0g _ (by omega)
     have w2:IntKind.u64.wrap (((b.getD i 0).toNat:Int)+(c:Int))=(((b.getD i 0).toNat+c:Nat):Int):=by
      rw [←Int.natCast_add,J0g _ (by omega)]
     have w5:IntKind.i64.wrap ((i:Int)+1)=((i+1:Nat):Int):=by
      rw [show((i:Int)+1)=((i+1:Nat):Int) from rfl,Q0n _ (by omega)]
     generalize hx:(a.getD i 0).toNat=x at*
     generalize hy:(b.getD i 0).toNat+c=y at*
     simp -dsimp only [go_sem]
     refine Q0p Z0g 40 (.step 0 [] (.step 1 [] (.step 2 [] (.step 3 [] (.step 4 [] (.step 5 [] (.step 6 [] (.step 8 [] (.step 7 [3] (.step 9 [] (.step 10 [] (.step 11 [] (.done))))))))))))) (by decide+kernel) (by simp) ?_
     simp -dsimp only [go_sem,g1,hx,w1]
     refine⟨by omega,?_⟩
     refine(q0h b i st).mono ?_
     rintro r st ⟨rfl,rfl⟩
     simp -dsimp only [go_sem,g1,hx,w1,w2]
     refine ck (fun h=> ?_) (fun h=> ?_)
     · have hxy:x<y:=by have:=of_decide_eq_true h;omega
       rw [if_pos hxy] at d1 d2 d3
       have w3:IntKind.u64.wrap ((x:Int)+4294967296)=((x+4294967296:Nat):Int):=by
        rw [show(x:Int)+4294967296=((x+4294967296:Nat):Int) from rfl,J0g _ (by omega)]
       have w4:IntKind.u32.wrap (IntKind.u64.wrap (((x+4294967296:Nat):Int)-(y:Int)))=((UInt32.ofNat (x+1*4294967296-y)).toNat:Int):=by
        rw [show((x+4294967296:Nat):Int)-(y:Int)=((x+4294967296-y:Nat):Int) from by omega,J0g _ (by omega),J0h,d1]
        omega
       simp -dsimp only [go_sem,w3,w4,w5]
       exact⟨by omega,a.length-(i+1),by omega,i+1,1,_,rfl,by omega,by simp [ho],by omega,d3,by simp [ho]⟩
     · have hxy: ¬x<y:=by have:=of_decide_eq_false h;omega
       rw [if_neg hxy] at d1 d2 d3
       have w4:IntKind.u32.wrap (IntKind.u64.wrap ((x:Int)-(y:Int)))=((UInt32.ofNat (x+0*4294967296-y)).toNat:Int):=by
        rw [show(x:Int)-(y:Int)=((x-y:Nat):Int) from by omega,J0g _ (by omega),J0h,d1]
        omega
       simp -dsimp only [go_sem,w4,w5]
       exact⟨by omega,a.length-(i+1),by omega,i+1,0,_,rfl,by omega,by simp [ho],by omega,d3,by simp [ho]⟩
   · have hge:i=a.length:=by have:=of_decide_eq_false h;omega
     simp -dsimp only [go_sem]
     refine Q0a ?_
     simp -dsimp only [go_sem]
     refine(X1z o st (by omega)).mono ?_
     rintro r st ⟨rfl,rfl⟩
     simp -dsimp only [go_sem]
     rw [hge,List.take_length,List.take_of_length_le hlen] at hv
     have hob:=v0e o
     rw [ho,hge] at hob
     have hc0:c=0:=by
      apply Nat.le_zero.1;apply Nat.le_of_not_lt;intro h0
      have:c=1:=by omega
      subst this
      omega
     subst hc0
     rw [←J0x o,show valD o=valD a-valD b from by omega]
theorem Y1p (m n:Nat) (st:Q0e) (hm:(Q0d m).length≤1000000000000) (hn:n≤1000000000000):PCalls Tryz.prog 143 [.sl .no (encD (Q0d m)),.sc (.int .i64 n)] st (fun r st'=>r= .sl .no (encD (Q0d (m*2^n)))∧st'=st):=by
 refine Q0b none Tryz.func143 rfl fun E=>Q0a ?_
 rw [show Q0d (m*2^n)=Q0d (valD (Q0d m)*2^n) from by rw [Q0y]]
 generalize Q0d m=a at*
 simp -dsimp only [go_sem]
 refine ck (fun h=> ?_) (fun h=> ?_)
 · have h0:a= []:=List.length_eq_zero_iff.1 (U0m (b:=0) h)
   subst h0
   simp -dsimp only [go_sem]
   simp [U0g,Z0j,V1s]
 · have h0:0<a.length:=by have:=H0z (b:=0) h;omega
   have eq:IntKind.i64.wrap ((n:Int).tdiv 32)=((n/32:Nat):Int):=by
    rw [show(32:Int)=((32:Nat):Int) from rfl,G0t,Q0n _ (by omega)]
   have er:(n:Int).tmod 32=((n % 32:Nat):Int):=by
    rw [show(32:Int)=((32:Nat):Int) from rfl,G0s]
   have hnk:n=32*(n/32)+n % 32:=by omega
   generalize n/32=k at*
   generalize hs:n % 32=s at*
   have hs':s<32:=by omega
   have e1:IntKind.i64.wrap ((k:Int)+(a.length:Int))=((a.length+k:Nat):Int):=by
    rw [←Int.natCast_add,Q0n _ (by omega),Nat.add_comm]
   obtain⟨m0,hm0⟩: ∃m0,m0=a.length+k+1:=⟨_,rfl⟩
   have e2:IntKind.i64.wrap (((a.length+k:Nat):Int)+1)=(m0:Int):=by
    rw [show(((a.length+k:Nat):Int)+1)=((a.length+k+1:Nat):Int) from rfl,Q0n _ (by omega),hm0]
   simp -dsimp only [go_sem,eq,er,e1,e2]
   refine⟨⟨by omega,by omega,by omega⟩,?_⟩
   refine Q0f [true,true,false,false,false,true,true] 1 0
    (fun m s'=> ∃i o,m=a.length-i∧i≤a.length∧o.length=m0∧valD o=valD (a.take i)*2^(32*k+s)∧(o.getD (i+k) 0).toNat<2^s∧(∀j,i+k<j→o.getD j 0=0)∧
     s'=⟨[.sl .no (encD a),.sc (.int .i64 n),.junk,.junk,.junk,.ms false 0 0 m0,.sc (.int .i64 i)]++List.replicate 49 .junk,[encD o],[],st⟩) a.length ?_ ?_
   · simp -dsimp only [go_sem]
     refine⟨0,List.replicate m0 0,by omega,by omega,by simp,by simp [X1v,U0g],?_,fun j hj=>K0g _ _ _,rfl⟩
     rw [K0g];exact Nat.pow_pos (by decide)
   · rintro m s' ⟨i,o,rfl,hi,ho,hv,hc,hz,rfl⟩
     simp -dsimp only [go_sem]
     refine ck (fun h=> ?_) (fun h=> ?_)
     · have hlt:i<a.length:=by have:=of_decide_eq_true h;omega
       have g1:=J0a a i hlt
       have g2:=J0a o (i+k) (by omega)
       have haw:=UInt32.toNat_lt (a.getD i 0)
       obtain⟨s1,s2,s3,s4,s5⟩:=K2d a o k s i hs' hlt (by omega) hv hc hz
       have x0:IntKind.u64.wrap ((a.getD i 0).toNat:Int)=((a.getD i 0).toNat:Int):=J0g _ (by omega)
       have x0':bShl .u64 ((a.getD i 0).toNat:Int) (s:Int)=(((a.getD i 0).toNat*2^s:Nat):Int):=by
        rw [U0r _ s (by omega),Nat.mod_eq_of_lt s1]
       generalize hx:(a.getD i 0).toNat*2^s=x at*
       have x1:IntKind.i64.wrap ((k:Int)+(i:Int))=((i+k:Nat):Int):=by
        rw [←Int.natCast_add,Q0n _ (by omega),Nat.add_comm]
       have x2:IntKind.i64.wrap (((i+k:Nat):Int)+1)=((i+k+1:Nat):Int):=by
        rw [show(((i+k:Nat):Int)+1)=((i+k+1:Nat):Int) from rfl,Q0n _ (by omega)]
       have x3:IntKind.u32.wrap (bAnd .u64 (x:Int) 4294967295)=((x % 4294967296:Nat):Int):=by
        rw [z0p _ s1,J0h];omega
       have x4:IntKind.i64.wrap ((i:Int)+1)=((i+1:Nat):Int):=by
        rw [show((i:Int)+1)=((i+1:Nat):Int) from rfl,Q0n _ (by omega)]
       have x5:decide (0≤(s:Int))=true:=decide_eq_true (by omega)
       have x6:IntKind.u32.wrap (bShr .u64 (x:Int) 32)=((UInt32.ofNat (x/4294967296)).toNat:Int):=by
        rw [w2l,J0h,←s3];omega
       have o1:=k0m o (i+k) (UInt32.ofNat ((o.getD (i+k) 0).toNat+x % 4294967296)) (show i+k<o.length by omega)
       have o2:=k0m (o.set (i+k) (UInt32.ofNat ((o.getD (i+k) 0).toNat+x % 4294967296))) (i+k+1) (UInt32.ofNat (x/4294967296)) (by simp;omega)
       simp -dsimp only [go_sem,g1,g2,eq,er,x0,x0',x1,x2,x3,x4,x5,x6,s2,o1,o2]
       refine⟨by omega,⟨by omega,by omega⟩,by omega,⟨by omega,by omega⟩,⟨by omega,by omega⟩,⟨by omega,by omega⟩,⟨by simp;omega,by simp;omega⟩,a.length-(i+1),by omega,i+1,_,rfl,by omega,by simp [ho],s4,?_,fun j hj=> ?_,rfl⟩
       · rw [show i+1+k=i+k+1 from by omega,J0t,if_pos ⟨rfl,by simp;omega⟩];exact s5
       · rw [J0t,if_neg (by omega),J0t,if_neg (by omega),hz j (by omega)]
     · have hge:i=a.length:=by have:=of_decide_eq_false h;omega
       subst hge
       have ht:o.take m0=o:=List.take_of_length_le (by omega)
       have hle:m0≤o.length:=by omega
       simp -dsimp only [go_sem]
       refine Z0u 0 ?_ ?_
       · simp -dsimp only [go_sem]
       · refine Q0a ?_
         simp -dsimp only [go_sem,ht,hle]
         refine(X1z o st (by omega)).mono ?_
         rintro r st ⟨rfl,rfl⟩
         simp -dsimp only [go_sem]
         rw [←J0x o,hv,List.take_length,hnk]
end Go.Pv
end
section
/-The document's natural numbers:Down,Zeros. -/
set_option maxRecDepth 100000
namespace Go.Pv
open Go.Proofs
theorem Y2j (n s:Nat) (h:n<4294967296) (hs:s<32):bAnd .u32 (n:Int) (IntKind.u32.wrap (bShl .u32 1 (s:Int)-1))=((n % 2^s:Nat):Int):=by
 have h2:2^s≤2^31:=Nat.pow_le_pow_right (by decide) (by omega)
 have hp:0<2^s:=Nat.pow_pos (by decide)
 have e:bShl .u32 1 (s:Int)=((2^s:Nat):Int):=by
  have:=j2a 1 s (by omega)
  rw [Nat.one_mul,Nat.mod_eq_of_lt (by omega)] at this
  exact this
 rw [e,show((2^s:Nat):Int)-1=((2^s-1:Nat):Int) from by omega,J0h,Nat.mod_eq_of_lt (by omega),k1g n _ h (by omega),Nat.and_two_pow_sub_one_eq_mod]
theorem V2u (a:List UInt32) (k s:Nat) (h:k<a.length) (hs:s<32):(decide (valD (a.take k)≠0)||decide ((a.getD k 0).toNat % 2^s≠0))=decide (valD a % 2^(32*k+s)≠0):=by
 have hb:=v0e (a.take k)
 rw [List.length_take,Nat.min_eq_left (by omega)] at hb
 have e:valD a % 2^(32*k+s)=valD (a.take k)+4294967296^k*((a.getD k 0).toNat % 2^s):=by
  have e1:valD a=valD (a.take k)+4294967296^k*((a.getD k 0).toNat+4294967296*valD (a.drop (k+1))):=by
   rw [←j0h a k h];exact W0d a k (by omega)
  have e2:((a.getD k 0).toNat+4294967296*valD (a.drop (k+1))) % 2^s=(a.getD k 0).toNat % 2^s:=by
   rw [show(4294967296:Nat)=2^s*2^(32-s) from by rw [←Nat.pow_add,show s+(32-s)=32 from by omega],Nat.mul_assoc,Nat.add_mul_mod_self_left]
  rw [Nat.pow_add,←Y1w,Nat.mod_mul,e1,Nat.add_mul_mod_self_left,Nat.mod_eq_of_lt hb,Nat.add_mul_div_left _ _ (Nat.pow_pos (by decide)),Nat.div_eq_of_lt hb,Nat.zero_add,e2]
 rw [e]
 have hp:0<4294967296^k:=Nat.pow_pos (by decide)
 by_cases h1:valD (a.take k)=0
 · by_cases h2:(a.getD k 0).toNat % 2^s=0
   · rw [h1,h2];simp
   · have:4294967296^k*((a.getD k 0).toNat % 2^s)≠0:=Nat.mul_ne_zero (by omega) h2
     rw [decide_eq_true h2,decide_eq_true (by omega:valD (a.take k)+4294967296^k*((a.getD k 0).toNat % 2^s)≠0)];simp
 · rw [decide_eq_true h1,decide_eq_true (by omega:valD (a.take k)+4294967296^k*((a.getD k 0).toNat % 2^s)≠0)];rfl
theorem V2t (a o:List UInt32) (k s j:Nat) (hs:s<32) (hj:k+j<a.length) (ho:o.length=j) (hv:valD o=valD (a.drop k)/2^s % 4294967296^j):
 let x:=(a.getD (k+j) 0).toNat+(a.getD (k+j+1) 0).toNat*4294967296
 x<18446744073709551616∧bOr .u64 ((a.getD (k+j) 0).toNat:Int) (bShl .u64 ((a.getD (k+j+1) 0).toNat:Int) 32)=(x:Int)∧
 valD (o++ [UInt32.ofNat (x/2^s % 4294967296)])=valD (a.drop k)/2^s % 4294967296^(j+1):=by
 intro x
 have h1:=UInt32.toNat_lt (a.getD (k+j) 0)
 have h2:=UInt32.toNat_lt (a.getD (k+j+1) 0)
 have hx:x<18446744073709551616:=by show _+_*_<_;omega
 refine⟨hx,?_,?_⟩
 · have e:=U0r (a.getD (k+j+1) 0).toNat 32 (by decide)
   rw [show((32:Nat):Int)=32 from rfl] at e
   have hm:(a.getD (k+j+1) 0).toNat*2^32 % 18446744073709551616=(a.getD (k+j+1) 0).toNat*4294967296:=by omega
   rw [e,hm,X1a _ _ (by omega) (by omega),J1k _ _ 32 (by omega) (by omega)]
 · have hd:valD (a.drop k)/4294967296^j=valD (a.drop (k+j)):=by
    rw [w0v _ j (by simp;omega),List.drop_drop]
   rw [j0g,X0r _ (Nat.mod_lt _ (by decide)),ho,hv,k0a,Nat.div_div_eq_div_mul,Nat.mul_comm (2^s),←Nat.div_div_eq_div_mul,hd,X1x a (k+j),X1x a (k+j+1),y1n _ _ _ s hs]
   show _+4294967296^j*((_+_*4294967296)/2^s % 4294967296)=_
   rw [Nat.mul_comm (a.getD (k+j+1) 0).toNat]
theorem Y1q (m n:Nat) (st:Q0e) (hm:(Q0d m).length≤1000000000000) (hn:n≤100000000000000):PCalls Tryz.prog 210 [.sl .no (encD (Q0d m)),.sc (.int .i64 n)] st (fun r st'=>r= .tup [.sl .no (encD (Q0d (m/2^n))),.sc (.bool (decide (m % 2^n≠0)))]∧st'=st):=by
 refine Q0b none Tryz.func210 rfl fun E=>Q0a ?_
 have hlm:=k0e m
 have hmz:(Q0d m).length=0↔m=0:=by rw [List.length_eq_zero_iff,digitsOf_nil]
 have hvm:=Q0y m
 generalize Q0d m=a at*
 have eq:IntKind.i64.wrap ((n:Int).tdiv 32)=((n/32:Nat):Int):=by
  rw [show(32:Int)=((32:Nat):Int) from rfl,G0t,Q0n _ (by omega)]
 have er:(n:Int).tmod 32=((n % 32:Nat):Int):=by
  rw [show(32:Int)=((32:Nat):Int) from rfl,G0s]
 have hnk:n=32*(n/32)+n % 32:=by omega
 generalize n/32=k at*
 generalize hs:n % 32=s at*
 have hs':s<32:=by omega
 simp -dsimp only [go_sem,eq,er]
 refine ck (fun h=> ?_) (fun h=> ?_)
 · have hge:a.length≤k:=by have:=of_decide_eq_true h;omega
   simp -dsimp only [go_sem]
   have hlt:m<2^n:=by
    refine Nat.lt_of_lt_of_le hlm ?_
    rw [Y1w];exact Nat.pow_le_pow_right (by decide) (by omega)
   rw [Nat.div_eq_of_lt hlt,Nat.mod_eq_of_lt hlt,Z0j,V1s]
   have:decide ((a.length:Int)>0)=decide (m≠0):=decide_eq_decide.2 (by omega)
   rw [this]
 · have hlt:k<a.length:=by have:=of_decide_eq_false h;omega
   simp -dsimp only [go_sem,eq,er]
   refine Q0f [true,true,false,false,false,false,true,true] 0 0 (fun r s'=> ∃i,r=k-i∧i≤k∧s'=⟨[.sl .no (encD a),.sc (.int .i64 n),.junk,.junk,.junk,.junk,.sc (.bool (decide (valD (a.take i)≠0))),.sc (.int .i64 i)]++List.replicate 70 .junk,[],[],st⟩) k ?_ ?_
   · simp -dsimp only [go_sem]
     exact⟨0,by omega,by omega,rfl⟩
   · rintro r s' ⟨i,rfl,hi,rfl⟩
     simp -dsimp only [go_sem,eq,er]
     refine ck (fun h=> ?_) (fun h=> ?_)
     · have hik:i<k:=by have:=of_decide_eq_true h;omega
       have g1:=J0a a i (by omega)
       have x4:IntKind.i64.wrap ((i:Int)+1)=((i+1:Nat):Int):=by
        rw [show((i:Int)+1)=((i+1:Nat):Int) from rfl,Q0n _ (by omega)]
       have hst:=K0e a i (by omega)
       have hp:0<4294967296^i:=Nat.pow_pos (by decide)
       simp -dsimp only [go_sem]
       refine gkF (fun h=> ?_) (fun h=> ?_)
       · have h0:valD (a.take i)=0:=by simpa using h
         simp -dsimp only [go_sem,h,g1,x4]
         refine⟨by omega,k-(i+1),by omega,i+1,rfl,by omega,?_⟩
         have:(((a.getD i 0).toNat:Int) !=0)=decide (valD (a.take (i+1))≠0):=by
          rw [hst,h0]
          by_cases hd:(a.getD i 0).toNat=0
          · rw [hd];simp
          · have:4294967296^i*(a.getD i 0).toNat≠0:=Nat.mul_ne_zero (by omega) hd
            rw [decide_eq_true (by omega:0+4294967296^i*(a.getD i 0).toNat≠0)]
            exact bne_iff_ne.2 (by omega)
         rw [this]
       · have h0:valD (a.take i)≠0:=by simpa using h
         simp -dsimp only [go_sem,h,g1,x4]
         refine⟨k-(i+1),by omega,i+1,rfl,by omega,?_⟩
         rw [decide_eq_true (by rw [hst];omega:valD (a.take (i+1))≠0)]
     · have hge:i=k:=by have:=of_decide_eq_false h;omega
       subst hge
       have g1:=J0a a i hlt
       have x5:decide (0≤(s:Int))=true:=decide_eq_true (by omega)
       have haw:=UInt32.toNat_lt (a.getD i 0)
       have x6:=Y2j (a.getD i 0).toNat s haw hs'
       have hl:=V2u a i s hlt hs'
       simp -dsimp only [go_sem]
       refine Q0a ?_
       simp -dsimp only [go_sem,eq,er]
       refine Q0p Z0g 47 (.step 0 [] (.step 1 [] (.step 2 [] (.step 3 [] (.step 4 [] (.step 5 [] (.step 6 [] (.step 7 [] (.step 8 [] (.step 9 [] (.step 10 [] (.step 11 [] (.step 12 [] (.step 13 [] (.step 14 [] (.done)))))))))))))))) (by decide+kernel) (by simp) ?_
       simp -dsimp only [go_sem]
       have hz:valD (a.take i)=0→(((((a.getD i 0).toNat % 2^s:Nat):Int) !=0))=decide (m % 2^n≠0):=fun h0=>by
        rw [←hvm,hnk,←hl,h0]
        by_cases hd:(a.getD i 0).toNat % 2^s=0
        · rw [hd];rfl
        · rw [decide_eq_true hd];exact bne_iff_ne.2 (by omega)
       have hz2:valD (a.take i)≠0→true=decide (m % 2^n≠0):=fun h0=>by rw [←hvm,hnk,←hl,decide_eq_true h0];rfl
       refine gkF (fun h=> ?x) (fun h=> ?y)
       case' y=>
        have hb:=hz2 (by simpa using h)
        have hb':(true=true↔m % 2^n≠0):=⟨fun _=>of_decide_eq_true hb.symm,fun _=>rfl⟩
        simp -dsimp only [go_sem,h,eq,er]
       case' x=>
        have hb:=hz (by simpa using h)
        have hb':(decide (m % 2^n≠0)=true↔m % 2^n≠0):=decide_eq_true_iff
        simp -dsimp only [go_sem,h,g1,er,eq,x5,x6,hb]
        refine⟨by omega,?_⟩
       all_goals
        clear hz hz2 hb h
        refine Z0l 8 1 ?_
        simp -dsimp only [go_sem]
        refine Q0f [true,true,false,false,false,false,true,false,true,true] 0 1 (fun r s'=> ∃lost j o,(lost=true↔m % 2^n≠0)∧r=a.length-(i+j)∧i+j≤a.length∧o.length=j∧valD o=valD (a.drop i)/2^s % 4294967296^j∧
         s'=⟨[.sl .no (encD a),.sc (.int .i64 n),.junk,.junk,.junk,.junk,.sc (.bool lost),.junk,.sl (.own 0) (encD o),.sc (.int .i64 ((i+j:Nat):Int))]++List.replicate 68 .junk,[],[(o.length,1)],st⟩) (a.length-i) ?_ ?_
        · simp -dsimp only [go_sem]
          exact⟨_,0,[],hb',rfl,by omega,rfl,by simp [U0g,Nat.mod_one],rfl⟩
        · rintro r s' ⟨lost,j,o,hlost,rfl,hj,ho,hv,rfl⟩
          simp -dsimp only [go_sem]
          refine ck (fun h=> ?_) (fun h=> ?_)
          · have hlt':i+j<a.length:=by have:=of_decide_eq_true h;omega
            obtain⟨d1,d2,d3⟩:=V2t a o i s j hs' hlt' ho hv
            have g1:=J0a a (i+j) hlt'
            have ga:=UInt32.toNat_lt (a.getD (i+j) 0)
            generalize hx:(a.getD (i+j) 0).toNat+(a.getD (i+j+1) 0).toNat*4294967296=x at*
            have y1:IntKind.u64.wrap ((a.getD (i+j) 0).toNat:Int)=((a.getD (i+j) 0).toNat:Int):=J0g _ (by omega)
            have y2:IntKind.i64.wrap (((i+j:Nat):Int)+1)=((i+j+1:Nat):Int):=by
             rw [show(((i+j:Nat):Int)+1)=((i+j+1:Nat):Int) from rfl,Q0n _ (by omega)]
            have y3:IntKind.u32.wrap (bAnd .u64 (bShr .u64 (x:Int) (s:Int)) 4294967295)=((UInt32.ofNat (x/2^s % 4294967296)).toNat:Int):=by
             have:x/2^s≤x:=Nat.div_le_self _ _
             rw [K0z x s (by omega),z0p _ (by omega),J0h,X0r _ (Nat.mod_lt _ (by decide)),Nat.mod_mod]
            simp -dsimp only [go_sem]
            refine Q0p Z0g 78 (.step 0 [] (.step 1 [] (.step 2 [] (.step 3 [] (.step 4 [] (.step 5 [] (.step 6 [] (.step 7 [] (.step 8 [3] (.step 9 [] (.step 10 [] (.step 11 [] (.done))))))))))))) (by decide+kernel) (by simp) ?_
            simp -dsimp only [go_sem,g1,y1,y2]
            refine⟨by omega,?_⟩
            refine(q0h a (i+j+1) st).mono ?_
            rintro r st ⟨rfl,rfl⟩
            simp -dsimp only [go_sem,g1,y1,y2,y3,d2,er,x5]
            exact⟨by omega,a.length-(i+(j+1)),by omega,lost,j+1,_,hlost,rfl,by omega,by simp [ho],d3,by simp [ho];rfl⟩
          · have hge:i+j=a.length:=by have:=of_decide_eq_false h;omega
            simp -dsimp only [go_sem]
            refine Q0a ?_
            simp -dsimp only [go_sem]
            refine(X1z o st (by omega)).mono ?_
            rintro r st ⟨rfl,rfl⟩
            simp -dsimp only [go_sem]
            have e:valD o=m/2^n:=by
             have hb:=v0e (a.drop i)
             rw [List.length_drop,show a.length-i=j from by omega] at hb
             have hle:valD (a.drop i)/2^s≤valD (a.drop i):=Nat.div_le_self _ _
             rw [hv,Nat.mod_eq_of_lt (by omega),←w0v a i (by omega),hvm,Nat.div_div_eq_div_mul,Y1w,←Nat.pow_add,←hnk]
            have hb2:lost=decide (m % 2^n≠0):=Bool.eq_iff_iff.2 (hlost.trans decide_eq_true_iff.symm)
            rw [←J0x o,e,hb2]
end Go.Pv
end
section
/-The document's Zeros,Odd. -/
set_option maxRecDepth 100000
namespace Go.Pv
open Go.Proofs
theorem Y2i (n:Nat) (h:n<4294967296):bAnd .u32 (n:Int) 1=((n % 2:Nat):Int):=by
 rw [show(1:Int)=((1:Nat):Int) from rfl,k1g n 1 h (by decide),Nat.and_one_is_mod]
theorem Q2f (m:Nat) (st:Q0e) (hm:(Q0d m).length≤1000000000000):PCalls Tryz.prog 196 [.sl .no (encD (Q0d m))] st (fun r st'=>r= .sc (.int .i64 (tz m))∧st'=st):=by
 refine Q0b none Tryz.func196 rfl fun E=>Q0a ?_
 have hvm:=Q0y m
 generalize Q0d m=a at*
 simp -dsimp only [go_sem]
 refine Q0f [true,false,false,true,true] 0 0 (fun r s'=> ∃i,r=a.length-i∧i≤a.length∧valD (a.take i)=0∧s'=⟨[.sl .no (encD a),.junk,.junk,.sc (.int .i64 ((32*i:Nat):Int)),.sc (.int .i64 i)]++List.replicate 26 .junk,[],[],st⟩) a.length ?_ ?_
 · simp -dsimp only [go_sem]
   exact⟨0,rfl,by omega,rfl,rfl⟩
 · rintro r s' ⟨i,rfl,hi,hz,rfl⟩
   simp -dsimp only [go_sem]
   refine ck (fun h=> ?_) (fun h=> ?_)
   · have hlt:i<a.length:=by have:=of_decide_eq_true h;omega
     have g1:=J0a a i hlt
     have ga:=UInt32.toNat_lt (a.getD i 0)
     have e1:IntKind.i64.wrap (((32*i:Nat):Int)+32)=((32*(i+1):Nat):Int):=by
      rw [show(((32*i:Nat):Int)+32)=((32*(i+1):Nat):Int) from by omega,Q0n _ (by omega)]
     have e2:IntKind.i64.wrap ((i:Int)+1)=((i+1:Nat):Int):=by
      rw [show((i:Int)+1)=((i+1:Nat):Int) from rfl,Q0n _ (by omega)]
     have hst:=K0e a i hlt
     simp -dsimp only [go_sem,g1]
     refine⟨by omega,ck (fun h=> ?_) (fun h=> ?_)⟩
     · have h0:=U0m (b:=0) h
       simp -dsimp only [go_sem,e1,e2]
       refine Q0a ?_
       simp -dsimp only [go_sem,e1,e2]
       exact⟨a.length-(i+1),by omega,i+1,rfl,by omega,by rw [hst,hz,h0];rfl,rfl⟩
     · have h0:=H0z (b:=0) h
       simp -dsimp only [go_sem,g1]
       refine⟨by omega,?_⟩
       refine Q0f [false,false,false,true,false,true] 0 0 (fun r s'=> ∃t,r≠0∧t<32∧(a.getD i 0).toNat=2^t*r∧s'=⟨[.junk,.junk,.junk,.sc (.int .i64 ((32*i+t:Nat):Int)),.junk,.sc (.int .u32 r)]++List.replicate 25 .junk,[],[],st⟩) (a.getD i 0).toNat ?_ ?_
       · simp -dsimp only [go_sem]
         exact⟨0,h0,by omega,by simp,rfl⟩
       · rintro r s' ⟨t,hr,ht,hat,rfl⟩
         have hrle:r≤(a.getD i 0).toNat:=by rw [hat];exact Nat.le_mul_of_pos_left _ (Nat.pow_pos (by decide))
         have z1:=Y2i r (by omega)
         have z2:bShr .u32 (r:Int) 1=((r/2:Nat):Int):=k1e r 1 (by decide)
         simp -dsimp only [go_sem,z1,z2]
         refine ck (fun h=> ?_) (fun h=> ?_)
         · have hev:=U0m (b:=0) h
           have ht2:t+1<32:=by
            apply Nat.lt_of_not_le;intro hle
            have h31:2^31≤2^t:=Nat.pow_le_pow_right (by decide) (by omega)
            have:2^31*2≤2^t*r:=Nat.mul_le_mul h31 (by omega)
            omega
           have e3:IntKind.i64.wrap (((32*i+t:Nat):Int)+1)=((32*i+(t+1):Nat):Int):=by
            rw [show(((32*i+t:Nat):Int)+1)=((32*i+(t+1):Nat):Int) from by omega,Q0n _ (by omega)]
           simp -dsimp only [go_sem,z1,z2,e3]
           refine⟨r/2,by omega,t+1,by omega,ht2,?_,rfl⟩
           rw [hat,Nat.pow_succ,Nat.mul_assoc]
           congr 1;omega
         · have hodd:=H0z (b:=0) h
           simp -dsimp only [go_sem]
           refine Q0a ?_
           simp -dsimp only [go_sem]
           have e4:tz m=32*i+t:=by
            have:m=2^(32*i+t)*(r+2*(2^(31-t)*valD (a.drop (i+1)))):=by
             rw [←hvm,W0d a i (by omega),hz,Nat.zero_add,j0h a i hlt,hat,Nat.pow_add,←Y1w,Nat.mul_assoc]
             congr 1
             rw [Nat.mul_add]
             congr 1
             have:(4294967296:Nat)=2^t*(2*2^(31-t)):=by
              rw [←Nat.pow_succ',←Nat.pow_add,show t+(31-t).succ=32 from by omega]
             rw [this];simp only [Nat.mul_assoc]
            rw [this];exact W1n _ _ (by omega)
           rw [e4]
   · have hge:i=a.length:=by have:=of_decide_eq_false h;omega
     simp -dsimp only [go_sem]
     refine Q0a ?_
     simp -dsimp only [go_sem]
     rw [←hvm,←List.take_length (l:=a),←hge,hz,H1h];rfl
theorem q1l (neg:Bool) (m:Nat) (e:Int) (st:Q0e) (hm:Q0g m≤10000000000000) (he1: -1000000000000000≤e) (he2:e≤1000000000000000):PCalls Tryz.prog 141 [.sc (.bool neg),.sl .no (encD (Q0d m)),.sc (.int .i64 e)] st (fun r st'=>r= .agg (encV (oddV neg m e))∧st'=st):=by
 refine Q0b none Tryz.func141 rfl fun E=>Q0a ?_
 have hl:=Z0y m
 have ht:=H0o m
 simp -dsimp only [go_sem]
 refine ck (fun h=> ?_) (fun h=> ?_)
 · have h0:m=0:=digitsOf_nil.1 (List.length_eq_zero_iff.1 (U0m (b:=0) h))
   subst h0
   simp -dsimp only [go_sem]
   simp [oddV,Z0j,V1s]
 · have h0:m≠0:=fun e=>H0z (b:=0) h (by rw [e,Z0j];rfl)
   simp -dsimp only [go_sem]
   refine(Q2f m st (by omega)).mono ?_
   rintro r st ⟨rfl,rfl⟩
   simp -dsimp only [go_sem]
   refine(Y1q m (tz m) st (by omega) (by omega)).mono ?_
   rintro r st ⟨rfl,rfl⟩
   have w1:IntKind.i64.wrap (e+(tz m:Int))=e+(tz m:Int):=Q0k _ (by omega) (by omega)
   simp -dsimp only [go_sem,w1]
   rw [oddV,if_neg h0]
end Go.Pv
end
