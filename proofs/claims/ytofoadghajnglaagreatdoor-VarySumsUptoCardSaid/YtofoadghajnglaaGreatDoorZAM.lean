/- Parts of the walk: N27. -/
import Derived.Test.YtofoadghajnglaaGreatDoorZM
import Derived.Test.YtofoadghajnglaaGreatDoorZAL
set_option linter.unusedVariables false
set_option linter.unusedSimpArgs false
section
/-Small numbers,intervals,boxes out of the deck,once more:how small they are. -/
set_option maxRecDepth 100000
namespace Go.Pv
open Go.Proofs
theorem K1x (l:List UInt64) (i k:Nat) (st:Q0e) (h:atD st k l i) (hi:i≤1000000000000):PCalls Tryz.prog 60 [.gp k 0] st (fun r st'=> ∃x,smN x∧r= .agg (encN x)∧st'=st.set k (dk l (i+1))):=by
 refine Q0b none Tryz.func60 rfl fun E=>Q0a ?_
 simp -dsimp only [go_sem]
 refine(k2h l i k st h hi).mono ?_
 rintro r st ⟨rfl,rfl⟩
 have hv:=(l.getD i 0).toNat_lt
 obtain⟨v,hve⟩: ∃v,v=(l.getD i 0).toNat:=⟨_,rfl⟩
 rw [←hve] at hv
 have s1:bAnd .u64 (bShr .u64 (v:Int) 1) 63=((UInt64.ofNat (v/2&&&63)).toNat:Int):=by
  rw [show(1:Int)=((1:Nat):Int) from rfl,K0z _ _ (by omega),show(63:Int)=((63:Nat):Int) from rfl,k0x _ _ (by omega) (by omega),Z0p _ (Nat.lt_of_le_of_lt Nat.and_le_right (by omega))]
 have s2:IntKind.i64.wrap (IntKind.i64.wrap ((bShr .u64 (v:Int) 7).tmod 9)-6)=((v/128 % 9:Nat):Int)-6:=by
  rw [show(7:Int)=((7:Nat):Int) from rfl,K0z _ _ (by omega),show(9:Int)=((9:Nat):Int) from rfl,G0s,Q0n _ (by omega),Q0k _ (by omega) (by omega)]
 simp -dsimp only [go_sem,←hve,s1,s2]
 refine(v3a _ [UInt64.ofNat (v/2&&&63)] _ _ (by simp) (by omega) (by omega)).mono ?_
 rintro r st' ⟨rfl,rfl⟩
 simp -dsimp only [go_sem]
 refine⟨_,U2r ?_ (by omega) (by omega),rfl⟩
 have e:valW [UInt64.ofNat (v/2&&&63)]=v/2&&&63:=by
  show(UInt64.ofNat (v/2&&&63)).toNat+18446744073709551616*0=_
  rw [Z0p _ (Nat.lt_of_le_of_lt Nat.and_le_right (by omega))]
  omega
 rw [e,bitlen_le_iff]
 exact Nat.lt_of_le_of_lt Nat.and_le_right (by decide)
theorem J1b (l:List UInt64) (i k:Nat) (st:Q0e) (h:atD st k l i) (hi:i≤900000000000):PCalls Tryz.prog 42 [.gp k 0] st (fun r st'=> ∃x j,smI x∧i≤j∧j≤i+3∧r= .agg (encI x)∧st'=st.set k (dk l j)):=by
 refine Q0b none Tryz.func42 rfl fun E=>Q0a ?_
 simp -dsimp only [go_sem]
 refine(K3m l i k 3 st h (by omega) (by omega) (by omega)).mono ?_
 rintro r st' ⟨rfl,rfl⟩
 have h1:=h.set (i+1)
 have h2:=h.set (i+2)
 simp -dsimp only [go_sem]
 refine ck (fun hy=> ?_) (fun hy=> ?_)
 · simp -dsimp only [go_sem]
   refine(K1x l (i+1) k _ h1 (by omega)).mono ?_
   rintro r st' ⟨x,hx,rfl,rfl⟩
   simp -dsimp only [go_sem,J1c]
   refine(y2a x _).mono ?_
   rintro r st' ⟨rfl,rfl⟩
   simp -dsimp only [go_sem]
   exact⟨⟨x,x⟩,i+2,Z2a hx,by omega,by omega,rfl,rfl⟩
 · simp -dsimp only [go_sem]
   refine(K1x l (i+1) k _ h1 (by omega)).mono ?_
   rintro r st' ⟨x,hx,rfl,rfl⟩
   simp -dsimp only [go_sem,J1c]
   refine(K1x l (i+2) k _ h2 (by omega)).mono ?_
   rintro r st' ⟨y,hy,rfl,rfl⟩
   simp -dsimp only [go_sem,J1c]
   refine(Y2a x y _ (V0m hx.1) (V0m hy.1)).mono ?_
   rintro r st' ⟨rfl,rfl⟩
   simp -dsimp only [go_sem]
   exact⟨betw x y,i+3,U2s hx hy,by omega,by omega,rfl,rfl⟩
theorem H1p (l:List UInt64) (i k n:Nat) (st:Q0e) (h:atD st k l i) (hi:i≤800000000000) (hn:n≤1000000):PCalls Tryz.prog 41 [.gp k 0,.sc (.int .i64 n)] st (fun r st'=> ∃b j,b.length=n∧(∀m,m<b.length→smI (b.getD m default))∧i≤j∧j≤i+3*n∧r= .sl .no (Q0s b)∧st'=st.set k (dk l j)):=by
 refine Q0b none Tryz.func41 rfl fun E=>Q0a ?_
 simp -dsimp only [go_sem]
 refine Z0l 5 6 ?_
 simp -dsimp only [go_sem]
 refine Q0f [true,true,false,false,false,true,true] 0 1 (fun m s=> ∃b j,m=n-b.length∧b.length≤n∧(∀m,m<b.length→smI (b.getD m default))∧i≤j∧j≤i+3*b.length∧
  s=⟨[.gp k 0,.sc (.int .i64 n),.junk,.junk,.junk,.sl (.own 0) (Q0s b),.sc (.int .i64 b.length)]++List.replicate 11 .junk,[],[(b.length,6)],st.set k (dk l j)⟩) n ?_ ?_
 · simp -dsimp only [go_sem]
   refine⟨[],i,by simp,by simp,fun m hm=>by simp at hm,by omega,by omega,?_⟩
   rw [h.same];rfl
 · rintro m s ⟨b,j,rfl,hb,hr,hj,hj2,rfl⟩
   simp -dsimp only [go_sem]
   refine ck (fun h1=> ?_) (fun h1=> ?_)
   · have hlt:b.length<n:=by have:=of_decide_eq_true h1;omega
     have x1:IntKind.i64.wrap ((b.length:Int)+1)=((b.length+1:Nat):Int):=by
      rw [show((b.length:Int)+1)=((b.length+1:Nat):Int) from rfl,Q0n _ (by omega)]
     simp -dsimp only [go_sem]
     refine(J1b l j k _ (h.set j) (by omega)).mono ?_
     rintro r st' ⟨x,j',hx,hj3,hj4,rfl,rfl⟩
     simp -dsimp only [go_sem,J1c,x1]
     refine⟨by omega,n-(b.length+1),by omega,b++ [x],j',by simp,by simp;omega,fun m hm=> ?_,by omega,by simp;omega,by simp [Q0s,encI]⟩
     by_cases hm2:m<b.length
     · rw [V3k _ _ _ _ hm2];exact hr m hm2
     · have e:m=b.length:=by simp at hm;omega
       rw [e,j2u];exact hx
   · have hge:b.length=n:=by have:=of_decide_eq_false h1;omega
     simp -dsimp only [go_sem]
     refine Y0o [false,false,false,false,false,true] (Q0a ?_)
     simp -dsimp only [go_sem]
     exact⟨b,j,hge,hr,hj,by omega,rfl,rfl⟩
end Go.Pv
end
