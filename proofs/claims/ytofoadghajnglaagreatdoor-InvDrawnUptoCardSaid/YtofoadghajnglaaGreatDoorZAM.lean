/- Parts of the walk: N27. -/
import Derived.Test.YtofoadghajnglaaGreatDoorZM
import Derived.Test.YtofoadghajnglaaGreatDoorZAL
set_option linter.unusedVariables false
set_option linter.unusedSimpArgs false
section
/-Small numbers,intervals,boxes out of the deck,once more:how small they are. -/
set_option maxRecDepth 100000
namespace Go.Pv
open Go.Proofs
theorem k1h (l:List UInt64) (i k:Nat) (st:Q0f) (h:atD st k l i) (hi:i≤1000000000000):PCalls Tryz.prog 60 [.gp k 0] st (fun r st'=> ∃x,smN x∧r= .agg (encN x)∧st'=st.set k (dk l (i+1))):=by
 refine Q0b none Tryz.func60 rfl fun E=>Q0a ?_
 simp -dsimp only [go_sem]
 refine(X1f l i k st h hi).mono ?_
 rintro r st ⟨rfl,rfl⟩
 have hv:=(l.getD i 0).toNat_lt
 obtain⟨v,hve⟩: ∃v,v=(l.getD i 0).toNat:=⟨_,rfl⟩
 rw [←hve] at hv
 have s1:bAnd .u64 (bShr .u64 (v:Int) 1) 63=((UInt64.ofNat (v/2&&&63)).toNat:Int):=by
  rw [show(1:Int)=((1:Nat):Int) from rfl,V0p _ _ (by omega),show(63:Int)=((63:Nat):Int) from rfl,v0z _ _ (by omega) (by omega),Z0o _ (Nat.lt_of_le_of_lt Nat.and_le_right (by omega))]
 have s2:IntKind.i64.wrap (IntKind.i64.wrap ((bShr .u64 (v:Int) 7).tmod 9)-6)=((v/128 % 9:Nat):Int)-6:=by
  rw [show(7:Int)=((7:Nat):Int) from rfl,V0p _ _ (by omega),show(9:Int)=((9:Nat):Int) from rfl,U0t,Q0m _ (by omega),Q0r _ (by omega) (by omega)]
 simp -dsimp only [go_sem,←hve,s1,s2]
 refine(G1u _ [UInt64.ofNat (v/2&&&63)] _ _ (by simp) (by omega) (by omega)).mono ?_
 rintro r st' ⟨rfl,rfl⟩
 simp -dsimp only [go_sem]
 refine⟨_,U2s ?_ (by omega) (by omega),rfl⟩
 have e:valW [UInt64.ofNat (v/2&&&63)]=v/2&&&63:=by
  show(UInt64.ofNat (v/2&&&63)).toNat+18446744073709551616*0=_
  rw [Z0o _ (Nat.lt_of_le_of_lt Nat.and_le_right (by omega))]
  omega
 rw [e,bitlen_le_iff]
 exact Nat.lt_of_le_of_lt Nat.and_le_right (by decide)
end Go.Pv
end
