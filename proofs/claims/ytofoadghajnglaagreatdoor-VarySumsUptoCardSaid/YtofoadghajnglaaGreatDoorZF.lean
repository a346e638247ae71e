/- Parts of the walk: F1, F2, F3, F4, F5, F6, F7, F8, F9. -/
import Derived.Test.YtofoadghajnglaaGreatDoorZE
set_option linter.unusedVariables false
set_option linter.unusedSimpArgs false
section
/-Words:nat.cut,nat.Right;right numbers. -/
set_option maxRecDepth 100000
namespace Go.Pv
open Go.Proofs
theorem W0t (l:List UInt64) (st:Q0e) (hl:l.length≤9223372036854775807):PCalls Tryz.prog 240 [.sl .no (encW l)] st (fun r st'=>r= .sl .no (encW (cutW l))∧st'=st):=by
 refine Q0b none Tryz.func240 rfl fun E=>Q0a ?_
 simp -dsimp only [go_sem]
 refine Q0f [true,false,false,true] 0 0 (fun n s=>n≤l.length∧(∀j,n≤j→j<l.length→l.getD j 0=0)∧s=⟨[.sl .no (encW l),.junk,.junk,.sc (.int .i64 n)]++List.replicate 17 .junk,[],[],st⟩) l.length ?_ ?_
 · simp -dsimp only [go_sem]
   exact fun j h1 h2=>by omega
 · rintro n s ⟨hn,hz,rfl⟩
   have out:n=0∨l.getD (n-1) 0≠0→(PV.sl Tag.no (encW (l.take n))=PV.sl .no (encW (cutW l))):=fun h=>by rw [z1i l n hn hz h]
   rcases Nat.eq_zero_or_pos n with rfl | hp
   · have hd:decide (((0:Nat):Int)>0)=false:=by simp
     simp -dsimp only [go_sem,hd]
     refine Q0a ?_
     simp -dsimp only [go_sem]
     exact⟨by omega,out (.inl rfl)⟩
   · have hd:decide ((n:Int)>0)=true:=decide_eq_true (by omega)
     have e1:IntKind.i64.wrap ((n:Int)-1)=((n-1:Nat):Int):=by rw [Q0k _ (by omega) (by omega)];omega
     have e2:=Q0z l (n-1) (by omega)
     simp -dsimp only [go_sem,hd,e1,e2]
     refine⟨by omega,ck (fun h=> ?_) (fun h=> ?_)⟩
     · simp -dsimp only [go_sem,e1]
       refine⟨n-1,by omega,by omega,fun j h1 h2=> ?_,rfl⟩
       by_cases hj:j=n-1
       · subst hj
         have h':((l.getD (n-1) 0).toNat:Int)=0:=by simpa using h
         exact UInt64.toNat.inj (by have:(0:UInt64).toNat=0:=rfl;omega)
       · exact hz j (by omega) h2
     · simp -dsimp only [go_sem]
       refine Q0a ?_
       simp -dsimp only [go_sem]
       refine⟨by omega,out (.inr fun e=> ?_)⟩
       rw [e] at h
       cases h
--nat.Right
theorem w1o (l:List UInt64) (st:Q0e) (hl:l.length≤9223372036854775807):PCalls Tryz.prog 181 [.sl .no (encW l)] st (fun r st'=>r= .sc (.bool (decide ((cutW l).length=l.length)))∧st'=st):=by
 refine Q0b none Tryz.func181 rfl fun E=>Q0a ?_
 simp -dsimp only [go_sem]
 refine(W0t l st hl).mono ?_
 rintro r st ⟨rfl,rfl⟩
 simp -dsimp only [go_sem]
 exact congrArg (fun b=>PV.sc (.bool b)) (by
  by_cases h:(cutW l).length=l.length
  · rw [decide_eq_true h,h];simp
  · rw [decide_eq_false h];simp;omega)
theorem K1m (n:Nat) (h:n<18446744073709551616):bAnd .u64 (n:Int) 1=((n % 2:Nat):Int):=by
 unfold bAnd
 have e:(BitVec.ofInt IntKind.u64.bits (n:Int)&&&BitVec.ofInt IntKind.u64.bits 1).toNat=n % 2:=by
  have e1:BitVec.ofInt IntKind.u64.bits (n:Int)=BitVec.ofNat 64 n:=by simp [IntKind.bits]
  have e2:BitVec.ofInt IntKind.u64.bits 1=BitVec.ofNat 64 1:=rfl
  rw [e1,e2]
  show(BitVec.ofNat 64 n&&&BitVec.ofNat 64 1).toNat=n % 2
  rw [BitVec.toNat_and,BitVec.toNat_ofNat,BitVec.toNat_ofNat,Nat.mod_eq_of_lt (by omega:n<2^64)]
  exact Nat.and_one_is_mod n
 rw [e]
 exact J0g _ (by omega)
theorem V0h (x:Nm) (st:Q0e) (hl:x.w.length≤9223372036854775807):PCalls Tryz.prog 115 [.agg (encN x)] st (fun r st'=>r= .sc (.bool (Q0r x))∧st'=st):=by
 refine Q0b none Tryz.func115 rfl fun E=>Q0a ?_
 simp -dsimp only [go_sem]
 have hlen:(((x.w.length:Nat):Int)==0)=decide (x.w= []):=by
  cases hw:x.w<;>simp
  omega
 refine ck (fun h=> ?_) (fun h=> ?_)
 · have hw:x.w= []:=by rw [hlen] at h;exact of_decide_eq_true h
   simp -dsimp only [go_sem,h]
   refine gkT (fun h1=> ?_) (fun h1=> ?_)
   · simp -dsimp only [go_sem,h,h1]
     simp [Q0r,hw,h1]
   · simp -dsimp only [go_sem,h,h1]
     simp [Q0r,hw,h1]
 · have hw:x.w≠ []:=by rw [hlen] at h;exact of_decide_eq_false h
   simp -dsimp only [go_sem,h]
   refine(w1o x.w st hl).mono ?_
   rintro r st ⟨rfl,rfl⟩
   simp -dsimp only [go_sem,h]
   have e0:=Q0z x.w 0 (by cases hx:x.w with | nil=>exact absurd hx hw | cons=>simp)
   have e1:=K1m (x.w.getD 0 0).toNat (x.w.getD 0 0).toNat_lt
   have hpos:0<x.w.length:=List.length_pos_iff.2 hw
   repeat' (first
    | (refine gkF (fun h=> ?_) (fun h=> ?_)<;>simp -dsimp only [go_sem,h,e0,e1])
    | (refine gkT (fun h=> ?_) (fun h=> ?_)<;>simp -dsimp only [go_sem,h,e0,e1])
    | (refine ck (fun h=> ?_) (fun h=> ?_)<;>simp -dsimp only [go_sem,h,e0,e1])
    | refine And.intro (by omega) ?_)
   all_goals simp_all [Q0r]
   all_goals omega
end Go.Pv
end
section
/-The document's right numbers. -/
set_option maxRecDepth 100000
namespace Go.Pv
open Go.Proofs
theorem z0d (x:Nm) (st:Q0e) (hl:x.w.length≤9223372036854775807):PCalls Tryz.prog 75 [.agg (encN x)] st (fun r st'=>r= .sc (.bool (Q0r x))∧st'=st):=by
 refine Q0b none Tryz.func75 rfl fun E=>Q0a ?_
 simp -dsimp only [go_sem]
 have hlen:(((x.w.length:Nat):Int)==0)=decide (x.w= []):=by
  cases hw:x.w<;>simp
  omega
 refine ck (fun h=> ?_) (fun h=> ?_)
 · have hw:x.w= []:=by rw [hlen] at h;exact of_decide_eq_true h
   simp -dsimp only [go_sem,h]
   refine gkT (fun h1=> ?_) (fun h1=> ?_)
   · simp -dsimp only [go_sem,h,h1]
     simp [Q0r,hw,h1]
   · simp -dsimp only [go_sem,h,h1]
     simp [Q0r,hw,h1]
 · have hw:x.w≠ []:=by rw [hlen] at h;exact of_decide_eq_false h
   have hpos:0<x.w.length:=List.length_pos_iff.2 hw
   have e0:=Q0z x.w 0 hpos
   have e1:=K1m (x.w.getD 0 0).toNat (x.w.getD 0 0).toNat_lt
   have e2:IntKind.i64.wrap ((x.w.length:Int)-1)=((x.w.length-1:Nat):Int):=by rw [Q0k _ (by omega) (by omega)];omega
   have e3:=Q0z x.w (x.w.length-1) (by omega)
   have hc:=Z1q x.w hw
   simp -dsimp only [go_sem,h]
   repeat' (first
    | (refine gkF (fun h=> ?_) (fun h=> ?_)<;>simp -dsimp only [go_sem,h,e0,e1,e2,e3])
    | (refine gkT (fun h=> ?_) (fun h=> ?_)<;>simp -dsimp only [go_sem,h,e0,e1,e2,e3])
    | (refine ck (fun h=> ?_) (fun h=> ?_)<;>simp -dsimp only [go_sem,h,e0,e1,e2,e3])
    | refine And.intro (by omega) ?_)
   all_goals rw [Q0r,if_neg hw]
   all_goals clear e0 e1 e2 e3 hlen
   all_goals generalize x.w.getD (x.w.length-1) 0=z at*
   all_goals have hz:z=0↔z.toNat=0:=⟨fun h=>by rw [h];rfl,fun h=>UInt64.toNat.inj h⟩
   all_goals simp_all
   all_goals omega
end Go.Pv
end
section
/-The document's Same. -/
set_option maxRecDepth 100000
namespace Go.Pv
open Go.Proofs
theorem Y1o (x y:Nm) (st:Q0e) (hl:x.w.length≤9223372036854775806) (hl2:y.w.length≤9223372036854775806):PCalls Tryz.prog 155 [.agg (encN x),.agg (encN y)] st (fun r st'=>r= .sc (.bool (decide (x=y)))∧st'=st):=by
 refine Q0b none Tryz.func155 rfl fun E=>Q0a ?_
 simp -dsimp only [go_sem]
 repeat' (first
  | (refine gkF (fun h=> ?_) (fun h=> ?_)<;>simp -dsimp only [go_sem,h])
  | (refine gkT (fun h=> ?_) (fun h=> ?_)<;>simp -dsimp only [go_sem,h])
  | (refine ck (fun h=> ?_) (fun h=> ?_)<;>simp -dsimp only [go_sem,h])
  | refine And.intro (by omega) ?_)
 case refine_1.refine_1.refine_2=>
  have hneg:= ‹(!x.neg==y.neg)=false›
  have hexp:= ‹(x.exp !=y.exp)=false›
  have hn:= ‹((x.w.length:Int) !=(y.w.length:Int))=false›
  have hneg':x.neg=y.neg:=by cases hx:x.neg<;>cases hy:y.neg<;>simp [hx,hy] at hneg⊢
  have hexp':x.exp=y.exp:=by simpa using hexp
  have hn':x.w.length=y.w.length:=by have:(x.w.length:Int)=y.w.length:=by simpa using hn
                                     omega
  refine Q0f [false,false,true,true,false,true] 2 0 (fun n s=> ∃i,n=x.w.length-i∧i≤x.w.length∧(∀j,j<i→x.w.getD j 0=y.w.getD j 0)∧s=⟨[.junk,.junk,.lp 0 0,.lp 1 0,.junk,.sc (.int .i64 i)]++List.replicate 39 .junk,[encN x,encN y],[],st⟩) x.w.length ?_ ?_
  · simp -dsimp only [go_sem]
    exact⟨0,by omega,by omega,fun j hj=>by omega,rfl⟩
  · rintro n s ⟨i,rfl,hi,hj,rfl⟩
    simp -dsimp only [go_sem]
    refine ck (fun h=> ?_) (fun h=> ?_)
    · have hlt:i<x.w.length:=by have:=of_decide_eq_true h;omega
      have e1:=Q0z x.w i hlt
      have e2:=Q0z y.w i (by omega)
      have e3:IntKind.i64.wrap ((i:Int)+1)=((i+1:Nat):Int):=by rw [Q0k _ (by omega) (by omega)];omega
      simp -dsimp only [go_sem,h]
      refine Q0p Z0g 45 (.step 0 [] (.step 1 [] (.step 2 [] (.step 3 [] (.step 4 [] (.step 5 [] (.step 6 [] (.step 7 [] (.step 8 [] (.step 9 [] (.step 10 [] (.done)))))))))))) (by decide+kernel) (by simp) ?_
      simp -dsimp only [go_sem,h,e1,e2]
      refine⟨by omega,by omega,ck (fun h2=> ?_) (fun h2=> ?_)⟩
      · simp -dsimp only [go_sem,h2]
        rw [decide_eq_false (fun e=>by subst e;simp at h2)]
      · simp -dsimp only [go_sem,h2,e3]
        refine⟨x.w.length-(i+1),by omega,i+1,rfl,by omega,fun j hj'=> ?_,rfl⟩
        by_cases hji:j=i
        · subst hji;exact UInt64.toNat.inj (by have:((x.w.getD j 0).toNat:Int)=(y.w.getD j 0).toNat:=by simpa using h2
                                               omega)
        · exact hj j (by omega)
    · have hge:i=x.w.length:=by have:=of_decide_eq_false h;omega
      simp -dsimp only [go_sem,h]
      refine Q0a ?_
      simp -dsimp only [go_sem,h]
      rw [decide_eq_true]
      have hw:x.w=y.w:=List.ext_getElem hn' fun j h1 h2=>by
       have:=hj j (by omega)
       simpa [List.getD_eq_getElem?_getD,h1,h2] using this
      cases x;cases y;simp_all
 all_goals rw [decide_eq_false (fun e=>by subst e;simp at*)]
end Go.Pv
end
section
/-cmp.Compare. -/
set_option maxRecDepth 100000
namespace Go.Pv
open Go.Proofs
theorem J1s (a:Int) (st:Q0e):PCalls Tryz.prog 241 [.sc (.int .i64 a)] st (fun r st'=>r= .sc (.bool false)∧st'=st):=by
 refine Q0b none Tryz.func241 rfl fun E=>Q0a ?_
 simp -dsimp only [go_sem]
theorem J1r (a:Int) (st:Q0e):PCalls Tryz.prog 263 [.sc (.int .i64 a)] st (fun r st'=>r= .sc (.bool false)∧st'=st):=by
 refine Q0b none Tryz.func263 rfl fun E=>Q0a ?_
 simp -dsimp only [go_sem]
theorem J1q (a:Int) (st:Q0e):PCalls Tryz.prog 274 [.sc (.int .u64 a)] st (fun r st'=>r= .sc (.bool false)∧st'=st):=by
 refine Q0b none Tryz.func274 rfl fun E=>Q0a ?_
 simp -dsimp only [go_sem]
theorem y0o (a b:Int) (st:Q0e):PCalls Tryz.prog 183 [.sc (.int .i64 a),.sc (.int .i64 b)] st (fun r st'=>r= .sc (.int .i64 (cmpI a b))∧st'=st):=by
 refine Q0b none Tryz.func183 rfl fun E=>Q0a ?_
 simp -dsimp only [go_sem]
 refine(J1s a st).mono ?_
 rintro r st ⟨rfl,rfl⟩
 simp -dsimp only [go_sem]
 refine(J1s b st).mono ?_
 rintro r st ⟨rfl,rfl⟩
 simp -dsimp only [go_sem]
 repeat' (refine ck (fun h=> ?_) (fun h=> ?_)<;>simp -dsimp only [go_sem,h])
 all_goals simp_all [cmpI]
 rw [if_neg (by omega),if_neg (by omega)]
theorem x2m (a b:Int) (st:Q0e):PCalls Tryz.prog 242 [.sc (.int .i64 a),.sc (.int .i64 b)] st (fun r st'=>r= .sc (.int .i64 (cmpI a b))∧st'=st):=by
 refine Q0b none Tryz.func242 rfl fun E=>Q0a ?_
 simp -dsimp only [go_sem]
 refine(J1r a st).mono ?_
 rintro r st ⟨rfl,rfl⟩
 simp -dsimp only [go_sem]
 refine(J1r b st).mono ?_
 rintro r st ⟨rfl,rfl⟩
 simp -dsimp only [go_sem]
 repeat' (refine ck (fun h=> ?_) (fun h=> ?_)<;>simp -dsimp only [go_sem,h])
 all_goals simp_all [cmpI]
 rw [if_neg (by omega),if_neg (by omega)]
theorem x2l (a b:Int) (st:Q0e):PCalls Tryz.prog 264 [.sc (.int .u64 a),.sc (.int .u64 b)] st (fun r st'=>r= .sc (.int .i64 (cmpI a b))∧st'=st):=by
 refine Q0b none Tryz.func264 rfl fun E=>Q0a ?_
 simp -dsimp only [go_sem]
 refine(J1q a st).mono ?_
 rintro r st ⟨rfl,rfl⟩
 simp -dsimp only [go_sem]
 refine(J1q b st).mono ?_
 rintro r st ⟨rfl,rfl⟩
 simp -dsimp only [go_sem]
 repeat' (refine ck (fun h=> ?_) (fun h=> ?_)<;>simp -dsimp only [go_sem,h])
 all_goals simp_all [cmpI]
 rw [if_neg (by omega),if_neg (by omega)]
end Go.Pv
end
section
/-bits.Len64,nat.Bits. -/
set_option maxRecDepth 100000
namespace Go.Pv
open Go.Proofs
theorem U0o (T:Array UInt8) (hs:T.size=256) (hT: ∀n:Fin 256,(T.getD n 0).toNat=Q0g n) (v m k:Nat) (c d:Int) (hm:v/2^k=m) (h:m<256) (hk:k=0∨m≠0) (hk2:k≤56) (hc:c=(m:Int)) (hd:d=(k:Int)):
 (IntKind.u8.wrap c).toNat<T.size∧PV.sc (.int .i64 (IntKind.i64.wrap (d+IntKind.i64.wrap ((T.getD (IntKind.u8.wrap c).toNat 0).toNat:Int))))=PV.sc (.int .i64 (Q0g v)):=by
 subst hc hd
 have e1:(IntKind.u8.wrap (m:Int)).toNat=m:=by rw [v2m,Nat.mod_eq_of_lt h];simp
 rw [e1,hs]
 refine⟨h,?_⟩
 have hT':=hT ⟨m,h⟩
 simp only at hT'
 rw [hT']
 have hb:Q0g v=Q0g m+k:=by
  rcases hk with rfl | hk
  · simp at hm;simp [hm]
  · rw [←hm];exact q0o v k (by rw [hm];exact hk)
 have hle: ∀n:Fin 256,Q0g n≤8:=by decide+kernel
 have hm8:=hle ⟨m,h⟩
 simp only at hm8
 have w1:IntKind.i64.wrap ((Q0g m:Nat):Int)=(Q0g m:Int):=Q0k _ (by omega) (by omega)
 have w2:IntKind.i64.wrap ((k:Int)+(Q0g m:Int))=(k:Int)+(Q0g m:Int):=Q0k _ (by omega) (by omega)
 rw [w1,w2,hb]
 congr 2;omega
theorem K2c (v:Nat) (hv:v<18446744073709551616) (st:Q0e):PCalls Tryz.prog 248 [.sc (.int .u64 v)] st (fun r st'=>r= .sc (.int .i64 (Q0g v))∧st'=st):=by
 refine Q0b none Tryz.func248 rfl fun E=>Q0a ?_
 have s32:bShr .u64 (v:Int) 32=((v/2^32:Nat):Int):=k0w .u64 v 32 (by decide)
 have s16: ∀v:Nat,bShr .u64 (v:Int) 16=((v/2^16:Nat):Int):=fun v=>k0w .u64 v 16 (by decide)
 have s8: ∀v:Nat,bShr .u64 (v:Int) 8=((v/2^8:Nat):Int):=fun v=>k0w .u64 v 8 (by decide)
 simp -dsimp only [go_sem]
 refine ck (fun h1=> ?_) (fun h1=> ?_)<;>simp -dsimp only [go_sem,h1,s32]<;>
  refine ck (fun h2=> ?_) (fun h2=> ?_)<;>simp -dsimp only [go_sem,h1,s32,s16]<;>
  refine ck (fun h3=> ?_) (fun h3=> ?_)<;>simp -dsimp only [go_sem,h1,s32,s16,s8]
 all_goals simp only [decide_eq_true_eq,decide_eq_false_iff_not] at h1 h2 h3
 · exact U0o _ (by decide+kernel) (by decide+kernel) v _ 56 _ _ rfl (by omega) (.inr (by omega)) (by decide) (by rw [Nat.div_div_eq_div_mul,Nat.div_div_eq_div_mul]) (by decide)
 · exact U0o _ (by decide+kernel) (by decide+kernel) v _ 48 _ _ rfl (by omega) (.inr (by omega)) (by decide) (by rw [Nat.div_div_eq_div_mul]) (by decide)
 · exact U0o _ (by decide+kernel) (by decide+kernel) v _ 40 _ _ rfl (by omega) (.inr (by omega)) (by decide) (by rw [Nat.div_div_eq_div_mul]) (by decide)
 · exact U0o _ (by decide+kernel) (by decide+kernel) v _ 32 _ _ rfl (by omega) (.inr (by omega)) (by decide) rfl (by decide)
 · exact U0o _ (by decide+kernel) (by decide+kernel) v _ 24 _ _ rfl (by omega) (.inr (by omega)) (by decide) (by rw [Nat.div_div_eq_div_mul]) (by decide)
 · exact U0o _ (by decide+kernel) (by decide+kernel) v _ 16 _ _ rfl (by omega) (.inr (by omega)) (by decide) rfl (by decide)
 · exact U0o _ (by decide+kernel) (by decide+kernel) v _ 8 _ _ rfl (by omega) (.inr (by omega)) (by decide) rfl (by decide)
 · exact U0o _ (by decide+kernel) (by decide+kernel) v _ 0 _ _ rfl (by omega) (.inl rfl) (by decide) (by simp) (by decide)
end Go.Pv
end
section
/-nat.Bits,exact.Sign. -/
set_option maxRecDepth 100000
namespace Go.Pv
open Go.Proofs
theorem Y0r (l:List UInt64) (st:Q0e) (hl:l.length≤100000000000000000):PCalls Tryz.prog 200 [.sl .no (encW l)] st (fun r st'=>r= .sc (.int .i64 (X0h l))∧st'=st):=by
 refine Q0b none Tryz.func200 rfl fun E=>Q0a ?_
 simp -dsimp only [go_sem]
 refine(W0t l st (by omega)).mono ?_
 rintro r st ⟨rfl,rfl⟩
 simp -dsimp only [go_sem]
 have hle:=K0v l
 refine ck (fun h=> ?_) (fun h=> ?_)
 · simp -dsimp only [go_sem,h]
   have:cutW l= []:=by
    cases hc:cutW l with
    | nil=>rfl
    | cons a t=>rw [hc] at h;simp at h;omega
   rw [show X0h l=0 from by rw [X0h,(G1h l).1 this];rfl];rfl
 · have hne:cutW l≠ []:=fun e=>by rw [e] at h;simp at h
   have hpos:0<(cutW l).length:=List.length_pos_iff.2 hne
   have e2:IntKind.i64.wrap (((cutW l).length:Int)-1)=(((cutW l).length-1:Nat):Int):=by rw [Q0k _ (by omega) (by omega)];omega
   have e3:=Q0z (cutW l) ((cutW l).length-1) (by omega)
   simp -dsimp only [go_sem,h,e2,e3]
   refine And.intro (by omega) ?_
   refine(K2c _ (UInt64.toNat_lt _) st).mono ?_
   rintro r st ⟨rfl,rfl⟩
   simp -dsimp only [go_sem,h,e2,e3]
   have hb:=G1v ((cutW l).getD ((cutW l).length-1) 0).toNat (UInt64.toNat_lt _)
   rw [Q0k (64*_) (by omega) (by omega),Q0k _ (by omega) (by omega),W2x l hne]
   congr 2
end Go.Pv
end
section
/-nat.Trim,nat.Cmp,nat.Up. -/
set_option maxRecDepth 100000
namespace Go.Pv
open Go.Proofs
theorem x2n (l:List UInt64) (st:Q0e) (hl:l.length≤10000000000000):PCalls Tryz.prog 270 [.sl .no (encW l)] st (fun r st'=>r= .sl (.fresh 1) (encW l)∧st'=st):=by
 refine Q0b (some 1) Tryz.func270 rfl fun E=>Q0a ?_
 simp -dsimp only [go_sem]
 intro b hb
 cases b
 · simp -dsimp only [go_sem]
   omega
 · have:l= []:=by have:=hb rfl;simpa [encW] using this
   subst this
   simp -dsimp only [go_sem]
theorem H1k (l:List UInt64) (st:Q0e) (hl:l.length≤10000000000000):PCalls Tryz.prog 254 [.sl .no (encW l)] st (fun r st'=>r= .sl (.fresh 1) (encW (cutW l))∧st'=st):=by
 refine Q0b none Tryz.func254 rfl fun E=>Q0a ?_
 simp -dsimp only [go_sem]
 refine(W0t l st (by omega)).mono ?_
 rintro r st ⟨rfl,rfl⟩
 simp -dsimp only [go_sem]
 refine(x2n _ st (Nat.le_trans (K0v l) hl)).mono ?_
 rintro r st ⟨rfl,rfl⟩
 simp -dsimp only [go_sem]
theorem y0l (a b:List UInt64) (st:Q0e) (ha:a.length≤10000000000000) (hb:b.length≤10000000000000):PCalls Tryz.prog 243 [.sl .no (encW a),.sl .no (encW b)] st (fun r st'=>r= .sc (.int .i64 (cmpW (valW a) (valW b)))∧st'=st):=by
 refine Q0b none Tryz.func243 rfl fun E=>Q0a ?_
 simp -dsimp only [go_sem]
 refine(W0t a st (by omega)).mono ?_
 rintro r st ⟨rfl,rfl⟩
 simp -dsimp only [go_sem]
 refine(W0t b st (by omega)).mono ?_
 rintro r st ⟨rfl,rfl⟩
 simp -dsimp only [go_sem]
 have la:=K0v a
 have lb:=K0v b
 have ea:cutW (cutW a)=cutW a:=by rw [←Q0v a,W0p]
 have eb:cutW (cutW b)=cutW b:=by rw [←Q0v b,W0p]
 rw [←K0q a,←K0q b]
 generalize cutW a=a at*
 generalize cutW b=b at*
 refine ck (fun h=> ?_) (fun h=> ?_)
 · have hne:a.length≠b.length:=w0o h
   simp -dsimp only [go_sem]
   refine(y0o _ _ st).mono ?_
   rintro r st ⟨rfl,rfl⟩
   simp -dsimp only [go_sem]
   rw [z1k ea eb hne]
 · have hlen:a.length=b.length:=z0x h
   have e1:IntKind.i64.wrap ((a.length:Int)-1)=(a.length:Int)-1:=Q0k _ (by omega) (by omega)
   simp -dsimp only [go_sem,e1]
   refine Q0f [true,true,false,false,false,true] 0 0 (fun n s=>n≤a.length∧(∀j,n≤j→j<a.length→a.getD j 0=b.getD j 0)∧s=⟨[.sl .no (encW a),.sl .no (encW b),.junk,.junk,.junk,.sc (.int .i64 ((n:Int)-1))]++List.replicate 39 .junk,[],[],st⟩) a.length ?_ ?_
   · simp -dsimp only [go_sem]
     exact fun j h1 h2=>by omega
   · rintro n s ⟨hn,hz,rfl⟩
     simp -dsimp only [go_sem]
     refine ck (fun h=> ?_) (fun h=> ?_)
     · have hp:0<n:=by have:=of_decide_eq_true h;omega
       have e0:((n:Int)-1)=((n-1:Nat):Int):=by omega
       have g1:=Q0z a (n-1) (by omega)
       have g2:=Q0z b (n-1) (by omega)
       have e3:IntKind.i64.wrap (((n-1:Nat):Int)-1)=((n-1:Nat):Int)-1:=Q0k _ (by omega) (by omega)
       simp -dsimp only [go_sem]
       rw [e0]
       refine Q0p Z0g 45 (.step 0 [] (.step 1 [] (.step 2 [] (.step 3 [] (.step 4 [] (.step 5 [] (.step 6 [] (.step 7 [] (.step 8 [] (.done)))))))))) (by decide+kernel) (by simp) ?_
       simp -dsimp only [go_sem,g1,g2]
       refine⟨by omega,by omega,ck (fun h2=> ?_) (fun h2=> ?_)⟩
       · have hne:a.getD (n-1) 0≠b.getD (n-1) 0:=fun e=>by rw [e] at h2;simp at h2
         simp -dsimp only [go_sem]
         refine Q0p Z0g 45 (.step 0 [] (.step 1 [] (.step 2 [] (.step 3 [] (.step 4 [] (.step 5 [] (.step 6 [] (.step 7 [] (.step 8 [] (.step 9 [] (.done))))))))))) (by decide+kernel) (by simp) ?_
         simp -dsimp only [go_sem,g1,g2]
         refine⟨by omega,by omega,?_⟩
         refine(x2l _ _ st).mono ?_
         rintro r st ⟨rfl,rfl⟩
         simp -dsimp only [go_sem]
         rw [Z3u hlen (n-1) (by omega) (fun j h1 h2=>hz j (by omega) h2) hne]
       · have heq:a.getD (n-1) 0=b.getD (n-1) 0:=UInt64.toNat.inj (z0x h2)
         simp -dsimp only [go_sem,e3]
         refine⟨n-1,by omega,by omega,fun j h1 h2=> ?_,rfl⟩
         by_cases hj:j=n-1
         · subst hj;exact heq
         · exact hz j (by omega) h2
     · have h0:n=0:=by have:=of_decide_eq_false h;omega
       simp -dsimp only [go_sem]
       refine Q0a ?_
       simp -dsimp only [go_sem]
       rw [G0k 0 hlen (fun j hj=>hz j (by omega) hj),cmpW,Z1t rfl]
end Go.Pv
end
section
/-nat.Up. -/
set_option maxRecDepth 100000
namespace Go.Pv
open Go.Proofs
theorem v2y (a o:List UInt64) (k s i:Nat) (hs:s<64) (hi:i<a.length) (ho:o.length=a.length+k+1)
 (hv:valW o=valW (a.take i)*2^(64*k+s)) (hc:(o.getD (i+k) 0).toNat<2^s) (hz: ∀j,i+k<j→o.getD j 0=0):
 let w:=(a.getD i 0).toNat
 let lo:=UInt64.ofNat ((o.getD (i+k) 0).toNat+w*2^s % 18446744073709551616)
 let hi':=UInt64.ofNat (w/2^(64-s))
 bOr .u64 ((o.getD (i+k) 0).toNat:Int) (bShl .u64 (w:Int) (s:Int))=(lo.toNat:Int)∧bShr .u64 (w:Int) ((64-s:Nat):Int)=(hi'.toNat:Int)∧
 valW ((o.set (i+k) lo).set (i+k+1) hi')=valW (a.take (i+1))*2^(64*k+s)∧hi'.toNat<2^s:=by
 intro w lo hi'
 have hw:w<18446744073709551616:=UInt64.toNat_lt _
 have hlt:=Nat.mod_lt (w*2^s) (show 18446744073709551616>0 by decide)
 have hor:=J1k (o.getD (i+k) 0).toNat (w*2^s % 18446744073709551616) s hc (x0o w s (by omega))
 have hsum:(o.getD (i+k) 0).toNat+w*2^s % 18446744073709551616<18446744073709551616:=by
  rw [←hor];exact Nat.or_lt_two_pow (n:=64) (UInt64.toNat_lt _) hlt
 have elo:lo.toNat=(o.getD (i+k) 0).toNat+w*2^s % 18446744073709551616:=Z0p _ hsum
 have hsr:=j2v w s hw (by omega)
 have h2:2^s≤2^64:=Nat.pow_le_pow_right (by decide) (by omega)
 have ehi:hi'.toNat=w/2^(64-s):=Z0p _ (by omega)
 refine⟨?_,?_,?_,by rw [ehi];exact hsr⟩
 · rw [U0r w s (by omega),X1a _ _ (UInt64.toNat_lt _) hlt,hor,elo]
 · rw [K0z w (64-s) (by omega),ehi]
 · have e1:=q0s o (i+k) lo (by omega)
   have e2:=q0s (o.set (i+k) lo) (i+k+1) hi' (by simp;omega)
   rw [J0t,if_neg (by omega),hz (i+k+1) (by omega)] at e2
   rw [X0e a i hi,Nat.add_mul,←hv]
   have e3:18446744073709551616^i*w*2^(64*k+s)=18446744073709551616^(i+k)*(w*2^s):=by
    rw [Nat.pow_add 18446744073709551616 i k,j0x k,Nat.pow_add];simp only [Nat.mul_assoc,Nat.mul_left_comm,Nat.mul_comm]
   show _=_+18446744073709551616^i*w*2^(64*k+s)
   rw [e3,W1w w s hw (by omega),Nat.mul_add,←Nat.mul_assoc,show 18446744073709551616^(i+k)*18446744073709551616=18446744073709551616^(i+k+1) from(Nat.pow_succ ..).symm]
   rw [elo,Nat.mul_add] at e1
   rw [ehi] at e2
   have z0:(0:UInt64).toNat=0:=rfl
   rw [z0,Nat.mul_zero] at e2
   omega
theorem up_c (a:List UInt64) (n:Nat) (st:Q0e) (ha:a.length≤1000000000000) (hn:n≤1000000000000):PCalls Tryz.prog 206 [.sl .no (encW a),.sc (.int .i64 n)] st (fun r st'=>r= .sl .no (encW (Q0q (valW a*2^n)))∧st'=st):=by
 refine Q0b none Tryz.func206 rfl fun E=>Q0a ?_
 simp -dsimp only [go_sem]
 refine(W0t a st (by omega)).mono ?_
 rintro r st ⟨rfl,rfl⟩
 simp -dsimp only [go_sem]
 have la:=K0v a
 rw [←K0q a]
 generalize cutW a=a at*
 refine ck (fun h=> ?_) (fun h=> ?_)
 · have h0:a= []:=List.length_eq_zero_iff.1 (U0m (b:=0) h)
   subst h0
   simp -dsimp only [go_sem]
   simp [K0y,X0o,z2w]
 · have h0:0<a.length:=by have:=H0z (b:=0) h;omega
   have eq:IntKind.i64.wrap ((n:Int).tdiv 64)=((n/64:Nat):Int):=by
    rw [show(64:Int)=((64:Nat):Int) from rfl,G0t,Q0n _ (by omega)]
   have er:(n:Int).tmod 64=((n % 64:Nat):Int):=by
    rw [show(64:Int)=((64:Nat):Int) from rfl,G0s]
   have hnk:n=64*(n/64)+n % 64:=by omega
   generalize n/64=k at*
   generalize hs:n % 64=s at*
   have hs':s<64:=by omega
   have e1:IntKind.i64.wrap ((a.length:Int)+(k:Int))=((a.length+k:Nat):Int):=by
    rw [←Int.natCast_add,Q0n _ (by omega)]
   have e2:IntKind.i64.wrap (((a.length+k:Nat):Int)+1)=((a.length+k+1:Nat):Int):=by
    rw [show(((a.length+k:Nat):Int)+1)=((a.length+k+1:Nat):Int) from rfl,Q0n _ (by omega)]
   obtain⟨m0,hm0⟩: ∃m0,m0=a.length+k+1:=⟨_,rfl⟩
   rw [←hm0] at e2
   simp -dsimp only [go_sem,eq,er,e1,e2]
   refine⟨⟨by omega,by omega,by omega⟩,?_⟩
   refine Q0f [false,false,false,false,false,true,true,true,false,false,false,false,false,false,false,false,false,false,false,false,false,false,false,false,false,true,true,true] 1 0
    (fun m s'=> ∃i o,m=a.length-i∧i≤a.length∧o.length=m0∧valW o=valW (a.take i)*2^(64*k+s)∧(o.getD (i+k) 0).toNat<2^s∧(∀j,i+k<j→o.getD j 0=0)∧
     s'=⟨[.junk,.junk,.junk,.junk,.junk,.sc (.int .i64 k),.sc (.int .i64 s),.ms false 0 0 m0,.junk,.junk,.junk,.junk,.junk,.junk,.junk,.junk,.junk,.junk,.junk,.junk,.junk,.junk,.junk,.junk,.junk,.sl .no (encW a),.sc (.int .i64 a.length),.sc (.int .i64 i)]++List.replicate 28 .junk,[encW o],[],st⟩) a.length ?_ ?_
   · simp -dsimp only [go_sem]
     refine⟨0,List.replicate m0 0,by omega,by omega,by simp,by simp [X1u,K0y],?_,fun j hj=>K0g _ _ _,rfl⟩
     rw [K0g];exact Nat.pow_pos (by decide)
   · rintro m s' ⟨i,o,rfl,hi,ho,hv,hc,hz,rfl⟩
     simp -dsimp only [go_sem]
     refine ck (fun h=> ?_) (fun h=> ?_)
     · have hlt:i<a.length:=by have:=of_decide_eq_true h;omega
       have g1:=Q0z a i hlt
       have g2:=Q0z o (i+k) (by omega)
       obtain⟨s1,s2,s3,s4⟩:=v2y a o k s i hs' hlt (by omega) hv hc hz
       have x1:IntKind.i64.wrap ((i:Int)+(k:Int))=((i+k:Nat):Int):=by
        rw [←Int.natCast_add,Q0n _ (by omega)]
       have x2:IntKind.i64.wrap (((i+k:Nat):Int)+1)=((i+k+1:Nat):Int):=by
        rw [show(((i+k:Nat):Int)+1)=((i+k+1:Nat):Int) from rfl,Q0n _ (by omega)]
       have x3:IntKind.i64.wrap (64-(s:Int))=((64-s:Nat):Int):=by
        rw [show 64-(s:Int)=((64-s:Nat):Int) from by omega,Q0n _ (by omega)]
       have x4:IntKind.i64.wrap ((i:Int)+1)=((i+1:Nat):Int):=by
        rw [show((i:Int)+1)=((i+1:Nat):Int) from rfl,Q0n _ (by omega)]
       have x5:decide (0≤(s:Int))=true:=decide_eq_true (by omega)
       have x6:decide (0≤((64-s:Nat):Int))=true:=decide_eq_true (by omega)
       simp -dsimp only [go_sem,g1]
       refine⟨by omega,?_⟩
       refine Q0p Z0g 43 (.step 0 [] (.step 1 [] (.step 2 [] (.step 3 [] (.step 4 [] (.step 5 [] (.step 6 [] (.step 7 [] (.step 8 [] (.step 9 [] (.step 10 [] (.step 11 [] (.done))))))))))))) (by decide+kernel) (by simp) ?_
       have o1:=V0r o (i+k) (UInt64.ofNat ((o.getD (i+k) 0).toNat+(a.getD i 0).toNat*2^s % 18446744073709551616)) (show i+k<o.length by omega)
       have o2:=V0r (o.set (i+k) (UInt64.ofNat ((o.getD (i+k) 0).toNat+(a.getD i 0).toNat*2^s % 18446744073709551616))) (i+k+1) (UInt64.ofNat ((a.getD i 0).toNat/2^(64-s))) (by simp;omega)
       simp -dsimp only [go_sem,x1,x2,x3,x4,g2,s1,s2,x5,x6,o1,o2]
       refine⟨⟨by omega,by omega⟩,by omega,⟨by omega,by omega⟩,⟨by omega,by omega⟩,⟨by omega,by omega⟩,⟨by simp;omega,by simp;omega⟩,a.length-(i+1),by omega,i+1,_,rfl,by omega,by simp [ho],s3,?_,fun j hj=> ?_,rfl⟩
       · rw [show i+1+k=i+k+1 from by omega,J0t,if_pos ⟨rfl,by simp;omega⟩];exact s4
       · rw [J0t,if_neg (by omega),J0t,if_neg (by omega),hz j (by omega)]
     · have hge:i=a.length:=by have:=of_decide_eq_false h;omega
       subst hge
       have ht:o.take m0=o:=List.take_of_length_le (by omega)
       have hle:m0≤o.length:=by omega
       simp -dsimp only [go_sem]
       refine Z0u 0 ?_ ?_
       · simp -dsimp only [go_sem]
       · refine Q0a ?_
         simp -dsimp only [go_sem,ht,hle]
         refine(W0t o st (by omega)).mono ?_
         rintro r st ⟨rfl,rfl⟩
         simp -dsimp only [go_sem]
         rw [←Q0v o,hv,List.take_length,hnk]
end Go.Pv
end
