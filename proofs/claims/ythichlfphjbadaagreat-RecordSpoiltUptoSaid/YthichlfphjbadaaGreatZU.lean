/- Parts of the walk: D1, D2, D3, C15. -/
import Derived.Test.YthichlfphjbadaaGreatZR
import Derived.Test.YthichlfphjbadaaGreatZF
import Derived.Test.YthichlfphjbadaaGreatZH
set_option linter.unusedVariables false
set_option linter.unusedSimpArgs false
section
/-The document's reader:look,fail,Uint,Int,Left. -/
set_option maxRecDepth 100000
namespace Go.Pv
open Go.Proofs
theorem y1m {l b:List UInt8} (h:l<:+b) (i:Nat):b.getD (b.length-l.length+i) 0=l.getD i 0:=by
 obtain⟨a,rfl⟩:=h
 rw [List.length_append,Nat.add_sub_cancel,List.getD_eq_getElem?_getD,List.getElem?_append_right (by omega),Nat.add_sub_cancel_left,←List.getD_eq_getElem?_getD]
def rf (b l:List UInt8) (e:Int):List PV:= [.sl .no (encB b),.sc (.int .i64 (b.length-l.length:Nat)),.sc (.int .i64 e)]
def atF (st:Q0g) (k:Nat) (b l:List UInt8) (e:Int):Prop:=st.getD k []=rf b l e
theorem atF.lt {st:Q0g} {k:Nat} {b l:List UInt8} {e:Int} (h:atF st k b l e):k<st.length:=by
 refine Nat.lt_of_not_le fun hn=> ?_
 unfold atF at h
 rw [List.getD_eq_getElem?_getD,List.getElem?_eq_none hn] at h
 cases h
theorem atF.set {st:Q0g} {k:Nat} {b l:List UInt8} {e:Int} (h:atF st k b l e) (l':List UInt8) (e':Int):atF (st.set k (rf b l' e')) k b l' e':=by
 unfold atF
 rw [Q0p _ _ _ _ h.lt]
theorem G0n (st:Q0g) (k:Nat) (b b' l l':List UInt8) (e e':Int):(st.set k (rf b l e)).set k (rf b' l' e')=st.set k (rf b' l' e'):=List.set_set ..
theorem atF.same {st:Q0g} {k:Nat} {b l:List UInt8} {e:Int} (h:atF st k b l e):st.set k (rf b l e)=st:=by
 have hlt:=h.lt
 unfold atF at h
 rw [←h,List.getD_eq_getElem?_getD,List.getElem?_eq_getElem hlt,Option.getD_some,List.set_getElem_self]
theorem U0v (l:List UInt8) (e:Int):(Q0k l e).2.1<:+l:=by
 unfold Q0k
 split
 · exact List.suffix_refl _
 · split
   · exact List.drop_suffix _ _
   · exact List.suffix_refl _
theorem z1p (l:List UInt8):Q0k l 0=if (J0h 0 0 l).2.2=0 then((J0h 0 0 l).1,l.drop (J0h 0 0 l).2.1,0) else(0,l,(J0h 0 0 l).2.2):=by
 rw [Q0k,if_neg (by simp)]
set_option maxHeartbeats 1000000 in
theorem q3o (b l:List UInt8) (st:Q0g) (hs:l<:+b) (hl:b.length≤1000000000000):PCalls Tryz.prog 144 [.sl .no (encB b),.sc (.int .i64 (b.length-l.length:Nat))] st
 (fun r st'=>r= .tup [.sc (.int .u64 (Q0k l 0).1),.sc (.int .i64 (b.length-(Q0k l 0).2.1.length:Nat)),.sc (.int .i64 (Q0k l 0).2.2)]∧st'=st):=by
 have hlb:l.length≤b.length:=hs.length_le
 refine Q0b none Tryz.func144 rfl fun E=>Q0a ?_
 simp -dsimp only [go_sem]
 refine Q0e [true,true,false,false,false,false,false,true,true] 0 0
  (fun n s=> ∃i v,n=10-i∧i≤10∧i≤l.length∧v<18446744073709551616∧(i≤9→v<2^(7*i))∧J0h i v (l.drop i)=J0h 0 0 l∧
   s=⟨[.sl .no (encB b),.sc (.int .i64 (b.length-l.length:Nat)),.junk,.junk,.junk,.junk,.junk,.sc (.int .u64 (v:Nat)),.sc (.int .i64 (i:Nat))]++List.replicate 48 .junk,[],[],st⟩) 10 ?_ ?_
 · simp -dsimp only [go_sem]
   exact⟨0,0,by omega,by omega,by omega,by omega,fun _=>by omega,rfl,rfl⟩
 · rintro n s ⟨i,v,rfl,hi,hil,hv,hv2,hk,rfl⟩
   have bad: ∀x:Int,x≠0→J0h 0 0 l=(0,0,x)→Q0k l 0=(0,l,x):=fun x hx e=>by rw [z1p,e,if_neg hx]
   simp -dsimp only [go_sem]
   refine ck (fun h1=> ?_) (fun h1=> ?_)
   · have hlt:i<10:=by have:=of_decide_eq_true h1;omega
     have x0:IntKind.i64.wrap (((b.length-l.length:Nat):Int)+(i:Int))=((b.length-l.length+i:Nat):Int):=by rw [←Int.natCast_add,Q0i _ (by omega)]
     simp -dsimp only [go_sem,x0]
     refine ck (fun h2=> ?_) (fun h2=> ?_)
     · have hge:l.length≤i:=by have:=of_decide_eq_true h2;omega
       rw [List.drop_eq_nil_of_le hge,J0h,if_neg (by omega)] at hk
       simp -dsimp only [go_sem]
       rw [bad 10 (by decide) hk.symm];rfl
     · have hi2:i<l.length:=by have:=of_decide_eq_false h2;omega
       have g1:=w0u b (b.length-l.length+i) (by omega)
       rw [y1m hs] at g1
       obtain⟨c,hc⟩: ∃c,c=l.getD i 0:=⟨_,rfl⟩
       rw [U1o l i 0 (by omega),J0h,←hc,if_neg (by omega)] at hk
       rw [←hc] at g1
       have hcl:=c.toNat_lt
       have m2:IntKind.i64.wrap (7*(i:Int))=((7*i:Nat):Int):=by rw [show 7*(i:Int)=((7*i:Nat):Int) from by omega,Q0i _ (by omega)]
       have x1:IntKind.i64.wrap ((i:Int)+1)=((i+1:Nat):Int):=by rw [show((i:Int)+1)=((i+1:Nat):Int) from rfl,Q0i _ (by omega)]
       have x2:IntKind.i64.wrap (((b.length-l.length+i:Nat):Int)+1)=((b.length-l.length+i+1:Nat):Int):=by rw [←Int.natCast_add_one,Q0i _ (by omega)]
       simp -dsimp only [go_sem,g1,x0]
       refine⟨⟨by omega,by omega⟩,?_⟩
       obtain⟨V,hV⟩: ∃V,V=v|||(c.toNat % 128*2^(7*i) % 18446744073709551616):=⟨_,rfl⟩
       have hV2:V<18446744073709551616:=by rw [hV];exact Nat.or_lt_two_pow (n:=64) hv (Nat.mod_lt _ (by decide))
       have s1:bOr .u64 (v:Int) (bShl .u64 (IntKind.u64.wrap (bAnd .u8 (c.toNat:Int) 127)) ((7*i:Nat):Int))=(V:Int):=by
        rw [V1p _ (by omega),Z0m _ (by omega),W0r _ _ (by omega),x0f _ _ hv (Nat.mod_lt _ (by decide)),←hV]
       have hsum:c.toNat % 128*2^(7*i)<18446744073709551616→i≤9→V=v+c.toNat % 128*2^(7*i):=fun h1 h2=>by
        rw [hV,Nat.mod_eq_of_lt h1,w0e v _ (7*i) (hv2 h2) (Nat.mul_mod_left ..)]
       have hp8:i≤8→c.toNat % 128*2^(7*i)<18446744073709551616:=fun h=>by
        have:2^(7*i)≤2^56:=Nat.pow_le_pow_right (by decide) (by omega)
        have:=Nat.mul_le_mul (by omega:c.toNat % 128≤127) this
        omega
       have hp9:c.toNat≤1∨i≤8→c.toNat % 128*2^(7*i)<18446744073709551616:=fun h=>by
        by_cases h8:i≤8
        · exact hp8 h8
        · have:i=9:=by omega
          subst this
          have:=Nat.mul_le_mul_right (2^(7*9)) (by omega:c.toNat % 128≤1)
          omega
       have c1:i=9→((i:Int)==9)=true:=fun e=>by rw [e];rfl
       have c0:i≠9→((i:Int)==9)=false:=fun e=>by simp;omega
       have d1:1<c.toNat→decide ((c.toNat:Int)>1)=true:=fun e=>decide_eq_true (by omega)
       have d0: ¬1<c.toNat→decide ((c.toNat:Int)>1)=false:=fun e=>decide_eq_false (by omega)
       by_cases q:i=9∧1<c.toNat
       · have hb:J0h 0 0 l=(0,0,11):=by
          rw [←hk]
          by_cases hc2:128≤c.toNat
          · rw [if_pos hc2,w0n _ _ _ (by omega)]
          · rw [if_neg hc2,if_pos (.inr q)]
         simp -dsimp only [go_sem,c1 q.1,d1 q.2]
         rw [bad 11 (by decide) hb];rfl
       · have hq:c.toNat≤1∨i≤8:=by omega
         have hsm:=hsum (hp9 hq) (by omega)
         have dd:((i:Int)==9)=true→decide ((c.toNat:Int)>1)=false:=fun h=>d0 (by
          have:i=9:=by have:=beq_iff_eq.1 h;omega
          omega)
         refine gkT (fun q9=>have d:=dd q9; ?_) (fun q9=>have d:=q9; ?_)
         all_goals simp -dsimp only [go_sem,q9,d,s1,m2]
         all_goals
          refine⟨by omega,?_⟩
          refine ck (fun h3=> ?_) (fun h3=> ?_)
          · have hc2:c.toNat<128:=by have:=of_decide_eq_true h3;omega
            have hcm:c.toNat % 128=c.toNat:=Nat.mod_eq_of_lt hc2
            rw [if_neg (by omega)] at hk
            rw [hcm] at hsm
            have ok: ¬(c.toNat=0∧0<i)→Q0k l 0=(V,l.drop (i+1),0):=fun hn=>by
             rw [if_neg (by omega)] at hk
             rw [z1p,←hk,if_pos rfl,hsm]
            have hp:b.length-l.length+i+1=b.length-(l.drop (i+1)).length:=by rw [List.length_drop];omega
            simp -dsimp only [go_sem]
            refine gkT (fun h4=> ?_) (fun h4=> ?_)
            · have hc0:c.toNat=0:=by have:=beq_iff_eq.1 h4;omega
              simp -dsimp only [go_sem,h4]
              refine ck (fun h5=> ?_) (fun h5=> ?_)
              · have hpos:0<i:=by have:=of_decide_eq_true h5;omega
                rw [if_pos (.inl ⟨hc0,hpos⟩)] at hk
                simp -dsimp only [go_sem]
                rw [bad 11 (by decide) hk.symm];rfl
              · have hpos: ¬0<i:=by have:=of_decide_eq_false h5;omega
                simp -dsimp only [go_sem,x0,x2]
                rw [ok (fun h=>hpos h.2),←hp]
            · have hc0:c.toNat≠0:=fun e=>by rw [e] at h4;exact absurd h4 (by decide)
              simp -dsimp only [go_sem,h4,x0,x2]
              rw [ok (fun h=>hc0 h.1),←hp]
          · have hc2:128≤c.toNat:=by have:=of_decide_eq_false h3;omega
            rw [if_pos hc2] at hk
            simp -dsimp only [go_sem,x1]
            refine⟨10-(i+1),by omega,i+1,V,rfl,by omega,by omega,hV2,fun h9=> ?_,by rw [hsm];exact hk,rfl⟩
            rw [hsm]
            have h3:=hv2 (by omega)
            have h4:2^(7*(i+1))=128*2^(7*i):=by rw [show 7*(i+1)=7*i+7 from by omega,Nat.pow_add,Nat.mul_comm]
            have h5:=Nat.mul_le_mul_right (2^(7*i)) (by omega:c.toNat % 128≤127)
            omega
   · have hge:i=10:=by have:=of_decide_eq_false h1;omega
     rw [hge,w0n _ _ _ (by omega)] at hk
     simp -dsimp only [go_sem]
     refine Q0a ?_
     simp -dsimp only [go_sem]
     rw [bad 11 (by decide) hk.symm];rfl
theorem Q1h (b l l':List UInt8) (e x:Int) (k:Nat) (st:Q0g) (h:atF st k b l e):PCalls Tryz.prog 145 [.gp k 0,.sc (.int .i64 x),.sc (.int .i64 (b.length-l'.length:Nat))] st
 (fun r st'=>r= .tup []∧st'=st.set k (if e=0 then rf b l' x else rf b l e)):=by
 have h':=h
 unfold atF rf at h
 refine Q0b none Tryz.func145 rfl fun E=>Q0a ?_
 simp -dsimp only [go_sem,h]
 refine ck (fun h1=> ?_) (fun h1=> ?_)
 · have he:e=0:=by simpa using h1
   have h3: ∀x y z:PV,(st.set k [x,y,z]).getD k []= [x,y,z]:=fun x y z=>Q0p _ _ _ _ h'.lt
   simp -dsimp only [go_sem,h,h3]
   rw [if_pos he];simp [over,rf]
 · have he:e≠0:=by simpa using h1
   simp -dsimp only [go_sem,h]
   rw [if_neg he];exact h'.same.symm
theorem k0s (b l:List UInt8) (e:Int) (k:Nat) (st:Q0g) (h:atF st k b l e) (hs:l<:+b) (hl:b.length≤1000000000000):PCalls Tryz.prog 101 [.gp k 0] st
 (fun r st'=>r= .sc (.int .u64 (Q0k l e).1)∧st'=st.set k (rf b (Q0k l e).2.1 (Q0k l e).2.2)):=by
 have h':=h
 unfold atF rf at h
 refine Q0b none Tryz.func101 rfl fun E=>Q0a ?_
 simp -dsimp only [go_sem,h]
 refine ck (fun h1=> ?_) (fun h1=> ?_)
 · have he:e≠0:=by simpa using h1
   simp -dsimp only [go_sem]
   rw [k0h l e he]
   exact⟨rfl,h'.same.symm⟩
 · have he:e=0:=by simpa using h1
   subst he
   simp -dsimp only [go_sem]
   refine Q0o Z0p 35 (.step 0 [] (.step 1 [] (.step 2 [] (.step 3 [] (.step 4 [] (.step 5 [] (.step 6 [] (.step 7 [] (.step 8 [] (.step 9 [] (.step 10 [] (.step 11 [] (.step 12 [] (.step 13 [] (.step 14 [] (.step 15 [] (.done))))))))))))))))) (by decide+kernel) (by simp) ?_
   simp -dsimp only [go_sem,h]
   refine(q3o b l _ hs hl).mono ?_
   rintro r st' ⟨rfl,rfl⟩
   simp -dsimp only [go_sem]
   refine ck (fun h2=> ?_) (fun h2=> ?_)
   · have he:(Q0k l 0).2.2≠0:=by simpa using h2
     have e2:=v0t l 0 he
     simp -dsimp only [go_sem,h]
     refine⟨by rw [e2];rfl,?_⟩
     rw [show(Q0k l 0).2.1=l from by rw [e2]]
     simp [over,rf]
   · have he:(Q0k l 0).2.2=0:=by simpa using h2
     simp -dsimp only [go_sem,h]
     rw [he];simp [over,rf]
theorem H2p (b l:List UInt8) (e:Int) (k:Nat) (st:Q0g) (h:atF st k b l e) (hs:l<:+b) (hl:b.length≤1000000000000):PCalls Tryz.prog 104 [.gp k 0] st
 (fun r st'=>r= .sc (.int .i64 l.length)∧st'=st):=by
 have hlb:=hs.length_le
 unfold atF rf at h
 refine Q0b none Tryz.func104 rfl fun E=>Q0a ?_
 have x0:IntKind.i64.wrap ((b.length:Int)-((b.length-l.length:Nat):Int))=(l.length:Int):=by rw [Q0q _ (by omega) (by omega)];omega
 simp -dsimp only [go_sem]
 refine Q0o Z0p 13 (.step 0 [] (.step 1 [] (.step 2 [] (.step 3 [] (.step 4 [] (.step 5 [] (.step 6 [] (.step 7 [] (.step 8 [] (.step 9 [] (.step 10 [] (.done)))))))))))) (by decide+kernel) (by simp) ?_
 simp -dsimp only [go_sem,h,x0]
theorem V2z (v:Nat) (h:v<18446744073709551616) (ho:v % 2=1):IntKind.i64.wrap (IntKind.i64.wrap (0-IntKind.i64.wrap ((v/2:Nat):Int))-1)=y0h v:=by
 rw [Q0i _ (by omega),Q0q (0-_) (by omega) (by omega),Q0q _ (by omega) (by omega),y0h,if_neg (by omega)];omega
theorem X2r (v:Nat) (h:v<18446744073709551616) (ho: ¬v % 2=1):IntKind.i64.wrap ((v/2:Nat):Int)=y0h v:=by
 rw [Q0i _ (by omega),y0h,if_pos (by omega)]
theorem z3m (b l:List UInt8) (e:Int) (k:Nat) (st:Q0g) (h:atF st k b l e) (hs:l<:+b) (hl:b.length≤1000000000000):PCalls Tryz.prog 146 [.gp k 0] st
 (fun r st'=>r= .sc (.int .i64 (y0h (Q0k l e).1))∧st'=st.set k (rf b (Q0k l e).2.1 (Q0k l e).2.2)):=by
 refine Q0b none Tryz.func146 rfl fun E=>Q0a ?_
 simp -dsimp only [go_sem]
 refine(k0s b l e k st h hs hl).mono ?_
 rintro r st' ⟨rfl,rfl⟩
 have hlt:=K0j l e
 have s1:bShr .u64 ((Q0k l e).1:Int) 1=(((Q0k l e).1/2:Nat):Int):=W0q .u64 _ 1 (by decide)
 have s2:=q1d (Q0k l e).1 hlt
 have s3:((((Q0k l e).1 % 2:Nat):Int)==1)=decide ((Q0k l e).1 % 2=1):=by
  rw [show(1:Int)=((1:Nat):Int) from rfl,Bool.eq_iff_iff];simp;omega
 simp -dsimp only [go_sem,s2,s3]
 refine ck (fun h2=> ?_) (fun h2=> ?_)
 · simp -dsimp only [go_sem,s1,V2z _ hlt (of_decide_eq_true h2)]
 · simp -dsimp only [go_sem,s1,X2r _ hlt (of_decide_eq_false h2)]
end Go.Pv
end
section
/-The document's reader:Num. -/
set_option maxRecDepth 100000
namespace Go.Pv
open Go.Proofs
theorem X2l (l:List UInt8): ∀n i,i<n→J0k l n/2^(8*i) % 256=(l.getD i 0).toNat:=by
 intro n
 induction n with
 | zero=>intro i hi;omega
 | succ n ih=>
  intro i hi
  have h1:=U0j l n
  have h2:=(l.getD n 0).toNat_lt
  rw [J0k]
  by_cases e:i=n
  · subst e
    rw [Nat.add_mul_div_right _ _ (Nat.two_pow_pos _),Nat.div_eq_of_lt h1];omega
  · have h3:2^(8*n)=2^(8*i)*(256*2^(8*(n-i-1))):=by
     rw [show(256:Nat)=2^8 from rfl,←Nat.pow_add,←Nat.pow_add];congr 1;omega
    rw [h3,show(l.getD n 0).toNat*(2^(8*i)*(256*2^(8*(n-i-1))))=2^(8*i)*((l.getD n 0).toNat*2^(8*(n-i-1))*256) from by
     rw [Nat.mul_left_comm,←Nat.mul_assoc (l.getD n 0).toNat,Nat.mul_right_comm],Nat.add_mul_div_left _ _ (Nat.two_pow_pos _),Nat.add_mul_mod_self_right]
    exact ih i (by omega)
theorem V2s (l:List UInt8) (j:Nat) (h:j<8):
 bOr .u64 (bShl .u64 ((J0k l 8/2^(8*(j+1)):Nat):Int) 8) (IntKind.u64.wrap ((l.getD j 0).toNat:Int))=((J0k l 8/2^(8*j):Nat):Int):=by
 have h1:=U0j l 8
 have h2:=(l.getD j 0).toNat_lt
 have h3:=X2l l 8 j h
 have e:J0k l 8/2^(8*(j+1))=J0k l 8/2^(8*j)/256:=by rw [Nat.div_div_eq_div_mul,show 8*(j+1)=8*j+8 from by omega,Nat.pow_add]
 have hx:J0k l 8/2^(8*j)≤J0k l 8:=Nat.div_le_self _ _
 rw [e]
 generalize J0k l 8/2^(8*j)=x at*
 have hx2:x<18446744073709551616:=by omega
 rw [show(8:Int)=((8:Nat):Int) from rfl,W0r _ _ (by omega),Z0m _ (by omega),x0f _ _ (Nat.mod_lt _ (by decide)) (by omega),Nat.mod_eq_of_lt (by omega),Nat.or_comm,w0e _ _ 8 (by omega) (by omega)]
 omega
theorem Y2e (l:List UInt8):(rp1 l).2.1<:+l:=U0v l 0
theorem Y2c (u:Nat) (l:List UInt8) (e:Int):(rp2 u l e).2.1<:+l:=by
 unfold rp2;split
 · exact U0v l 0
 · exact List.suffix_refl _
theorem Y1f : ∀(n:Nat) (l:List UInt8) (w:List UInt64),(K0o n l w).2.1<:+l
 | 0,l,w=>List.suffix_refl _
 | n+1,l,w=>by
  rw [K0o];split
  · exact List.suffix_refl _
  · exact(Y1f n _ _).trans (List.drop_suffix _ _)
theorem J3j (u:Nat) (l:List UInt8) (e:Int):(rp3 u l e).2.1<:+l:=by
 unfold rp3;split
 · exact Y1f _ _ _
 · exact List.suffix_refl _
theorem G1r (l:List UInt8):(Z0f l).2.1<:+l:=
 (J3j _ _ _).trans ((Y2c _ _ _).trans (Y2e l))
theorem K0p (l:List UInt8) (e:Int):(Q0m l e).2.1<:+l:=by
 unfold Q0m;split
 · exact List.suffix_refl _
 · split
   · exact G1r l
   · exact List.suffix_refl _
theorem q3b {pa:List PV} {L st st':Q0g} {T T':List (Nat×Nat)} (hT:T=T') (hs:st=st'):PFS.mk pa L T st=PFS.mk pa L T' st':=by rw [hT,hs]
theorem q0c (l:List UInt8) (e:Int) (h:(Z0f l).2.2=e) (he:e≠0):Q0m l 0=(default,l,e):=by
 rw [Q0m,if_neg (by simp),h,if_neg he]
set_option maxHeartbeats 4000000 in
theorem j1l (b l:List UInt8) (e:Int) (k:Nat) (st:Q0g) (h:atF st k b l e) (hs:l<:+b) (hl:b.length≤1000000000000):PCalls Tryz.prog 102 [.gp k 0] st
 (fun r st'=>r= .agg (encN (Q0m l e).1)∧st'=st.set k (rf b (Q0m l e).2.1 (Q0m l e).2.2)):=by
 have hlb:=hs.length_le
 have h':=h
 unfold atF rf at h'
 have G: ∀(l:List UInt8) (e:Int),(st.set k (rf b l e)).getD k []= [.sl .no (encB b),.sc (.int .i64 (b.length-l.length:Nat)),.sc (.int .i64 e)]:=fun l e=>h.set l e
 refine Q0b none Tryz.func102 rfl fun E=>Q0h (Q0a ?_)
 simp -dsimp only [go_sem]
 refine Q0h (Q0a ?_)
 simp -dsimp only [go_sem,h']
 refine Q0h (Q0a ?_)
 simp -dsimp only [go_sem]
 refine(k0s b l e k st h hs hl).mono ?_
 rintro r st' ⟨rfl,rfl⟩
 simp -dsimp only [go_sem]
 have g1:=G (Q0k l e).2.1 (Q0k l e).2.2
 by_cases he:(Q0k l e).2.2=0
 rotate_left
 · have t1:((Q0k l e).2.2 !=0)=true:=by simp [he]
   have e1:Q0m l e=(default,l,(Q0k l e).2.2):=by
    by_cases he0:e=0
    · subst he0
      refine q0c l _ ?_ he
      have:rp1 l=(0,l,(Q0k l 0).2.2):=by
       unfold rp1;rw [if_neg (by rintro⟨_,h2⟩;exact he h2),v0t l 0 he]
      unfold Z0f
      simp only [this,H3l _ _ _ he,J3l _ _ _ he,J3i _ _ _ he]
    · rw [k0h l e he0,Y0b l e he0]
   refine Q0a ?_
   simp -dsimp only [go_sem,g1,t1]
   rw [e1,v0t l e he]
   exact⟨rfl,rfl⟩
 have he0:e=0:=Q2b l e he
 subst he0
 have t1:((Q0k l 0).2.2 !=0)=false:=by simp [he]
 have hu1:=K0j l 0
 refine Q0h (Q0a ?_)
 simp -dsimp only [go_sem,g1,t1]
 have s1:bShr .u64 ((Q0k l 0).1:Int) 1=(((Q0k l 0).1/2:Nat):Int):=W0q .u64 _ 1 (by decide)
 by_cases hbig:64<(Q0k l 0).1/2
 · have t2:decide ((((Q0k l 0).1/2:Nat):Int)>64)=true:=decide_eq_true (by omega)
   have e1:Q0m l 0=(default,l,11):=by
    refine q0c l _ ?_ (by decide)
    have:rp1 l=((Q0k l 0).1,(Q0k l 0).2.1,11):=by
     unfold rp1;rw [if_pos ⟨hbig,he⟩]
    unfold Z0f
    simp only [this,H3l _ _ 11 (by decide),J3l _ _ 11 (by decide),J3i _ _ 11 (by decide)]
   refine Q0a ?_
   simp -dsimp only [go_sem,s1,t2]
   refine(Q1h b _ l _ 11 k _ (h.set (Q0k l 0).2.1 (Q0k l 0).2.2)).mono ?_
   rintro r st' ⟨rfl,rfl⟩
   rw [if_pos he]
   simp -dsimp only [go_sem,G0n]
   rw [e1];exact⟨rfl,rfl⟩
 have t2:decide ((((Q0k l 0).1/2:Nat):Int)>64)=false:=decide_eq_false (by omega)
 refine Q0h (Q0a ?_)
 simp -dsimp only [go_sem,s1,t2]
 have hU:rp1 l=((Q0k l 0).1,(Q0k l 0).2.1,0):=by
  unfold rp1;rw [if_neg (by rintro⟨h2,_⟩;exact hbig h2),he]
 rw [he]
 have hus:=Y2e l
 have hpd:Z0f l=rp4 ⟨decide ((rp1 l).1 % 2=1),(rp2 (rp1 l).1 (rp1 l).2.1 (rp1 l).2.2).1,(rp3 (rp1 l).1 (rp2 (rp1 l).1 (rp1 l).2.1 (rp1 l).2.2).2.1 (rp2 (rp1 l).1 (rp1 l).2.1 (rp1 l).2.2).2.2).1⟩
  (rp3 (rp1 l).1 (rp2 (rp1 l).1 (rp1 l).2.1 (rp1 l).2.2).2.1 (rp2 (rp1 l).1 (rp1 l).2.1 (rp1 l).2.2).2.2).2.1 (rp3 (rp1 l).1 (rp2 (rp1 l).1 (rp1 l).2.1 (rp1 l).2.2).2.1 (rp2 (rp1 l).1 (rp1 l).2.1 (rp1 l).2.2).2.2).2.2:=rfl
 rw [hU] at hpd hus
 clear hU t1 t2 he g1
 generalize Q0k l 0=U at*
 obtain⟨u,l1,e1⟩:=U
 simp only at hu1 hbig s1 hpd hus⊢
 have hs1:l1<:+b:=hus.trans hs
 have s2:bAnd .u64 (u:Int) 1=((u % 2:Nat):Int):=q1d u hu1
 have s3:(((u % 2:Nat):Int)==1)=decide (u % 2=1):=by
  rw [show(1:Int)=((1:Nat):Int) from rfl,Bool.eq_iff_iff];simp;omega
 refine Q0h (Q0a ?_)
 simp -dsimp only [go_sem,s2,s3]
 refine Q0x [true,false,true,true,true,true] 2 0 (fun s=>s=⟨[.gp k 0,.junk,.lp 0 0,.sc (.int .i64 (b.length-l.length:Nat)),.sc (.int .u64 (u:Nat)),.lp 1 0]++List.replicate 111 .junk,
  [[.sc (.bool false),.sc (.int .i64 0),.sl .full []],[.sc (.bool (decide (u % 2=1))),.sc (.int .i64 (rp2 u l1 0).1),.sl .full []]],[],st.set k (rf b (rp2 u l1 0).2.1 (rp2 u l1 0).2.2)⟩) ?_ ?_
 · simp -dsimp only [go_sem,s1]
   refine ck (fun h3=> ?_) (fun h3=> ?_)
   · have hb:1<u:=by have:=of_decide_eq_true h3;omega
     simp -dsimp only [go_sem]
     refine(z3m b l1 0 k _ (h.set l1 0) hs1 hl).mono ?_
     rintro r st' ⟨rfl,rfl⟩
     simp -dsimp only [go_sem,G0n]
     rw [rp2,if_pos ⟨rfl,hb⟩]
   · have hb: ¬1<u:=by have:=of_decide_eq_false h3;omega
     simp -dsimp only [go_sem]
     rw [rp2,if_neg (fun h=>hb h.2)]
 rintro s rfl
 have hs2:=(Y2c u l1 0).trans hs1
 try simp only at hpd
 generalize rp2 u l1 0=V at*
 obtain⟨v,l2,e2⟩:=V
 simp only at hs2 hpd⊢
 have s4:IntKind.i64.wrap ((u/2:Nat):Int)=((u/2:Nat):Int):=Q0i _ (by omega)
 refine Q0x [true,false,true,true,true,true] 2 1 (fun s=> ∃len w l' e',(e'=0→rp3 u l2 e2=(w,l',0))∧(e'≠0→(rp3 u l2 e2).2.2=e')∧w.length≤64∧s=⟨[.gp k 0,.junk,.lp 0 0,.sc (.int .i64 (b.length-l.length:Nat)),.sc (.int .u64 (u:Nat)),.lp 1 0]++List.replicate 111 .junk,
  [[.sc (.bool false),.sc (.int .i64 0),.sl .full []],[.sc (.bool (decide (u % 2=1))),.sc (.int .i64 v),.sl (.own 0) (encW w)]],[(len,1)],st.set k (rf b l' e')⟩) ?_ ?_
 · simp -dsimp only [go_sem]
   refine V0x 1 2 1 ?_
   simp -dsimp only [go_sem]
   refine Q0e [true,false,true,true,true,true,true] 2 1 (fun n s=> ∃i w l',n=u/2-i∧i≤u/2∧w.length=i∧l'<:+b∧(e2=0→K0o (u/2-i) l' w=rp3 u l2 e2)∧(e2≠0→rp3 u l2 e2=(w,l',e2))∧
    s=⟨[.gp k 0,.junk,.lp 0 0,.sc (.int .i64 (b.length-l.length:Nat)),.sc (.int .u64 (u:Nat)),.lp 1 0,.sc (.int .i64 (i:Nat))]++List.replicate 110 .junk,
     [[.sc (.bool false),.sc (.int .i64 0),.sl .full []],[.sc (.bool (decide (u % 2=1))),.sc (.int .i64 v),.sl (.own 0) (encW w)]],[(w.length,1)],st.set k (rf b l' e2)⟩) (u/2) ?_ ?_
   · simp -dsimp only [go_sem]
     refine⟨0,[],l2,by omega,by omega,rfl,hs2,fun h5=> ?_,fun h5=>J3l _ _ _ h5,rfl⟩
     rw [rp3,if_pos h5];rfl
   · rintro n s ⟨i,w,l',rfl,hi,hw,hs',hk0,hk1,rfl⟩
     have g4:=G l' e2
     have hl':=hs'.length_le
     simp -dsimp only [go_sem,s1,s4,g4]
     refine gkT (fun h5=> ?_) (fun h5=> ?_)
     · have hlt:i<u/2:=by have:=of_decide_eq_true h5;omega
       simp -dsimp only [go_sem,h5,g4]
       refine ck (fun h6=> ?_) (fun h6=> ?_)
       · have he:e2=0:=by simpa using h6
         subst he
         have hk:=hk0 rfl
         rw [show u/2-i=(u/2-(i+1))+1 from by omega,K0o] at hk
         have x1:IntKind.i64.wrap ((i:Int)+1)=((i+1:Nat):Int):=by rw [show((i:Int)+1)=((i+1:Nat):Int) from rfl,Q0i _ (by omega)]
         have x3:IntKind.i64.wrap ((b.length:Int)-((b.length-l'.length:Nat):Int))=(l'.length:Int):=by rw [Q0q _ (by omega) (by omega)];omega
         simp -dsimp only [go_sem]
         refine Q0o Z0p 117 (.step 0 [] (.step 1 [] (.step 2 [] (.step 3 [] (.step 4 [] (.step 5 [] (.step 6 [] (.step 7 [] (.step 8 [] (.step 9 [] (.step 10 [] (.done)))))))))))) (by decide+kernel) (by simp) ?_
         simp -dsimp only [go_sem,g4,x3]
         refine ck (fun h7=> ?_) (fun h7=> ?_)
         · have h8:l'.length<8:=by have:=of_decide_eq_true h7;omega
           rw [if_pos h8] at hk
           simp -dsimp only [go_sem]
           refine(Q1h b l' l 0 10 k _ (h.set l' 0)).mono ?_
           rintro r st' ⟨rfl,rfl⟩
           rw [if_pos rfl]
           simp -dsimp only [go_sem,G0n]
           exact⟨w.length,w,l,10,fun h9=>absurd h9 (by decide),fun _=>by rw [←hk],by omega,rfl⟩
         · have h8: ¬l'.length<8:=by have:=of_decide_eq_false h7;omega
           rw [if_neg h8] at hk
           have hv:=U0j l' 8
           simp -dsimp only [go_sem]
           refine Q0e [true,false,true,true,true,true,true,true,true] 2 1 (fun n s=> ∃j,n=j∧j≤8∧s=⟨[.gp k 0,.junk,.lp 0 0,.sc (.int .i64 (b.length-l.length:Nat)),.sc (.int .u64 (u:Nat)),.lp 1 0,.sc (.int .i64 (i:Nat)),.sc (.int .u64 (J0k l' 8/2^(8*j):Nat)),.sc (.int .i64 ((j:Int)-1))]++List.replicate 108 .junk,
            [[.sc (.bool false),.sc (.int .i64 0),.sl .full []],[.sc (.bool (decide (u % 2=1))),.sc (.int .i64 v),.sl (.own 0) (encW w)]],[(w.length,1)],st.set k (rf b l' 0)⟩) 8 ?_ ?_
           · simp -dsimp only [go_sem]
             rw [Nat.div_eq_of_lt hv];rfl
           · rintro n s ⟨j,rfl,hj,rfl⟩
             simp -dsimp only [go_sem]
             refine ck (fun h9=> ?_) (fun h9=> ?_)
             · obtain⟨j,rfl⟩: ∃m,n=m+1:=⟨n-1,by have:=of_decide_eq_true h9;omega⟩
               have y0:((j+1:Nat):Int)-1=(j:Int):=by omega
               have x0:IntKind.i64.wrap (((b.length-l'.length:Nat):Int)+(j:Int))=((b.length-l'.length+j:Nat):Int):=by rw [←Int.natCast_add,Q0i _ (by omega)]
               have x4:IntKind.i64.wrap ((j:Int)-1)=(j:Int)-1:=Q0q _ (by omega) (by omega)
               have g5:=w0u b (b.length-l'.length+j) (by omega)
               rw [y1m hs'] at g5
               have g6:=V2s l' j (by omega)
               simp -dsimp only [go_sem,y0]
               refine Q0o Z0p 117 (.step 0 [] (.step 1 [] (.step 2 [] (.step 3 [] (.step 4 [] (.step 5 [] (.step 6 [] (.step 7 [] (.step 8 [] (.step 9 [] (.step 10 [] (.step 11 [] (.step 12 [] (.step 13 [] (.step 14 [] (.step 15 [] (.step 16 [] (.done)))))))))))))))))) (by decide+kernel) (by simp) ?_
               simp -dsimp only [go_sem,g4,x0,g5,g6,x4]
               exact⟨⟨by omega,by omega⟩,j,by omega,by omega,rfl⟩
             · have h0:n=0:=by have:=of_decide_eq_false h9;omega
               subst h0
               simp -dsimp only [go_sem]
               refine Q0a ?_
               have x5:IntKind.i64.wrap (((b.length-l'.length:Nat):Int)+8)=((b.length-(l'.drop 8).length:Nat):Int):=by
                rw [List.length_drop,show(((b.length-l'.length:Nat):Int)+8)=((b.length-l'.length+8:Nat):Int) from rfl,Q0i _ (by omega)];omega
               have y1:J0k l' 8/2^(8*0)=J0k l' 8:=by rw [Nat.mul_zero,Nat.pow_zero,Nat.div_one]
               simp -dsimp only [go_sem,g4,x5,y1]
               refine⟨⟨by omega,by omega⟩,Q0a ?_⟩
               simp -dsimp only [go_sem,x1]
               have hn:(UInt64.ofNat (J0k l' 8)).toNat=J0k l' 8:=by simp;omega
               have ew:encW w++ [.sc (.int .u64 (J0k l' 8:Nat))]=encW (w++ [UInt64.ofNat (J0k l' 8)]):=by rw [←j1n,hn]
               rw [ew]
               exact⟨u/2-(i+1),by omega,i+1,w++ [UInt64.ofNat (J0k l' 8)],l'.drop 8,rfl,by omega,by simp [hw],(List.drop_suffix _ _).trans hs',fun _=>hk,fun h=>h.elim,q3b (by simp) (G0n st k b b l' (l'.drop 8) 0 0)⟩
       · have he:e2≠0:=by simpa using h6
         have hk:=hk1 he
         simp -dsimp only [go_sem]
         exact⟨w.length,w,l',e2,fun h9=>absurd h9 he,fun _=>by rw [hk],by omega,rfl⟩
     · have hge:i=u/2:=by have:=of_decide_eq_false h5;omega
       simp -dsimp only [go_sem,h5]
       refine⟨w.length,w,l',e2,fun h9=> ?_,fun h9=>by rw [hk1 h9],by omega,rfl⟩
       rw [←hk0 h9,hge,Nat.sub_self,K0o]
 rintro s ⟨len,w,l',e',hz,hnz,hw,rfl⟩
 refine Y0u 1 ?_
 simp -dsimp only [go_sem]
 refine Q0h (Q0a ?_)
 have g7:=G l' e'
 simp -dsimp only [go_sem,g7]
 by_cases he:e'=0
 · subst he
   have hz:=hz rfl
   have t3:((0:Int) !=0)=false:=rfl
   rw [hz] at hpd
   simp -dsimp only [go_sem]
   refine Q0a ?_
   simp -dsimp only [go_sem]
   refine(Z0j ⟨decide (u % 2=1),v,w⟩ _ (by simp only;omega)).mono ?_
   rintro r st' ⟨rfl,rfl⟩
   simp -dsimp only [go_sem]
   refine ck (fun h5=> ?_) (fun h5=> ?_)
   · have hr:Q0f ⟨decide (u % 2=1),v,w⟩=false:=by simpa using h5
     simp -dsimp only [go_sem]
     refine(Q1h b l' l 0 11 k _ (h.set l' 0)).mono ?_
     rintro r st' ⟨rfl,rfl⟩
     rw [if_pos rfl]
     simp -dsimp only [go_sem,G0n]
     rw [q0c l 11 (by rw [hpd];unfold rp4;rw [if_pos ⟨rfl,hr⟩]) (by decide)]
     exact⟨rfl,rfl⟩
   · have hr:Q0f ⟨decide (u % 2=1),v,w⟩=true:=by simpa using h5
     simp -dsimp only [go_sem]
     have e9:Z0f l=(⟨decide (u % 2=1),v,w⟩,l',0):=by
      rw [hpd];unfold rp4;rw [if_neg (fun h2=>by rw [hr] at h2;exact absurd h2.2 (by decide))]
     rw [Q0m,if_neg (by simp),e9,if_pos rfl]
     exact⟨rfl,rfl⟩
 · have t3:(e' !=0)=true:=by simp [he]
   simp -dsimp only [go_sem,t3,g7]
   have hz:=hnz he
   rw [q0c l e' (by rw [hpd];rw [J3i _ _ _ (by rw [hz];exact he)];exact hz) he]
   exact⟨rfl,G0n st k b b l' l e' e'⟩
end Go.Pv
end
section
/-The document's reader:Iv,Box. -/
set_option maxRecDepth 100000
namespace Go.Pv
open Go.Proofs
theorem Q2d (l:List UInt8) (e:Int) (h:(Q0m l e).2.2=0):e=0:=by
 refine Classical.byContradiction fun he=> ?_
 rw [Y0b l e he] at h;exact he h
theorem Y2s (l:List UInt8) (e:Int):(J0q l e).2.1<:+l:=by
 unfold J0q;split
 · exact List.suffix_refl _
 · split
   · exact(K0p _ _).trans (K0p l 0)
   · exact List.suffix_refl _
theorem J1p (l:List UInt8) (e:Int) (h:(W0j l).2.2=e) (he:e≠0):J0q l 0=(default,l,e):=by
 rw [J0q,if_neg (by simp),h,if_neg he]
theorem J1q (l:List UInt8) (e:Int) (h:(V0y l).2.2=e) (he:e≠0):X0b l 0=([],l,e):=by
 rw [X0b,if_neg (by simp),h,if_neg he]
set_option maxHeartbeats 2000000 in
theorem J4v (b l:List UInt8) (e:Int) (k:Nat) (st:Q0g) (h:atF st k b l e) (hs:l<:+b) (hl:b.length≤1000000000000):PCalls Tryz.prog 147 [.gp k 0] st
 (fun r st'=>r= .agg (encI (J0q l e).1)∧st'=st.set k (rf b (J0q l e).2.1 (J0q l e).2.2)):=by
 have h':=h
 unfold atF rf at h'
 have G: ∀(l:List UInt8) (e:Int),(st.set k (rf b l e)).getD k []= [.sl .no (encB b),.sc (.int .i64 (b.length-l.length:Nat)),.sc (.int .i64 e)]:=fun l e=>h.set l e
 refine Q0b none Tryz.func147 rfl fun E=>Q0a ?_
 simp -dsimp only [go_sem,h']
 refine(j1l b l e k st h hs hl).mono ?_
 rintro r st' ⟨rfl,rfl⟩
 simp -dsimp only [go_sem]
 have hs1:=(K0p l e).trans hs
 refine(j1l b _ _ k _ (h.set (Q0m l e).2.1 (Q0m l e).2.2) hs1 hl).mono ?_
 rintro r st' ⟨rfl,rfl⟩
 have hs2:=(K0p (Q0m l e).2.1 (Q0m l e).2.2).trans hs1
 have g1:=G (Q0m (Q0m l e).2.1 (Q0m l e).2.2).2.1 (Q0m (Q0m l e).2.1 (Q0m l e).2.2).2.2
 have w1:=Q0t (X0e l e)
 have w2:=Q0t (X0e (Q0m l e).2.1 (Q0m l e).2.2)
 simp -dsimp only [go_sem,G0n,g1]
 refine gkT (fun h1=> ?_) (fun h1=> ?_)
 · have he3:(Q0m (Q0m l e).2.1 (Q0m l e).2.2).2.2=0:=by simpa using h1
   have he2:=Q2d _ _ he3
   have he0:=Q2d _ _ he2
   subst he0
   simp -dsimp only [go_sem,h1]
   refine(V0u ⟨(Q0m l 0).1,(Q0m (Q0m l 0).2.1 (Q0m l 0).2.2).1⟩ _ ⟨w1,w2⟩).mono ?_
   rintro r st' ⟨rfl,rfl⟩
   simp -dsimp only [go_sem]
   refine ck (fun h2=> ?_) (fun h2=> ?_)
   · have hr:Q0n ⟨(Q0m l 0).1,(Q0m (Q0m l 0).2.1 (Q0m l 0).2.2).1⟩=false:=by simpa using h2
     simp -dsimp only [go_sem]
     refine(Q1h b _ l _ 11 k _ (h.set (Q0m (Q0m l 0).2.1 (Q0m l 0).2.2).2.1 (Q0m (Q0m l 0).2.1 (Q0m l 0).2.2).2.2)).mono ?_
     rintro r st' ⟨rfl,rfl⟩
     rw [if_pos he3]
     have g2:=G l 11
     have t1:((11:Int) !=0)=true:=rfl
     simp -dsimp only [go_sem,G0n,g2,t1]
     rw [J1p l 11 (by rw [z0o];simp only;rw [if_pos ⟨he3,hr⟩]) (by decide)]
     exact⟨rfl,G0n st k b b l l 11 11⟩
   · have hr:Q0n ⟨(Q0m l 0).1,(Q0m (Q0m l 0).2.1 (Q0m l 0).2.2).1⟩=true:=by simpa using h2
     have t1:((Q0m (Q0m l 0).2.1 (Q0m l 0).2.2).2.2 !=0)=false:=by simp [he3]
     have e9:W0j l=(⟨(Q0m l 0).1,(Q0m (Q0m l 0).2.1 (Q0m l 0).2.2).1⟩,(Q0m (Q0m l 0).2.1 (Q0m l 0).2.2).2.1,0):=by
      rw [z0o,if_neg (fun h2=>by rw [hr] at h2;exact absurd h2.2 (by decide)),he3]
     simp -dsimp only [go_sem,g1,t1]
     rw [J0q,if_neg (by simp),e9,if_pos rfl,he3]
     exact⟨rfl,rfl⟩
 · have he3:(Q0m (Q0m l e).2.1 (Q0m l e).2.2).2.2≠0:=by simpa using h1
   have t1:((Q0m (Q0m l e).2.1 (Q0m l e).2.2).2.2 !=0)=true:=by simp [he3]
   simp -dsimp only [go_sem,h1,g1,t1]
   have e9:J0q l e=(default,l,(Q0m (Q0m l e).2.1 (Q0m l e).2.2).2.2):=by
    by_cases he0:e=0
    · subst he0
      refine J1p l _ ?_ he3
      rw [z0o];simp only;rw [if_neg (fun h2=>he3 h2.1)]
    · rw [Y2v l e he0,Y0b l e he0];simp only;rw [Y0b _ e he0]
   rw [e9]
   exact⟨rfl,G0n st k b b _ l _ _⟩
set_option maxHeartbeats 2000000 in
theorem Z3c (b l:List UInt8) (e:Int) (k:Nat) (st:Q0g) (h:atF st k b l e) (hs:l<:+b) (hl:b.length≤1000000000000):PCalls Tryz.prog 103 [.gp k 0] st
 (fun r st'=>r= .sl .no (Q0u (X0b l e).1)∧st'=st.set k (rf b (X0b l e).2.1 (X0b l e).2.2)):=by
 have h':=h
 unfold atF rf at h'
 have G: ∀(l:List UInt8) (e:Int),(st.set k (rf b l e)).getD k []= [.sl .no (encB b),.sc (.int .i64 (b.length-l.length:Nat)),.sc (.int .i64 e)]:=fun l e=>h.set l e
 refine Q0b none Tryz.func103 rfl fun E=>Q0h (Q0a ?_)
 simp -dsimp only [go_sem]
 refine Q0h (Q0a ?_)
 simp -dsimp only [go_sem,h']
 refine Q0h (Q0a ?_)
 simp -dsimp only [go_sem]
 refine(k0s b l e k st h hs hl).mono ?_
 rintro r st' ⟨rfl,rfl⟩
 simp -dsimp only [go_sem]
 have hu1:=K0j l e
 have hs1:=(U0v l e).trans hs
 have hPB:e=0→V0y l=pb2 (pb1 l).1 (pb1 l).2.1 (pb1 l).2.2:=fun _=>rfl
 have hp1:e=0→pb1 l=((Q0k l e).1,(Q0k l e).2.1,if ((Q0k l e).1<1∨4<(Q0k l e).1)∧(Q0k l e).2.2=0 then 11 else(Q0k l e).2.2):=fun h0=>by rw [h0];rfl
 have hbad:e≠0→(Q0k l e).1=0∧(Q0k l e).2.2=e:=fun h0=>by rw [k0h l e h0];exact⟨rfl,rfl⟩
 have hbe:e≠0→X0b l e=([],l,e):=fun h0=>z0k l e h0
 have hbb:=v0t l e
 have hok:=Q2b l e
 generalize Q0k l e=U at*
 obtain⟨u,l1,e1⟩:=U
 simp only at hu1 hs1 hp1 hbad hbb hok⊢
 refine Q0x [true,false,false,true,true] 0 0 (fun s=> ∃l2 e2,(e1=0→ ¬(u<1∨4<u)→l2=l1∧e2=0)∧(e1=0→(u<1∨4<u)→e2=11)∧(e1≠0→e2=e1)∧l2<:+b∧
  s=⟨[.gp k 0,.junk,.junk,.sc (.int .i64 (b.length-l.length:Nat)),.sc (.int .u64 (u:Nat))]++List.replicate 52 .junk,[],[],st.set k (rf b l2 e2)⟩) ?_ ?_
 · have g1:=G l1 e1
   simp -dsimp only [go_sem,g1]
   refine gkT (fun h1=> ?_) (fun h1=> ?_)
   · have he1:e1=0:=by simpa using h1
     subst he1
     simp -dsimp only [go_sem,h1]
     refine gkF (fun h2=> ?_) (fun h2=> ?_)
     · have hb1: ¬u<1:=by have:=of_decide_eq_false h2;omega
       simp -dsimp only [go_sem,h2]
       refine ck (fun h3=> ?_) (fun h3=> ?_)
       · have hb2:4<u:=by have:=of_decide_eq_true h3;omega
         simp -dsimp only [go_sem]
         refine(Q1h b _ l _ 11 k _ (h.set l1 0)).mono ?_
         rintro r st' ⟨rfl,rfl⟩
         rw [if_pos rfl]
         simp -dsimp only [go_sem,G0n]
         exact⟨l,11,fun _ h5=>absurd (.inr hb2) h5,fun _ _=>rfl,fun h5=>h5.elim,hs,rfl⟩
       · have hb2: ¬4<u:=by have:=of_decide_eq_false h3;omega
         simp -dsimp only [go_sem]
         exact⟨l1,0,fun _ _=>⟨rfl,rfl⟩,fun _ h5=>by omega,fun h5=>h5.elim,hs1,rfl⟩
     · have hb1:u<1:=by have:=of_decide_eq_true h2;omega
       simp -dsimp only [go_sem,h2]
       refine(Q1h b _ l _ 11 k _ (h.set l1 0)).mono ?_
       rintro r st' ⟨rfl,rfl⟩
       rw [if_pos rfl]
       simp -dsimp only [go_sem,G0n]
       exact⟨l,11,fun _ h5=>absurd (.inl hb1) h5,fun _ _=>rfl,fun h5=>h5.elim,hs,rfl⟩
   · have he1:e1≠0:=by simpa using h1
     simp -dsimp only [go_sem,h1]
     exact⟨l1,e1,fun h5=>absurd h5 he1,fun h5=>absurd h5 he1,fun _=>rfl,hs1,rfl⟩
 rintro s ⟨l2,e2,z1,z2,z3,hs2,rfl⟩
 have good:e2=0→e=0∧u≤4∧l2=l1∧V0y l=V0w u l1 []:=fun h2=>by
  have y1:e1=0:=by
   refine Classical.byContradiction fun y1=> ?_
   rw [z3 y1] at h2;exact y1 h2
  have y2: ¬(u<1∨4<u):=fun y2=>by rw [z2 y1 y2] at h2;exact absurd h2 (by decide)
  have y0:=hok y1
  refine⟨y0,by omega,(z1 y1 y2).1,?_⟩
  rw [hPB y0,hp1 y0]
  simp only
  rw [if_neg (fun h5=>y2 h5.1),y1,pb2,if_pos rfl]
 have poor:e2≠0→X0b l e=([],l,e2):=fun h2=>by
  by_cases y0:e=0
  · subst y0
    refine J1q l e2 ?_ h2
    rw [hPB rfl,hp1 rfl]
    simp only
    by_cases y1:e1=0
    · have y2:u<1∨4<u:=Classical.byContradiction fun y2=>h2 (z1 y1 y2).2
      rw [if_pos ⟨y2,y1⟩,z2 y1 y2];rfl
    · rw [if_neg (fun h5=>y1 h5.2),z3 y1,pb2,if_neg y1]
  · rw [hbe y0,z3 (by rw [(hbad y0).2];exact y0),(hbad y0).2]
 have s4:e2=0→IntKind.i64.wrap (u:Int)=(u:Int):=fun h2=>by have:=good h2;exact Q0i _ (by omega)
 refine Q0h (Q0a ?_)
 simp -dsimp only [go_sem]
 refine Q0x [true,false,false,true,true,true] 0 1 (fun s=> ∃len o l' e',(e'=0→X0b l e=(o,l',0))∧(e'≠0→X0b l e=([],l,e'))∧
  s=⟨[.gp k 0,.junk,.junk,.sc (.int .i64 (b.length-l.length:Nat)),.sc (.int .u64 (u:Nat)),.sl (.own 0) (Q0u o)]++List.replicate 51 .junk,[],[(len,6)],st.set k (rf b l' e')⟩) ?_ ?_
 · simp -dsimp only [go_sem]
   refine Z0y 5 6 ?_
   simp -dsimp only [go_sem]
   refine Q0e [true,false,false,true,true,true,true] 0 1 (fun n s=> ∃i o l' e',n=4-i∧i≤4∧o.length=i∧l'<:+b∧(e2=0→i≤u∧(e'=0→V0w (u-i) l' o=V0w u l1 [])∧(e'≠0→(o,l',e')=V0w u l1 []))∧(e2≠0→e'=e2)∧
    s=⟨[.gp k 0,.junk,.junk,.sc (.int .i64 (b.length-l.length:Nat)),.sc (.int .u64 (u:Nat)),.sl (.own 0) (Q0u o),.sc (.int .i64 (i:Nat))]++List.replicate 50 .junk,[],[(o.length,6)],st.set k (rf b l' e')⟩) 4 ?_ ?_
   · simp -dsimp only [go_sem]
     refine⟨0,[],l2,e2,by omega,by omega,rfl,hs2,fun h5=>⟨by omega,fun _=>by rw [(good h5).2.2.1];rfl,fun h6=>absurd h5 h6⟩,fun _=>rfl,rfl⟩
   · rintro n s ⟨i,o,l',e',rfl,hi,ho,hs',k0,k1,rfl⟩
     have g4:=G l' e'
     have out:e'≠0→X0b l e=([],l,e'):=fun h6=>by
      by_cases h2:e2=0
      · obtain⟨y0,_,_,y3⟩:=good h2
        subst y0
        refine J1q l e' ?_ h6
        rw [y3,←(k0 h2).2.2 h6]
      · rw [poor h2,k1 h2]
     simp -dsimp only [go_sem]
     refine gkT (fun h5=> ?_) (fun h5=> ?_)
     · simp -dsimp only [go_sem,h5,g4]
       refine ck (fun h6=> ?_) (fun h6=> ?_)
       · have he:e'=0:=by simpa using h6
         subst he
         have h2:e2=0:=Classical.byContradiction fun h2=>h2 (k1 h2).symm
         obtain⟨y0,y1,y2,y3⟩:=good h2
         have hk:=(k0 h2).2.1 rfl
         rw [s4 h2] at h5
         have hlt:i<u:=by have:=of_decide_eq_true h5;omega
         rw [show u-i=(u-(i+1))+1 from by omega,V0w] at hk
         have x1:IntKind.i64.wrap ((i:Int)+1)=((i+1:Nat):Int):=by rw [show((i:Int)+1)=((i+1:Nat):Int) from rfl,Q0i _ (by omega)]
         simp -dsimp only [go_sem]
         refine(J4v b l' 0 k _ (h.set l' 0) hs' hl).mono ?_
         rintro r st' ⟨rfl,rfl⟩
         simp -dsimp only [go_sem,G0n,x1]
         refine⟨⟨by omega,by omega⟩,4-(i+1),by omega,i+1,o++ [(J0q l' 0).1],(J0q l' 0).2.1,(J0q l' 0).2.2,rfl,by omega,by simp [ho],(Y2s l' 0).trans hs',fun _=>⟨by omega,fun h9=> ?_,fun h9=> ?_⟩,fun h9=>absurd h2 h9,?_⟩
         · rw [if_pos h9] at hk;exact hk
         · rw [if_neg h9] at hk;exact hk
         · simp [Q0u,encI]
       · have he:e'≠0:=by simpa using h6
         simp -dsimp only [go_sem]
         exact⟨o.length,o,l',e',fun h9=>absurd h9 he,out,rfl⟩
     · simp -dsimp only [go_sem,h5]
       refine⟨o.length,o,l',e',fun h9=> ?_,out,rfl⟩
       subst h9
       have h2:e2=0:=Classical.byContradiction fun h2=>h2 (k1 h2).symm
       obtain⟨y0,y1,y2,y3⟩:=good h2
       subst y0
       rw [s4 h2] at h5
       have hge:i=u:=by have:=of_decide_eq_false h5;have:=(k0 h2).1;omega
       have hk:=(k0 h2).2.1 rfl
       rw [hge,Nat.sub_self,V0w] at hk
       rw [X0b,if_neg (by simp),y3,←hk,if_pos rfl]
 rintro s ⟨len,o,l',e',hz,hnz,rfl⟩
 have g7:=G l' e'
 refine J0u [false,false,false,false,false,true] ?_
 simp -dsimp only [go_sem]
 refine Q0a ?_
 simp -dsimp only [go_sem,g7]
 refine ck (fun h5=> ?_) (fun h5=> ?_)
 · have he:e'≠0:=by simpa using h5
   simp -dsimp only [go_sem,g7]
   rw [hnz he]
   exact⟨rfl,G0n st k b b l' l e' e'⟩
 · have he:e'=0:=by simpa using h5
   subst he
   simp -dsimp only [go_sem,g7]
   rw [hz rfl]
   exact⟨rfl,rfl⟩
end Go.Pv
end
section
/-The law's reads:both readers,side by side. -/
set_option maxRecDepth 100000
namespace Go.Pv
open Go.Proofs
theorem Y1b :wB []:=⟨by simp,fun i hi=>by simp at hi⟩
theorem Z1p (l:List UInt8) (e:Int):wB (X0b l e).1:=by
 by_cases he:e=0
 · subst he
   by_cases h:(X0b l 0).2.2=0
   · exact J1c (v0w l h).1
   · rw [z1u l 0 h];exact Y1b
 · rw [z0k l e he];exact Y1b
theorem z1s (l:List UInt8) (e:Int):(X0b l e).2.1<:+l:=by
 by_cases he:e=0
 · subst he
   by_cases h:(X0b l 0).2.2=0
   · exact⟨_,(v0w l h).2.symm⟩
   · rw [z1u l 0 h];exact List.suffix_refl _
 · rw [z0k l e he];exact List.suffix_refl _
end Go.Pv
end
