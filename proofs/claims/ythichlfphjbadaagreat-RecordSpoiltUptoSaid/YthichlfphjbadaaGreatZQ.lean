/- Parts of the walk: C3, C4, C5, C6, C7, C8, C9. -/
import Derived.Test.YthichlfphjbadaaGreatZP
import Derived.Test.YthichlfphjbadaaGreatZH
import Derived.Test.YthichlfphjbadaaGreatZE
set_option linter.unusedVariables false
set_option linter.unusedSimpArgs false
section
/-code.Iv,Box;the document's Iv,Box. -/
set_option maxRecDepth 100000
namespace Go.Pv
open Go.Proofs
theorem X0f (x:Nm):(numB x).length≤600:=by
 unfold numB
 split
 · rename_i hr
   obtain⟨r1,r2,r3⟩:=W1y hr
   have hhead:V0p x<18446744073709551616:=by unfold V0p;split<;>omega
   have h10:=Z0x hhead
   have hz:=Z0x (q1h (i:=x.exp) (by omega) (by omega))
   have h12:=U0i x.w
   rw [List.length_append]
   split
   · simp;omega
   · rw [List.length_append];omega
 · simp
theorem K2i (a:Ivl):(ivB a).length≤1200:=by
 have h1:=X0f a.lo
 have h2:=X0f a.hi
 unfold ivB
 split
 · rw [List.length_append];omega
 · simp
theorem q2p (l:List Ivl) (i:Nat) (h:i<l.length):(l.take (i+1)).flatMap ivB=(l.take i).flatMap ivB++ivB (l.getD i default):=by
 rw [Y0l l i default h];simp
theorem j1g (l:List Ivl):(l.flatMap ivB).length≤1200*l.length:=by
 induction l with
 | nil=>simp
 | cons x l ih=>rw [List.flatMap_cons,List.length_append,List.length_cons];have:=K2i x;omega
theorem K4o (l:List UInt8) (x:Ivl) (st:Q0g) (hl:l.length≤1000000000000) (hw:wI x):PCalls Tryz.prog 84 [.sl .no (encB l),.agg (encI x)] st (fun r st'=>r= .sl (.fresh 1) (encB (l++ivB x))∧st'=st):=by
 refine Q0b (some 1) Tryz.func84 rfl fun E=>Q0a ?_
 have n1:=X0f x.lo
 simp -dsimp only [go_sem]
 refine(w0o x st hw).mono ?_
 rintro r st ⟨rfl,rfl⟩
 simp -dsimp only [go_sem]
 refine ck (fun h=> ?_) (fun h=> ?_)
 · have hr:Q0n x=false:=by simpa using h
   simp -dsimp only [go_sem]
   refine(V1g l st (by omega)).mono ?_
   rintro r st ⟨rfl,rfl⟩
   simp -dsimp only [go_sem]
   rw [ivB,if_neg (by simp [hr]),List.append_nil]
 · have hr:Q0n x=true:=by simpa using h
   simp -dsimp only [go_sem]
   refine Q0o Z0p 17 (.step 0 [] (.step 1 [] (.step 2 [] (.step 4 [] (.step 5 [] (.step 3 [5] (.step 6 [] (.step 7 [] (.done))))))))) (by decide+kernel) (by simp) ?_
   simp -dsimp only [go_sem]
   refine(V1l l x.lo st (by omega) hw.1).mono ?_
   rintro r st ⟨rfl,rfl⟩
   simp -dsimp only [go_sem]
   refine(V1l (l++numB x.lo) x.hi st (by simp;omega) hw.2).mono ?_
   rintro r st ⟨rfl,rfl⟩
   simp -dsimp only [go_sem]
   rw [ivB,if_pos hr,List.append_assoc]
theorem Z3o (l:List UInt8) (x:List Ivl) (st:Q0g) (hl:l.length≤100000000000) (hw:wB x):PCalls Tryz.prog 41 [.sl .no (encB l),.sl .no (Q0u x)] st (fun r st'=>r= .sl .no (encB (l++boxB x))∧st'=st):=by
 refine Q0b none Tryz.func41 rfl fun E=>Q0a ?_
 have hxl:=hw.1
 simp -dsimp only [go_sem]
 refine(U1v x st hw).mono ?_
 rintro r st ⟨rfl,rfl⟩
 simp -dsimp only [go_sem]
 refine ck (fun h=> ?_) (fun h=> ?_)
 · have hr:rightB x=false:=by simpa using h
   simp -dsimp only [go_sem]
   refine(V1g l st (by omega)).plain.mono ?_
   rintro r st ⟨rfl,rfl⟩
   simp -dsimp only [go_sem]
   rw [boxB,if_neg (by simp [hr]),List.append_nil]
 · have hr:rightB x=true:=by simpa using h
   have hx4:=W0z hr
   have w1:IntKind.u64.wrap (x.length:Int)=(x.length:Int):=Z0m _ (by omega)
   have h10:=Z0x (v:=x.length) (by omega)
   simp -dsimp only [go_sem,w1]
   refine(Q1s l x.length st (by omega) (by omega)).plain.mono ?_
   rintro r st ⟨rfl,rfl⟩
   simp -dsimp only [go_sem]
   obtain⟨base,hb⟩: ∃b,b=l++uvar x.length:=⟨_,rfl⟩
   have hbl:base.length≤l.length+10:=by rw [hb];simp;omega
   rw [←hb]
   refine Q0e [false,false,false,false,false,true,false,false,false,false,false,false,false,false,false,false,false,false,true,true,true] 0 0
    (fun n s=> ∃i,n=x.length-i∧i≤x.length∧s=⟨List.replicate 5 .junk++([.sl .no (encB (base++(x.take i).flatMap ivB))]++(List.replicate 12 .junk++([.sl .no (Q0u x),.sc (.int .i64 x.length),.sc (.int .i64 (i:Nat))]++List.replicate 8 .junk))),[],[],st⟩) x.length ?_ ?_
   · simp -dsimp only [go_sem]
     refine⟨0,by omega,by omega,?_⟩
     simp
   · rintro n s ⟨i,rfl,hi,rfl⟩
     simp -dsimp only [go_sem]
     refine ck (fun h1=> ?_) (fun h1=> ?_)
     · have hlt:i<x.length:=by have:=of_decide_eq_true h1;omega
       have g1:=J0x x i hlt
       have hfl:=j1g (x.take i)
       rw [List.length_take,Nat.min_eq_left hi] at hfl
       have x1:IntKind.i64.wrap ((i:Int)+1)=((i+1:Nat):Int):=by rw [show((i:Int)+1)=((i+1:Nat):Int) from rfl,Q0i _ (by omega)]
       simp -dsimp only [go_sem,g1]
       refine⟨⟨by omega,hlt⟩,?_⟩
       refine(K4o (base++(x.take i).flatMap ivB) (x.getD i default) st (by rw [List.length_append];omega) (hw.2 i hlt)).plain.mono ?_
       rintro r st ⟨rfl,rfl⟩
       simp -dsimp only [go_sem,x1]
       refine⟨x.length-(i+1),by omega,i+1,rfl,by omega,?_⟩
       rw [q2p x i hlt,←List.append_assoc]
     · have hge:i=x.length:=by have:=of_decide_eq_false h1;omega
       simp -dsimp only [go_sem]
       refine Q0a ?_
       simp -dsimp only [go_sem]
       rw [hge,List.take_length,hb,boxB,if_pos hr,List.append_assoc]
end Go.Pv
end
section
/-The reader:Read,fail,digits. -/
set_option maxRecDepth 100000
namespace Go.Pv
open Go.Proofs
def rd (l:List UInt8) (e:Int):List PV:= [.sl .no (encB l),.sc (.int .i64 e)]
def atR (st:Q0g) (k:Nat) (l:List UInt8) (e:Int):Prop:=st.getD k []=rd l e
theorem atR.lt {st:Q0g} {k:Nat} {l:List UInt8} {e:Int} (h:atR st k l e):k<st.length:=by
 refine Nat.lt_of_not_le fun hn=> ?_
 unfold atR at h
 rw [List.getD_eq_getElem?_getD,List.getElem?_eq_none hn] at h
 cases h
theorem atR.set {st:Q0g} {k:Nat} {l:List UInt8} {e:Int} (h:atR st k l e) (l':List UInt8) (e':Int):atR (st.set k (rd l' e')) k l' e':=by
 unfold atR
 rw [Q0p _ _ _ _ h.lt]
theorem W0e (st:Q0g) (k:Nat) (l l':List UInt8) (e e':Int):(st.set k (rd l e)).set k (rd l' e')=st.set k (rd l' e'):=List.set_set ..
theorem atR.same {st:Q0g} {k:Nat} {l:List UInt8} {e:Int} (h:atR st k l e):st.set k (rd l e)=st:=by
 have hlt:=h.lt
 unfold atR at h
 rw [←h,List.getD_eq_getElem?_getD,List.getElem?_eq_getElem hlt,Option.getD_some,List.set_getElem_self]
theorem H3o (l:List UInt8) (st:Q0g) (hl:l.length≤140737488355328):PCalls Tryz.prog 105 [.sl .no (encB l)] st (fun r st'=>r= .gp st.length 0∧st'=st++ [rd l 0]):=by
 refine Q0b none Tryz.func105 rfl fun E=>Q0h (Q0a ?_)
 simp -dsimp only [go_sem]
 refine Q0h (Q0a ?_)
 simp -dsimp only [go_sem]
 refine(V1g l st hl).plain.mono ?_
 rintro r st' ⟨rfl,rfl⟩
 simp -dsimp only [go_sem]
 refine V0l 0 (by simp [go_sem]) (by simp) (Q0a ?_)
 simp -dsimp only [go_sem]
 rfl
theorem U0u (l:List UInt8) (e x:Int) (k:Nat) (st:Q0g) (h:atR st k l e):PCalls Tryz.prog 173 [.gp k 0,.sc (.int .i64 x)] st (fun r st'=>r= .tup []∧st'=st.set k (rd l (if e=0 then x else e))):=by
 have h':=h
 unfold atR rd at h
 refine Q0b none Tryz.func173 rfl fun E=>Q0a ?_
 simp -dsimp only [go_sem,h]
 refine ck (fun h1=> ?_) (fun h1=> ?_)
 · have he:e=0:=by simpa using h1
   simp -dsimp only [go_sem,h]
   rw [if_pos he];rfl
 · have he:e≠0:=by simpa using h1
   simp -dsimp only [go_sem,h]
   rw [if_neg he];exact h'.same.symm
theorem z3o (l:List UInt8) (e:Int) (k:Nat) (st:Q0g) (h:atR st k l e):PCalls Tryz.prog 106 [.gp k 0] st (fun r st'=>r= .sc (.int .i64 e)∧st'=st):=by
 unfold atR rd at h
 refine Q0b none Tryz.func106 rfl fun E=>Q0a ?_
 simp -dsimp only [go_sem,h]
theorem q3r (l:List UInt8) (e:Int) (k:Nat) (st:Q0g) (h:atR st k l e):PCalls Tryz.prog 107 [.gp k 0] st (fun r st'=>r= .sc (.int .i64 l.length)∧st'=st):=by
 unfold atR rd at h
 refine Q0b none Tryz.func107 rfl fun E=>Q0a ?_
 simp -dsimp only [go_sem,h]
end Go.Pv
end
section
/-The reader's digits. -/
set_option maxRecDepth 100000
namespace Go.Pv
open Go.Proofs
set_option maxHeartbeats 1000000 in
theorem w2o (l:List UInt8) (k:Nat) (st:Q0g) (h:atR st k l 0) (hl:l.length≤1000000000000):PCalls Tryz.prog 149 [.gp k 0] st
 (fun r st'=>((J0h 0 0 l).2.2=0→r= .sc (.int .u64 (J0h 0 0 l).1)∧st'=st.set k (rd (l.drop (J0h 0 0 l).2.1) 0))∧
  ((J0h 0 0 l).2.2≠0→ ∃(x:Int) (l':List UInt8),r= .sc (.int .u64 x)∧st'=st.set k (rd l' (J0h 0 0 l).2.2))):=by
 have h':=h
 unfold atR rd at h
 refine Q0b none Tryz.func149 rfl fun E=>Q0a ?_
 simp -dsimp only [go_sem]
 refine Q0o Z0p 71 (.step 0 [] (.step 1 [] (.step 2 [] (.step 3 [] (.step 4 [] (.step 5 [] (.step 6 [] (.step 7 [] (.step 8 [] (.step 9 [] (.step 10 [] (.step 11 [] (.step 12 [] (.done)))))))))))))) (by decide+kernel) (by simp) ?_
 have m1:(if (10:Int)<(l.length:Int) then(10:Int) else(l.length:Int))=((min l.length 10:Nat):Int):=by split<;>omega
 simp -dsimp only [go_sem,h,m1]
 refine⟨⟨⟨by omega,by omega⟩,by omega⟩,?_⟩
 have hM:(l.take (min l.length 10)).length=min l.length 10:=by rw [List.length_take];omega
 refine Q0e [true,false,false,true,false,false,false,false,false,false,false,false,false,false,false,false,true,true,true] 0 0
  (fun n s=> ∃i v,n=min l.length 10-i∧i≤min l.length 10∧v<18446744073709551616∧(i≤9→v<2^(7*i))∧J0h i v (l.drop i)=J0h 0 0 l∧
   s=⟨[.gp k 0,.junk,.junk,.sc (.int .u64 (v:Nat))]++(List.replicate 12 .junk++([.sl .no (encB (l.take (min l.length 10))),.sc (.int .i64 (min l.length 10:Nat)),.sc (.int .i64 (i:Nat))]++List.replicate 52 .junk)),[],[],st⟩) (min l.length 10) ?_ ?_
 · simp -dsimp only [go_sem,hM]
   refine⟨0,0,by omega,by omega,by omega,fun _=>by omega,rfl,?_⟩
   rfl
 · rintro n s ⟨i,v,rfl,hi,hv,hv2,hk,rfl⟩
   simp -dsimp only [go_sem]
   refine ck (fun h1=> ?_) (fun h1=> ?_)
   · have hlt:i<min l.length 10:=by have:=of_decide_eq_true h1;omega
     have g1:=w0u (l.take (min l.length 10)) i (by omega)
     rw [K2n _ _ _ _ hlt] at g1
     obtain⟨c,hc⟩: ∃c,c=l.getD i 0:=⟨_,rfl⟩
     rw [U1o l i 0 (by omega),J0h,←hc] at hk
     rw [←hc] at g1
     have hcl:=c.toNat_lt
     have m2:IntKind.i64.wrap (7*(i:Int))=((7*i:Nat):Int):=by rw [show 7*(i:Int)=((7*i:Nat):Int) from by omega,Q0i _ (by omega)]
     have x1:IntKind.i64.wrap ((i:Int)+1)=((i+1:Nat):Int):=by rw [show((i:Int)+1)=((i+1:Nat):Int) from rfl,Q0i _ (by omega)]
     simp -dsimp only [go_sem,g1,m2]
     obtain⟨V,hV⟩: ∃V,V=v|||(c.toNat % 128*2^(7*i) % 18446744073709551616):=⟨_,rfl⟩
     have hV2:V<18446744073709551616:=by rw [hV];exact Nat.or_lt_two_pow (n:=64) hv (Nat.mod_lt _ (by decide))
     have s1:bOr .u64 (v:Int) (bShl .u64 (IntKind.u64.wrap (bAnd .u8 (c.toNat:Int) 127)) ((7*i:Nat):Int))=(V:Int):=by
      rw [V1p _ (by omega),Z0m _ (by omega),W0r _ _ (by omega),x0f _ _ hv (Nat.mod_lt _ (by decide)),←hV]
     have hsum:c.toNat % 128*2^(7*i)<18446744073709551616→i≤9→V=v+c.toNat % 128*2^(7*i):=fun h1 h2=>by
      rw [hV,Nat.mod_eq_of_lt h1,w0e v _ (7*i) (hv2 h2) (Nat.mul_mod_left ..)]
     have hp8:i≤8→c.toNat % 128*2^(7*i)<18446744073709551616:=fun h=>by
      have:2^(7*i)≤2^56:=Nat.pow_le_pow_right (by decide) (by omega)
      have:=Nat.mul_le_mul (by omega:c.toNat % 128≤127) this
      omega
     refine⟨⟨by omega,by omega⟩,by omega,?_⟩
     refine ck (fun h2=> ?_) (fun h2=> ?_)
     · have hc2:128≤c.toNat:=by have:=of_decide_eq_true h2;omega
       rw [if_neg (by omega),if_pos hc2] at hk
       simp -dsimp only [go_sem,x1,s1]
       refine⟨min l.length 10-(i+1),by omega,i+1,V,rfl,by omega,hV2,fun h9=> ?_,?_,rfl⟩
       · rw [hsum (hp8 (by omega)) (by omega)]
         have h3:=hv2 (by omega)
         have h4:2^(7*(i+1))=128*2^(7*i):=by rw [show 7*(i+1)=7*i+7 from by omega,Nat.pow_add,Nat.mul_comm]
         have h5:=Nat.mul_le_mul_right (2^(7*i)) (by omega:c.toNat % 128≤127)
         omega
       · by_cases h9:i≤8
         · rw [hsum (hp8 h9) (by omega)];exact hk
         · rw [w0n _ _ _ (by omega)] at hk⊢;exact hk
     · have hc2:c.toNat<128:=by have:=of_decide_eq_false h2;omega
       rw [if_neg (by omega),if_neg (by omega)] at hk
       have a1:c.toNat=0→((c.toNat:Int)==0)=true:=fun e=>by rw [e];rfl
       have a0:c.toNat≠0→((c.toNat:Int)==0)=false:=fun e=>by simp;omega
       have b1:0<i→decide ((i:Int)>0)=true:=fun e=>decide_eq_true (by omega)
       have b0:i=0→decide ((i:Int)>0)=false:=fun e=>decide_eq_false (by omega)
       have c1:i=9→((i:Int)==9)=true:=fun e=>by rw [e];rfl
       have c0:i≠9→((i:Int)==9)=false:=fun e=>by simp;omega
       have d1:1<c.toNat→decide ((c.toNat:Int)>1)=true:=fun e=>decide_eq_true (by omega)
       have d0: ¬1<c.toNat→decide ((c.toNat:Int)>1)=false:=fun e=>decide_eq_false (by omega)
       by_cases q1:c.toNat=0
       · by_cases q2:0<i
         · simp -dsimp only [go_sem,s1,a1 q1,b1 q2]
           refine(U0u l 0 11 k st h').mono ?_
           rintro r st' ⟨rfl,rfl⟩
           have h3:(st.set k (rd l 11)).getD k []= [.sl .no (encB l),.sc (.int .i64 11)]:=h'.set l 11
           simp -dsimp only [go_sem,h3,x1,s1]
           rw [if_pos (by omega)] at hk
           rw [←hk]
           refine⟨⟨⟨by omega,by omega⟩,by omega⟩,fun e=>absurd e (by decide),fun _=>⟨V,l.drop (i+1),rfl,?_⟩⟩
           try rw [List.take_length]
           exact W0e _ _ _ _ _ _
         · simp -dsimp only [go_sem,s1,a1 q1,b0 (by omega),c0 (by omega),h,x1]
           rw [if_neg (by omega)] at hk
           rw [←hk]
           have hcm:c.toNat % 128=c.toNat:=Nat.mod_eq_of_lt hc2
           have hVs:V=v+c.toNat*2^(7*i):=by
            rw [←hcm];refine hsum ?_ (by omega)
            by_cases h8:i≤8
            · exact hp8 h8
            · have h9:i=9:=by omega
              have h10:c.toNat≤1:=by omega
              rw [hcm,h9];omega
           refine⟨⟨⟨by omega,by omega⟩,by omega⟩,fun _=>⟨by rw [hVs],?_⟩,fun e=>absurd rfl e⟩
           (try rw [List.take_length]);rfl
       · by_cases q3:i=9
         · by_cases q4:1<c.toNat
           · simp -dsimp only [go_sem,s1,a0 q1,c1 q3,d1 q4]
             refine(U0u l 0 11 k st h').mono ?_
             rintro r st' ⟨rfl,rfl⟩
             have h3:(st.set k (rd l 11)).getD k []= [.sl .no (encB l),.sc (.int .i64 11)]:=h'.set l 11
             simp -dsimp only [go_sem,h3,x1,s1]
             rw [if_pos (by omega)] at hk
             rw [←hk]
             refine⟨⟨⟨by omega,by omega⟩,by omega⟩,fun e=>absurd e (by decide),fun _=>⟨V,l.drop (i+1),rfl,?_⟩⟩
             try rw [List.take_length]
             exact W0e _ _ _ _ _ _
           · simp -dsimp only [go_sem,s1,a0 q1,c1 q3,d0 q4,h,x1]
             rw [if_neg (by omega)] at hk
             rw [←hk]
             have hcm:c.toNat % 128=c.toNat:=Nat.mod_eq_of_lt hc2
             have hVs:V=v+c.toNat*2^(7*i):=by
              rw [←hcm];refine hsum ?_ (by omega)
              by_cases h8:i≤8
              · exact hp8 h8
              · have h9:i=9:=by omega
                have h10:c.toNat≤1:=by omega
                rw [hcm,h9];omega
             refine⟨⟨⟨by omega,by omega⟩,by omega⟩,fun _=>⟨by rw [hVs],?_⟩,fun e=>absurd rfl e⟩
             (try rw [List.take_length]);rfl
         · simp -dsimp only [go_sem,s1,a0 q1,c0 q3,h,x1]
           rw [if_neg (by omega)] at hk
           rw [←hk]
           have hcm:c.toNat % 128=c.toNat:=Nat.mod_eq_of_lt hc2
           have hVs:V=v+c.toNat*2^(7*i):=by
            rw [←hcm];refine hsum ?_ (by omega)
            by_cases h8:i≤8
            · exact hp8 h8
            · have h9:i=9:=by omega
              have h10:c.toNat≤1:=by omega
              rw [hcm,h9];omega
           refine⟨⟨⟨by omega,by omega⟩,by omega⟩,fun _=>⟨by rw [hVs],?_⟩,fun e=>absurd rfl e⟩
           (try rw [List.take_length]);rfl
   · have hge:i=min l.length 10:=by have:=of_decide_eq_false h1;omega
     simp -dsimp only [go_sem]
     refine Q0a ?_
     simp -dsimp only [go_sem,h]
     have hfin:J0h 0 0 l=(0,0,if 10≤l.length then 11 else 10):=by
      rw [←hk,hge]
      by_cases h10:10≤l.length
      · rw [if_pos h10,w0n _ _ _ (by omega)]
      · rw [if_neg h10,List.drop_eq_nil_of_le (by omega),J0h,if_neg (by omega)]
     refine ck (fun h2=> ?_) (fun h2=> ?_)
     · have h10:=of_decide_eq_true h2
       rw [if_pos (by omega)] at hfin
       simp -dsimp only [go_sem]
       refine(U0u l 0 11 k st h').mono ?_
       rintro r st' ⟨rfl,rfl⟩
       simp -dsimp only [go_sem]
       refine(U0u l 11 10 k _ (h'.set l 11)).mono ?_
       rintro r st' ⟨rfl,rfl⟩
       simp -dsimp only [go_sem,W0e]
       rw [hfin]
       exact⟨fun e=>absurd e (by decide),fun _=>⟨0,l,rfl,rfl⟩⟩
     · have h10:=of_decide_eq_false h2
       rw [if_neg (by omega)] at hfin
       simp -dsimp only [go_sem]
       refine(U0u l 0 10 k st h').mono ?_
       rintro r st' ⟨rfl,rfl⟩
       simp -dsimp only [go_sem]
       rw [hfin]
       exact⟨fun e=>absurd e (by decide),fun _=>⟨0,l,rfl,rfl⟩⟩
end Go.Pv
end
section
/-The reader's Uint,Int. -/
set_option maxRecDepth 100000
namespace Go.Pv
open Go.Proofs
theorem x2c (l:List UInt8) (k:Nat) (st:Q0g) (h:atR st k l 0) (hl:l.length≤1000000000000):PCalls Tryz.prog 148 [.gp k 0,.fn (.func 149) [.gp k 0] []] st
 (fun r st'=>r= .sc (.int .u64 (Q0k l 0).1)∧st'=st.set k (rd (Q0k l 0).2.1 (Q0k l 0).2.2)):=by
 have h':=h
 unfold atR rd at h
 refine Q0b none Tryz.func148 rfl fun E=>Q0a ?_
 simp -dsimp only [go_sem,h]
 refine(w2o l k st h' hl).mono ?_
 rintro r st' ⟨hA,hB⟩
 by_cases he:(J0h 0 0 l).2.2=0
 · obtain⟨rfl,rfl⟩:=hA he
   have h3:(st.set k (rd (l.drop (J0h 0 0 l).2.1) 0)).getD k []= [.sl .no (encB (l.drop (J0h 0 0 l).2.1)),.sc (.int .i64 0)]:=h'.set _ 0
   simp -dsimp only [go_sem,h3]
   rw [Q0k,if_neg (by simp),if_pos he]
   exact⟨rfl,rfl⟩
 · obtain⟨x,l',rfl,rfl⟩:=hB he
   have h3:(st.set k (rd l' (J0h 0 0 l).2.2)).getD k []= [.sl .no (encB l'),.sc (.int .i64 (J0h 0 0 l).2.2)]:=h'.set _ _
   have t1:((J0h 0 0 l).2.2==0)=false:=by simp [he]
   simp -dsimp only [go_sem,h3,t1]
   rw [Q0k,if_neg (by simp),if_neg he]
   exact⟨rfl,W0e _ _ _ _ _ _⟩
theorem v0x (l:List UInt8) (e:Int) (k:Nat) (st:Q0g) (h:atR st k l e) (hl:l.length≤1000000000000):PCalls Tryz.prog 109 [.gp k 0] st
 (fun r st'=>r= .sc (.int .u64 (Q0k l e).1)∧st'=st.set k (rd (Q0k l e).2.1 (Q0k l e).2.2)):=by
 have h':=h
 unfold atR rd at h
 refine Q0b none Tryz.func109 rfl fun E=>Q0a ?_
 simp -dsimp only [go_sem,h]
 refine ck (fun h1=> ?_) (fun h1=> ?_)
 · have he:e≠0:=by simpa using h1
   simp -dsimp only [go_sem]
   rw [Q0k,if_pos he]
   exact⟨rfl,h'.same.symm⟩
 · have he:e=0:=by simpa using h1
   subst he
   simp -dsimp only [go_sem]
   refine(x2c l k st h' hl).mono ?_
   rintro r st' ⟨rfl,rfl⟩
   simp -dsimp only [go_sem]
end Go.Pv
end
section
/-The reader's Int. -/
set_option maxRecDepth 100000
namespace Go.Pv
open Go.Proofs
theorem J3p (l:List UInt8) (e:Int) (k:Nat) (st:Q0g) (h:atR st k l e) (hl:l.length≤1000000000000):PCalls Tryz.prog 174 [.gp k 0] st
 (fun r st'=>r= .sc (.int .i64 (y0h (Q0k l e).1))∧st'=st.set k (rd (Q0k l e).2.1 (Q0k l e).2.2)):=by
 refine Q0b none Tryz.func174 rfl fun E=>Q0a ?_
 simp -dsimp only [go_sem]
 refine(v0x l e k st h hl).mono ?_
 rintro r st' ⟨rfl,rfl⟩
 have e1:=v2n (Q0k l e).1 (K0j l e)
 simp -dsimp only [go_sem,e1]
end Go.Pv
end
section
/-The reader's word. -/
set_option maxRecDepth 100000
namespace Go.Pv
open Go.Proofs
def J0k (l:List UInt8):Nat→Nat
 | 0=>0
 | n+1=>J0k l n+(l.getD n 0).toNat*2^(8*n)
theorem U0j (l:List UInt8): ∀n,J0k l n<2^(8*n)
 | 0=>by simp [J0k]
 | n+1=>by
  have h1:=U0j l n
  have h2:=Nat.mul_le_mul_right (2^(8*n)) (by have:=(l.getD n 0).toNat_lt;omega:(l.getD n 0).toNat≤255)
  have h3:2^(8*(n+1))=256*2^(8*n):=by rw [show 8*(n+1)=8*n+8 from by omega,Nat.pow_add,Nat.mul_comm]
  rw [J0k];omega
theorem G3m (l:List UInt8) (k:Nat) (st:Q0g) (h:atR st k l 0) (hl:l.length≤1000000000000):PCalls Tryz.prog 175 [.gp k 0] st
 (fun r st'=>r= .sc (.int .u64 (if l.length<8 then 0 else J0k l 8:Nat))∧st'=st.set k (if l.length<8 then rd l 10 else rd (l.drop 8) 0)):=by
 have h':=h
 unfold atR rd at h
 refine Q0b none Tryz.func175 rfl fun E=>Q0a ?_
 simp -dsimp only [go_sem,h]
 refine ck (fun h1=> ?_) (fun h1=> ?_)
 · have h8:l.length<8:=by have:=of_decide_eq_true h1;omega
   simp -dsimp only [go_sem]
   refine(U0u l 0 10 k st h').mono ?_
   rintro r st' ⟨rfl,rfl⟩
   simp -dsimp only [go_sem]
   rw [if_pos h8,if_pos h8];exact⟨rfl,rfl⟩
 · have h8: ¬l.length<8:=by have:=of_decide_eq_false h1;omega
   simp -dsimp only [go_sem]
   refine Q0e [true,false,false,true,false,false,false,false,false,false,false,false,false,true] 0 0
    (fun n s=> ∃i,n=8-i∧i≤8∧s=⟨[.gp k 0,.junk,.junk,.sc (.int .u64 (J0k l i:Nat)),.junk,.junk,.junk,.junk,.junk,.junk,.junk,.junk,.junk,.sc (.int .i64 (i:Nat))]++List.replicate 25 .junk,[],[],st⟩) 8 ?_ ?_
   · simp -dsimp only [go_sem]
     exact⟨0,by omega,by omega,rfl⟩
   · rintro n s ⟨i,rfl,hi,rfl⟩
     simp -dsimp only [go_sem]
     refine ck (fun h2=> ?_) (fun h2=> ?_)
     · have hlt:i<8:=by have:=of_decide_eq_true h2;omega
       have g1:=w0u l i (by omega)
       have hv:=U0j l i
       have hc:=(l.getD i 0).toNat_lt
       have hw:=U0j l (i+1)
       have hpw:2^(8*(i+1))≤2^64:=Nat.pow_le_pow_right (by decide) (by omega)
       have m2:IntKind.i64.wrap (8*(i:Int))=((8*i:Nat):Int):=by rw [show 8*(i:Int)=((8*i:Nat):Int) from by omega,Q0i _ (by omega)]
       have x1:IntKind.i64.wrap ((i:Int)+1)=((i+1:Nat):Int):=by rw [show((i:Int)+1)=((i+1:Nat):Int) from rfl,Q0i _ (by omega)]
       have s1:bOr .u64 (J0k l i:Int) (bShl .u64 (IntKind.u64.wrap ((l.getD i 0).toNat:Int)) ((8*i:Nat):Int))=(J0k l (i+1):Int):=by
        have hvl:J0k l i<18446744073709551616:=by rw [J0k] at hw;omega
        have hml:(l.getD i 0).toNat*2^(8*i)<18446744073709551616:=by rw [J0k] at hw;omega
        rw [Z0m _ (by omega),W0r _ _ (by omega),x0f _ _ hvl (Nat.mod_lt _ (by decide)),Nat.mod_eq_of_lt hml,w0e _ _ (8*i) hv (Nat.mul_mod_left ..),J0k]
       simp -dsimp only [go_sem,h,g1,m2,s1,x1]
       exact⟨⟨by omega,by omega⟩,by omega,8-(i+1),by omega,i+1,rfl,by omega,rfl⟩
     · have hge:i=8:=by have:=of_decide_eq_false h2;omega
       simp -dsimp only [go_sem]
       refine Q0a ?_
       simp -dsimp only [go_sem,h]
       rw [if_neg h8,if_neg h8,hge];try rw [List.take_length]
       exact⟨⟨by omega,by omega⟩,rfl,rfl⟩
end Go.Pv
end
