/- Parts of the walk: C3, C4, C5, C6, C7, C8, C9. -/
import Derived.Test.YthichlfphjbadaaGreatZP
import Derived.Test.YthichlfphjbadaaGreatZH
import Derived.Test.YthichlfphjbadaaGreatZE
set_option linter.unusedVariables false
set_option linter.unusedSimpArgs false
section
/-The document's Num. -/
set_option maxRecDepth 100000
namespace Go.Pv
open Go.Proofs
set_option maxHeartbeats 1000000 in
theorem V1z (l:List UInt8) (x:Nm) (st:Q0g) (hl:l.length≤10000000000000) (hw:wN x):PCalls Tryz.prog 43 [.sl .no (encB l),.agg (encN x)] st (fun r st'=>r= .sl (.fresh 1) (encB (l++numB x))∧st'=st):=by
 unfold wN at hw
 refine Q0b (some 1) Tryz.func43 rfl fun E=>Q0a ?_
 simp -dsimp only [go_sem]
 refine(Z0m x st (by omega)).mono ?_
 rintro r st ⟨rfl,rfl⟩
 simp -dsimp only [go_sem]
 refine ck (fun h=> ?_) (fun h=> ?_)
 · have hr:Q0f x=false:=by simpa using h
   simp -dsimp only [go_sem]
   refine⟨by omega,?_⟩
   rw [numB,if_neg (by simp [hr]),List.append_nil]
 · have hr:Q0f x=true:=by simpa using h
   obtain⟨r1,r2,r3⟩:=w0i hr
   have hhead:J0c x<18446744073709551616:=by unfold J0c;split<;>omega
   have s1:IntKind.u64.wrap (IntKind.i64.wrap (2*(x.w.length:Int)))=((2*x.w.length:Nat):Int):=by
    rw [show 2*(x.w.length:Int)=((2*x.w.length:Nat):Int) from by omega,Q0k _ (by omega),Z0c _ (by omega)]
   have s2:IntKind.u64.wrap (((2*x.w.length:Nat):Int)+1)=((2*x.w.length+1:Nat):Int):=by
    rw [show((2*x.w.length:Nat):Int)+1=((2*x.w.length+1:Nat):Int) from rfl,Z0c _ (by omega)]
   simp -dsimp only [go_sem,s1]
   have h10:=Z0l hhead
   have hz:=Q1y (i:=x.exp) (by omega) (by omega)
   have h11:=Z0l hz
   refine ck (fun hn=> ?_) (fun hn=> ?_)
   · have hd:2*x.w.length+1=J0c x:=by unfold J0c;rw [hn];rfl
     simp -dsimp only [go_sem,s2,hd]
     refine(j0o l (J0c x) st (by omega) hhead).mono ?_
     rintro r st ⟨rfl,rfl⟩
     simp -dsimp only [go_sem]
     refine ck (fun h0=> ?_) (fun h0=> ?_)
     · have hw0:x.w= []:=List.length_eq_zero_iff.1 (Y0z (b:=0) h0)
       simp -dsimp only [go_sem]
       rw [numB,if_pos hr,if_pos hw0,List.append_nil]
     · have hw0:x.w≠ []:=fun e=>G0f (b:=0) h0 (by rw [e];rfl)
       simp -dsimp only [go_sem]
       refine(v2r (l++uvar (J0c x)) x.exp st (by simp;omega) (by omega) (by omega)).mono ?_
       rintro r st ⟨rfl,rfl⟩
       simp -dsimp only [go_sem]
       obtain⟨T0,hT0⟩: ∃n,n=l.length+(uvar (J0c x)).length:=⟨_,rfl⟩
       obtain⟨base,hbase⟩: ∃b,b=l++uvar (J0c x)++uvar (zig x.exp):=⟨_,rfl⟩
       have hbl:base.length≤l.length+20:=by rw [hbase];simp;omega
       have hb2:base.length=l.length+(uvar (J0c x)).length+(uvar (zig x.exp)).length:=by rw [hbase];simp;omega
       simp only [←hbase]
       have hnum:l++numB x=base++Z0w x.w:=by rw [numB,if_pos hr,if_neg hw0,hbase];simp
       refine Q0e [false,false,false,true,false,false,true,true] 1 2
        (fun n s=> ∃i,n=x.w.length-i∧i≤x.w.length∧s=⟨[.junk,.junk,.junk,.lp 0 0,.junk,.junk,.sl (.own 1) (encB (base++Z0w (x.w.take i))),.sc (.int .i64 (i:Nat))]++List.replicate 52 .junk,[encN x],[(T0,1),((base++Z0w (x.w.take i)).length,1)],st⟩) x.w.length ?_ ?_
       · simp -dsimp only [go_sem]
         refine⟨0,by omega,by omega,?_⟩
         simp [Z0w,hT0,hb2]
       · rintro n s ⟨i,rfl,hi,rfl⟩
         have hwl:=K0u (x.w.take i)
         rw [List.length_take,Nat.min_eq_left hi] at hwl
         simp -dsimp only [go_sem]
         refine ck (fun h1=> ?_) (fun h1=> ?_)
         · have hlt:i<x.w.length:=by have:=of_decide_eq_true h1;omega
           have g1:=X0t x.w i hlt
           obtain⟨w,hwe⟩: ∃w,w=(x.w.getD i 0).toNat:=⟨_,rfl⟩
           rw [←hwe] at g1
           have hwlt:w<18446744073709551616:=by rw [hwe];exact(x.w.getD i 0).toNat_lt
           have x1:IntKind.i64.wrap ((i:Int)+1)=((i+1:Nat):Int):=by rw [show((i:Int)+1)=((i+1:Nat):Int) from rfl,Q0k _ (by omega)]
           simp -dsimp only [go_sem]
           obtain⟨b2,hb3⟩: ∃b2,b2=base++Z0w (x.w.take i):=⟨_,rfl⟩
           have hb4:b2.length=base.length+(Z0w (x.w.take i)).length:=by rw [hb3];simp
           simp only [←hb3,←hb4]
           refine Q0e [false,false,false,true,false,false,true,true,true] 1 2
            (fun n s=> ∃k,n=8-k∧k≤8∧s=⟨[.junk,.junk,.junk,.lp 0 0,.junk,.junk,.sl (.own 1) (encB (b2++U0a w k)),.sc (.int .i64 (i:Nat)),.sc (.int .i64 (8*k:Nat))]++List.replicate 51 .junk,[encN x],[(T0,1),((b2++U0a w k).length,1)],st⟩) 8 ?_ ?_
           · simp -dsimp only [go_sem]
             refine⟨0,by omega,by omega,?_⟩
             simp [U0a]
           · rintro n s ⟨k,rfl,hk,rfl⟩
             have hkl:=X0c w k
             simp -dsimp only [go_sem]
             refine ck (fun h2=> ?_) (fun h2=> ?_)
             · have hk8:k<8:=by have:=of_decide_eq_true h2;omega
               have m2:IntKind.u8.wrap (bAnd .u64 (bShr .u64 (w:Int) ((8*k:Nat):Int)) 255)=((UInt8.ofNat (w/2^(8*k))).toNat:Int):=by
                rw [V0e _ _ (by omega),show(255:Int)=((255:Nat):Int) from rfl,W0g _ _ (Nat.lt_of_le_of_lt (Nat.div_le_self _ _) hwlt) (by omega),show w/2^(8*k)&&&255=w/2^(8*k) % 256 from Nat.and_two_pow_sub_one_eq_mod _ 8,H0k];simp
               have x2:IntKind.i64.wrap (((8*k:Nat):Int)+8)=((8*(k+1):Nat):Int):=by rw [show((8*k:Nat):Int)+8=((8*(k+1):Nat):Int) from by omega,Q0k _ (by omega)]
               simp -dsimp only [go_sem,g1,m2,x2]
               exact⟨⟨by omega,hlt⟩,by omega,by omega,8-(k+1),by omega,k+1,rfl,by omega,by rw [z0q,←List.append_assoc];simp [Nat.add_assoc]⟩
             · have hk8:k=8:=by have:=of_decide_eq_false h2;omega
               simp -dsimp only [go_sem]
               refine Q0a ?_
               simp -dsimp only [go_sem,x1]
               refine⟨x.w.length-(i+1),by omega,i+1,rfl,by omega,?_⟩
               rw [hk8,H0l x.w i hlt,←hwe,hb3]
               simp [Nat.add_assoc]
         · have hge:i=x.w.length:=by have:=of_decide_eq_false h1;omega
           simp -dsimp only [go_sem]
           refine Q0a ?_
           simp -dsimp only [go_sem]
           rw [hnum,hge,List.take_length]
   · have hd:2*x.w.length=J0c x:=by unfold J0c;rw [hn];rfl
     simp -dsimp only [go_sem,hd]
     refine(j0o l (J0c x) st (by omega) hhead).mono ?_
     rintro r st ⟨rfl,rfl⟩
     simp -dsimp only [go_sem]
     refine ck (fun h0=> ?_) (fun h0=> ?_)
     · have hw0:x.w= []:=List.length_eq_zero_iff.1 (Y0z (b:=0) h0)
       simp -dsimp only [go_sem]
       rw [numB,if_pos hr,if_pos hw0,List.append_nil]
     · have hw0:x.w≠ []:=fun e=>G0f (b:=0) h0 (by rw [e];rfl)
       simp -dsimp only [go_sem]
       refine(v2r (l++uvar (J0c x)) x.exp st (by simp;omega) (by omega) (by omega)).mono ?_
       rintro r st ⟨rfl,rfl⟩
       simp -dsimp only [go_sem]
       obtain⟨T0,hT0⟩: ∃n,n=l.length+(uvar (J0c x)).length:=⟨_,rfl⟩
       obtain⟨base,hbase⟩: ∃b,b=l++uvar (J0c x)++uvar (zig x.exp):=⟨_,rfl⟩
       have hbl:base.length≤l.length+20:=by rw [hbase];simp;omega
       have hb2:base.length=l.length+(uvar (J0c x)).length+(uvar (zig x.exp)).length:=by rw [hbase];simp;omega
       simp only [←hbase]
       have hnum:l++numB x=base++Z0w x.w:=by rw [numB,if_pos hr,if_neg hw0,hbase];simp
       refine Q0e [false,false,false,true,false,false,true,true] 1 2
        (fun n s=> ∃i,n=x.w.length-i∧i≤x.w.length∧s=⟨[.junk,.junk,.junk,.lp 0 0,.junk,.junk,.sl (.own 1) (encB (base++Z0w (x.w.take i))),.sc (.int .i64 (i:Nat))]++List.replicate 52 .junk,[encN x],[(T0,1),((base++Z0w (x.w.take i)).length,1)],st⟩) x.w.length ?_ ?_
       · simp -dsimp only [go_sem]
         refine⟨0,by omega,by omega,?_⟩
         simp [Z0w,hT0,hb2]
       · rintro n s ⟨i,rfl,hi,rfl⟩
         have hwl:=K0u (x.w.take i)
         rw [List.length_take,Nat.min_eq_left hi] at hwl
         simp -dsimp only [go_sem]
         refine ck (fun h1=> ?_) (fun h1=> ?_)
         · have hlt:i<x.w.length:=by have:=of_decide_eq_true h1;omega
           have g1:=X0t x.w i hlt
           obtain⟨w,hwe⟩: ∃w,w=(x.w.getD i 0).toNat:=⟨_,rfl⟩
           rw [←hwe] at g1
           have hwlt:w<18446744073709551616:=by rw [hwe];exact(x.w.getD i 0).toNat_lt
           have x1:IntKind.i64.wrap ((i:Int)+1)=((i+1:Nat):Int):=by rw [show((i:Int)+1)=((i+1:Nat):Int) from rfl,Q0k _ (by omega)]
           simp -dsimp only [go_sem]
           obtain⟨b2,hb3⟩: ∃b2,b2=base++Z0w (x.w.take i):=⟨_,rfl⟩
           have hb4:b2.length=base.length+(Z0w (x.w.take i)).length:=by rw [hb3];simp
           simp only [←hb3,←hb4]
           refine Q0e [false,false,false,true,false,false,true,true,true] 1 2
            (fun n s=> ∃k,n=8-k∧k≤8∧s=⟨[.junk,.junk,.junk,.lp 0 0,.junk,.junk,.sl (.own 1) (encB (b2++U0a w k)),.sc (.int .i64 (i:Nat)),.sc (.int .i64 (8*k:Nat))]++List.replicate 51 .junk,[encN x],[(T0,1),((b2++U0a w k).length,1)],st⟩) 8 ?_ ?_
           · simp -dsimp only [go_sem]
             refine⟨0,by omega,by omega,?_⟩
             simp [U0a]
           · rintro n s ⟨k,rfl,hk,rfl⟩
             have hkl:=X0c w k
             simp -dsimp only [go_sem]
             refine ck (fun h2=> ?_) (fun h2=> ?_)
             · have hk8:k<8:=by have:=of_decide_eq_true h2;omega
               have m2:IntKind.u8.wrap (bAnd .u64 (bShr .u64 (w:Int) ((8*k:Nat):Int)) 255)=((UInt8.ofNat (w/2^(8*k))).toNat:Int):=by
                rw [V0e _ _ (by omega),show(255:Int)=((255:Nat):Int) from rfl,W0g _ _ (Nat.lt_of_le_of_lt (Nat.div_le_self _ _) hwlt) (by omega),show w/2^(8*k)&&&255=w/2^(8*k) % 256 from Nat.and_two_pow_sub_one_eq_mod _ 8,H0k];simp
               have x2:IntKind.i64.wrap (((8*k:Nat):Int)+8)=((8*(k+1):Nat):Int):=by rw [show((8*k:Nat):Int)+8=((8*(k+1):Nat):Int) from by omega,Q0k _ (by omega)]
               simp -dsimp only [go_sem,g1,m2,x2]
               exact⟨⟨by omega,hlt⟩,by omega,by omega,8-(k+1),by omega,k+1,rfl,by omega,by rw [z0q,←List.append_assoc];simp [Nat.add_assoc]⟩
             · have hk8:k=8:=by have:=of_decide_eq_false h2;omega
               simp -dsimp only [go_sem]
               refine Q0a ?_
               simp -dsimp only [go_sem,x1]
               refine⟨x.w.length-(i+1),by omega,i+1,rfl,by omega,?_⟩
               rw [hk8,H0l x.w i hlt,←hwe,hb3]
               simp [Nat.add_assoc]
         · have hge:i=x.w.length:=by have:=of_decide_eq_false h1;omega
           simp -dsimp only [go_sem]
           refine Q0a ?_
           simp -dsimp only [go_sem]
           rw [hnum,hge,List.take_length]
end Go.Pv
end
section
/-code.Iv,Box;the document's Iv,Box. -/
set_option maxRecDepth 100000
namespace Go.Pv
open Go.Proofs
theorem PCalls.plain2 {P:Program} {f:FuncId} {args es:List PV} {st:Q0g} {sz:Nat} (h:PCalls P f args st (fun r st'=>(r= .sl (.fresh sz) es∨r= .sl .no es)∧st'=st)):PCalls P f args st (fun r st'=>r= .sl .no es∧st'=st):=
 fun w g vs hs hr=>(h w g vs hs hr).mono fun _ _ ⟨v,g',r,st',he,hx,ho,hv,q⟩=>by
  obtain⟨rfl | rfl,rfl⟩:=q
  · exact⟨v,g',.sl .no es,_,he,hx,ho,hv.1,rfl,rfl⟩
  · exact⟨v,g',.sl .no es,_,he,hx,ho,hv,rfl,rfl⟩
theorem X0f (x:Nm):(numB x).length≤600:=by
 unfold numB
 split
 · rename_i hr
   obtain⟨r1,r2,r3⟩:=w0i hr
   have hhead:J0c x<18446744073709551616:=by unfold J0c;split<;>omega
   have h10:=Z0l hhead
   have hz:=Z0l (Q1y (i:=x.exp) (by omega) (by omega))
   have h12:=K0u x.w
   rw [List.length_append]
   split
   · simp;omega
   · rw [List.length_append];omega
 · simp
theorem X2h (a:Ivl):(ivB a).length≤1200:=by
 have h1:=X0f a.lo
 have h2:=X0f a.hi
 unfold ivB
 split
 · rw [List.length_append];omega
 · simp
theorem x1m (l:List Ivl) (i:Nat) (h:i<l.length):(l.take (i+1)).flatMap ivB=(l.take i).flatMap ivB++ivB (l.getD i default):=by
 rw [Y0d l i default h];simp
theorem y0z (l:List Ivl):(l.flatMap ivB).length≤1200*l.length:=by
 induction l with
 | nil=>simp
 | cons x l ih=>rw [List.flatMap_cons,List.length_append,List.length_cons];have:=X2h x;omega
theorem X4g (l:List UInt8) (x:Ivl) (st:Q0g) (hl:l.length≤1000000000000) (hw:wI x):PCalls Tryz.prog 84 [.sl .no (encB l),.agg (encI x)] st (fun r st'=>r= .sl (.fresh 1) (encB (l++ivB x))∧st'=st):=by
 refine Q0b (some 1) Tryz.func84 rfl fun E=>Q0a ?_
 have n1:=X0f x.lo
 simp -dsimp only [go_sem]
 refine(v0o x st hw).mono ?_
 rintro r st ⟨rfl,rfl⟩
 simp -dsimp only [go_sem]
 refine ck (fun h=> ?_) (fun h=> ?_)
 · have hr:Q0l x=false:=by simpa using h
   simp -dsimp only [go_sem]
   refine(J1t l st (by omega)).mono ?_
   rintro r st ⟨rfl,rfl⟩
   simp -dsimp only [go_sem]
   rw [ivB,if_neg (by simp [hr]),List.append_nil]
 · have hr:Q0l x=true:=by simpa using h
   simp -dsimp only [go_sem]
   refine Q0m Z0t 17 (.step 0 [] (.step 1 [] (.step 2 [] (.step 4 [] (.step 5 [] (.step 3 [5] (.step 6 [] (.step 7 [] (.done))))))))) (by decide+kernel) (by simp) ?_
   simp -dsimp only [go_sem]
   refine(J1x l x.lo st (by omega) hw.1).mono ?_
   rintro r st ⟨rfl,rfl⟩
   simp -dsimp only [go_sem]
   refine(J1x (l++numB x.lo) x.hi st (by simp;omega) hw.2).mono ?_
   rintro r st ⟨rfl,rfl⟩
   simp -dsimp only [go_sem]
   rw [ivB,if_pos hr,List.append_assoc]
theorem y3l (l:List UInt8) (x:Ivl) (st:Q0g) (hl:l.length≤1000000000000) (hw:wI x):PCalls Tryz.prog 86 [.sl .no (encB l),.agg (encI x)] st (fun r st'=>r= .sl (.fresh 1) (encB (l++ivB x))∧st'=st):=by
 refine Q0b (some 1) Tryz.func86 rfl fun E=>Q0a ?_
 have n1:=X0f x.lo
 simp -dsimp only [go_sem]
 refine(V0n x st hw).mono ?_
 rintro r st ⟨rfl,rfl⟩
 simp -dsimp only [go_sem]
 refine ck (fun h=> ?_) (fun h=> ?_)
 · have hr:Q0l x=false:=by simpa using h
   simp -dsimp only [go_sem]
   refine⟨by omega,?_⟩
   rw [ivB,if_neg (by simp [hr]),List.append_nil]
 · have hr:Q0l x=true:=by simpa using h
   simp -dsimp only [go_sem]
   refine Q0m Z0t 18 (.step 0 [] (.step 1 [] (.step 2 [] (.step 4 [] (.step 5 [] (.step 3 [5] (.step 6 [] (.step 7 [] (.done))))))))) (by decide+kernel) (by simp) ?_
   simp -dsimp only [go_sem]
   refine(V1z l x.lo st (by omega) hw.1).mono ?_
   rintro r st ⟨rfl,rfl⟩
   simp -dsimp only [go_sem]
   refine(V1z (l++numB x.lo) x.hi st (by simp;omega) hw.2).mono ?_
   rintro r st ⟨rfl,rfl⟩
   simp -dsimp only [go_sem]
   rw [ivB,if_pos hr,List.append_assoc]
theorem y2d (l:List UInt8) (x:List Ivl) (st:Q0g) (hl:l.length≤100000000000) (hw:wB x):PCalls Tryz.prog 41 [.sl .no (encB l),.sl .no (Q0t x)] st (fun r st'=>r= .sl .no (encB (l++boxB x))∧st'=st):=by
 refine Q0b none Tryz.func41 rfl fun E=>Q0a ?_
 have hxl:=hw.1
 simp -dsimp only [go_sem]
 refine(Y1d x st hw).mono ?_
 rintro r st ⟨rfl,rfl⟩
 simp -dsimp only [go_sem]
 refine ck (fun h=> ?_) (fun h=> ?_)
 · have hr:rightB x=false:=by simpa using h
   simp -dsimp only [go_sem]
   refine(J1t l st (by omega)).plain.mono ?_
   rintro r st ⟨rfl,rfl⟩
   simp -dsimp only [go_sem]
   rw [boxB,if_neg (by simp [hr]),List.append_nil]
 · have hr:rightB x=true:=by simpa using h
   have hx4:=W0r hr
   have w1:IntKind.u64.wrap (x.length:Int)=(x.length:Int):=Z0c _ (by omega)
   have h10:=Z0l (v:=x.length) (by omega)
   simp -dsimp only [go_sem,w1]
   refine(y0l l x.length st (by omega) (by omega)).plain.mono ?_
   rintro r st ⟨rfl,rfl⟩
   simp -dsimp only [go_sem]
   obtain⟨base,hb⟩: ∃b,b=l++uvar x.length:=⟨_,rfl⟩
   have hbl:base.length≤l.length+10:=by rw [hb];simp;omega
   rw [←hb]
   refine Q0e [false,false,false,false,false,true,false,false,false,false,false,false,false,false,false,false,false,false,true,true,true] 0 0
    (fun n s=> ∃i,n=x.length-i∧i≤x.length∧s=⟨List.replicate 5 .junk++([.sl .no (encB (base++(x.take i).flatMap ivB))]++(List.replicate 12 .junk++([.sl .no (Q0t x),.sc (.int .i64 x.length),.sc (.int .i64 (i:Nat))]++List.replicate 8 .junk))),[],[],st⟩) x.length ?_ ?_
   · simp -dsimp only [go_sem]
     refine⟨0,by omega,by omega,?_⟩
     simp
   · rintro n s ⟨i,rfl,hi,rfl⟩
     simp -dsimp only [go_sem]
     refine ck (fun h1=> ?_) (fun h1=> ?_)
     · have hlt:i<x.length:=by have:=of_decide_eq_true h1;omega
       have g1:=J0e x i hlt
       have hfl:=y0z (x.take i)
       rw [List.length_take,Nat.min_eq_left hi] at hfl
       have x1:IntKind.i64.wrap ((i:Int)+1)=((i+1:Nat):Int):=by rw [show((i:Int)+1)=((i+1:Nat):Int) from rfl,Q0k _ (by omega)]
       simp -dsimp only [go_sem,g1]
       refine⟨⟨by omega,hlt⟩,?_⟩
       refine(X4g (base++(x.take i).flatMap ivB) (x.getD i default) st (by rw [List.length_append];omega) (hw.2 i hlt)).plain.mono ?_
       rintro r st ⟨rfl,rfl⟩
       simp -dsimp only [go_sem,x1]
       refine⟨x.length-(i+1),by omega,i+1,rfl,by omega,?_⟩
       rw [x1m x i hlt,←List.append_assoc]
     · have hge:i=x.length:=by have:=of_decide_eq_false h1;omega
       simp -dsimp only [go_sem]
       refine Q0a ?_
       simp -dsimp only [go_sem]
       rw [hge,List.take_length,hb,boxB,if_pos hr,List.append_assoc]
theorem U3i (l:List UInt8) (x:List Ivl) (st:Q0g) (hl:l.length≤100000000000) (hw:wB x):PCalls Tryz.prog 44 [.sl .no (encB l),.sl .no (Q0t x)] st (fun r st'=>r= .sl .no (encB (l++boxB x))∧st'=st):=by
 refine PCalls.plain2 (sz:=1) ?_
 refine Q0b none Tryz.func44 rfl fun E=>Q0a ?_
 have hxl:=hw.1
 simp -dsimp only [go_sem]
 refine(U0i x st hw).mono ?_
 rintro r st ⟨rfl,rfl⟩
 simp -dsimp only [go_sem]
 refine ck (fun h=> ?_) (fun h=> ?_)
 · have hr:rightB x=false:=by simpa using h
   simp -dsimp only [go_sem]
   refine⟨by omega,?_⟩
   rw [boxB,if_neg (by simp [hr]),List.append_nil]
   simp
 · have hr:rightB x=true:=by simpa using h
   have hx4:=W0r hr
   have w1:IntKind.u64.wrap (x.length:Int)=(x.length:Int):=Z0c _ (by omega)
   have h10:=Z0l (v:=x.length) (by omega)
   simp -dsimp only [go_sem,w1]
   refine(j0o l x.length st (by omega) (by omega)).plain.mono ?_
   rintro r st ⟨rfl,rfl⟩
   simp -dsimp only [go_sem]
   obtain⟨base,hb⟩: ∃b,b=l++uvar x.length:=⟨_,rfl⟩
   have hbl:base.length≤l.length+10:=by rw [hb];simp;omega
   rw [←hb]
   refine Q0e [false,true,false,false,false,true,true] 0 0
    (fun n s=> ∃i,n=x.length-i∧i≤x.length∧s=⟨[.junk,.sl .no (Q0t x),.junk,.junk,.junk,.sl .no (encB (base++(x.take i).flatMap ivB)),.sc (.int .i64 (i:Nat))]++List.replicate 24 .junk,[],[],st⟩) x.length ?_ ?_
   · simp -dsimp only [go_sem]
     refine⟨0,by omega,by omega,?_⟩
     simp
   · rintro n s ⟨i,rfl,hi,rfl⟩
     simp -dsimp only [go_sem]
     refine ck (fun h1=> ?_) (fun h1=> ?_)
     · have hlt:i<x.length:=by have:=of_decide_eq_true h1;omega
       have g1:=J0e x i hlt
       have hfl:=y0z (x.take i)
       rw [List.length_take,Nat.min_eq_left hi] at hfl
       have x1:IntKind.i64.wrap ((i:Int)+1)=((i+1:Nat):Int):=by rw [show((i:Int)+1)=((i+1:Nat):Int) from rfl,Q0k _ (by omega)]
       simp -dsimp only [go_sem,g1]
       refine⟨⟨by omega,hlt⟩,?_⟩
       refine(y3l (base++(x.take i).flatMap ivB) (x.getD i default) st (by rw [List.length_append];omega) (hw.2 i hlt)).plain.mono ?_
       rintro r st ⟨rfl,rfl⟩
       simp -dsimp only [go_sem,x1]
       refine⟨x.length-(i+1),by omega,i+1,rfl,by omega,?_⟩
       rw [x1m x i hlt,←List.append_assoc]
     · have hge:i=x.length:=by have:=of_decide_eq_false h1;omega
       simp -dsimp only [go_sem]
       refine Q0a ?_
       simp -dsimp only [go_sem]
       rw [hge,List.take_length,hb,boxB,if_pos hr,List.append_assoc]
       simp
end Go.Pv
end
section
/-The reader:Read,fail,digits. -/
set_option maxRecDepth 100000
namespace Go.Pv
open Go.Proofs
def rd (l:List UInt8) (e:Int):List PV:= [.sl .no (encB l),.sc (.int .i64 e)]
def atR (st:Q0g) (k:Nat) (l:List UInt8) (e:Int):Prop:=st.getD k []=rd l e
theorem atR.lt {st:Q0g} {k:Nat} {l:List UInt8} {e:Int} (h:atR st k l e):k<st.length:=by
 refine Nat.lt_of_not_le fun hn=> ?_
 unfold atR at h
 rw [List.getD_eq_getElem?_getD,List.getElem?_eq_none hn] at h
 cases h
theorem atR.set {st:Q0g} {k:Nat} {l:List UInt8} {e:Int} (h:atR st k l e) (l':List UInt8) (e':Int):atR (st.set k (rd l' e')) k l' e':=by
 unfold atR
 rw [Q0n _ _ _ _ h.lt]
theorem V0v (st:Q0g) (k:Nat) (l l':List UInt8) (e e':Int):(st.set k (rd l e)).set k (rd l' e')=st.set k (rd l' e'):=List.set_set ..
theorem atR.same {st:Q0g} {k:Nat} {l:List UInt8} {e:Int} (h:atR st k l e):st.set k (rd l e)=st:=by
 have hlt:=h.lt
 unfold atR at h
 rw [←h,List.getD_eq_getElem?_getD,List.getElem?_eq_getElem hlt,Option.getD_some,List.set_getElem_self]
theorem U3g (l:List UInt8) (st:Q0g) (hl:l.length≤140737488355328):PCalls Tryz.prog 105 [.sl .no (encB l)] st (fun r st'=>r= .gp st.length 0∧st'=st++ [rd l 0]):=by
 refine Q0b none Tryz.func105 rfl fun E=>Q0h (Q0a ?_)
 simp -dsimp only [go_sem]
 refine Q0h (Q0a ?_)
 simp -dsimp only [go_sem]
 refine(J1t l st hl).plain.mono ?_
 rintro r st' ⟨rfl,rfl⟩
 simp -dsimp only [go_sem]
 refine Y0a 0 (by simp [go_sem]) (by simp) (Q0a ?_)
 simp -dsimp only [go_sem]
 rfl
theorem U0m (l:List UInt8) (e x:Int) (k:Nat) (st:Q0g) (h:atR st k l e):PCalls Tryz.prog 173 [.gp k 0,.sc (.int .i64 x)] st (fun r st'=>r= .tup []∧st'=st.set k (rd l (if e=0 then x else e))):=by
 have h':=h
 unfold atR rd at h
 refine Q0b none Tryz.func173 rfl fun E=>Q0a ?_
 simp -dsimp only [go_sem,h]
 refine ck (fun h1=> ?_) (fun h1=> ?_)
 · have he:e=0:=by simpa using h1
   simp -dsimp only [go_sem,h]
   rw [if_pos he];rfl
 · have he:e≠0:=by simpa using h1
   simp -dsimp only [go_sem,h]
   rw [if_neg he];exact h'.same.symm
theorem H3e (l:List UInt8) (e:Int) (k:Nat) (st:Q0g) (h:atR st k l e):PCalls Tryz.prog 106 [.gp k 0] st (fun r st'=>r= .sc (.int .i64 e)∧st'=st):=by
 unfold atR rd at h
 refine Q0b none Tryz.func106 rfl fun E=>Q0a ?_
 simp -dsimp only [go_sem,h]
theorem G3i (l:List UInt8) (e:Int) (k:Nat) (st:Q0g) (h:atR st k l e):PCalls Tryz.prog 107 [.gp k 0] st (fun r st'=>r= .sc (.int .i64 l.length)∧st'=st):=by
 unfold atR rd at h
 refine Q0b none Tryz.func107 rfl fun E=>Q0a ?_
 simp -dsimp only [go_sem,h]
end Go.Pv
end
section
/-The reader's digits. -/
set_option maxRecDepth 100000
namespace Go.Pv
open Go.Proofs
set_option maxHeartbeats 1000000 in
theorem k2a (l:List UInt8) (k:Nat) (st:Q0g) (h:atR st k l 0) (hl:l.length≤1000000000000):PCalls Tryz.prog 149 [.gp k 0] st
 (fun r st'=>((K0i 0 0 l).2.2=0→r= .sc (.int .u64 (K0i 0 0 l).1)∧st'=st.set k (rd (l.drop (K0i 0 0 l).2.1) 0))∧
  ((K0i 0 0 l).2.2≠0→ ∃(x:Int) (l':List UInt8),r= .sc (.int .u64 x)∧st'=st.set k (rd l' (K0i 0 0 l).2.2))):=by
 have h':=h
 unfold atR rd at h
 refine Q0b none Tryz.func149 rfl fun E=>Q0a ?_
 simp -dsimp only [go_sem]
 refine Q0m Z0t 71 (.step 0 [] (.step 1 [] (.step 2 [] (.step 3 [] (.step 4 [] (.step 5 [] (.step 6 [] (.step 7 [] (.step 8 [] (.step 9 [] (.step 10 [] (.step 11 [] (.step 12 [] (.done)))))))))))))) (by decide+kernel) (by simp) ?_
 have m1:(if (10:Int)<(l.length:Int) then(10:Int) else(l.length:Int))=((min l.length 10:Nat):Int):=by split<;>omega
 simp -dsimp only [go_sem,h,m1]
 refine⟨⟨⟨by omega,by omega⟩,by omega⟩,?_⟩
 have hM:(l.take (min l.length 10)).length=min l.length 10:=by rw [List.length_take];omega
 refine Q0e [true,false,false,true,false,false,false,false,false,false,false,false,false,false,false,false,true,true,true] 0 0
  (fun n s=> ∃i v,n=min l.length 10-i∧i≤min l.length 10∧v<18446744073709551616∧(i≤9→v<2^(7*i))∧K0i i v (l.drop i)=K0i 0 0 l∧
   s=⟨[.gp k 0,.junk,.junk,.sc (.int .u64 (v:Nat))]++(List.replicate 12 .junk++([.sl .no (encB (l.take (min l.length 10))),.sc (.int .i64 (min l.length 10:Nat)),.sc (.int .i64 (i:Nat))]++List.replicate 52 .junk)),[],[],st⟩) (min l.length 10) ?_ ?_
 · simp -dsimp only [go_sem,hM]
   refine⟨0,0,by omega,by omega,by omega,fun _=>by omega,rfl,?_⟩
   rfl
 · rintro n s ⟨i,v,rfl,hi,hv,hv2,hk,rfl⟩
   simp -dsimp only [go_sem]
   refine ck (fun h1=> ?_) (fun h1=> ?_)
   · have hlt:i<min l.length 10:=by have:=of_decide_eq_true h1;omega
     have g1:=y1r (l.take (min l.length 10)) i (by omega)
     rw [X2m _ _ _ _ hlt] at g1
     obtain⟨c,hc⟩: ∃c,c=l.getD i 0:=⟨_,rfl⟩
     rw [X2u l i 0 (by omega),K0i,←hc] at hk
     rw [←hc] at g1
     have hcl:=c.toNat_lt
     have m2:IntKind.i64.wrap (7*(i:Int))=((7*i:Nat):Int):=by rw [show 7*(i:Int)=((7*i:Nat):Int) from by omega,Q0k _ (by omega)]
     have x1:IntKind.i64.wrap ((i:Int)+1)=((i+1:Nat):Int):=by rw [show((i:Int)+1)=((i+1:Nat):Int) from rfl,Q0k _ (by omega)]
     simp -dsimp only [go_sem,g1,m2]
     obtain⟨V,hV⟩: ∃V,V=v|||(c.toNat % 128*2^(7*i) % 18446744073709551616):=⟨_,rfl⟩
     have hV2:V<18446744073709551616:=by rw [hV];exact Nat.or_lt_two_pow (n:=64) hv (Nat.mod_lt _ (by decide))
     have s1:bOr .u64 (v:Int) (bShl .u64 (IntKind.u64.wrap (bAnd .u8 (c.toNat:Int) 127)) ((7*i:Nat):Int))=(V:Int):=by
      rw [v1f _ (by omega),Z0c _ (by omega),W0f _ _ (by omega),k0d _ _ hv (Nat.mod_lt _ (by decide)),←hV]
     have hsum:c.toNat % 128*2^(7*i)<18446744073709551616→i≤9→V=v+c.toNat % 128*2^(7*i):=fun h1 h2=>by
      rw [hV,Nat.mod_eq_of_lt h1,y0w v _ (7*i) (hv2 h2) (Nat.mul_mod_left ..)]
     have hp8:i≤8→c.toNat % 128*2^(7*i)<18446744073709551616:=fun h=>by
      have:2^(7*i)≤2^56:=Nat.pow_le_pow_right (by decide) (by omega)
      have:=Nat.mul_le_mul (by omega:c.toNat % 128≤127) this
      omega
     refine⟨⟨by omega,by omega⟩,by omega,?_⟩
     refine ck (fun h2=> ?_) (fun h2=> ?_)
     · have hc2:128≤c.toNat:=by have:=of_decide_eq_true h2;omega
       rw [if_neg (by omega),if_pos hc2] at hk
       simp -dsimp only [go_sem,x1,s1]
       refine⟨min l.length 10-(i+1),by omega,i+1,V,rfl,by omega,hV2,fun h9=> ?_,?_,rfl⟩
       · rw [hsum (hp8 (by omega)) (by omega)]
         have h3:=hv2 (by omega)
         have h4:2^(7*(i+1))=128*2^(7*i):=by rw [show 7*(i+1)=7*i+7 from by omega,Nat.pow_add,Nat.mul_comm]
         have h5:=Nat.mul_le_mul_right (2^(7*i)) (by omega:c.toNat % 128≤127)
         omega
       · by_cases h9:i≤8
         · rw [hsum (hp8 h9) (by omega)];exact hk
         · rw [U1t _ _ _ (by omega)] at hk⊢;exact hk
     · have hc2:c.toNat<128:=by have:=of_decide_eq_false h2;omega
       rw [if_neg (by omega),if_neg (by omega)] at hk
       have a1:c.toNat=0→((c.toNat:Int)==0)=true:=fun e=>by rw [e];rfl
       have a0:c.toNat≠0→((c.toNat:Int)==0)=false:=fun e=>by simp;omega
       have b1:0<i→decide ((i:Int)>0)=true:=fun e=>decide_eq_true (by omega)
       have b0:i=0→decide ((i:Int)>0)=false:=fun e=>decide_eq_false (by omega)
       have c1:i=9→((i:Int)==9)=true:=fun e=>by rw [e];rfl
       have c0:i≠9→((i:Int)==9)=false:=fun e=>by simp;omega
       have d1:1<c.toNat→decide ((c.toNat:Int)>1)=true:=fun e=>decide_eq_true (by omega)
       have d0: ¬1<c.toNat→decide ((c.toNat:Int)>1)=false:=fun e=>decide_eq_false (by omega)
       by_cases q1:c.toNat=0
       · by_cases q2:0<i
         · simp -dsimp only [go_sem,s1,a1 q1,b1 q2]
           refine(U0m l 0 11 k st h').mono ?_
           rintro r st' ⟨rfl,rfl⟩
           have h3:(st.set k (rd l 11)).getD k []= [.sl .no (encB l),.sc (.int .i64 11)]:=h'.set l 11
           simp -dsimp only [go_sem,h3,x1,s1]
           rw [if_pos (by omega)] at hk
           rw [←hk]
           refine⟨⟨⟨by omega,by omega⟩,by omega⟩,fun e=>absurd e (by decide),fun _=>⟨V,l.drop (i+1),rfl,?_⟩⟩
           try rw [List.take_length]
           exact V0v _ _ _ _ _ _
         · simp -dsimp only [go_sem,s1,a1 q1,b0 (by omega),c0 (by omega),h,x1]
           rw [if_neg (by omega)] at hk
           rw [←hk]
           have hcm:c.toNat % 128=c.toNat:=Nat.mod_eq_of_lt hc2
           have hVs:V=v+c.toNat*2^(7*i):=by
            rw [←hcm];refine hsum ?_ (by omega)
            by_cases h8:i≤8
            · exact hp8 h8
            · have h9:i=9:=by omega
              have h10:c.toNat≤1:=by omega
              rw [hcm,h9];omega
           refine⟨⟨⟨by omega,by omega⟩,by omega⟩,fun _=>⟨by rw [hVs],?_⟩,fun e=>absurd rfl e⟩
           (try rw [List.take_length]);rfl
       · by_cases q3:i=9
         · by_cases q4:1<c.toNat
           · simp -dsimp only [go_sem,s1,a0 q1,c1 q3,d1 q4]
             refine(U0m l 0 11 k st h').mono ?_
             rintro r st' ⟨rfl,rfl⟩
             have h3:(st.set k (rd l 11)).getD k []= [.sl .no (encB l),.sc (.int .i64 11)]:=h'.set l 11
             simp -dsimp only [go_sem,h3,x1,s1]
             rw [if_pos (by omega)] at hk
             rw [←hk]
             refine⟨⟨⟨by omega,by omega⟩,by omega⟩,fun e=>absurd e (by decide),fun _=>⟨V,l.drop (i+1),rfl,?_⟩⟩
             try rw [List.take_length]
             exact V0v _ _ _ _ _ _
           · simp -dsimp only [go_sem,s1,a0 q1,c1 q3,d0 q4,h,x1]
             rw [if_neg (by omega)] at hk
             rw [←hk]
             have hcm:c.toNat % 128=c.toNat:=Nat.mod_eq_of_lt hc2
             have hVs:V=v+c.toNat*2^(7*i):=by
              rw [←hcm];refine hsum ?_ (by omega)
              by_cases h8:i≤8
              · exact hp8 h8
              · have h9:i=9:=by omega
                have h10:c.toNat≤1:=by omega
                rw [hcm,h9];omega
             refine⟨⟨⟨by omega,by omega⟩,by omega⟩,fun _=>⟨by rw [hVs],?_⟩,fun e=>absurd rfl e⟩
             (try rw [List.take_length]);rfl
         · simp -dsimp only [go_sem,s1,a0 q1,c0 q3,h,x1]
           rw [if_neg (by omega)] at hk
           rw [←hk]
           have hcm:c.toNat % 128=c.toNat:=Nat.mod_eq_of_lt hc2
           have hVs:V=v+c.toNat*2^(7*i):=by
            rw [←hcm];refine hsum ?_ (by omega)
            by_cases h8:i≤8
            · exact hp8 h8
            · have h9:i=9:=by omega
              have h10:c.toNat≤1:=by omega
              rw [hcm,h9];omega
           refine⟨⟨⟨by omega,by omega⟩,by omega⟩,fun _=>⟨by rw [hVs],?_⟩,fun e=>absurd rfl e⟩
           (try rw [List.take_length]);rfl
   · have hge:i=min l.length 10:=by have:=of_decide_eq_false h1;omega
     simp -dsimp only [go_sem]
     refine Q0a ?_
     simp -dsimp only [go_sem,h]
     have hfin:K0i 0 0 l=(0,0,if 10≤l.length then 11 else 10):=by
      rw [←hk,hge]
      by_cases h10:10≤l.length
      · rw [if_pos h10,U1t _ _ _ (by omega)]
      · rw [if_neg h10,List.drop_eq_nil_of_le (by omega),K0i,if_neg (by omega)]
     refine ck (fun h2=> ?_) (fun h2=> ?_)
     · have h10:=of_decide_eq_true h2
       rw [if_pos (by omega)] at hfin
       simp -dsimp only [go_sem]
       refine(U0m l 0 11 k st h').mono ?_
       rintro r st' ⟨rfl,rfl⟩
       simp -dsimp only [go_sem]
       refine(U0m l 11 10 k _ (h'.set l 11)).mono ?_
       rintro r st' ⟨rfl,rfl⟩
       simp -dsimp only [go_sem,V0v]
       rw [hfin]
       exact⟨fun e=>absurd e (by decide),fun _=>⟨0,l,rfl,rfl⟩⟩
     · have h10:=of_decide_eq_false h2
       rw [if_neg (by omega)] at hfin
       simp -dsimp only [go_sem]
       refine(U0m l 0 10 k st h').mono ?_
       rintro r st' ⟨rfl,rfl⟩
       simp -dsimp only [go_sem]
       rw [hfin]
       exact⟨fun e=>absurd e (by decide),fun _=>⟨0,l,rfl,rfl⟩⟩
end Go.Pv
end
section
/-The reader's Uint,Int. -/
set_option maxRecDepth 100000
namespace Go.Pv
open Go.Proofs
theorem H2p (l:List UInt8) (k:Nat) (st:Q0g) (h:atR st k l 0) (hl:l.length≤1000000000000):PCalls Tryz.prog 148 [.gp k 0,.fn (.func 149) [.gp k 0] []] st
 (fun r st'=>r= .sc (.int .u64 (Q0s l 0).1)∧st'=st.set k (rd (Q0s l 0).2.1 (Q0s l 0).2.2)):=by
 have h':=h
 unfold atR rd at h
 refine Q0b none Tryz.func148 rfl fun E=>Q0a ?_
 simp -dsimp only [go_sem,h]
 refine(k2a l k st h' hl).mono ?_
 rintro r st' ⟨hA,hB⟩
 by_cases he:(K0i 0 0 l).2.2=0
 · obtain⟨rfl,rfl⟩:=hA he
   have h3:(st.set k (rd (l.drop (K0i 0 0 l).2.1) 0)).getD k []= [.sl .no (encB (l.drop (K0i 0 0 l).2.1)),.sc (.int .i64 0)]:=h'.set _ 0
   simp -dsimp only [go_sem,h3]
   rw [Q0s,if_neg (by simp),if_pos he]
   exact⟨rfl,rfl⟩
 · obtain⟨x,l',rfl,rfl⟩:=hB he
   have h3:(st.set k (rd l' (K0i 0 0 l).2.2)).getD k []= [.sl .no (encB l'),.sc (.int .i64 (K0i 0 0 l).2.2)]:=h'.set _ _
   have t1:((K0i 0 0 l).2.2==0)=false:=by simp [he]
   simp -dsimp only [go_sem,h3,t1]
   rw [Q0s,if_neg (by simp),if_neg he]
   exact⟨rfl,V0v _ _ _ _ _ _⟩
theorem v0a (l:List UInt8) (e:Int) (k:Nat) (st:Q0g) (h:atR st k l e) (hl:l.length≤1000000000000):PCalls Tryz.prog 109 [.gp k 0] st
 (fun r st'=>r= .sc (.int .u64 (Q0s l e).1)∧st'=st.set k (rd (Q0s l e).2.1 (Q0s l e).2.2)):=by
 have h':=h
 unfold atR rd at h
 refine Q0b none Tryz.func109 rfl fun E=>Q0a ?_
 simp -dsimp only [go_sem,h]
 refine ck (fun h1=> ?_) (fun h1=> ?_)
 · have he:e≠0:=by simpa using h1
   simp -dsimp only [go_sem]
   rw [Q0s,if_pos he]
   exact⟨rfl,h'.same.symm⟩
 · have he:e=0:=by simpa using h1
   subst he
   simp -dsimp only [go_sem]
   refine(H2p l k st h' hl).mono ?_
   rintro r st' ⟨rfl,rfl⟩
   simp -dsimp only [go_sem]
end Go.Pv
end
section
/-The reader's Int. -/
set_option maxRecDepth 100000
namespace Go.Pv
open Go.Proofs
theorem Z3d (l:List UInt8) (e:Int) (k:Nat) (st:Q0g) (h:atR st k l e) (hl:l.length≤1000000000000):PCalls Tryz.prog 174 [.gp k 0] st
 (fun r st'=>r= .sc (.int .i64 (H1a (Q0s l e).1))∧st'=st.set k (rd (Q0s l e).2.1 (Q0s l e).2.2)):=by
 refine Q0b none Tryz.func174 rfl fun E=>Q0a ?_
 simp -dsimp only [go_sem]
 refine(v0a l e k st h hl).mono ?_
 rintro r st' ⟨rfl,rfl⟩
 have e1:=j2a (Q0s l e).1 (H0m l e)
 simp -dsimp only [go_sem,e1]
end Go.Pv
end
section
/-The reader's word. -/
set_option maxRecDepth 100000
namespace Go.Pv
open Go.Proofs
def W0p (l:List UInt8):Nat→Nat
 | 0=>0
 | n+1=>W0p l n+(l.getD n 0).toNat*2^(8*n)
theorem z0p (l:List UInt8): ∀n,W0p l n<2^(8*n)
 | 0=>by simp [W0p]
 | n+1=>by
  have h1:=z0p l n
  have h2:=Nat.mul_le_mul_right (2^(8*n)) (by have:=(l.getD n 0).toNat_lt;omega:(l.getD n 0).toNat≤255)
  have h3:2^(8*(n+1))=256*2^(8*n):=by rw [show 8*(n+1)=8*n+8 from by omega,Nat.pow_add,Nat.mul_comm]
  rw [W0p];omega
theorem Y3e (l:List UInt8) (k:Nat) (st:Q0g) (h:atR st k l 0) (hl:l.length≤1000000000000):PCalls Tryz.prog 175 [.gp k 0] st
 (fun r st'=>r= .sc (.int .u64 (if l.length<8 then 0 else W0p l 8:Nat))∧st'=st.set k (if l.length<8 then rd l 10 else rd (l.drop 8) 0)):=by
 have h':=h
 unfold atR rd at h
 refine Q0b none Tryz.func175 rfl fun E=>Q0a ?_
 simp -dsimp only [go_sem,h]
 refine ck (fun h1=> ?_) (fun h1=> ?_)
 · have h8:l.length<8:=by have:=of_decide_eq_true h1;omega
   simp -dsimp only [go_sem]
   refine(U0m l 0 10 k st h').mono ?_
   rintro r st' ⟨rfl,rfl⟩
   simp -dsimp only [go_sem]
   rw [if_pos h8,if_pos h8];exact⟨rfl,rfl⟩
 · have h8: ¬l.length<8:=by have:=of_decide_eq_false h1;omega
   simp -dsimp only [go_sem]
   refine Q0e [true,false,false,true,false,false,false,false,false,false,false,false,false,true] 0 0
    (fun n s=> ∃i,n=8-i∧i≤8∧s=⟨[.gp k 0,.junk,.junk,.sc (.int .u64 (W0p l i:Nat)),.junk,.junk,.junk,.junk,.junk,.junk,.junk,.junk,.junk,.sc (.int .i64 (i:Nat))]++List.replicate 25 .junk,[],[],st⟩) 8 ?_ ?_
   · simp -dsimp only [go_sem]
     exact⟨0,by omega,by omega,rfl⟩
   · rintro n s ⟨i,rfl,hi,rfl⟩
     simp -dsimp only [go_sem]
     refine ck (fun h2=> ?_) (fun h2=> ?_)
     · have hlt:i<8:=by have:=of_decide_eq_true h2;omega
       have g1:=y1r l i (by omega)
       have hv:=z0p l i
       have hc:=(l.getD i 0).toNat_lt
       have hw:=z0p l (i+1)
       have hpw:2^(8*(i+1))≤2^64:=Nat.pow_le_pow_right (by decide) (by omega)
       have m2:IntKind.i64.wrap (8*(i:Int))=((8*i:Nat):Int):=by rw [show 8*(i:Int)=((8*i:Nat):Int) from by omega,Q0k _ (by omega)]
       have x1:IntKind.i64.wrap ((i:Int)+1)=((i+1:Nat):Int):=by rw [show((i:Int)+1)=((i+1:Nat):Int) from rfl,Q0k _ (by omega)]
       have s1:bOr .u64 (W0p l i:Int) (bShl .u64 (IntKind.u64.wrap ((l.getD i 0).toNat:Int)) ((8*i:Nat):Int))=(W0p l (i+1):Int):=by
        have hvl:W0p l i<18446744073709551616:=by rw [W0p] at hw;omega
        have hml:(l.getD i 0).toNat*2^(8*i)<18446744073709551616:=by rw [W0p] at hw;omega
        rw [Z0c _ (by omega),W0f _ _ (by omega),k0d _ _ hvl (Nat.mod_lt _ (by decide)),Nat.mod_eq_of_lt hml,y0w _ _ (8*i) hv (Nat.mul_mod_left ..),W0p]
       simp -dsimp only [go_sem,h,g1,m2,s1,x1]
       exact⟨⟨by omega,by omega⟩,by omega,8-(i+1),by omega,i+1,rfl,by omega,rfl⟩
     · have hge:i=8:=by have:=of_decide_eq_false h2;omega
       simp -dsimp only [go_sem]
       refine Q0a ?_
       simp -dsimp only [go_sem,h]
       rw [if_neg h8,if_neg h8,hge];try rw [List.take_length]
       exact⟨⟨by omega,by omega⟩,rfl,rfl⟩
end Go.Pv
end
