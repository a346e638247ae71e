/- Parts of the walk: N133, N134, N135. -/
import Derived.Test.YthichlfphjbadaaGreatZEO
import Derived.Test.YthichlfphjbadaaGreatZEN
set_option linter.unusedVariables false
set_option linter.unusedSimpArgs false
section
/-The walks of RecordStates and RecordBack. -/
set_option maxRecDepth 100000
namespace Go.Pv
open Go.Proofs
theorem W2q (s:Sx):(stB s).1.length≤1000000:=by
 unfold stB
 split
 · rename_i h
   obtain⟨h1,h2,h3,h4,h5,h6⟩:=W2o h
   have u1:=Z0x (v:=s.idx.toNat) (by omega)
   have u2:=Z0x (v:=s.f.m.length) (by omega)
   have n1:=X0f s.t
   have n2:=X0f s.h
   have nm:=H0r s.f.m
   have na:=Y0m (m:=4) s.f.a fun i hi=>by rw [h6 i hi];exact h4
   have nb:=q1a s.f.r
   have hr:=(Z0s (Z0z h).2.2.2.2).2.2.2.2.1
   simp only [List.length_append]
   omega
 · simp
theorem y1t (s:Sg):(segB s).1.length≤1000000:=by
 unfold segB
 split
 · rename_i h
   obtain⟨h1,h2,h3,h4,h5,_,_,h6⟩:=Y0o h
   have u1:=Z0x (v:=s.fr.toNat) (by omega)
   have u2:=Z0x (v:=s.to.toNat) (by omega)
   have n1:=X0f s.t0
   have n2:=X0f s.t1
   have nb:=q1a s.box
   have hl:=(W0z h6).2
   simp only [List.length_append]
   omega
 · simp
end Go.Pv
end
section
/-The walk of RecordBack. -/
set_option maxRecDepth 100000
namespace Go.Pv
open Go.Proofs
set_option maxHeartbeats 2000000 in
theorem z1n (l:List UInt64):PCalls Tryz.prog 6 [.sl .no (encW l)] [] (fun r st'=>r= .sc (.bool true)):=by
 refine Q0b none Tryz.func6 rfl fun E=>Q0h (Q0a ?_)
 simp -dsimp only [go_sem]
 refine Q0h (Q0a ?_)
 simp -dsimp only [go_sem]
 refine(x1y _).mono ?_
 rintro r st ⟨rfl,rfl⟩
 simp -dsimp only [go_sem]
 refine Q0h (Q0a ?_)
 simp -dsimp only [go_sem]
 refine(Z2q l _).mono ?_
 rintro r st' ⟨rfl,rfl⟩
 simp -dsimp only [go_sem]
 refine Q0h (Q0a ?_)
 simp -dsimp only [go_sem]
 refine(w2n l 0 0 [dk l 0] rfl (by omega)).mono ?_
 rintro r st' ⟨n,hn1,hn2,rfl,rfl⟩
 simp -dsimp only [go_sem]
 refine(U1r l 1 0 n 3 [dk l 1] rfl (by omega) ⟨hn1,hn2⟩ (by omega)).mono ?_
 rintro r st' ⟨a,at',q,j,hT,hal,hj1,hj2,rfl,rfl⟩
 simp -dsimp only [go_sem]
 have hrs: ∀i,i<a.length→X0d (a.getD i default)=true:=fun i hi=>X1x (hT.1 i hi).1
 refine Q0h (Q0a ?_)
 simp -dsimp only [go_sem]
 refine Q0e [false,false,false,true,true,true] 0 0 (fun c q=> ∃i,c=a.length-i∧i≤a.length∧q=⟨[.junk,.junk,.junk,.gp 0 0,.sl .no (W0m a),.sc (.int .i64 (i:Nat))]++List.replicate 80 .junk,[],[],[dk l j]⟩) a.length ?_ ?_
 · simp -dsimp only [go_sem]
   exact⟨0,by omega,by omega,rfl⟩
 · rintro c q ⟨i,rfl,hi,rfl⟩
   simp -dsimp only [go_sem]
   refine ck (fun h6=> ?_) (fun h6=> ?_)
   · have hlt:i<a.length:=by have:=of_decide_eq_true h6;omega
     have g1:=j1p a i hlt
     have x1:=G0k i (by omega)
     have hr:=hrs i hlt
     have w1:=X1z hr
     have e1:(segB (a.getD i default)).2=0:=by rw [segB,if_pos hr]
     have e2:=G1j (a.getD i default) hr
     have hl:=y1t (a.getD i default)
     simp -dsimp only [go_sem,g1]
     refine⟨by omega,?_⟩
     refine(Z1n (a.getD i default) _ w1).mono ?_
     rintro r st' ⟨rfl,rfl⟩
     rw [e1]
     simp -dsimp only [go_sem]
     refine(Y0q (segB (a.getD i default)).1 _ (by omega)).mono ?_
     rintro r st' ⟨rfl,rfl⟩
     rw [e2]
     simp -dsimp only [go_sem]
     refine Q0o Z0p 86 (.step 0 [] (.step 1 [] (.step 2 [] (.step 3 [] (.step 4 [] (.step 5 [] (.step 6 [] (.step 7 [] (.step 8 [] (.step 9 [] (.step 10 [] (.step 11 [] (.step 12 [] (.step 13 [] (.step 14 [] (.done)))))))))))))))) (by decide+kernel) (by simp) ?_
     have d1:decide (a.getD i default=a.getD i default)=true:=decide_eq_true rfl
     simp -dsimp only [go_sem,g1]
     refine⟨by omega,?_⟩
     refine(q1v (a.getD i default) (a.getD i default) _ w1 w1).mono ?_
     rintro r st' ⟨rfl,rfl⟩
     simp -dsimp only [go_sem,d1,x1]
     exact⟨a.length-(i+1),by omega,i+1,rfl,by omega,rfl⟩
   · simp -dsimp only [go_sem]
     refine Q0h (Q0a ?_)
     simp -dsimp only [go_sem]
     refine(w2n l j 0 [dk l j] rfl (by omega)).mono ?_
     rintro r st' ⟨n2,hm1,hm2,rfl,rfl⟩
     simp -dsimp only [go_sem]
     refine(V1d l (j+1) 0 n2 2 2 [dk l (j+1)] rfl (by omega) hm1 hm2 (by omega) (by omega)).mono ?_
     rintro r st' ⟨f,j1,hf,hj3,hj4,rfl,rfl⟩
     have wff:=hf.wF hm2 (by omega)
     simp -dsimp only [go_sem]
     refine(w0w l j1 0 n2 f [dk l j1] rfl (by omega) hm1 hm2 hf).mono ?_
     rintro r st' ⟨p,j2,hp,rfl,hj5,hj6,rfl,rfl⟩
     simp -dsimp only [go_sem]
     have r0:PCalls Tryz.prog 19 [.gp 0 0,.agg (K1z p)] [dk l j2] (fun r st'=> ∃s j,Z0g s=true∧s.f.m.length=n2∧j2≤j∧j≤j2+300∧r= .agg (J0v s)∧st'= [dk l j2].set 0 (dk l j)):=
      V1c l j2 0 n2 p [dk l j2] rfl (by omega) hm1 hm2 hp wff
     refine r0.mono ?_
     rintro r st' ⟨u,j3,hu,hum,hj7,hj8,rfl,rfl⟩
     have wu:=z0f hu
     have e1:(stB u).2=0:=by rw [stB,if_pos hu]
     have e2:=k1y u hu
     have hl:=W2q u
     have d2:decide (u=u)=true:=decide_eq_true rfl
     simp -dsimp only [go_sem]
     refine Q0h (Q0a ?_)
     simp -dsimp only [go_sem]
     have q1: ∀st,PCalls Tryz.prog 15 [.agg (J0v u)] st (fun r st'=>r= .tup [.sl .no (encB (stB u).1),.sc (.int .i64 (stB u).2)]∧st'=st):=fun st=>x0w u st wu
     refine(q1 _).mono ?_
     rintro r st' ⟨rfl,rfl⟩
     rw [e1]
     simp -dsimp only [go_sem]
     refine Q0h (Q0a ?_)
     simp -dsimp only [go_sem]
     refine(Y0h (stB u).1 _ (by omega)).mono ?_
     rintro r st' ⟨rfl,rfl⟩
     rw [e2]
     simp -dsimp only [go_sem]
     refine Q0a ?_
     simp -dsimp only [go_sem]
     have q2: ∀st,PCalls Tryz.prog 27 [.agg (J0v u),.agg (J0v u)] st (fun r st'=>r= .sc (.bool (decide (u=u)))∧st'=st):=fun st=>k0b u u st wu wu
     refine(q2 _).mono ?_
     rintro r st' ⟨rfl,rfl⟩
     simp -dsimp only [go_sem,d2]
end Go.Pv
end
section
/-The walk of RecordSpoilt. -/
set_option maxRecDepth 100000
namespace Go.Pv
open Go.Proofs
theorem J3f {s:Sg} (h:X0d s=true):(segB s).1≠ []:=by
 intro e
 have h2:=G1j s h
 rw [e] at h2
 have h3:(segR []).2=0:=by rw [h2]
 revert h3
 decide
theorem H3d {s:Sx} (h:Z0g s=true):(stB s).1≠ []:=by
 intro e
 have h2:=k1y s h
 rw [e] at h2
 have h3:(stR []).2=0:=by rw [h2]
 revert h3
 decide
theorem v2l (x:Int): ∃c:UInt8,IntKind.u8.wrap x=(c.toNat:Int):=by
 have h:0≤IntKind.u8.wrap x∧IntKind.u8.wrap x<256:=by
  simp [IntKind.wrap,IntKind.bits,IntKind.signed]
  omega
 refine⟨UInt8.ofNat (IntKind.u8.wrap x).toNat,?_⟩
 rw [UInt8.toNat_ofNat'];omega
theorem K2v (T:List UInt8) (k:Nat) (c:UInt8) (h:k<T.length):over (encB T) k [.sc (.int .u8 c.toNat)]=encB (T.set k c):=by
 unfold over
 have e:encB (T.set k c)=(encB T).set k (.sc (.int .u8 c.toNat)):=by unfold encB;rw [List.map_set]
 rw [e,List.set_eq_take_append_cons_drop,if_pos (by simp [encB];omega)]
 simp
theorem j1r (T:List UInt8) {nL nT:Nat} :(encB T).all (PV.lim nL nT)=true:=by
 simp only [encB,List.all_eq_true,List.mem_map]
 rintro _ ⟨c,_,rfl⟩
 rfl
theorem Rep.pre_sl {w:World} {g:Gh} {v:Value} {all:List PV} {n:Nat} (h:Rep w g v (.pre all n)):Rep w g v (.sl .no (all.take n)):=by
 cases h with
 | pre all n b off sz cap cf hn hcap hsz hvis hc hr=>
  have e:(all.take n).length=n:=by rw [List.length_take];omega
  have e2: ∀i,i<n→(all.take n).getD i .junk=all.getD i .junk:=fun i hi=>by simp [List.getD_eq_getElem?_getD,List.getElem?_take,hi]
  have hm:n*sz≤all.length*sz:=Nat.mul_le_mul_right _ hn
  have:=Rep.sl (w:=w) (g:=g) .no (all.take n) b off sz cap cf rfl (fun h=>by cases h) (by omega) (fun i hi=>by rw [e] at hi;rw [e2 i hi];exact hsz i (by omega))
   (fun h0=>by rw [e] at h0⊢;have:=hvis (by omega);omega) (fun i j hi hj=>hc i j (by omega) hj) (fun i j hi hj=>by rw [e] at hi;rw [e2 i hi];exact hr i j (by omega) hj)
  rw [e] at this
  exact this
theorem x2g {E:Ent} {s:PFS} (t:Nat) (all:List PV) (n:Nat) (ht:s.pa.getD t .junk= .pre all n):Weak E s { s with pa:=s.pa.set t (.sl .no (all.take n)) } :=by
 intro a w g F h
 refine⟨g,F,h.ext,h.store,h.frame,h.defers,by simp [h.len],fun k hk=> ?_⟩
 simp only [List.length_set] at hk⊢
 by_cases e:t=k
 · subst e
   rw [Q0p _ _ _ _ hk]
   have:=h.tmps t hk
   rw [ht] at this
   exact .base _ _ this.pre_inv.pre_sl
 · rw [Q0j _ _ _ _ _ e]
   exact h.tmps k hk
theorem H2h (l:List UInt8):flat (encB l)=encB l:=by
 induction l with
 | nil=>rfl
 | cons c l ih=>
  show flat (.sc (.int .u8 c.toNat)::encB l)=_
  rw [w0r,ih];rfl
set_option maxHeartbeats 2000000 in
theorem W1b (l:List UInt64) (at' by' how:Nat) (hat:at'<65536) (hby:by'<256) (hhow:how<256):PCalls Tryz.prog 7 [.sl .no (encW l),.sc (.int .u16 at'),.sc (.int .u8 by'),.sc (.int .u8 how)] [] (fun r st'=>r= .sc (.bool true)):=by
 refine Q0b none Tryz.func7 rfl fun E=>Q0h (Q0a ?_)
 simp -dsimp only [go_sem]
 refine Q0h (Q0a ?_)
 simp -dsimp only [go_sem]
 refine(x1y _).mono ?_
 rintro r st ⟨rfl,rfl⟩
 simp -dsimp only [go_sem]
 refine Q0h (Q0a ?_)
 simp -dsimp only [go_sem]
 refine(Z2q l _).mono ?_
 rintro r st' ⟨rfl,rfl⟩
 simp -dsimp only [go_sem]
 refine Q0h (Q0a ?_)
 simp -dsimp only [go_sem]
 refine(w2n l 0 0 [dk l 0] rfl (by omega)).mono ?_
 rintro r st' ⟨n2,hm1,hm2,rfl,rfl⟩
 simp -dsimp only [go_sem]
 refine(V1d l 1 0 n2 2 2 [dk l 1] rfl (by omega) hm1 hm2 (by omega) (by omega)).mono ?_
 rintro r st' ⟨f,j1,hf,hj3,hj4,rfl,rfl⟩
 have wff:=hf.wF hm2 (by omega)
 simp -dsimp only [go_sem]
 refine(w0w l j1 0 n2 f [dk l j1] rfl (by omega) hm1 hm2 hf).mono ?_
 rintro r st' ⟨p,j2,hp,rfl,hj5,hj6,rfl,rfl⟩
 simp -dsimp only [go_sem]
 have r0:PCalls Tryz.prog 19 [.gp 0 0,.agg (K1z p)] [dk l j2] (fun r st'=> ∃s j,Z0g s=true∧s.f.m.length=n2∧j2≤j∧j≤j2+300∧r= .agg (J0v s)∧st'= [dk l j2].set 0 (dk l j)):=
  V1c l j2 0 n2 p [dk l j2] rfl (by omega) hm1 hm2 hp wff
 refine r0.mono ?_
 rintro r st' ⟨u,j3,hu,hum,hj7,hj8,rfl,rfl⟩
 have wu:=z0f hu
 have e1:(stB u).2=0:=by rw [stB,if_pos hu]
 have hl:=W2q u
 have hne:=H3d hu
 simp -dsimp only [go_sem]
 refine Q0h (Q0a ?_)
 simp -dsimp only [go_sem]
 have q1: ∀st,PCalls Tryz.prog 15 [.agg (J0v u)] st (fun r st'=>r= .tup [.sl .no (encB (stB u).1),.sc (.int .i64 (stB u).2)]∧st'=st):=fun st=>x0w u st wu
 refine(q1 _).mono ?_
 rintro r st' ⟨rfl,rfl⟩
 rw [e1]
 simp -dsimp only [go_sem]
 refine Q0x [false,true,true,true,false,false,false,false,false,false,false,true,true] 0 0 (fun s=> ∃B st',B≠ []∧B.length≤1000000∧s=⟨[.junk,.sc (.int .u16 at'),.sc (.int .u8 by'),.sc (.int .u8 how),.junk,.junk,.junk,.junk,.junk,.junk,.junk,.sl .no (encB B),.sc (.int .i64 0)]++List.replicate 125 .junk,[],[],st'⟩) ?_ ?_
 · simp -dsimp only [go_sem]
   refine ck (fun h1=> ?_) (fun h1=> ?_)
   · simp -dsimp only [go_sem]
     refine(w2n l j3 0 [dk l j3] rfl (by omega)).mono ?_
     rintro r st' ⟨n,hn1,hn2,rfl,rfl⟩
     simp -dsimp only [go_sem]
     refine(U1r l (j3+1) 0 n 3 [dk l (j3+1)] rfl (by omega) ⟨hn1,hn2⟩ (by omega)).mono ?_
     rintro r st' ⟨a,at'',q,j,hT,hal,hj11,hj12,rfl,rfl⟩
     simp -dsimp only [go_sem]
     refine ck (fun h2=> ?_) (fun h2=> ?_)
     · simp -dsimp only [go_sem]
     have hlt:0<a.length:=by
      have:=beq_eq_false_iff_ne.1 h2
      omega
     have hr:=X1x (hT.1 0 hlt).1
     have w1:=X1z hr
     have e3:(segB (a.getD 0 default)).2=0:=by rw [segB,if_pos hr]
     have hl3:=y1t (a.getD 0 default)
     have g1:=j1p a 0 hlt
     simp -dsimp only [go_sem,g1]
     refine⟨hlt,?_⟩
     have q3: ∀st,PCalls Tryz.prog 23 [.agg (encS (a.getD 0 default))] st (fun r st'=>r= .tup [.sl .no (encB (segB (a.getD 0 default)).1),.sc (.int .i64 (segB (a.getD 0 default)).2)]∧st'=st):=fun st=>Z1n _ st w1
     refine(q3 _).mono ?_
     rintro r st' ⟨rfl,rfl⟩
     rw [e3]
     simp -dsimp only [go_sem]
     exact⟨_,_,J3f hr,hl3,rfl⟩
   · simp -dsimp only [go_sem]
     exact⟨_,_,hne,hl,rfl⟩
 rintro s ⟨B,st',hB,hBl,rfl⟩
 have t0:((B.length:Int)==0)=false:=by
  have:B.length≠0:=fun e=>hB (List.length_eq_zero_iff.1 e)
  rw [beq_eq_false_iff_ne];omega
 have hB0:0<B.length:=Nat.pos_of_ne_zero fun e=>hB (List.length_eq_zero_iff.1 e)
 have c1:IntKind.i64.wrap (at':Int)=(at':Int):=Q0i _ (by omega)
 have c2:(at':Int).tmod (B.length:Int)=((at' % B.length:Nat):Int):=(Int.ofNat_tmod _ _).symm
 have c3:=Nat.mod_lt at' hB0
 obtain⟨k,hk⟩: ∃k,k=at' % B.length:=⟨_,rfl⟩
 rw [←hk] at c2 c3
 obtain⟨z,hz⟩: ∃z,z=how/2 % 3:=⟨_,rfl⟩
 refine Q0h (Q0a ?_)
 simp -dsimp only [go_sem,t0]
 refine Q0h (Q0a ?_)
 simp -dsimp only [go_sem,t0,c1,c2]
 refine⟨bne_iff_ne.2 (by omega),?_⟩
 have hq1:bShr .u8 (how:Int) 1=((how/2:Nat):Int):=W0q .u8 how 1 (by decide)
 have hq2:((how/2:Nat):Int).tmod 3=(z:Int):=by rw [hz];rfl
 have hq3:z<3:=by rw [hz];omega
 refine U2e (fun s=>s.maskOK [false,false,true,true,false,false,false,false,false,false,false,false,false,false,true,true] 1 1∧(fun s=>(z=0∧s=⟨[.junk,.junk,.sc (.int .u8 by'),.sc (.int .u8 how),.junk,.junk,.junk,.junk,.junk,.junk,.junk,.junk,.junk,.junk,.sc (.int .i64 k),.ms false 0 0 B.length]++List.replicate 122 .junk,[encB B],[],st'⟩)∨(z≠0∧s=⟨[.junk,.junk,.sc (.int .u8 by'),.sc (.int .u8 how),.junk,.junk,.junk,.junk,.junk,.junk,.junk,.junk,.junk,.junk,.sc (.int .i64 k),.sl (.own 0) (encB B)]++List.replicate 122 .junk,[],[(B.length,1)],st'⟩)) (s.mask [false,false,true,true,false,false,false,false,false,false,false,false,false,false,true,true] 1 1)) ?_ ?_
 · by_cases hz0:z=0
   · refine j2o [false,false,true] ?_
     simp -dsimp only [go_sem,H2h]
     exact⟨⟨⟨by omega,by omega⟩,hB0⟩,j1r B,.inl ⟨hz0,rfl⟩⟩
   · refine Q0a ?_
     simp -dsimp only [go_sem]
     exact⟨⟨by omega,by omega⟩,rfl,.inr ⟨hz0,rfl⟩⟩
 rintro s ⟨hs1,hs⟩
 refine J0e (z0a hs1) ?_
 generalize s.mask [false,false,true,true,false,false,false,false,false,false,false,false,false,false,true,true] 1 1=s at*
 clear hs1
 refine Q0x [false,false,false,false,false,false,false,false,false,false,false,false,false,false,false,true] 1 1 (fun s=> ∃C:List UInt8,C.length≤1000001∧((0<C.length∧s=⟨[.junk,.junk,.junk,.junk,.junk,.junk,.junk,.junk,.junk,.junk,.junk,.junk,.junk,.junk,.junk,.ms false 0 0 C.length]++List.replicate 122 .junk,[encB C],[],st'⟩)∨s=⟨[.junk,.junk,.junk,.junk,.junk,.junk,.junk,.junk,.junk,.junk,.junk,.junk,.junk,.junk,.junk,.sl (.own 0) (encB C)]++List.replicate 122 .junk,[],[(C.length,1)],st'⟩∨(C=B.take k∧s=⟨[.junk,.junk,.junk,.junk,.junk,.junk,.junk,.junk,.junk,.junk,.junk,.junk,.junk,.junk,.junk,.pre (encB B) k]++List.replicate 122 .junk,[],[(B.length,1)],st'⟩))) ?_ ?_
 · have z0:z=0→((z:Int)==0)=true:=fun e=>by subst e;rfl
   have z0':z≠0→((z:Int)==0)=false:=fun e=>by rw [beq_eq_false_iff_ne];omega
   have z1:z=1→((z:Int)==1)=true:=fun e=>by subst e;rfl
   have z1':z≠1→((z:Int)==1)=false:=fun e=>by rw [beq_eq_false_iff_ne];omega
   rcases hs with ⟨hz0,rfl⟩ | ⟨hz0,rfl⟩
   · have g1:=w0u B k c3
     obtain⟨c,hc⟩:=v2l (BitVec.ofInt IntKind.u8.bits ((B.getD k 0).toNat:Int)^^^BitVec.ofInt IntKind.u8.bits (by':Int)).toNat
     have hc':bXor .u8 ((B.getD k 0).toNat:Int) (by':Int)=(c.toNat:Int):=hc
     have g2:over (encB B) k [.sc (.int .u8 c.toNat)]=encB (B.set k c):=K2v B k c c3
     simp -dsimp only [go_sem,hq1,hq2,z0 hz0,g1,hc',g2]
     exact⟨⟨by omega,c3⟩,by omega,⟨by omega,c3⟩,⟨by omega,hB0⟩,j1r _,B.set k c,by rw [List.length_set];omega,.inl ⟨by rw [List.length_set];exact hB0,by rw [List.length_set];rfl⟩⟩
   · by_cases hz1:z=1
     · simp -dsimp only [go_sem,hq1,hq2,z0' hz0,z1 hz1]
       exact⟨⟨⟨⟨by omega,by omega⟩,by omega⟩,hB0⟩,rfl,B.take k,by rw [List.length_take];omega,.inr (.inr ⟨rfl,rfl⟩)⟩
     · obtain⟨c,hc⟩: ∃c:UInt8,by'=c.toNat:=⟨UInt8.ofNat by',by simp;omega⟩
       subst hc
       have e3:encB B++ [.sc (.int .u8 c.toNat)]=encB (B++ [c]):=by simp [encB]
       simp -dsimp only [go_sem,hq1,hq2,z0' hz0,z1' hz1,e3]
       exact⟨⟨by omega,by omega⟩,rfl,B++ [c],by simp;omega,.inr (.inl (by rw [List.length_append];rfl))⟩
 clear hs
 rintro s ⟨C,hC,hs⟩
 obtain⟨s',hw,L2,T2,rfl⟩: ∃s',Weak E s s'∧ ∃L2 T2,s'=⟨[.junk,.junk,.junk,.junk,.junk,.junk,.junk,.junk,.junk,.junk,.junk,.junk,.junk,.junk,.junk,.sl .no (encB C)]++List.replicate 122 .junk,L2,T2,st'⟩:=by
  rcases hs with ⟨hp,rfl⟩ | rfl | ⟨rfl,rfl⟩
  · have hq:fzOK (encB C)=true:=by
     unfold fzOK
     simp only [encB,List.all_eq_true,List.mem_map]
     rintro _ ⟨c,_,rfl⟩
     rfl
    have e4:List.take C.length (List.map PV.forget2 (encB C))=encB C:=by
     have:List.map PV.forget2 (encB C)=encB C:=by
      unfold encB
      rw [List.map_map]
      rfl
     rw [this,←w1o C]
     exact List.take_length
    refine⟨_,X1i 0 (by simp only [G0c];exact hq),[[]],[],?_⟩
    simp -dsimp only [go_sem,e4]
  · refine⟨_,W1o [false,false,false,false,false,false,false,false,false,false,false,false,false,false,false,true],[],[(C.length,1)],?_⟩
    simp -dsimp only [go_sem]
  · have e4:(encB B).take k=encB (B.take k):=by unfold encB;rw [List.map_take]
    refine⟨_,x2g 15 (encB B) k rfl,[],[(B.length,1)],?_⟩
    rw [e4]
    rfl
 refine J0e hw ?_
 clear hw hs
 refine J0e (z0a (bs:= [false,false,false,false,false,false,false,false,false,false,false,false,false,false,false,true]) (nL:=0) (nT:=0) ⟨by rfl,by rfl⟩) ?_
 have em:(⟨[.junk,.junk,.junk,.junk,.junk,.junk,.junk,.junk,.junk,.junk,.junk,.junk,.junk,.junk,.junk,.sl .no (encB C)]++List.replicate 122 .junk,L2,T2,st'⟩:PFS).mask [false,false,false,false,false,false,false,false,false,false,false,false,false,false,false,true] 0 0=⟨[.junk,.junk,.junk,.junk,.junk,.junk,.junk,.junk,.junk,.junk,.junk,.junk,.junk,.junk,.junk,.sl .no (encB C)]++List.replicate 122 .junk,[],[],st'⟩:=rfl
 rw [em]
 refine Q0x [false,false,false,false,false,false,false,false,false,false,false,false,false,false,false,true] 0 0 (fun s=> ∃st',s=⟨[.junk,.junk,.junk,.junk,.junk,.junk,.junk,.junk,.junk,.junk,.junk,.junk,.junk,.junk,.junk,.sl .no (encB C)]++List.replicate 122 .junk,[],[],st'⟩) ?_ ?_
 · simp -dsimp only [go_sem]
   refine(Y0q C _ (by omega)).mono ?_
   rintro r st' ⟨rfl,rfl⟩
   simp -dsimp only [go_sem]
   refine ck (fun h0=> ?_) (fun h0=> ?_)
   · have e0:(segR C).2=0:=beq_iff_eq.1 h0
     obtain⟨hr,e2⟩:=y1s C e0
     have w1:=X1z hr
     simp -dsimp only [go_sem]
     refine(Z1n (segR C).1 _ w1).mono ?_
     rintro r st' ⟨rfl,rfl⟩
     rw [e2]
     simp -dsimp only [go_sem]
     exact⟨_,rfl⟩
   · simp -dsimp only [go_sem]
     exact⟨_,rfl⟩
 rintro s ⟨st',rfl⟩
 refine Q0x [false,false,false,false,false,false,false,false,false,false,false,false,false,false,false,true] 0 0 (fun s=> ∃st',s=⟨[.junk,.junk,.junk,.junk,.junk,.junk,.junk,.junk,.junk,.junk,.junk,.junk,.junk,.junk,.junk,.sl .no (encB C)]++List.replicate 122 .junk,[],[],st'⟩) ?_ ?_
 · simp -dsimp only [go_sem]
   refine(Y0h C _ (by omega)).mono ?_
   rintro r st' ⟨rfl,rfl⟩
   simp -dsimp only [go_sem]
   refine ck (fun h0=> ?_) (fun h0=> ?_)
   · have e0:(stR C).2=0:=beq_iff_eq.1 h0
     obtain⟨hr,e2⟩:=W2p C e0
     have w1:=z0f hr
     simp -dsimp only [go_sem]
     refine(x0w (stR C).1 _ w1).mono ?_
     rintro r st' ⟨rfl,rfl⟩
     rw [e2]
     simp -dsimp only [go_sem]
     exact⟨_,rfl⟩
   · simp -dsimp only [go_sem]
     exact⟨_,rfl⟩
 rintro s ⟨st',rfl⟩
 refine Q0a ?_
 simp -dsimp only [go_sem]
 refine(Y2q C _ (by omega)).mono ?_
 rintro r st' ⟨rfl,rfl⟩
 simp -dsimp only [go_sem]
end Go.Pv
end
