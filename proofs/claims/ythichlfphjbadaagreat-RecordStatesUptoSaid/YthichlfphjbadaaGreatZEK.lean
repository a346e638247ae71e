/- Parts of the walk: N123, N124. -/
import Derived.Test.YthichlfphjbadaaGreatZEH
import Derived.Test.YthichlfphjbadaaGreatZQ
set_option linter.unusedVariables false
set_option linter.unusedSimpArgs false
section
/-A piece as bytes,the program's and the document's. -/
set_option maxRecDepth 100000
namespace Go.Pv
open Go.Proofs
theorem z0o {n:Int} (h1:0≤n) (h2:n≤4096):IntKind.u64.wrap n=((n.toNat:Nat):Int):=by
 have e:=Z0c n.toNat (by omega)
 rwa [Int.toNat_of_nonneg h1] at e⊢
theorem q2t (s:Sg) (st:Q0g) (hw:wS s):PCalls Tryz.prog 23 [.agg (encS s)] st (fun r st'=>r= .tup [.sl .no (encB (segB s).1),.sc (.int .i64 (segB s).2)]∧st'=st):=by
 refine Q0b none Tryz.func23 rfl fun E=>Q0h (Q0a ?_)
 simp -dsimp only [go_sem]
 refine Q0h (Q0a ?_)
 simp -dsimp only [go_sem]
 refine(w0h s st hw).mono ?_
 rintro r st ⟨rfl,rfl⟩
 cases hr:K0y s with
 | false=>
  simp -dsimp only [go_sem]
  rw [segB,if_neg (by simp [hr])];rfl
 | true=>
  obtain⟨h1,h2,h3,h4,h5,_,_,h6⟩:=y0p hr
  have w1:=z0o (n:=s.fr) (by omega) (by omega)
  have w2:=z0o (n:=s.to) (by omega) (by omega)
  have u1:=Z0l (v:=s.fr.toNat) (by omega)
  have u2:=Z0l (v:=s.to.toNat) (by omega)
  have n1:=X0f s.t0
  have n2:=X0f s.t1
  simp -dsimp only [go_sem]
  refine Q0h (Q0a ?_)
  simp -dsimp only [go_sem]
  refine Q0m Z0t 26 (.step 0 [] (.step 1 [] (.step 2 [] (.step 4 [] (.step 5 [] (.step 6 [] (.step 3 [5] (.step 7 [] (.step 8 [] (.done)))))))))) (by decide+kernel) (by simp) ?_
  simp -dsimp only [go_sem,w1,w2]
  refine(y0l [] s.fr.toNat st (by simp) (by omega)).plain.mono ?_
  rintro r st ⟨rfl,rfl⟩
  simp -dsimp only [go_sem]
  refine(y0l (uvar s.fr.toNat) s.to.toNat st (by omega) (by omega)).plain.mono ?_
  rintro r st ⟨rfl,rfl⟩
  simp -dsimp only [go_sem]
  refine Q0a ?_
  simp -dsimp only [go_sem]
  refine Q0m Z0t 26 (.step 0 [] (.step 1 [] (.step 2 [] (.step 4 [] (.step 5 [] (.step 7 [] (.step 8 [] (.step 3 [5,8] (.step 6 [8] (.step 9 [] (.step 10 [] (.step 11 [] (.done))))))))))))) (by decide+kernel) (by simp) ?_
  simp -dsimp only [go_sem]
  refine(J1x (uvar s.fr.toNat++uvar s.to.toNat) s.t0 st (by simp;omega) hw.1).plain.mono ?_
  rintro r st ⟨rfl,rfl⟩
  simp -dsimp only [go_sem]
  refine(J1x (uvar s.fr.toNat++uvar s.to.toNat++numB s.t0) s.t1 st (by simp;omega) hw.2.1).plain.mono ?_
  rintro r st ⟨rfl,rfl⟩
  simp -dsimp only [go_sem]
  refine(y2d (uvar s.fr.toNat++uvar s.to.toNat++numB s.t0++numB s.t1) s.box st (by simp;omega) hw.2.2).mono ?_
  rintro r st ⟨rfl,rfl⟩
  simp -dsimp only [go_sem]
  rw [segB,if_pos hr]
  simp only [List.append_assoc]
end Go.Pv
end
section
/-A state as bytes,the program's and the document's. -/
set_option maxRecDepth 100000
namespace Go.Pv
open Go.Proofs
theorem U1n (l:List Nm) (i:Nat) (h:i<l.length):nsB (l.take (i+1))=nsB (l.take i)++numB (l.getD i default):=by
 unfold nsB;rw [Y0d l i default h];simp
theorem V1h (l:List (List Nm)) (i:Nat) (h:i<l.length):K0h (l.take (i+1))=K0h (l.take i)++nsB (l.getD i []):=by
 unfold K0h;rw [Y0d l i [] h];simp
theorem W0t (l:List Nm):(nsB l).length≤600*l.length:=by
 induction l with
 | nil=>simp [nsB]
 | cons x l ih=>
  have e:nsB (x::l)=numB x++nsB l:=by simp [nsB]
  rw [e,List.length_append,List.length_cons];have:=X0f x;omega
theorem V0j {m:Nat} (l:List (List Nm)) (h: ∀i,i<l.length→(l.getD i []).length≤m):(K0h l).length≤600*m*l.length:=by
 induction l with
 | nil=>simp [K0h]
 | cons x l ih=>
  have e:K0h (x::l)=nsB x++K0h l:=by simp [K0h]
  rw [e,List.length_append,List.length_cons,Nat.mul_add]
  have h1:=ih fun i hi=>by have:=h (i+1) (by simpa using hi);simpa using this
  have h2:=W0t x
  have h3:x.length≤m:=by have:=h 0 (by simp);simpa using this
  have h4:600*x.length≤600*m:=by omega
  omega
theorem H1e {α:Type} (l:List (List α)) (i j:Nat) (h:j<i):(l.take i).getD j []=l.getD j []:=by
 simp [List.getD_eq_getElem?_getD,List.getElem?_take,h]
theorem K2j {s:Sx} (h:Q0z s=true):0≤s.idx∧s.idx≤4096∧1≤s.f.m.length∧s.f.m.length≤4∧s.f.a.length=s.f.m.length∧(∀i,i<s.f.a.length→(s.f.a.getD i []).length=s.f.m.length):=by
 obtain⟨h1,h2,_,_,h5⟩:=X0a h
 obtain⟨f1,f2,f3,f4,f5,f6,f7⟩:=Z0u h5
 refine⟨h1,h2,f1,f2,f4,fun i hi=> ?_⟩
 have:=List.all_eq_true.1 f6 (s.f.a.getD i []) (by rw [List.getD_eq_getElem?_getD,List.getElem?_eq_getElem hi];exact List.getElem_mem hi)
 unfold Z0k at this
 simp only [Bool.and_eq_true,decide_eq_true_eq] at this
 exact this.2
set_option maxHeartbeats 2000000 in
theorem w0o (s:Sx) (st:Q0g) (hw:wSx s):PCalls Tryz.prog 15 [.agg (J0h s)] st (fun r st'=>r= .tup [.sl .no (encB (stB s).1),.sc (.int .i64 (stB s).2)]∧st'=st):=by
 refine Q0b none Tryz.func15 rfl fun E=>Q0h (Q0a ?_)
 simp -dsimp only [go_sem]
 refine Q0h (Q0a ?_)
 simp -dsimp only [go_sem]
 refine(Y0f s st hw).mono ?_
 rintro r st ⟨rfl,rfl⟩
 cases hr:Q0z s with
 | false=>
  simp -dsimp only [go_sem]
  rw [stB,if_neg (by simp [hr])];rfl
 | true=>
  obtain⟨h1,h2,h3,h4,h5,h6⟩:=K2j hr
  obtain⟨wt,wh,wm,wa,wr⟩:=hw
  have w1:=z0o (n:=s.idx) (by omega) (by omega)
  have w2:IntKind.u64.wrap (s.f.m.length:Int)=(s.f.m.length:Int):=Z0c _ (by omega)
  have u1:=Z0l (v:=s.idx.toNat) (by omega)
  have u2:=Z0l (v:=s.f.m.length) (by omega)
  have n1:=X0f s.t
  have n2:=X0f s.h
  have nm:=W0t s.f.m
  have na:=V0j (m:=4) s.f.a fun i hi=>by rw [h6 i hi];exact h4
  simp -dsimp only [go_sem]
  refine Q0h (Q0a ?_)
  simp -dsimp only [go_sem]
  refine Q0m Z0t 58 (.step 0 [] (.step 1 [] (.step 2 [] (.step 4 [] (.step 5 [] (.step 7 [] (.step 8 [] (.step 3 [5,8] (.step 6 [8] (.step 9 [1] (.step 10 [] (.done)))))))))))) (by decide+kernel) (by simp) ?_
  simp -dsimp only [go_sem,w1,w2]
  refine(y0l [] s.idx.toNat st (by simp) (by omega)).plain.mono ?_
  rintro r st ⟨rfl,rfl⟩
  simp -dsimp only [go_sem]
  refine(J1x (uvar s.idx.toNat) s.t st (by omega) wt).plain.mono ?_
  rintro r st ⟨rfl,rfl⟩
  simp -dsimp only [go_sem]
  refine(J1x (uvar s.idx.toNat++numB s.t) s.h st (by simp;omega) wh).plain.mono ?_
  rintro r st ⟨rfl,rfl⟩
  simp -dsimp only [go_sem,w2]
  refine Q0h (Q0a ?_)
  simp -dsimp only [go_sem,w2]
  refine(y0l (uvar s.idx.toNat++numB s.t++numB s.h) s.f.m.length st (by simp;omega) (by omega)).plain.mono ?_
  rintro r st ⟨rfl,rfl⟩
  simp -dsimp only [go_sem]
  have ha0:0<s.f.a.length:=by omega
  obtain⟨base,hb⟩: ∃q,q=uvar s.idx.toNat++numB s.t++numB s.h++uvar s.f.m.length:=⟨_,rfl⟩
  have hbl:base.length≤2000:=by rw [hb];simp;omega
  rw [←hb]
  have na2:=V0j (m:=4) (s.f.m::s.f.a) fun i hi=>by
   cases i with
   | zero=>exact h4
   | succ i=>rw [List.getD_cons_succ,h6 i (by simpa using hi)];exact h4
  have hcl:(s.f.m::s.f.a).length=s.f.a.length+1:=rfl
  have eq1: [PV.sl .no (Q0w s.f.m)]++encQ s.f.a=encQ (s.f.m::s.f.a):=rfl
  have rl: ∀i,i<s.f.a.length+1→((s.f.m::s.f.a).getD i []).length=s.f.m.length∧wNs' ((s.f.m::s.f.a).getD i []):=fun i hi=>by
   cases i with
   | zero=>exact⟨rfl,wm⟩
   | succ i=>rw [List.getD_cons_succ];exact⟨h6 i (by omega),wa.2 i (by omega)⟩
  have tl: ∀i,i≤s.f.a.length+1→(K0h ((s.f.m::s.f.a).take i)).length≤12000:=fun i hi=>by
   have:=V0j (m:=4) ((s.f.m::s.f.a).take i) fun j hj=>by
    have hj':j<i∧j<s.f.a.length+1:=by simp at hj;omega
    rw [H1e _ _ _ hj'.1,(rl j hj'.2).1];exact h4
   simp at this;omega
  refine Q0h (Q0a ?_)
  simp -dsimp only [go_sem,ha0]
  refine⟨by omega,.inr trivial,?_⟩
  refine Q0e [false,true,false,false,true,false,false,false,false,false,false,false,false,false,false,false,false,false,false,false,false,false,false,false,false,false,false,false,false,false,false,false,false,false,false,false,true,true,true] 1 1 (fun c s'=> ∃i,c=1+s.f.a.length-i∧i≤1+s.f.a.length∧s'=⟨List.replicate 1 .junk++([.lp 0 0]++(List.replicate 2 .junk++([.sl .no (encB (base++K0h ((s.f.m::s.f.a).take i)))]++(List.replicate 31 .junk++([.sl (.own 0) (encQ (s.f.m::s.f.a)),.sc (.int .i64 (1+s.f.a.length:Nat)),.sc (.int .i64 (i:Nat))]++(List.replicate 19 .junk)))))),[J0h s],[(1+s.f.a.length,1)],st⟩) (1+s.f.a.length) ?_ ?_
  · simp -dsimp only [go_sem]
    refine⟨0,by omega,by omega,?_⟩
    simp [K0h,encQ]
    omega
  · rintro c s' ⟨i,rfl,hi,rfl⟩
    simp -dsimp only [go_sem]
    refine ck (fun h7=> ?_) (fun h7=> ?_)
    · have hlt:i<s.f.a.length+1:=by have:=of_decide_eq_true h7;omega
      have g1:=H0y (s.f.m::s.f.a) i hlt
      have x1:=Y0r i (by omega)
      obtain⟨r1,r2,r3⟩:=rl i hlt
      have tli:=tl i (by omega)
      simp -dsimp only [go_sem,g1]
      refine⟨by omega,?_⟩
      refine Q0a ?_
      simp -dsimp only [go_sem]
      refine Q0e [false,true,false,false,true,false,false,false,false,false,false,false,false,false,false,false,false,false,false,false,false,false,false,false,false,false,false,false,false,false,false,false,false,false,false,false,true,true,true,false,false,false,true,true,true] 1 1 (fun c s'=> ∃k,c=((s.f.m::s.f.a).getD i []).length-k∧k≤((s.f.m::s.f.a).getD i []).length∧s'=⟨List.replicate 1 .junk++([.lp 0 0]++(List.replicate 2 .junk++([.sl .no (encB (base++K0h ((s.f.m::s.f.a).take i)++nsB (((s.f.m::s.f.a).getD i []).take k)))]++(List.replicate 31 .junk++([.sl (.own 0) (encQ (s.f.m::s.f.a)),.sc (.int .i64 (1+s.f.a.length:Nat)),.sc (.int .i64 (i:Nat))]++(List.replicate 3 .junk++([.sl .no (Q0w ((s.f.m::s.f.a).getD i [])),.sc (.int .i64 ((s.f.m::s.f.a).getD i []).length),.sc (.int .i64 (k:Nat))]++(List.replicate 13 .junk)))))))),[J0h s],[(1+s.f.a.length,1)],st⟩) ((s.f.m::s.f.a).getD i []).length ?_ ?_
      · simp -dsimp only [go_sem]
        refine⟨0,by omega,by omega,?_⟩
        simp [nsB]
      · rintro c s' ⟨k,rfl,hk,rfl⟩
        simp -dsimp only [go_sem]
        refine ck (fun h8=> ?_) (fun h8=> ?_)
        · have hklt:k<((s.f.m::s.f.a).getD i []).length:=by have:=of_decide_eq_true h8;omega
          have g2:=J0r ((s.f.m::s.f.a).getD i []) k hklt
          have x2:=Y0r k (by omega)
          have nk:=W0t (((s.f.m::s.f.a).getD i []).take k)
          rw [List.length_take] at nk
          simp -dsimp only [go_sem,g2]
          refine⟨by omega,?_⟩
          refine(J1x (base++K0h ((s.f.m::s.f.a).take i)++nsB (((s.f.m::s.f.a).getD i []).take k)) (((s.f.m::s.f.a).getD i []).getD k default) st (by rw [List.length_append,List.length_append];omega) (r3 k hklt)).plain.mono ?_
          rintro r st ⟨rfl,rfl⟩
          simp -dsimp only [go_sem,x2]
          refine⟨((s.f.m::s.f.a).getD i []).length-(k+1),by omega,k+1,rfl,by omega,?_⟩
          rw [U1n _ _ hklt,←List.append_assoc]
        · have hge:k=((s.f.m::s.f.a).getD i []).length:=by have:=of_decide_eq_false h8;omega
          simp -dsimp only [go_sem]
          refine Q0a ?_
          simp -dsimp only [go_sem,x1]
          refine⟨1+s.f.a.length-(i+1),by omega,i+1,rfl,by omega,?_⟩
          rw [hge,List.take_length,V1h _ _ hlt,←List.append_assoc]
    · have hge:i=(s.f.m::s.f.a).length:=by have:=of_decide_eq_false h7;rw [hcl];omega
      simp -dsimp only [go_sem]
      refine Q0a ?_
      have tli:=tl (s.f.a.length+1) (by omega)
      rw [←hcl,List.take_length] at tli
      rw [hge,List.take_length]
      simp -dsimp only [go_sem]
      refine(y2d (base++K0h (s.f.m::s.f.a)) s.f.r st (by rw [List.length_append];omega) wr).mono ?_
      rintro r st ⟨rfl,rfl⟩
      simp -dsimp only [go_sem]
      rw [stB,if_pos hr,hb]
      have:K0h (s.f.m::s.f.a)=nsB s.f.m++K0h s.f.a:=by simp [K0h]
      rw [this]
      simp only [List.append_assoc]
set_option maxHeartbeats 2000000 in
theorem V1n (s:Sx) (st:Q0g) (hw:wSx s):PCalls Tryz.prog 16 [.agg (J0h s)] st (fun r st'=>r= .tup [.sl .no (encB (stB s).1),.sc (.int .i64 (stB s).2)]∧st'=st):=by
 refine Q0b none Tryz.func16 rfl fun E=>Q0h (Q0a ?_)
 simp -dsimp only [go_sem]
 refine Q0h (Q0a ?_)
 simp -dsimp only [go_sem]
 refine(U0n s st hw).mono ?_
 rintro r st ⟨rfl,rfl⟩
 cases hr:Q0z s with
 | false=>
  simp -dsimp only [go_sem]
  rw [stB,if_neg (by simp [hr])];rfl
 | true=>
  obtain⟨h1,h2,h3,h4,h5,h6⟩:=K2j hr
  obtain⟨wt,wh,wm,wa,wr⟩:=hw
  have w1:=z0o (n:=s.idx) (by omega) (by omega)
  have w2:IntKind.u64.wrap (s.f.m.length:Int)=(s.f.m.length:Int):=Z0c _ (by omega)
  have u1:=Z0l (v:=s.idx.toNat) (by omega)
  have u2:=Z0l (v:=s.f.m.length) (by omega)
  have n1:=X0f s.t
  have n2:=X0f s.h
  have nm:=W0t s.f.m
  have na:=V0j (m:=4) s.f.a fun i hi=>by rw [h6 i hi];exact h4
  simp -dsimp only [go_sem]
  refine Q0h (Q0a ?_)
  simp -dsimp only [go_sem]
  refine Q0m Z0t 75 (.step 0 [] (.step 1 [] (.step 2 [] (.step 4 [] (.step 5 [] (.step 7 [] (.step 8 [] (.step 10 [] (.step 11 [] (.step 12 [] (.step 13 [] (.step 14 [] (.step 3 [5,8,12] (.step 6 [8,12] (.step 9 [1,12] (.step 15 [1] (.step 16 [] (.done)))))))))))))))))) (by decide+kernel) (by simp) ?_
  simp -dsimp only [go_sem,w1,w2]
  refine(j0o [] s.idx.toNat st (by simp) (by omega)).plain.mono ?_
  rintro r st ⟨rfl,rfl⟩
  simp -dsimp only [go_sem]
  refine(V1z (uvar s.idx.toNat) s.t st (by omega) wt).plain.mono ?_
  rintro r st ⟨rfl,rfl⟩
  simp -dsimp only [go_sem]
  refine(V1z (uvar s.idx.toNat++numB s.t) s.h st (by simp;omega) wh).plain.mono ?_
  rintro r st ⟨rfl,rfl⟩
  simp -dsimp only [go_sem,w2]
  refine(j0o (uvar s.idx.toNat++numB s.t++numB s.h) s.f.m.length st (by simp;omega) (by omega)).plain.mono ?_
  rintro r st ⟨rfl,rfl⟩
  simp -dsimp only [go_sem]
  obtain⟨base,hb⟩: ∃q,q=uvar s.idx.toNat++numB s.t++numB s.h++uvar s.f.m.length:=⟨_,rfl⟩
  have hbl:base.length≤2000:=by rw [hb];simp;omega
  rw [←hb]
  have tl: ∀i,i≤s.f.a.length→(K0h (s.f.a.take i)).length≤12000:=fun i hi=>by
   have:=V0j (m:=4) (s.f.a.take i) fun j hj=>by
    have hj':j<i∧j<s.f.a.length:=by simp at hj;omega
    rw [H1e _ _ _ hj'.1,h6 j hj'.2];exact h4
   simp at this;omega
  refine Q0a ?_
  simp -dsimp only [go_sem]
  refine Q0e [false,true,false,false,true,true] 1 0 (fun c s'=> ∃i,c=s.f.m.length-i∧i≤s.f.m.length∧s'=⟨List.replicate 1 .junk++([.lp 0 0]++(List.replicate 2 .junk++([.sl .no (encB (base++nsB (s.f.m.take i))),.sc (.int .i64 (i:Nat))]++(List.replicate 69 .junk)))),[J0h s],[],st⟩) s.f.m.length ?_ ?_
  · simp -dsimp only [go_sem]
    refine⟨0,by omega,by omega,?_⟩
    simp [nsB]
  · rintro c s' ⟨i,rfl,hi,rfl⟩
    simp -dsimp only [go_sem]
    refine ck (fun h7=> ?_) (fun h7=> ?_)
    · have hlt:i<s.f.m.length:=by have:=of_decide_eq_true h7;omega
      have g1:=J0r s.f.m i hlt
      have x1:=Y0r i (by omega)
      have nk:=W0t (s.f.m.take i)
      rw [List.length_take] at nk
      simp -dsimp only [go_sem,g1]
      refine⟨by omega,?_⟩
      refine(V1z (base++nsB (s.f.m.take i)) (s.f.m.getD i default) st (by rw [List.length_append];omega) (wm.2 i hlt)).plain.mono ?_
      rintro r st ⟨rfl,rfl⟩
      simp -dsimp only [go_sem,x1]
      refine⟨s.f.m.length-(i+1),by omega,i+1,rfl,by omega,?_⟩
      rw [U1n _ _ hlt,←List.append_assoc]
    · have hge:i=s.f.m.length:=by have:=of_decide_eq_false h7;omega
      simp -dsimp only [go_sem]
      refine Q0a ?_
      rw [hge,List.take_length]
      simp -dsimp only [go_sem]
      refine Q0e [false,true,false,false,true,false,true] 1 0 (fun c s'=> ∃i,c=s.f.a.length-i∧i≤s.f.a.length∧s'=⟨List.replicate 1 .junk++([.lp 0 0]++(List.replicate 2 .junk++([.sl .no (encB (base++nsB s.f.m++K0h (s.f.a.take i)))]++(List.replicate 1 .junk++([.sc (.int .i64 (i:Nat))]++(List.replicate 68 .junk)))))),[J0h s],[],st⟩) s.f.a.length ?_ ?_
      · simp -dsimp only [go_sem]
        refine⟨0,by omega,by omega,?_⟩
        simp [K0h]
      · rintro c s' ⟨i,rfl,hi,rfl⟩
        simp -dsimp only [go_sem]
        refine ck (fun h8=> ?_) (fun h8=> ?_)
        · have hlt:i<s.f.a.length:=by have:=of_decide_eq_true h8;omega
          have g1:=H0y s.f.a i hlt
          have x1:=Y0r i (by omega)
          have r1:=h6 i hlt
          obtain⟨r2,r3⟩:=wa.2 i hlt
          have tli:=tl i (by omega)
          simp -dsimp only [go_sem]
          refine Q0a ?_
          simp -dsimp only [go_sem]
          refine Q0e [false,true,false,false,true,false,true,true] 1 0 (fun c s'=> ∃k,c=s.f.a.length-k∧k≤s.f.a.length∧s'=⟨List.replicate 1 .junk++([.lp 0 0]++(List.replicate 2 .junk++([.sl .no (encB (base++nsB s.f.m++K0h (s.f.a.take i)++nsB ((s.f.a.getD i []).take k)))]++(List.replicate 1 .junk++([.sc (.int .i64 (i:Nat)),.sc (.int .i64 (k:Nat))]++(List.replicate 67 .junk)))))),[J0h s],[],st⟩) s.f.a.length ?_ ?_
          · simp -dsimp only [go_sem]
            refine⟨0,by omega,by omega,?_⟩
            simp [nsB]
          · rintro c s' ⟨k,rfl,hk,rfl⟩
            simp -dsimp only [go_sem]
            refine ck (fun h9=> ?_) (fun h9=> ?_)
            · have hk2:k<s.f.a.length:=by have:=of_decide_eq_true h9;omega
              have hklt:k<(s.f.a.getD i []).length:=by omega
              have g2:=J0r (s.f.a.getD i []) k hklt
              have x2:=Y0r k (by omega)
              have nk:=W0t ((s.f.a.getD i []).take k)
              rw [List.length_take] at nk
              simp -dsimp only [go_sem,g1,g2]
              refine⟨by omega,by omega,?_⟩
              refine(V1z (base++nsB s.f.m++K0h (s.f.a.take i)++nsB ((s.f.a.getD i []).take k)) ((s.f.a.getD i []).getD k default) st (by rw [List.length_append,List.length_append,List.length_append];omega) (r3 k hklt)).plain.mono ?_
              rintro r st ⟨rfl,rfl⟩
              simp -dsimp only [go_sem,x2]
              refine⟨s.f.a.length-(k+1),by omega,k+1,rfl,by omega,?_⟩
              rw [U1n _ _ hklt,←List.append_assoc]
            · have hge:k=(s.f.a.getD i []).length:=by have:=of_decide_eq_false h9;omega
              simp -dsimp only [go_sem]
              refine Q0a ?_
              simp -dsimp only [go_sem,x1]
              refine⟨s.f.a.length-(i+1),by omega,i+1,rfl,by omega,?_⟩
              rw [hge,List.take_length,V1h _ _ hlt,←List.append_assoc]
        · have hge:i=s.f.a.length:=by have:=of_decide_eq_false h8;omega
          simp -dsimp only [go_sem]
          refine Q0a ?_
          have tli:=tl s.f.a.length (by omega)
          rw [List.take_length] at tli
          rw [hge,List.take_length]
          simp -dsimp only [go_sem]
          refine(U3i (base++nsB s.f.m++K0h s.f.a) s.f.r st (by rw [List.length_append,List.length_append];omega) wr).mono ?_
          rintro r st ⟨rfl,rfl⟩
          simp -dsimp only [go_sem]
          rw [stB,if_pos hr,hb]
          simp only [List.append_assoc]
end Go.Pv
end
