/- Parts of the walk: N123, N124. -/
import Derived.Test.YthichlfphjbadaaGreatZEC
import Derived.Test.YthichlfphjbadaaGreatZQ
set_option linter.unusedVariables false
set_option linter.unusedSimpArgs false
section
/-A piece as bytes,the program's and the document's. -/
set_option maxRecDepth 100000
namespace Go.Pv
open Go.Proofs
theorem y0f {n:Int} (h1:0≤n) (h2:n≤4096):IntKind.u64.wrap n=((n.toNat:Nat):Int):=by
 have e:=Z0m n.toNat (by omega)
 rwa [Int.toNat_of_nonneg h1] at e⊢
theorem Z1n (s:Sg) (st:Q0g) (hw:wS s):PCalls Tryz.prog 23 [.agg (encS s)] st (fun r st'=>r= .tup [.sl .no (encB (segB s).1),.sc (.int .i64 (segB s).2)]∧st'=st):=by
 refine Q0b none Tryz.func23 rfl fun E=>Q0h (Q0a ?_)
 simp -dsimp only [go_sem]
 refine Q0h (Q0a ?_)
 simp -dsimp only [go_sem]
 refine(y0n s st hw).mono ?_
 rintro r st ⟨rfl,rfl⟩
 cases hr:X0d s with
 | false=>
  simp -dsimp only [go_sem]
  rw [segB,if_neg (by simp [hr])];rfl
 | true=>
  obtain⟨h1,h2,h3,h4,h5,_,_,h6⟩:=Y0o hr
  have w1:=y0f (n:=s.fr) (by omega) (by omega)
  have w2:=y0f (n:=s.to) (by omega) (by omega)
  have u1:=Z0x (v:=s.fr.toNat) (by omega)
  have u2:=Z0x (v:=s.to.toNat) (by omega)
  have n1:=X0f s.t0
  have n2:=X0f s.t1
  simp -dsimp only [go_sem]
  refine Q0h (Q0a ?_)
  simp -dsimp only [go_sem]
  refine Q0o Z0p 26 (.step 0 [] (.step 1 [] (.step 2 [] (.step 4 [] (.step 5 [] (.step 6 [] (.step 3 [5] (.step 7 [] (.step 8 [] (.done)))))))))) (by decide+kernel) (by simp) ?_
  simp -dsimp only [go_sem,w1,w2]
  refine(Q1s [] s.fr.toNat st (by simp) (by omega)).plain.mono ?_
  rintro r st ⟨rfl,rfl⟩
  simp -dsimp only [go_sem]
  refine(Q1s (uvar s.fr.toNat) s.to.toNat st (by omega) (by omega)).plain.mono ?_
  rintro r st ⟨rfl,rfl⟩
  simp -dsimp only [go_sem]
  refine Q0a ?_
  simp -dsimp only [go_sem]
  refine Q0o Z0p 26 (.step 0 [] (.step 1 [] (.step 2 [] (.step 4 [] (.step 5 [] (.step 7 [] (.step 8 [] (.step 3 [5,8] (.step 6 [8] (.step 9 [] (.step 10 [] (.step 11 [] (.done))))))))))))) (by decide+kernel) (by simp) ?_
  simp -dsimp only [go_sem]
  refine(V1l (uvar s.fr.toNat++uvar s.to.toNat) s.t0 st (by simp;omega) hw.1).plain.mono ?_
  rintro r st ⟨rfl,rfl⟩
  simp -dsimp only [go_sem]
  refine(V1l (uvar s.fr.toNat++uvar s.to.toNat++numB s.t0) s.t1 st (by simp;omega) hw.2.1).plain.mono ?_
  rintro r st ⟨rfl,rfl⟩
  simp -dsimp only [go_sem]
  refine(Z3o (uvar s.fr.toNat++uvar s.to.toNat++numB s.t0++numB s.t1) s.box st (by simp;omega) hw.2.2).mono ?_
  rintro r st ⟨rfl,rfl⟩
  simp -dsimp only [go_sem]
  rw [segB,if_pos hr]
  simp only [List.append_assoc]
end Go.Pv
end
section
/-A state as bytes,the program's and the document's. -/
set_option maxRecDepth 100000
namespace Go.Pv
open Go.Proofs
theorem k2p (l:List Nm) (i:Nat) (h:i<l.length):nsB (l.take (i+1))=nsB (l.take i)++numB (l.getD i default):=by
 unfold nsB;rw [Y0l l i default h];simp
theorem J2g (l:List (List Nm)) (i:Nat) (h:i<l.length):V0n (l.take (i+1))=V0n (l.take i)++nsB (l.getD i []):=by
 unfold V0n;rw [Y0l l i [] h];simp
theorem H0r (l:List Nm):(nsB l).length≤600*l.length:=by
 induction l with
 | nil=>simp [nsB]
 | cons x l ih=>
  have e:nsB (x::l)=numB x++nsB l:=by simp [nsB]
  rw [e,List.length_append,List.length_cons];have:=X0f x;omega
theorem Y0m {m:Nat} (l:List (List Nm)) (h: ∀i,i<l.length→(l.getD i []).length≤m):(V0n l).length≤600*m*l.length:=by
 induction l with
 | nil=>simp [V0n]
 | cons x l ih=>
  have e:V0n (x::l)=nsB x++V0n l:=by simp [V0n]
  rw [e,List.length_append,List.length_cons,Nat.mul_add]
  have h1:=ih fun i hi=>by have:=h (i+1) (by simpa using hi);simpa using this
  have h2:=H0r x
  have h3:x.length≤m:=by have:=h 0 (by simp);simpa using this
  have h4:600*x.length≤600*m:=by omega
  omega
theorem W2j {α:Type} (l:List (List α)) (i j:Nat) (h:j<i):(l.take i).getD j []=l.getD j []:=by
 simp [List.getD_eq_getElem?_getD,List.getElem?_take,h]
theorem W2o {s:Sx} (h:Z0g s=true):0≤s.idx∧s.idx≤4096∧1≤s.f.m.length∧s.f.m.length≤4∧s.f.a.length=s.f.m.length∧(∀i,i<s.f.a.length→(s.f.a.getD i []).length=s.f.m.length):=by
 obtain⟨h1,h2,_,_,h5⟩:=Z0z h
 obtain⟨f1,f2,f3,f4,f5,f6,f7⟩:=Z0s h5
 refine⟨h1,h2,f1,f2,f4,fun i hi=> ?_⟩
 have:=List.all_eq_true.1 f6 (s.f.a.getD i []) (by rw [List.getD_eq_getElem?_getD,List.getElem?_eq_getElem hi];exact List.getElem_mem hi)
 unfold Z0l at this
 simp only [Bool.and_eq_true,decide_eq_true_eq] at this
 exact this.2
set_option maxHeartbeats 2000000 in
theorem x0w (s:Sx) (st:Q0g) (hw:wSx s):PCalls Tryz.prog 15 [.agg (J0v s)] st (fun r st'=>r= .tup [.sl .no (encB (stB s).1),.sc (.int .i64 (stB s).2)]∧st'=st):=by
 refine Q0b none Tryz.func15 rfl fun E=>Q0h (Q0a ?_)
 simp -dsimp only [go_sem]
 refine Q0h (Q0a ?_)
 simp -dsimp only [go_sem]
 refine(z0g s st hw).mono ?_
 rintro r st ⟨rfl,rfl⟩
 cases hr:Z0g s with
 | false=>
  simp -dsimp only [go_sem]
  rw [stB,if_neg (by simp [hr])];rfl
 | true=>
  obtain⟨h1,h2,h3,h4,h5,h6⟩:=W2o hr
  obtain⟨wt,wh,wm,wa,wr⟩:=hw
  have w1:=y0f (n:=s.idx) (by omega) (by omega)
  have w2:IntKind.u64.wrap (s.f.m.length:Int)=(s.f.m.length:Int):=Z0m _ (by omega)
  have u1:=Z0x (v:=s.idx.toNat) (by omega)
  have u2:=Z0x (v:=s.f.m.length) (by omega)
  have n1:=X0f s.t
  have n2:=X0f s.h
  have nm:=H0r s.f.m
  have na:=Y0m (m:=4) s.f.a fun i hi=>by rw [h6 i hi];exact h4
  simp -dsimp only [go_sem]
  refine Q0h (Q0a ?_)
  simp -dsimp only [go_sem]
  refine Q0o Z0p 58 (.step 0 [] (.step 1 [] (.step 2 [] (.step 4 [] (.step 5 [] (.step 7 [] (.step 8 [] (.step 3 [5,8] (.step 6 [8] (.step 9 [1] (.step 10 [] (.done)))))))))))) (by decide+kernel) (by simp) ?_
  simp -dsimp only [go_sem,w1,w2]
  refine(Q1s [] s.idx.toNat st (by simp) (by omega)).plain.mono ?_
  rintro r st ⟨rfl,rfl⟩
  simp -dsimp only [go_sem]
  refine(V1l (uvar s.idx.toNat) s.t st (by omega) wt).plain.mono ?_
  rintro r st ⟨rfl,rfl⟩
  simp -dsimp only [go_sem]
  refine(V1l (uvar s.idx.toNat++numB s.t) s.h st (by simp;omega) wh).plain.mono ?_
  rintro r st ⟨rfl,rfl⟩
  simp -dsimp only [go_sem,w2]
  refine Q0h (Q0a ?_)
  simp -dsimp only [go_sem,w2]
  refine(Q1s (uvar s.idx.toNat++numB s.t++numB s.h) s.f.m.length st (by simp;omega) (by omega)).plain.mono ?_
  rintro r st ⟨rfl,rfl⟩
  simp -dsimp only [go_sem]
  have ha0:0<s.f.a.length:=by omega
  obtain⟨base,hb⟩: ∃q,q=uvar s.idx.toNat++numB s.t++numB s.h++uvar s.f.m.length:=⟨_,rfl⟩
  have hbl:base.length≤2000:=by rw [hb];simp;omega
  rw [←hb]
  have na2:=Y0m (m:=4) (s.f.m::s.f.a) fun i hi=>by
   cases i with
   | zero=>exact h4
   | succ i=>rw [List.getD_cons_succ,h6 i (by simpa using hi)];exact h4
  have hcl:(s.f.m::s.f.a).length=s.f.a.length+1:=rfl
  have eq1: [PV.sl .no (Q0z s.f.m)]++encQ s.f.a=encQ (s.f.m::s.f.a):=rfl
  have rl: ∀i,i<s.f.a.length+1→((s.f.m::s.f.a).getD i []).length=s.f.m.length∧wNs' ((s.f.m::s.f.a).getD i []):=fun i hi=>by
   cases i with
   | zero=>exact⟨rfl,wm⟩
   | succ i=>rw [List.getD_cons_succ];exact⟨h6 i (by omega),wa.2 i (by omega)⟩
  have tl: ∀i,i≤s.f.a.length+1→(V0n ((s.f.m::s.f.a).take i)).length≤12000:=fun i hi=>by
   have:=Y0m (m:=4) ((s.f.m::s.f.a).take i) fun j hj=>by
    have hj':j<i∧j<s.f.a.length+1:=by simp at hj;omega
    rw [W2j _ _ _ hj'.1,(rl j hj'.2).1];exact h4
   simp at this;omega
  refine Q0h (Q0a ?_)
  simp -dsimp only [go_sem,ha0]
  refine⟨by omega,.inr trivial,?_⟩
  refine Q0e [false,true,false,false,true,false,false,false,false,false,false,false,false,false,false,false,false,false,false,false,false,false,false,false,false,false,false,false,false,false,false,false,false,false,false,false,true,true,true] 1 1 (fun c s'=> ∃i,c=1+s.f.a.length-i∧i≤1+s.f.a.length∧s'=⟨List.replicate 1 .junk++([.lp 0 0]++(List.replicate 2 .junk++([.sl .no (encB (base++V0n ((s.f.m::s.f.a).take i)))]++(List.replicate 31 .junk++([.sl (.own 0) (encQ (s.f.m::s.f.a)),.sc (.int .i64 (1+s.f.a.length:Nat)),.sc (.int .i64 (i:Nat))]++(List.replicate 19 .junk)))))),[J0v s],[(1+s.f.a.length,1)],st⟩) (1+s.f.a.length) ?_ ?_
  · simp -dsimp only [go_sem]
    refine⟨0,by omega,by omega,?_⟩
    simp [V0n,encQ]
    omega
  · rintro c s' ⟨i,rfl,hi,rfl⟩
    simp -dsimp only [go_sem]
    refine ck (fun h7=> ?_) (fun h7=> ?_)
    · have hlt:i<s.f.a.length+1:=by have:=of_decide_eq_true h7;omega
      have g1:=j0e (s.f.m::s.f.a) i hlt
      have x1:=G0k i (by omega)
      obtain⟨r1,r2,r3⟩:=rl i hlt
      have tli:=tl i (by omega)
      simp -dsimp only [go_sem,g1]
      refine⟨by omega,?_⟩
      refine Q0a ?_
      simp -dsimp only [go_sem]
      refine Q0e [false,true,false,false,true,false,false,false,false,false,false,false,false,false,false,false,false,false,false,false,false,false,false,false,false,false,false,false,false,false,false,false,false,false,false,false,true,true,true,false,false,false,true,true,true] 1 1 (fun c s'=> ∃k,c=((s.f.m::s.f.a).getD i []).length-k∧k≤((s.f.m::s.f.a).getD i []).length∧s'=⟨List.replicate 1 .junk++([.lp 0 0]++(List.replicate 2 .junk++([.sl .no (encB (base++V0n ((s.f.m::s.f.a).take i)++nsB (((s.f.m::s.f.a).getD i []).take k)))]++(List.replicate 31 .junk++([.sl (.own 0) (encQ (s.f.m::s.f.a)),.sc (.int .i64 (1+s.f.a.length:Nat)),.sc (.int .i64 (i:Nat))]++(List.replicate 3 .junk++([.sl .no (Q0z ((s.f.m::s.f.a).getD i [])),.sc (.int .i64 ((s.f.m::s.f.a).getD i []).length),.sc (.int .i64 (k:Nat))]++(List.replicate 13 .junk)))))))),[J0v s],[(1+s.f.a.length,1)],st⟩) ((s.f.m::s.f.a).getD i []).length ?_ ?_
      · simp -dsimp only [go_sem]
        refine⟨0,by omega,by omega,?_⟩
        simp [nsB]
      · rintro c s' ⟨k,rfl,hk,rfl⟩
        simp -dsimp only [go_sem]
        refine ck (fun h8=> ?_) (fun h8=> ?_)
        · have hklt:k<((s.f.m::s.f.a).getD i []).length:=by have:=of_decide_eq_true h8;omega
          have g2:=K0v ((s.f.m::s.f.a).getD i []) k hklt
          have x2:=G0k k (by omega)
          have nk:=H0r (((s.f.m::s.f.a).getD i []).take k)
          rw [List.length_take] at nk
          simp -dsimp only [go_sem,g2]
          refine⟨by omega,?_⟩
          refine(V1l (base++V0n ((s.f.m::s.f.a).take i)++nsB (((s.f.m::s.f.a).getD i []).take k)) (((s.f.m::s.f.a).getD i []).getD k default) st (by rw [List.length_append,List.length_append];omega) (r3 k hklt)).plain.mono ?_
          rintro r st ⟨rfl,rfl⟩
          simp -dsimp only [go_sem,x2]
          refine⟨((s.f.m::s.f.a).getD i []).length-(k+1),by omega,k+1,rfl,by omega,?_⟩
          rw [k2p _ _ hklt,←List.append_assoc]
        · have hge:k=((s.f.m::s.f.a).getD i []).length:=by have:=of_decide_eq_false h8;omega
          simp -dsimp only [go_sem]
          refine Q0a ?_
          simp -dsimp only [go_sem,x1]
          refine⟨1+s.f.a.length-(i+1),by omega,i+1,rfl,by omega,?_⟩
          rw [hge,List.take_length,J2g _ _ hlt,←List.append_assoc]
    · have hge:i=(s.f.m::s.f.a).length:=by have:=of_decide_eq_false h7;rw [hcl];omega
      simp -dsimp only [go_sem]
      refine Q0a ?_
      have tli:=tl (s.f.a.length+1) (by omega)
      rw [←hcl,List.take_length] at tli
      rw [hge,List.take_length]
      simp -dsimp only [go_sem]
      refine(Z3o (base++V0n (s.f.m::s.f.a)) s.f.r st (by rw [List.length_append];omega) wr).mono ?_
      rintro r st ⟨rfl,rfl⟩
      simp -dsimp only [go_sem]
      rw [stB,if_pos hr,hb]
      have:V0n (s.f.m::s.f.a)=nsB s.f.m++V0n s.f.a:=by simp [V0n]
      rw [this]
      simp only [List.append_assoc]
end Go.Pv
end
