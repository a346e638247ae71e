/- Parts of the walk: G9, N173. -/
import Derived.Test.YtofoadghajnglaaGreatDoorZAQ
import Derived.Test.YtofoadghajnglaaGreatDoorZGB
import Derived.Test.YtofoadghajnglaaGreatDoorZGE
import Derived.Test.YtofoadghajnglaaGreatDoorZAR
import Derived.Test.YtofoadghajnglaaGreatDoorZBN
import Derived.Test.YtofoadghajnglaaGreatDoorZBV
import Derived.Test.YtofoadghajnglaaGreatDoorZFC
set_option linter.unusedVariables false
set_option linter.unusedSimpArgs false
section
/-The type of lists of matrices. -/
namespace Go.Pv
open Go.Proofs
theorem X2y {k k':Nat} {l:List Mx} (h:okL (okL (okL okI)) k l) (hk:k≤k'):okL (okL (okL okI)) k' l:=⟨Nat.le_trans h.1 hk,fun i hi=>U1c (h.2 i hi) hk⟩
theorem tyCs :Ty Tryz.prog 74 1 (fun l:List Mx=> [.sl .no (Z0r l)]) (okL (okL (okL okI))):=
 X1y (y0f Tryz.underlying74 (by kernel_rfl) tyMx (by decide) (fun c=> .sl .no (encM c)) (fun _=>rfl)) id (fun _=>rfl) (fun _=>rfl) (fun _ _ h=>h) (fun h hk=>X2y h hk)
theorem K3t {k:Nat} (hk:k≤2000000) {l:List Mx} (h:okL (okL (okL okI)) k l):wCs l:=⟨by have:=h.1;omega,fun i hi=>k3a hk (h.2 i hi)⟩
end Go.Pv
end
section
/-Layer 16:VarySums. -/
set_option maxRecDepth 100000
namespace Go.Pv
open Go.Proofs
def okW (w:List Mx):Prop:= ∀i,i<w.length→wM (w.getD i [])
theorem H2p {w:List Mx} {m:Mx} (h:okW w) (hm:wM m):okW (w++ [m]):=fun i hi=>by
 by_cases e:i<w.length
 · rw [Q0j _ _ _ _ e];exact h i e
 · have:i=w.length:=by simp at hi;omega
   rw [this,Q0l _ _ _ _ (Nat.le_refl _),Nat.sub_self];exact hm
theorem J2o {m:Mx} {n:Nat} (hn:n≤4) (h1:m.length=n) (h2: ∀q,q<n→(m.getD q []).length=n∧ ∀j,j<n→smI (atM m q j)):wM m:=
 ⟨by omega,fun i hi=>⟨by rw [(h2 i (by omega)).1];omega,fun j hj=>J0r ((h2 i (by omega)).2 j (by rw [(h2 i (by omega)).1] at hj;exact hj)).1⟩⟩
def X3r (S:Q0e) (w:List Mx) (x:PV):Prop:=(w= []∧x= .sl .full [])∨(w≠ []∧ ∃W cap,x= .gr W w.length cap∧CsAt S 1 W cap w)
theorem CsAt.put {S:Q0e} {B O cap:Nat} {w:List Mx} (h:CsAt S B O cap w) {i:Nat} (hi:i<w.length) (m:Mx):CsAt (S.set O (over (S.getD O []) i [.sl .no (encM m)])) B O cap (w.set i m):=by
 obtain⟨h1,h2,h3,R,h4,h5⟩:=h
 refine⟨h1,by rw [List.length_set];exact h2,by rw [List.length_set];exact h3,R,?_,by rw [List.length_set];exact h5⟩
 rw [Q0o _ _ _ _ h2,h4]
 unfold over
 have e:Z0r (w.set i m)=(Z0r w).set i (.sl .no (encM m)):=by unfold Z0r;rw [List.map_set]
 rw [e,show(Z0r w).set i (.sl .no (encM m))++R=(Z0r w++R).set i (.sl .no (encM m)) from(List.set_append_left _ _ (by rw [Z0x];exact hi)).symm,List.set_eq_take_append_cons_drop,if_pos (by rw [List.length_append,Z0x];omega)]
 simp
set_option maxHeartbeats 8000000 in
theorem k1u (m:List Mx) (l:List UInt64) (h:Ivl) (p:Int) (hm:wCs m) (hh:wI h):
 PCalls Tryz.prog 10 [.sl .no (Z0r m),.sl .no (encW l),.agg (encI h),.sc (.int .i64 p)] [] (fun r st'=>r= .sc (.bool true)):=by
 have hml:=hm.1
 have ws:=Q2x (h:=h) (p:=p) hm
 refine Q0b none Tryz.func10 rfl fun E=>Q0a ?_
 simp -dsimp only [go_sem]
 refine(K2i _).mono ?_
 rintro r st ⟨rfl,rfl⟩
 simp -dsimp only [go_sem]
 cases b1:decide ((m.length:Int)>12) with
 | true=>simp -dsimp only [go_sem]
 | false=>
 simp -dsimp only [go_sem]
 cases b3:decide ((h.lo.w.length:Int)>5) with
 | true=>simp -dsimp only [go_sem]
 | false=>
 simp -dsimp only [go_sem]
 cases b4:decide ((h.hi.w.length:Int)>5) with
 | true=>simp -dsimp only [go_sem]
 | false=>
 simp -dsimp only [go_sem]
 refine Q0x [true,true,false,true,false,false,true,false,false,true] 1 0 (fun c s=> ∃i,i≤m.length∧c=m.length-i∧
  s=⟨[.sl .no (Z0r m),.sl .no (encW l),.junk,.sc (.int .i64 p),.junk,.junk,.lp 0 0,.junk,.junk,.sc (.int .i64 (i:Nat))]++List.replicate 183 .junk,[encI h],[],[]⟩) m.length ?_ ?_
 · simp -dsimp only [go_sem]
   exact⟨0,by omega,by omega,rfl⟩
 rintro c s ⟨i,hi,rfl,rfl⟩
 refine Q0h (Q0a ?_)
 simp -dsimp only [go_sem]
 refine ck (fun h2=> ?_) (fun h2=> ?_)
 · have hlt:i<m.length:=by have:=of_decide_eq_true h2;omega
   have e1:=K0d m i hlt
   have f3:=V0a i (by omega)
   have wmi:=hm.2 i hlt
   have wl:=wmi.1
   simp -dsimp only [go_sem]
   refine Q0h (X0a (Q0h (Q0a ?_)))
   simp -dsimp only [go_sem,e1]
   refine⟨by omega,?_⟩
   refine ck (fun h3=> ?_) (fun h3=> ?_)
   · simp -dsimp only [go_sem]
   simp -dsimp only [go_sem]
   refine Q0a ?_
   simp -dsimp only [go_sem]
   refine Q0x [true,true,false,true,false,false,true,false,false,true,true] 1 0 (fun c s=> ∃j,j≤(m.getD i []).length∧c=(m.getD i []).length-j∧
    s=⟨[.sl .no (Z0r m),.sl .no (encW l),.junk,.sc (.int .i64 p),.junk,.junk,.lp 0 0,.junk,.junk,.sc (.int .i64 (i:Nat)),.sc (.int .i64 (j:Nat))]++List.replicate 182 .junk,[encI h],[],[]⟩) (m.getD i []).length ?_ ?_
   · simp -dsimp only [go_sem]
     exact⟨0,by omega,by omega,rfl⟩
   rintro c s ⟨j,hj,rfl,rfl⟩
   refine Q0h (Q0a ?_)
   simp -dsimp only [go_sem,e1]
   refine⟨by omega,?_⟩
   refine ck (fun h4=> ?_) (fun h4=> ?_)
   rotate_left
   · simp -dsimp only [go_sem]
     refine Q0a ?_
     simp -dsimp only [go_sem,f3]
     exact⟨m.length-(i+1),by omega,i+1,by omega,rfl,rfl⟩
   have hlt2:j<(m.getD i []).length:=by have:=of_decide_eq_true h4;omega
   have e2:=J0w (m.getD i []) j hlt2
   have k3:=V0a j (by omega)
   have wr:=(wmi.2 j hlt2).1
   simp -dsimp only [go_sem]
   refine Q0h (X0a (Q0h (Q0a ?_)))
   simp -dsimp only [go_sem,e1,e2]
   refine⟨by omega,by omega,?_⟩
   refine ck (fun h5=> ?_) (fun h5=> ?_)
   · simp -dsimp only [go_sem]
   simp -dsimp only [go_sem]
   refine Q0a ?_
   simp -dsimp only [go_sem]
   refine Q0x [true,true,false,true,false,false,true,false,false,true,true,true] 1 0 (fun c s=> ∃k,k≤((m.getD i []).getD j []).length∧c=((m.getD i []).getD j []).length-k∧
    s=⟨[.sl .no (Z0r m),.sl .no (encW l),.junk,.sc (.int .i64 p),.junk,.junk,.lp 0 0,.junk,.junk,.sc (.int .i64 (i:Nat)),.sc (.int .i64 (j:Nat)),.sc (.int .i64 (k:Nat))]++List.replicate 181 .junk,[encI h],[],[]⟩) ((m.getD i []).getD j []).length ?_ ?_
   · simp -dsimp only [go_sem]
     exact⟨0,by omega,by omega,rfl⟩
   rintro c s ⟨k,hk,rfl,rfl⟩
   refine Q0h (Q0a ?_)
   simp -dsimp only [go_sem,e1,e2]
   refine⟨by omega,by omega,?_⟩
   refine ck (fun h6=> ?_) (fun h6=> ?_)
   rotate_left
   · simp -dsimp only [go_sem]
     refine Q0a ?_
     simp -dsimp only [go_sem,k3]
     exact⟨(m.getD i []).length-(j+1),by omega,j+1,by omega,rfl,rfl⟩
   have hlt3:k<((m.getD i []).getD j []).length:=by have:=of_decide_eq_true h6;omega
   have e5:=Z0m ((m.getD i []).getD j []) k hlt3
   have k5:=V0a k (by omega)
   simp -dsimp only [go_sem]
   refine Q0h (X0a (Q0a ?_))
   simp -dsimp only [go_sem,e1,e2,e5]
   refine⟨by omega,by omega,by omega,?_⟩
   cases c1:decide (((((m.getD i []).getD j []).getD k default).lo.w.length:Int)>5) with
   | true=>simp -dsimp only [go_sem]
   | false=>
   simp -dsimp only [go_sem,e1,e2,e5]
   refine⟨by omega,by omega,by omega,?_⟩
   refine ck (fun h8=> ?_) (fun h8=> ?_)
   · simp -dsimp only [go_sem]
   simp -dsimp only [go_sem]
   refine Q0a ?_
   simp -dsimp only [go_sem,k5]
   exact⟨((m.getD i []).getD j []).length-(k+1),by omega,k+1,by omega,rfl,rfl⟩
 simp -dsimp only [go_sem]
 refine Q0h (Q0a ?_)
 simp -dsimp only [go_sem]
 refine(Q2w m h p _ hm hh).mono ?_
 rintro r st ⟨rfl,rfl⟩
 simp -dsimp only [go_sem]
 refine Q0h (Q0a ?_)
 simp -dsimp only [go_sem]
 refine(W1r m h p _ hm hh).mono ?_
 rintro r st ⟨rfl,rfl⟩
 refine Exists.elim (⟨_,rfl⟩: ∃s,s=x0e m h p) fun s0 hs=> ?_
 rw [←hs] at ws⊢
 clear hs
 simp -dsimp only [go_sem]
 refine Q0h (Q0a ?_)
 simp -dsimp only [go_sem]
 refine(x2f l _).mono ?_
 rintro r st ⟨rfl,rfl⟩
 simp -dsimp only [go_sem]
 refine Q0h (Q0a ?_)
 simp -dsimp only [go_sem]
 refine Q0h (Q0a ?_)
 simp -dsimp only [go_sem]
 refine(y3i l 0 0 [dk l 0] rfl (by omega)).mono ?_
 rintro r st ⟨n,hn1,hn2,rfl,rfl⟩
 simp -dsimp only [go_sem]
 refine Q0h (Q0a ?_)
 simp -dsimp only [go_sem]
 refine(Z1n l 1 0 5 [dk l 1] rfl (by omega) (by omega) (by omega)).mono ?_
 rintro r st ⟨rfl,rfl⟩
 have hk:=y2o l 1 (n:=5) (by omega)
 have x1:IntKind.i64.wrap (1+((nx l 1 5:Nat):Int))=((1+nx l 1 5:Nat):Int):=by rw [Q0k _ (by omega) (by omega)];omega
 simp -dsimp only [go_sem,x1]
 refine Exists.elim (⟨_,rfl⟩: ∃N,N=1+nx l 1 5) fun N hN=> ?_
 rw [←hN]
 have hN5:N≤5:=by omega
 have hN1:1≤N:=by omega
 clear hN x1 hk
 refine Q0x [false,false,false,false,false,false,false,false,false,false,false,false,true,true,true,true,true,true,true,true] 0 0 (fun k s=> ∃(j:Nat) (w:List Mx) (x:PV) (S:Q0e),k≤N∧w.length=N-k∧okW w∧j≤2+100*(N-k)∧atD S 0 l j∧X3r S w x∧
  s=⟨[.junk,.junk,.junk,.junk,.junk,.junk,.junk,.junk,.junk,.junk,.junk,.junk,.sl .no (encM s0.1),.sc (.int .i64 s0.2),.sl .no (encM s0.1),.sc (.int .i64 s0.2),.gp 0 0,x,.sc (.int .i64 (n:Nat)),.sc (.int .i64 (k:Nat))]++List.replicate 173 .junk,[],[],S⟩) N ?_ ?_
 · simp -dsimp only [go_sem]
   exact⟨2,[],.sl .full [],[dk l 2],by simp,fun i hi=>by simp at hi,by omega,rfl,.inl ⟨rfl,rfl⟩,rfl⟩
 rintro k s ⟨j,w,x,S,hk,hwl,hw,hj,hd,hL,rfl⟩
 refine Q0h (Q0a ?_)
 simp -dsimp only [go_sem]
 refine ck (fun h2=> ?_) (fun h2=> ?_)
 · have hk0:0<k:=by have:=of_decide_eq_true h2;omega
   have x2:IntKind.i64.wrap ((k:Int)-1)=((k-1:Nat):Int):=by rw [Q0k _ (by omega) (by omega)];omega
   simp -dsimp only [go_sem]
   refine Q0h (X0a ?_)
   refine V1e [false,false,false,false,false,true] ?_
   have hdk:=hd.lt
   rcases hL with ⟨rfl,rfl⟩ | ⟨hne,W,cap,rfl,hC⟩
   · simp -dsimp only [go_sem]
     refine(Z1o l j 0 n S hd (by omega) (by omega)).mono ?_
     rintro r S' ⟨q,j',q1,q2,hj1,hj2,rfl,rfl⟩
     have hnn:3*n*n≤100:=by
      have:n*n≤4*4:=Nat.mul_le_mul hn2 hn2
      rw [Nat.mul_assoc];omega
     simp -dsimp only [go_sem]
     refine⟨GrowOK.mk_one rfl (by decide) rfl (by omega) (by decide) rfl rfl,fun cap' R hc hR=> ?_⟩
     refine Q0a ?_
     simp -dsimp only [go_sem,x2]
     have hlen:(S.set 0 (dk l j')).length=S.length:=by simp
     refine⟨k-1,by omega,j',[q],.gr S.length 1 cap',S.set 0 (dk l j')++ [flat [PV.sl .no (encM q)]++R],by omega,by simp at hwl⊢;omega,fun i hi=> ?_,?_,?_,.inr ⟨List.cons_ne_nil _ _,S.length,cap',rfl,by omega,by rw [List.length_append,List.length_set];exact Nat.lt_add_one _,hc,R,?_,by simpa using hR⟩,by rw [hlen]⟩
     · have:i=0:=by simpa using hi
       subst this;exact J2o hn2 q1 q2
     · have:N-k≤N-(k-1):=by omega
       have e:N-(k-1)=N-k+1:=by omega
       rw [e];omega
     · unfold atD
       rw [Q0j _ _ _ _ (by simpa using hdk)]
       exact hd.set j'
     · rw [←hlen,Q0l _ _ _ _ (Nat.le_refl _),Nat.sub_self];rfl
   · simp -dsimp only [go_sem]
     refine(Z1o l j 0 n S hd (by omega) (by omega)).mono ?_
     rintro r S' ⟨q,j',q1,q2,hj1,hj2,rfl,rfl⟩
     have hnn:3*n*n≤100:=by
      have:n*n≤4*4:=Nat.mul_le_mul hn2 hn2
      rw [Nat.mul_assoc];omega
     have hC':CsAt (S.set 0 (dk l j')) 1 W cap w:=hC.mono (by simp) (by rw [Q0i _ _ _ _ _ (by have:=hC.1;omega)])
     simp -dsimp only [go_sem]
     refine⟨GrowOK.mk_one rfl (by decide) hC'.ok (by omega) (by decide) rfl rfl,fun W' cap' S2 hGr=> ?_⟩
     obtain⟨g1,g2,g3⟩:=hC'.grow (by simp;omega) hGr
     refine Q0a ?_
     simp -dsimp only [go_sem,x2]
     refine⟨k-1,by omega,j',w++ [q],_,S2,by omega,by simp;omega,H2p hw (J2o hn2 q1 q2),?_,?_,.inr ⟨by simp,W',cap',rfl,g1⟩,by simp⟩
     · have e:N-(k-1)=N-k+1:=by omega
       rw [e];omega
     · unfold atD
       rw [g3 0 (by simpa using hdk) (by have:=hC.1;omega)]
       exact hd.set j'
 have hk0:k=0:=by have:=of_decide_eq_false h2;omega
 subst hk0
 rcases hL with ⟨rfl,rfl⟩ | ⟨hne,W,cap,rfl,hC⟩
 · simp at hwl;omega
 have hdk:=hd.lt
 simp -dsimp only [go_sem]
 refine H0u [false,false,false,false,false,false,false,false,false,false,false,false,true,true,true,true,true,true] 0 0 (fun s=> ∃(j':Nat) (w':List Mx) (S':Q0e),w'.length=w.length∧okW w'∧j'≤1000∧atD S' 0 l j'∧CsAt S' 1 W cap w'∧
  s=⟨[.junk,.junk,.junk,.junk,.junk,.junk,.junk,.junk,.junk,.junk,.junk,.junk,.sl .no (encM s0.1),.sc (.int .i64 s0.2),.sl .no (encM s0.1),.sc (.int .i64 s0.2),.gp 0 0,.gr W w.length cap]++List.replicate 175 .junk,[],[],S'⟩) ?_ ?_
 · simp -dsimp only [go_sem]
   refine(K3m l j 0 6 S hd (by omega) (by omega) (by omega)).mono ?_
   rintro r S' ⟨rfl,rfl⟩
   simp -dsimp only [go_sem]
   have hd1:atD (S.set 0 (dk l (j+1))) 0 l (j+1):=hd.set (j+1)
   have hC1:CsAt (S.set 0 (dk l (j+1))) 1 W cap w:=hC.mono (by simp) (by rw [Q0i _ _ _ _ _ (by have:=hC.1;omega)])
   refine ck (fun h4=> ?_) (fun h4=> ?_)
   rotate_left
   · simp -dsimp only [go_sem]
     exact⟨j+1,w,_,rfl,hw,by omega,hd1,hC1,rfl⟩
   have x5:IntKind.i64.wrap (1+(n:Int).tmod 4)=((1+n % 4:Nat):Int):=by
    rw [show(n:Int).tmod 4=((n % 4:Nat):Int) from rfl,Q0k _ (by omega) (by omega)];omega
   simp -dsimp only [go_sem,x5]
   refine(Z1o l (j+1) 0 (1+n % 4) _ hd1 (by omega) (by omega)).mono ?_
   rintro r S' ⟨q,j',q1,q2,hj1,hj2,rfl,rfl⟩
   have hwp:0<w.length:=List.length_pos_iff.2 hne
   have hnn:3*(1+n % 4)*(1+n % 4)≤100:=by
    have h4:1+n % 4≤4:=by omega
    have:(1+n % 4)*(1+n % 4)≤4*4:=Nat.mul_le_mul h4 h4
    rw [Nat.mul_assoc];omega
   have hd2:atD ((S.set 0 (dk l (j+1))).set 0 (dk l j')) 0 l j':=hd1.set j'
   have hC2:CsAt ((S.set 0 (dk l (j+1))).set 0 (dk l j')) 1 W cap w:=hC1.mono (by simp) (by rw [Q0i _ _ _ _ _ (by have:=hC.1;omega)])
   have hWl:1≤(((S.set 0 (dk l (j+1))).set 0 (dk l j')).getD W []).length:=by have:=hC2.ok;have:=hC2.2.2.1;omega
   refine Exists.elim (⟨_,rfl⟩: ∃S3,S3=(S.set 0 (dk l (j+1))).set 0 (dk l j')) fun S3 hS3=> ?_
   rw [←hS3] at hd2 hC2 hWl⊢
   clear hS3
   simp -dsimp only [go_sem]
   refine⟨hwp,⟨hWl,by omega⟩,j',w.set 0 q,_,by rw [List.length_set],fun i hi=> ?_,by omega,?_,hC2.put hwp q,rfl⟩
   · rw [List.length_set] at hi
     by_cases e:0=i
     · subst e;rw [Q0o _ _ _ _ hi];exact J2o (by omega) q1 q2
     · rw [Q0i _ _ _ _ _ e];exact hw i hi
   · unfold atD
     rw [Q0i _ _ _ _ _ (by have:=hC.1;omega)];exact hd2
 rintro s ⟨j',w',S',hwl',hw',hj',hd',hC',rfl⟩
 obtain⟨c1,c2,c3,R,c4,c5⟩:=hC'
 have hwC:wCs w':=⟨by omega,hw'⟩
 refine G2v 17 W w.length cap rfl S' rfl (fun i _=>⟨rfl,fun o _=> .same _⟩) ?_
 simp -dsimp only [go_sem]
 refine X0z (W1g W 17 w.length 1 (Z0r w') R c2 rfl (by rw [z0j];exact c4) (by rw [Z0x];exact hwl') (w0u w') (by decide)) ?_
 have hd2:atD (S'.set W []) 0 l j':=by
  unfold atD
  rw [Q0i _ _ _ _ _ (by omega)];exact hd'
 refine Exists.elim (⟨_,rfl⟩: ∃S4,S4=S'.set W []) fun S4 hS4=> ?_
 rw [←hS4] at hd2
 simp -dsimp only [go_sem,←hS4]
 clear hS4
 refine Q0h (Q0a ?_)
 simp -dsimp only [go_sem]
 refine(J1b l j' 0 S4 hd2 (by omega)).mono ?_
 rintro r S5 ⟨iv,j2,hiv,hj3,hj4,rfl,rfl⟩
 simp -dsimp only [go_sem]
 refine(V3z l j2 0 _ (hd2.set j2) (by omega)).mono ?_
 rintro r S5 ⟨pr,j3,hp1,hp2,hj5,hj6,rfl,rfl⟩
 have wiv:=J0r hiv.1
 have wt:=Q2x (h:=iv) (p:=(pr:Int)) hwC
 simp -dsimp only [go_sem]
 refine Q0h (Q0a ?_)
 simp -dsimp only [go_sem]
 refine(Q2w w' iv pr _ hwC wiv).mono ?_
 rintro r S5 ⟨rfl,rfl⟩
 simp -dsimp only [go_sem]
 refine Q0h (Q0a ?_)
 simp -dsimp only [go_sem]
 refine(W1r w' iv pr _ hwC wiv).mono ?_
 rintro r S5 ⟨rfl,rfl⟩
 refine Exists.elim (⟨_,rfl⟩: ∃s,s=x0e w' iv pr) fun s1 hs=> ?_
 rw [←hs] at wt⊢
 clear hs
 have d1:decide (s0.1=s0.1)=true:=decide_eq_true rfl
 have d2:decide (s1.1=s1.1)=true:=decide_eq_true rfl
 simp -dsimp only [go_sem]
 refine Q0a ?_
 simp -dsimp only [go_sem,beq_self_eq_true]
 refine(W1y s0.1 s0.1 _ ws ws).mono ?_
 rintro r S5 ⟨rfl,rfl⟩
 rw [d1]
 simp -dsimp only [go_sem]
 refine(W1y s1.1 s1.1 _ wt wt).mono ?_
 rintro r S5 ⟨rfl,rfl⟩
 rw [d2]
 simp -dsimp only [go_sem]
end Go.Pv
end
