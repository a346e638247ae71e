/- Parts of the walk: N91, N94, N95. -/
import Derived.Test.YtldalepagmhnmaaGreatDoorZCC
set_option linter.unusedVariables false
set_option linter.unusedSimpArgs false
section
set_option maxRecDepth 100000
namespace Go.Pv
open Go.Proofs
theorem G1c (a:List Ivl)(k:Nat)(st:Q0f)(hk:k<=1000000)(la:a.length<=1000000)(wa: ∀x∈a,wI x):PCalls Tryz.prog 257 [.sl .no (Q0p a),.sc (.int .i64 k)] st
 (fun r st'=>r= .sc (.bool (J0d a k))/\st'=st):=by
 refine Q0b none Tryz.func257 rfl fun E=>Q0a ?_;have wk:IntKind.i64.wrap ((k:Int)+1)=((k+1:Nat):Int):=(by rw[Q0i _ (by omega) (by omega)];omega);simp-dsimp only[go_sem,wk];refine ck (fun h=> ?_) (fun h=> ?_);have hl:a.length<k+1:=(by have:=q_b h;omega);have:J0d a k=false:=Bool.eq_false_iff.2 fun hu=>(by have:=x0f hu;omega);simp-dsimp only[go_sem];rw[this];have hl:k<a.length:=(by have:=q_c h;omega);simp-dsimp only[go_sem];refine Q0e [true,true,false,false,false,true] 0 0
  (fun c s'=> ∃i,c=k+1-i/\i<=k+1/\(∀j,j<i->Q0m (a.getD j default)=true)/\
   s'=⟨[.sl .no (Q0p a),.sc (.int .i64 (k:Nat)),.junk,.junk,.junk,.sc (.int .i64 (i:Nat))]++List.replicate 16 .junk,[],[],st⟩) (k+1) ?_ ?_
 simp-dsimp only[go_sem];exact⟨0,by omega,by omega,fun j hj=>absurd hj (by omega),rfl⟩;rintro c s' ⟨i,rfl,hi,hall,rfl⟩;simp-dsimp only[go_sem];refine ck (fun h=> ?_) (fun h=> ?_);have hlt:i<k+1:=(by have:=q_b h;omega);have e3:IntKind.i64.wrap ((i:Int)+1)=((i+1:Nat):Int):=(by rw[Q0i _ (by omega) (by omega)];omega);have gI:=Z0h a i (by omega);simp-dsimp only[go_sem,gI];refine⟨by omega,?_⟩;refine(X0g (a.getD i default) _ (K1b wa i)).mono ?_;rintro r st ⟨rfl,rfl⟩;cases hr:Q0m (a.getD i default) with
 | false=>
  have:J0d a k=false:=Bool.eq_false_iff.2 fun hu=>by have:=j0m hu (show i<=k by omega);rw[hr] at this;cases this
  simp-dsimp only[go_sem];rw[this]
 | true=>
  simp-dsimp only[go_sem,e3];refine⟨k+1-(i+1),by omega,i+1,rfl,by omega,fun j hj=> ?_,rfl⟩;by_cases e:j=i;rw[e];exact hr;exact hall j (by omega)
 have hge:i=k+1:=by have:=q_c h;omega
 subst hge;simp-dsimp only[go_sem];refine Q0a ?_;simp-dsimp only[go_sem];rw[j0l hl fun j hj=>hall j (by omega)]
set_option maxHeartbeats 4000000 in
theorem y2p (a b:List Ivl)(k:Nat)(p:Int)(st:Q0f)(hk:k<=10)(la:a.length<=1000000)(lb:b.length<=1000000)(wa: ∀x∈a,wI x)(wb: ∀x∈b,wI x):
 PCalls Tryz.prog 293 [.sl .no (Q0p a),.sl .no (Q0p b),.sc (.int .i64 k),.sc (.int .i64 p)] st
 (fun r st'=>r= .tup [.agg (encI (V0r a b k p).1),.sc (.int .i64 (V0r a b k p).2)]/\st'=st):=by
 refine Q0b none Tryz.func293 rfl fun E=>Q0a ?_;have d1:decide ((k:Int)<0)=false:=q_g (by omega);have d2:decide ((k:Int)>10)=false:=q_g (by omega);simp-dsimp only[go_sem,d1,d2];refine(G1c a k st (by omega) la wa).mono ?_;rintro r st ⟨rfl,rfl⟩;cases ha:J0d a k with
 | false=>
  have e:V0r a b k p=(default,1):=by unfold V0r;rw[ha];simp
  rw[e];simp-dsimp only[go_sem];rfl
 | true=>
 simp-dsimp only[go_sem];refine(G1c b k st (by omega) lb wb).mono ?_;rintro r st ⟨rfl,rfl⟩;cases hb:J0d b k with
 | false=>
  have e:V0r a b k p=(default,1):=by unfold V0r;rw[hb];simp
  rw[e];simp-dsimp only[go_sem];rfl
 | true=>
 simp-dsimp only[go_sem];refine(w0k p st).mono ?_;rintro r st ⟨rfl,rfl⟩;cases hp:Z0q p with
 | false=>
  have e:V0r a b k p=(default,1):=by unfold V0r;rw[hp];simp
  rw[e];simp-dsimp only[go_sem];rfl
 | true=>
 have e:V0r a b k p=j0z p (z0x a b k) false default:=by unfold V0r;rw[hp,ha,hb];simp
 rw[e];have hka:=x0f ha;have hkb:=x0f hb;simp-dsimp only[go_sem];refine X0s 0 (X0s 1 ?_);simp-dsimp only[go_sem];refine Q0e [true,true,true,true,false,false,false,false,true,false,true,true] 2 0
  (fun c s'=> ∃(i:Nat) (s:Ivl),c=k+1-i/\i<=k+1/\wI s/\j0z p ((z0x a b k).drop i) (decide (0<i)) s=j0z p (z0x a b k) false default/\
   s'=⟨[.sl .no (Q0p a),.sl .no (Q0p b),.sc (.int .i64 (k:Nat)),.sc (.int .i64 p),.junk,.junk,.junk,.junk,.lp 0 0,.junk,.lp 1 0,.sc (.int .i64 (i:Nat))]++List.replicate 65 .junk,[encI default,encI s],[],st⟩) (k+1) ?_ ?_
 simp-dsimp only[go_sem];exact⟨0,default,by omega,by omega,Y0y,rfl,rfl⟩
 . rintro c s' ⟨i,s,rfl,hi,ws,hc,rfl⟩;simp-dsimp only[go_sem];refine ck (fun h=> ?_) (fun h=> ?_)
   . have hlt:i<k+1:=by have:=q_b h;omega
     have e3:IntKind.i64.wrap ((i:Int)+1)=((i+1:Nat):Int):=by rw[Q0i _ (by omega) (by omega)];omega
     have e4:IntKind.i64.wrap ((k:Int)-(i:Int))=((k-i:Nat):Int):=by rw[Q0i _ (by omega) (by omega)];omega
     have gI:=Z0h a i (by omega);have gJ:=Z0h b (k-i) (by omega);rw[W1o a b k i hlt,q0i] at hc;have m1:=K1b wa i;have m2:=K1b wb (k-i);simp-dsimp only[go_sem];refine Q0j Z0a 77 (.step 0 [] (.step 1 [] (.step 2 [] (.step 3 [] (.step 4 [] (.step 5 [] (.step 6 [] (.step 7 [] (.step 8 [] (.step 9 [] (.step 10 [] (.alt (.step 11 [] (.step 12 [] (.step 13 [] (.step 14 [] (.step 15 [3,9] (.step 16 [] (.step 17 [] (.done)))))))) (.step 15 [3,9] (.step 11 [] (.step 12 [] (.step 13 [] (.step 14 [] (.step 16 [] (.step 17 [] (.done)))))))))))))))))))) (by decide+kernel) (by simp) ?_;simp-dsimp only[go_sem,gI,gJ,e4];refine⟨⟨by omega,by omega⟩,⟨by omega,by omega⟩,And.intro ?_ ?_⟩
     all_goals
      refine(U1p (a.getD i default) (b.getD (k-i) default) p _ m1 m2).mono ?_;rintro r st2 ⟨rfl,rfl⟩;have wz:=Z2c 2 (a.getD i default) (b.getD (k-i) default) p;simp only at hc;generalize opI 2 (a.getD i default) (b.getD (k-i) default) p=z at hc wz⊢;by_cases hz:z.2=0;have b0:(z.2==0)=true:=(by simp[hz]);have b1:(z.2 !=0)=false:=(by simp[hz]);rw[if_pos hz] at hc;by_cases i0:i=0;have d3:decide ((i:Int)>0)=false:=q_g (by omega);rw[if_neg (by simp[i0])] at hc;simp-dsimp only[go_sem,b0,b1,d3,e3,hz];exact⟨k+1-(i+1),by omega,i+1,z.1,rfl,by omega,wz,by rw[q_h (show 0<i+1 by omega)];exact hc,rfl⟩;have d3:decide ((i:Int)>0)=true:=q_h (by omega);rw[if_pos (by simp;omega)] at hc;simp-dsimp only[go_sem,b0,b1,d3,hz];refine(Z1s s z.1 p _ ws wz).mono ?_;rintro r st2 ⟨rfl,rfl⟩;have wu:=Z2c 0 s z.1 p;generalize opI 0 s z.1 p=u at hc wu⊢;by_cases hu:u.2=0;have c1:(u.2 !=0)=false:=(by simp[hu]);rw[if_pos hu] at hc;simp-dsimp only[go_sem,c1,e3];exact⟨k+1-(i+1),by omega,i+1,u.1,rfl,by omega,wu,by rw[q_h (show 0<i+1 by omega)];exact hc,rfl⟩;have c1:(u.2 !=0)=true:=(by simp[hu]);rw[if_neg hu] at hc;simp-dsimp only[go_sem,c1];rw[<-hc];rfl;have b0:(z.2==0)=false:=(by simp[hz]);have b1:(z.2 !=0)=true:=(by simp[hz]);rw[if_neg hz] at hc;simp-dsimp only[go_sem,b0,b1];rw[<-hc];rfl
   have hge:i=k+1:=by have:=q_c h;omega
   subst hge;simp-dsimp only[go_sem];refine Q0a ?_;simp-dsimp only[go_sem];rw[show(z0x a b k).drop (k+1)= [] from by simp[z0x]] at hc;rw[<-hc];rfl
theorem k1a (a b:List Ivl)(k:Nat)(p:Int)(st:Q0f)(hk:k<=10)(la:a.length<=1000000)(lb:b.length<=1000000)(wa: ∀x∈a,wI x)(wb: ∀x∈b,wI x):
 PCalls Tryz.prog 258 [.sl .no (Q0p a),.sl .no (Q0p b),.sc (.int .i64 k),.sc (.int .i64 p)] st
 (fun r st'=>r= .tup [.sl .no (Q0p (U0m a b k p).1),.sc (.int .i64 (U0m a b k p).2)]/\st'=st):=by
 refine Q0b none Tryz.func258 rfl fun E=>Q0a ?_;simp-dsimp only[go_sem];refine Q0v 10 6 ?_;simp-dsimp only[go_sem];refine Q0e [true,true,true,true,false,false,false,false,false,false,true,true] 0 1
  (fun m s=> ∃(j:Nat) (o:List Ivl),m=k+1-j/\j<=k+1/\o.length=j/\tabF (fun j=>V0r a b j p) j (k+1-j) o=U0m a b k p/\
   s=⟨[.sl .no (Q0p a),.sl .no (Q0p b),.sc (.int .i64 (k:Nat)),.sc (.int .i64 p),.junk,.junk,.junk,.junk,.junk,.junk,.sl (.own 0) (Q0p o),.sc (.int .i64 (j:Nat))]++List.replicate 23 .junk,[],[(j,6)],st⟩) (k+1) ?_ ?_
 simp-dsimp only[go_sem];exact⟨0,[],by omega,by omega,rfl,rfl,rfl⟩;rintro m s ⟨j,o,rfl,hj,ho,ht,rfl⟩;simp-dsimp only[go_sem];refine ck (fun h=> ?_) (fun h=> ?_);have hlt:j<k+1:=(by have:=q_b h;omega);have e3:IntKind.i64.wrap ((j:Int)+1)=((j+1:Nat):Int):=(by rw[Q0i _ (by omega) (by omega)];omega);rw[X0c _ hlt] at ht;simp-dsimp only[go_sem];refine(y2p a b j p _ (by omega) la lb wa wb).mono ?_;rintro r st ⟨rfl,rfl⟩;generalize V0r a b j p=c at ht⊢;by_cases hc:c.2=0;have ec:(c.2 !=0)=false:=(by rw[hc];rfl);rw[if_neg (by rw[hc];decide)] at ht;have hsn:=K0b o c.1;simp-dsimp only[go_sem,ec,e3,hsn,ho];exact⟨by omega,k+1-(j+1),by omega,j+1,o++ [c.1],rfl,by omega,by simp[ho],ht,rfl⟩;have ec:(c.2 !=0)=true:=bne_iff_ne.2 hc;rw[if_pos hc] at ht;simp-dsimp only[go_sem,ec];rw[<-ht];rfl;have hge:j=k+1:=(by have:=q_c h;omega);subst hge;rw[J0f] at ht;simp-dsimp only[go_sem];refine X0j [false,false,false,false,false,false,false,false,false,false,true] (Q0a ?_);simp-dsimp only[go_sem];rw[<-ht]
set_option maxHeartbeats 4000000 in
theorem Z3n (q:List Mn)(xs:List (List Ivl))(k:Nat)(p:Int)(st:Q0f)(hk:k<=10)(wq:wP q)(wx:wXs xs):
 PCalls Tryz.prog 202 [.sl .no (Z0l q),.sl .no (encM xs),.sc (.int .i64 k),.sc (.int .i64 p)] st
 (fun r st'=>r= .tup [.agg (encI (W0i q xs k p).1),.sc (.int .i64 (W0i q xs k p).2)]/\st'=st):=by
 have bad: ¬(Q1u k p=true/\Z0z q xs.length=true/\(xs.all fun x=>J0d x (k:Int).toNat)=true)->W0i q xs k p=(default,1):=fun h=>by unfold W0i;rw[if_neg h]
 refine Q0b none Tryz.func202 rfl fun E=>Q0a ?_;have hk1:k+1<=1000000:=(by omega);have d1:decide ((k:Int)<0)=false:=q_g (by omega);have d2:decide ((k:Int)>10)=false:=q_g (by omega);have wk:IntKind.i64.wrap ((k:Int)+1)=((k+1:Nat):Int):=(by rw[Q0i _ (by omega) (by omega)];omega);simp-dsimp only[go_sem,d1,d2];refine(H0p q xs.length _ wq).mono ?_;rintro r st ⟨rfl,rfl⟩;cases hr:Z0z q xs.length with
 | false=>
  rw[bad (fun h=>by rw[hr] at h;exact absurd h.2.1 (by decide))];simp-dsimp only[go_sem];rfl
 | true=>
 simp-dsimp only[go_sem];refine(w0k p _).mono ?_;rintro r st ⟨rfl,rfl⟩;cases hp:Z0q p with
 | false=>
  rw[bad (fun h=>by have:=h.1;unfold Q1u at this;rw[hp] at this;simp at this)];simp-dsimp only[go_sem];rfl
 | true=>
 have hval:Q1u k p=true:=by unfold Q1u;rw[hp];simp;omega
 have hdef:W0i q xs k p=if (xs.all fun x=>J0d x k)=true then ofS q xs k p q.length else(default,1):=by unfold W0i;rw[Int.toNat_natCast];by_cases h3:(xs.all fun x=>J0d x k)=true;rw[if_pos ⟨hval,hr,h3⟩,if_pos h3];rw[if_neg (fun h=>h3 h.2.2),if_neg h3]
 rw[hdef];have hall:=all_hasUp (xs:=xs) (k:=k);generalize hU:(xs.all fun x=>J0d x k)=U at hall⊢;simp-dsimp only[go_sem];refine X0s 0 ?_;simp-dsimp only[go_sem];refine Q0e [true,true,true,true,false,false,false,false,true,false,true] 1 0
  (fun c s'=> ∃i,c=xs.length-i/\i<=xs.length/\(∀j,j<i->J0d (xs.getD j []) k=true)/\
   s'=⟨[.sl .no (Z0l q),.sl .no (encM xs),.sc (.int .i64 (k:Nat)),.sc (.int .i64 p),.junk,.junk,.junk,.junk,.lp 0 0,.junk,.sc (.int .i64 (i:Nat))]++List.replicate 109 .junk,[encI default],[],st⟩) xs.length ?_ ?_
 simp-dsimp only[go_sem];exact⟨0,by omega,by omega,fun j hj=>absurd hj (by omega),rfl⟩
 . rintro c s' ⟨i,rfl,hi,hup,rfl⟩;have wx1:=wx.1;simp-dsimp only[go_sem];refine ck (fun h=> ?_) (fun h=> ?_);have hlt:i<xs.length:=(by have:=q_b h;omega);have e3:IntKind.i64.wrap ((i:Int)+1)=((i+1:Nat):Int):=(by rw[Q0i _ (by omega) (by omega)];omega);have g2:=J0h xs i hlt;obtain⟨lx1,lx2⟩:=wx.2 i hlt;simp-dsimp only[go_sem,g2];refine⟨by omega,?_⟩;refine(G1c (xs.getD i []) k _ (by omega) lx1 lx2).mono ?_;rintro r st ⟨rfl,rfl⟩;cases hu:J0d (xs.getD i []) k with
   | false=>
    have hno:U≠true:=fun e=>by have:=hall.1 e i hlt;rw[hu] at this;cases this
    simp-dsimp only[go_sem];rw[if_neg hno];rfl
   | true=>
    simp-dsimp only[go_sem,e3];refine⟨xs.length-(i+1),by omega,i+1,rfl,by omega,fun j hj=> ?_,rfl⟩;by_cases e:j=i;rw[e];exact hu;exact hup j (by omega)
   . have hge:i=xs.length:=by have:=q_c h;omega
     subst hge;rw[if_pos (hall.2 hup)];clear hall hU;have fin: ∀i,i<q.length->(ofS q xs k p i).2≠0->ofS q xs k p q.length=(default,(ofS q xs k p i).2):=fun i hi he=>by have:=X1a he (q.length-(i+1));rw[show i+1+(q.length-(i+1))=q.length by omega] at this;exact this
     have fin2: ∀i,i<q.length->(ofS q xs k p i).2=0->(ofS q xs k p (i+1)).2≠0->ofS q xs k p q.length=(default,(ofS q xs k p (i+1)).2):=fun i hi h0 he=>by
      by_cases hl:i+1<q.length;exact fin (i+1) hl he;have:i+1=q.length:=(by omega);rw[<-this];have hd:(ofS q xs k p (i+1)).1=default:=by rw[ofS,if_neg (by rw[h0];decide)] at he⊢;split;rfl;rename_i c;rw[if_neg c] at he;exact J1q 0 _ _ _ he
      exact Prod.ext hd rfl
     generalize hR:ofS q xs k p q.length=R at fin fin2⊢;have hS: ∀i,wI (ofS q xs k p i).1:=fun i=>y1e i;simp-dsimp only[go_sem];refine Q0a ?_;simp-dsimp only[go_sem];refine X0s 1 ?_;simp-dsimp only[go_sem];refine Q0e [true,true,true,true,false,false,false,false,true,false,false,true,true] 2 0
      (fun c s'=> ∃m,c=q.length-m/\m<=q.length/\(ofS q xs k p m).2=0/\
       s'=⟨[.sl .no (Z0l q),.sl .no (encM xs),.sc (.int .i64 (k:Nat)),.sc (.int .i64 p),.junk,.junk,.junk,.junk,.lp 0 0,.junk,.junk,.lp 1 0,.sc (.int .i64 (m:Nat))]++List.replicate 107 .junk,[encI default,encI (ofS q xs k p m).1],[],st⟩) q.length ?_ ?_
     simp-dsimp only[go_sem];exact⟨0,by omega,by omega,rfl,rfl⟩
     . rintro c s' ⟨m,rfl,hm,he,rfl⟩;have wq1:=wq.1;simp-dsimp only[go_sem];refine ck (fun h2=> ?_) (fun h2=> ?_)
       . have hlt:m<q.length:=by have:=q_b h2;omega
         have e3:IntKind.i64.wrap ((m:Int)+1)=((m+1:Nat):Int):=by rw[Q0i _ (by omega) (by omega)];omega
         have g3:=V0o q m hlt;have hmono:=K0s hr hlt;have hwm:=wq.2 m hlt;have hstep:ofS q xs k p (m+1)=if (X0k (q.getD m default) xs k p xs.length).2≠0 then(default,(X0k (q.getD m default) xs k p xs.length).2) else opI 0 (ofS q xs k p m).1 ((X0k (q.getD m default) xs k p xs.length).1.getD k default) p:=(by rw[ofS,if_neg (by rw[he];decide)]);have f2:=fin2 m hlt he;rw[hstep] at f2;simp-dsimp only[go_sem,wk,g3];refine⟨⟨by omega,by omega,by omega⟩,⟨by omega,by omega⟩,?_⟩;generalize q.getD m default=mo at g3 hmono hwm hstep f2;refine(U1v mo.c _).mono ?_;rintro r st ⟨rfl,rfl⟩;simp-dsimp only[go_sem,g3];have r1:over (repC (k+1) [.sc (.bool false),.sc (.int .i64 0),.sl .no [],.sc (.bool false),.sc (.int .i64 0),.sl .no []]) 0 [.sc (.bool mo.c.neg),.sc (.int .i64 mo.c.exp),.sl .no (encW mo.c.w),.sc (.bool mo.c.neg),.sc (.int .i64 mo.c.exp),.sl .no (encW mo.c.w)]=flat (Q0p (numS mo.c k)):=by have:=y1f mo.c k;rw[<-Z3e] at this;exact this
         refine⟨by simp[G0f];omega,?_⟩;refine G0g 2 6 ?_ ?_;simp only[W0m];exact v1a (k1z rfl) rfl;have r2:=Q2h (numS mo.c k) (k+1) (by simp[numS]);have r3:(flat (Q0p (numS mo.c k))).length=(k+1)*6:=(by rw[Z1b];simp[numS]);simp-dsimp only[go_sem,U1x,U1n,r1,r2,r3];have ok0:=fun i=>Z1y (m:=mo) (xs:=xs) (k:=k) (p:=p) hwm.1 i;have hovl:=J1o (m:=mo) (xs:=xs) (k:=k) (p:=p) xs.length;have finS: ∀i,i<=xs.length->(X0k mo xs k p i).2≠0->(X0k mo xs k p xs.length).2=(X0k mo xs k p i).2:=fun i hi he=>by have:=j0i he (xs.length-i);rw[show i+(xs.length-i)=xs.length by omega] at this;exact this
         refine Q0e [true,true,true,true,false,false,false,false,true,false,false,true,true,true,true] 2 0
          (fun c s'=> ∃i,c=xs.length-i/\i<=xs.length/\(X0k mo xs k p i).2=0/\
           s'=⟨[.sl .no (Z0l q),.sl .no (encM xs),.sc (.int .i64 (k:Nat)),.sc (.int .i64 p),.junk,.junk,.junk,.junk,.lp 0 0,.junk,.junk,.lp 1 0,.sc (.int .i64 (m:Nat)),.sl .no (Q0p (X0k mo xs k p i).1),.sc (.int .i64 (i:Nat))]++List.replicate 105 .junk,[encI default,encI (ofS q xs k p m).1],[],st⟩) xs.length ?_ ?_
         simp-dsimp only[go_sem];exact⟨0,by omega,by omega,rfl,rfl⟩
         . rintro c s' ⟨i,rfl,hi,he2,rfl⟩;simp-dsimp only[go_sem];refine ck (fun h3=> ?_) (fun h3=> ?_);have hlt2:i<xs.length:=(by have:=q_b h3;omega);have e5:IntKind.i64.wrap ((i:Int)+1)=((i+1:Nat):Int):=(by rw[Q0i _ (by omega) (by omega)];omega);have hks:mo.ks.length=xs.length:=(by have:=hmono.1;omega);have g1:=K0g mo.ks i (by omega);have g2:=J0h xs i hlt2;have hat:=K0l hmono.2.1 i (by omega);have hk8:mo.ks.getD i 0=((mo.ks.getD i 0).toNat:Int):=(by omega);have hk9:(mo.ks.getD i 0).toNat<=8:=(by omega);have hstepS:X0k mo xs k p (i+1)=K0t (X0k mo xs k p i).1 (xs.getD i []) k p (mo.ks.getD i 0).toNat:=(by rw[X0k,if_neg (by rw[he2];decide)]);have oks:=ok0 i;obtain⟨lx1,lx2⟩:=wx.2 i hlt2;have fin1:=finS (i+1) (by omega);rw[hstepS] at fin1;rw[hk8] at g1;generalize (mo.ks.getD i 0).toNat=n at g1 hk9 hstepS fin1;generalize (X0k mo xs k p i).1=s0 at oks hstepS fin1⊢;simp-dsimp only[go_sem];refine Q0e [true,true,true,true,false,false,false,false,true,false,false,true,true,true,true,true] 2 0
            (fun c s'=> ∃j,c=n-j/\j<=n/\(K0t s0 (xs.getD i []) k p j).2=0/\
             s'=⟨[.sl .no (Z0l q),.sl .no (encM xs),.sc (.int .i64 (k:Nat)),.sc (.int .i64 p),.junk,.junk,.junk,.junk,.lp 0 0,.junk,.junk,.lp 1 0,.sc (.int .i64 (m:Nat)),.sl .no (Q0p (K0t s0 (xs.getD i []) k p j).1),.sc (.int .i64 (i:Nat)),.sc (.int .i64 (j:Nat))]++List.replicate 104 .junk,[encI default,encI (ofS q xs k p m).1],[],st⟩) n ?_ ?_
           simp-dsimp only[go_sem];exact⟨0,by omega,by omega,rfl,rfl⟩;rintro c s' ⟨j,rfl,hj,hej,rfl⟩;simp-dsimp only[go_sem,g3,g1];refine⟨⟨by omega,by omega⟩,⟨by omega,by omega⟩,?_⟩;refine ck (fun h4=> ?_) (fun h4=> ?_);have hlt3:j<n:=(by have:=q_b h4;omega);have e4:IntKind.i64.wrap ((j:Int)+1)=((j+1:Nat):Int):=(by rw[Q0i _ (by omega) (by omega)];omega);have okn:=U1y (x:=xs.getD i []) (p:=p) oks j;have hstep2:K0t s0 (xs.getD i []) k p (j+1)=U0m (K0t s0 (xs.getD i []) k p j).1 (xs.getD i []) k p:=(by rw[K0t,if_neg (by rw[hej];decide)]);simp-dsimp only[go_sem,g2];refine⟨⟨Int.natCast_nonneg _,hlt2⟩,?_⟩;have hpr:=fun st=>k1a (K0t s0 (xs.getD i []) k p j).1 (xs.getD i []) k p st hk (Nat.le_trans okn.1 hk1) lx1 okn.2 lx2;have hbad:(K0t s0 (xs.getD i []) k p (j+1)).2≠0->R=(default,(K0t s0 (xs.getD i []) k p (j+1)).2):=fun hz=>by have hst:=j0j hz (n-(j+1));rw[show j+1+(n-(j+1))=n by omega] at hst;have hal:=fin1 (by rw[hst];exact hz);rw[hst] at hal;have hne:(X0k mo xs k p xs.length).2≠0:=(by rw[hal];exact hz);rw[if_pos hne] at f2;rw[f2 hne];exact congrArg (Prod.mk default) hal
           refine Exists.elim (⟨_,rfl⟩: ∃W,W=K0t s0 (xs.getD i []) k p (j+1)) fun W hW=> ?_;rw[<-hW] at hstep2 hbad;rw[<-hstep2] at hpr;clear hstep2 f2 fin1;refine(hpr _).mono ?_;rintro r st ⟨rfl,rfl⟩;by_cases hz:W.2=0;have ez:(W.2 !=0)=false:=(by rw[hz];rfl);simp-dsimp only[go_sem,ez,e4];exact⟨n-(j+1),by omega,j+1,rfl,by omega,by rw[<-hW];exact hz,by rw[<-hW]⟩;have ez:(W.2 !=0)=true:=bne_iff_ne.2 hz;simp-dsimp only[go_sem,ez];rw[hbad hz];rfl;have hge:j=n:=(by have:=q_c h4;omega);subst hge;simp-dsimp only[go_sem];refine Q0a ?_;simp-dsimp only[go_sem,e5];refine⟨xs.length-(i+1),by omega,i+1,rfl,by omega,by rw[hstepS];exact hej,by rw[hstepS]⟩
           . have hge:i=xs.length:=by have:=q_c h3;omega
             subst hge;have hln:=hovl he2;have gI:=Z0h (X0k mo xs k p xs.length).1 k (by omega);have wO:=K1b (ok0 xs.length).2 k;rw[if_neg (by rw[he2];decide)] at hstep f2;simp-dsimp only[go_sem];refine Q0a ?_;simp-dsimp only[go_sem];refine Q0j Z0a 120 (.step 0 [] (.step 1 [] (.step 2 [] (.step 3 [] (.step 4 [] (.step 5 [] (.alt (.step 6 [] (.step 7 [] (.step 8 [] (.step 9 [] (.step 10 [0,4] (.step 11 [] (.step 12 [] (.done)))))))) (.step 10 [0,4] (.step 6 [] (.step 7 [] (.step 8 [] (.step 9 [] (.step 11 [] (.step 12 [] (.done))))))))))))))) (by decide+kernel) (by simp) ?_;simp-dsimp only[go_sem,gI];refine⟨⟨by omega,by omega⟩,And.intro ?_ ?_⟩
             all_goals
              refine(Z1s (ofS q xs k p m).1 ((X0k mo xs k p xs.length).1.getD k default) p _ (hS m) wO).mono ?_;rintro r st2 ⟨rfl,rfl⟩;rw[<-hstep] at f2⊢;generalize hW:ofS q xs k p (m+1)=W at f2⊢;by_cases hz2:W.2=0;have ez2:(W.2 !=0)=false:=(by rw[hz2];rfl);simp-dsimp only[go_sem,ez2,e3];refine Q0a ?_;simp-dsimp only[go_sem,e3];exact⟨q.length-(m+1),by omega,m+1,rfl,by omega,by rw[hW];exact hz2,by rw[hW]⟩;have ez2:(W.2 !=0)=true:=bne_iff_ne.2 hz2;simp-dsimp only[go_sem,ez2];rw[f2 hz2];rfl
       have hge:m=q.length:=by have:=q_c h2;omega
       subst hge;simp-dsimp only[go_sem];refine Q0a ?_;simp-dsimp only[go_sem];rw[hR] at he⊢;rw[he]
theorem x1b : ∀n,n<12->(Q0c (oddV false n 0).m).length<=1000:=by decide+kernel
theorem H1a (n:Nat)(st:Q0f)(hn:n<12):PCalls Tryz.prog 141 [.sc (.int .i64 n)] st (fun r st'=>r= .agg (encI ⟨ptW n,ptW n⟩)/\st'=st):=by have hd:=x1b n hn;refine Q0b none Tryz.func141 rfl fun E=>Q0a ?_;simp-dsimp only[go_sem];refine(K2u n _ (by omega)).mono ?_;rintro r st ⟨rfl,rfl⟩;simp-dsimp only[go_sem];refine(V1y (oddV false n 0) _ (by omega)).mono ?_;rintro r st ⟨rfl,rfl⟩;simp-dsimp only[go_sem];rw[show(numV (oddV false n 0)).1=ptW n from rfl];refine(U1v (ptW n) _).mono ?_;rintro r st ⟨rfl,rfl⟩;simp-dsimp only[go_sem]
end Go.Pv
end
