/- Parts of the walk: M63, N87, N88, N89, N90, M64, M67. -/
import Derived.Test.YtldalepagmhnmaaGreatDoorZBR
import Derived.Test.YtldalepagmhnmaaGreatDoorZCB
set_option linter.unusedVariables false
set_option linter.unusedSimpArgs false
section
namespace Go.Pv
def Y0p (a b:List Ivl)(k:Nat)(p:Int):List Ivl×Int:=tabF (fun j=>V0p a b j p) 0 (k+1) []
def V0a (s x:List Ivl)(k:Nat)(p:Int):Nat->List Ivl×Int
 | 0=>(s,0)
 | n+1=>if (V0a s x k p n).2≠0 then([],(V0a s x k p n).2) else Y0p (V0a s x k p n).1 x k p
def numS (c:Nm)(k:Nat):List Ivl:=⟨c,c⟩::List.replicate k default
def X0v (m:Mn)(xs:List (List Ivl))(k:Nat)(p:Int):Nat->List Ivl×Int
 | 0=>(numS m.c k,0)
 | i+1=>if (X0v m xs k p i).2≠0 then([],(X0v m xs k p i).2) else V0a (X0v m xs k p i).1 (xs.getD i []) k p (m.ks.getD i 0).toNat
def ofS (q:List Mn)(xs:List (List Ivl))(k:Nat)(p:Int):Nat->Ivl×Int
 | 0=>(default,0)
 | i+1=>if (ofS q xs k p i).2≠0 then(default,(ofS q xs k p i).2) else
  if (X0v (q.getD i default) xs k p xs.length).2≠0 then(default,(X0v (q.getD i default) xs k p xs.length).2) else
  opI 0 (ofS q xs k p i).1 ((X0v (q.getD i default) xs k p xs.length).1.getD k default) p
def Z1d (k p:Int):Bool:=decide (0<=k)&&decide (k<=10)&&Z0p p
def U0a (q:List Mn)(xs:List (List Ivl))(k:Int)(p:Int):Ivl×Int:=
 if Z1d k p=true/\X0a q xs.length=true/\(xs.all fun x=>K0k x k.toNat)=true then ofS q xs k.toNat p q.length else(default,1)
theorem x1d {a:List Ivl}{k:Nat}(h:K0k a k=true):k<a.length:=by unfold K0k at h;simp only[q_i,decide_eq_true_eq] at h;exact h.1
theorem w0w {a:List Ivl}{k j:Nat}(h:K0k a k=true)(hj:j<=k):Q0p (a.getD j default)=true:=by have hl:=x1d h;unfold K0k at h;simp only[q_i,decide_eq_true_eq,q_d] at h;refine h.2 _ ?_;rw[show a.getD j default=a[j]'(by omega) by simp[q_a,(by omega:j<a.length)]];exact List.mem_take_iff_getElem.2 ⟨j,by omega,rfl⟩
theorem U0i {a:List Ivl}{k:Nat}(hl:k<a.length)(h: ∀j,j<=k->Q0p (a.getD j default)=true):K0k a k=true:=by unfold K0k;simp only[q_i,decide_eq_true_eq,q_d];refine⟨hl,fun x hx=> ?_⟩;obtain⟨j,hj,rfl⟩:=List.mem_take_iff_getElem.1 hx;have:=h j (by omega);rw[show a.getD j default=a[j]'(by omega) by simp[q_a,(by omega:j<a.length)]] at this;exact this
theorem Y2k (a b:List Ivl)(k:Nat)(p:Int): ∀x∈(Y0p a b k p).1,wI x:=by
 unfold Y0p;refine H0b (fun x=>wI x) (k+1) 0 [] (fun j _ _=> ?_) (fun x hx=>by cases hx);show wI (V0p a b j p).1;have key: ∀(l:List (Ivl×Ivl)) (sm:Bool) (s:Ivl),wI s->wI (z0t p l sm s).1:=by
  intro l
  induction l with
  | nil=>intro sm s hs;exact hs
  | cons x l ih=>
   intro sm s hs;rw[U0v];split;split;split;exact ih _ _ (K0p (X0q _ _ _ _));exact U0w;exact ih _ _ (K0p (X0q _ _ _ _));exact U0w
 unfold V0p;split;exact key _ _ _ U0w;exact U0w
theorem J2l (a b:List Ivl)(k:Nat)(p:Int):(Y0p a b k p).1.length<=k+1:=by have:=j0a (G:=fun j=>V0p a b j p) (k+1) 0 [];simpa[Y0p] using this
theorem U3i {c:Nm}(hc:wN c)(k:Nat): ∀x∈numS c k,wI x:=fun x hx=>by unfold numS at hx;rcases List.mem_cons.1 hx with rfl | hx;exact⟨hc,hc⟩;rw[(List.mem_replicate.1 hx).2];exact U0w
theorem Z2h {s x:List Ivl}{k:Nat}{p:Int}(hs:s.length<=k+1/\ ∀y∈s,wI y): ∀n,(V0a s x k p n).1.length<=k+1/\ ∀y∈(V0a s x k p n).1,wI y
 | 0=>hs
 | n+1=>by rw[V0a];split;exact⟨Nat.zero_le _,fun y hy=>by cases hy⟩;exact⟨J2l _ _ _ _,Y2k _ _ _ _⟩
theorem G1e {m:Mn}{xs:List (List Ivl)}{k:Nat}{p:Int}(hm:wN m.c): ∀i,(X0v m xs k p i).1.length<=k+1/\ ∀y∈(X0v m xs k p i).1,wI y
 | 0=>⟨by simp[X0v,numS],U3i hm k⟩
 | i+1=>by rw[X0v];split;exact⟨Nat.zero_le _,fun y hy=>by cases hy⟩;exact Z2h (G1e hm i) _
theorem Q1f {s x:List Ivl}{k:Nat}{p:Int}{n:Nat}(h:(V0a s x k p n).2≠0): ∀d,(V0a s x k p (n+d)).2=(V0a s x k p n).2
 | 0=>rfl
 | d+1=>by rw[<-Nat.add_assoc,V0a,if_pos (by rw[Q1f h d];exact h),Q1f h d]
theorem Q1e {m:Mn}{xs:List (List Ivl)}{k:Nat}{p:Int}{i:Nat}(h:(X0v m xs k p i).2≠0): ∀d,(X0v m xs k p (i+d)).2=(X0v m xs k p i).2
 | 0=>rfl
 | d+1=>by rw[<-Nat.add_assoc,X0v,if_pos (by rw[Q1e h d];exact h),Q1e h d]
theorem G1h {q:List Mn}{xs:List (List Ivl)}{k:Nat}{p:Int}{i:Nat}(h:(ofS q xs k p i).2≠0): ∀d,ofS q xs k p (i+1+d)=(default,(ofS q xs k p i).2)
 | 0=>by rw[Nat.add_zero,ofS,if_pos h]
 | d+1=>by rw[<-Nat.add_assoc,ofS,if_pos (by rw[G1h h d];exact h),G1h h d]
set_option maxRecDepth 100000
open Go.Proofs
theorem G0l (l:List Ivl)(x:Ivl):Q0v l++ [PV.agg [.sc (.bool x.lo.neg),.sc (.int .i64 x.lo.exp),.sl .no (encW x.lo.w),.sc (.bool x.hi.neg),.sc (.int .i64 x.hi.exp),.sl .no (encW x.hi.w)]]=Q0v (l++ [x]):=by simp[Q0v,encI,encN]
theorem J2y (a b:List Ivl)(k:Nat)(p:Int)(st:Q0f)(hk:k<=10)(la:a.length<=1000000)(lb:b.length<=1000000)(wa: ∀x∈a,wI x)(wb: ∀x∈b,wI x):
 PCalls Tryz.prog 263 [.sl .no (Q0v a),.sl .no (Q0v b),.sc (.int .i64 k),.sc (.int .i64 p)] st
 (fun r st'=>r= .tup [.sl .no (Q0v (Y0p a b k p).1),.sc (.int .i64 (Y0p a b k p).2)]/\st'=st):=by
 refine Q0b none Tryz.func263 rfl fun E=>Q0a ?_;have wk:IntKind.i64.wrap ((k:Int)+1)=((k+1:Nat):Int):=(by rw[Q0l _ (by omega) (by omega)];omega);simp-dsimp only[go_sem,wk];refine Z0c 10 6 ?_;simp-dsimp only[go_sem];refine Q0d [true,true,false,true,false,false,false,false,false,false,true,false,false,false,false,true,true] 0 1
  (fun m s=> ∃(j:Nat) (o:List Ivl),m=k+1-j/\j<=k+1/\o.length=j/\tabF (fun j=>V0p a b j p) j (k+1-j) o=Y0p a b k p/\
   s=⟨[.sl .no (Q0v a),.sl .no (Q0v b),.junk,.sc (.int .i64 p),.junk,.junk,.junk,.junk,.junk,.junk,.sl (.own 0) (Q0v o),.junk,.junk,.junk,.junk,.sc (.int .i64 ((k+1:Nat):Int)),.sc (.int .i64 (j:Nat))]++List.replicate 19 .junk,[],[(j,6)],st⟩) (k+1) ?_ ?_
 simp-dsimp only[go_sem];exact⟨0,[],by omega,by omega,rfl,rfl,rfl⟩;rintro m s ⟨j,o,rfl,hj,ho,ht,rfl⟩;simp-dsimp only[go_sem];refine ck (fun h=> ?_) (fun h=> ?_);have hlt:j<k+1:=(by have:=q_b h;omega);have e3:IntKind.i64.wrap ((j:Int)+1)=((j+1:Nat):Int):=(by rw[Q0l _ (by omega) (by omega)];omega);rw[V0u _ hlt] at ht;simp-dsimp only[go_sem];refine(Q4a a b j p _ (by omega) la lb wa wb).mono ?_;rintro r st ⟨rfl,rfl⟩;generalize V0p a b j p=c at ht⊢;by_cases hc:c.2=0;have ec:(c.2 !=0)=false:=(by rw[hc];rfl);rw[if_neg (by rw[hc];decide)] at ht;have hsn:=G0l o c.1;simp-dsimp only[go_sem,ec,e3,hsn,ho];exact⟨by omega,k+1-(j+1),by omega,j+1,o++ [c.1],rfl,by omega,by simp[ho],ht,rfl⟩;have ec:(c.2 !=0)=true:=bne_iff_ne.2 hc;rw[if_pos hc] at ht;simp-dsimp only[go_sem,ec];rw[<-ht];rfl;have hge:j=k+1:=(by have:=q_c h;omega);subst hge;rw[Y0i] at ht;simp-dsimp only[go_sem];refine X0p [false,false,false,false,false,false,false,false,false,false,true] (Q0a ?_);simp-dsimp only[go_sem];rw[<-ht]
theorem j3z (n:Nat):repC n (encI default)=flat (Q0v (List.replicate n default)):=by simp[repC,flat,Q0v,PV.cells]
theorem y2j (c:Nm)(k:Nat):over (flat (Q0v (List.replicate (k+1) default))) 0 (encI ⟨c,c⟩)=flat (Q0v (numS c k)):=by have:=z2p (List.replicate (k+1) default) 0 ⟨c,c⟩ (by simp) 0 (encI ⟨c,c⟩) (by simp[encI,encN]) rfl;rw[Nat.zero_mul,Nat.zero_add] at this;rw[this];rfl
set_option maxHeartbeats 4000000 in
theorem U2l (m:Mn)(xs:List (List Ivl))(k:Nat)(p:Int)(st:Q0f)(hk:k<=10)(hm:wMn m)(hr:J0w m.ks=true)(hl:m.ks.length=xs.length)(lx:xs.length<=1000000)(wx: ∀i,i<xs.length->(xs.getD i []).length<=1000000/\ ∀y∈xs.getD i [],wI y):
 PCalls Tryz.prog 214 [.agg (H0q m),.sl .no (encM xs),.sc (.int .i64 k),.sc (.int .i64 p)] st
 (fun r st'=>r= .tup [.sl .no (Q0v (if (X0v m xs k p xs.length).2=0 then(X0v m xs k p xs.length).1 else [])),.sc (.int .i64 (X0v m xs k p xs.length).2)]/\st'=st):=by
 have fin: ∀i,i<=xs.length->(X0v m xs k p i).2≠0->(X0v m xs k p xs.length).2=(X0v m xs k p i).2:=fun i hi he=>by have:=Q1e he (xs.length-i);rw[show i+(xs.length-i)=xs.length by omega] at this;exact this
 generalize hR:X0v m xs k p xs.length=R at fin⊢;refine Q0b none Tryz.func214 rfl fun E=>Q0a ?_;have wk:IntKind.i64.wrap ((k:Int)+1)=((k+1:Nat):Int):=(by rw[Q0l _ (by omega) (by omega)];omega);simp-dsimp only[go_sem,wk];refine⟨⟨by omega,by omega,by omega⟩,?_⟩;refine(Y1i m.c _ hm.1).mono ?_;rintro r st ⟨rfl,rfl⟩;simp-dsimp only[go_sem];have r1:over (repC (k+1) [.sc (.bool false),.sc (.int .i64 0),.sl .no [],.sc (.bool false),.sc (.int .i64 0),.sl .no []]) 0 [.sc (.bool m.c.neg),.sc (.int .i64 m.c.exp),.sl .no (encW m.c.w),.sc (.bool m.c.neg),.sc (.int .i64 m.c.exp),.sl .no (encW m.c.w)]=flat (Q0v (numS m.c k)):=by have:=y2j m.c k;rw[<-j3z] at this;exact this
 refine⟨by simp[q0x];omega,?_⟩;refine q0y 1 6 ?_ ?_;simp only[W0i];exact z2j (z2i rfl) rfl;have r2:=X3y (numS m.c k) (k+1) (by simp[numS]);have r3:(flat (Q0v (numS m.c k))).length=(k+1)*6:=(by rw[x1q];simp[numS]);simp-dsimp only[go_sem,Z2f,Q2u,r1,r2,r3];refine Q0a ?_;simp-dsimp only[go_sem];have ok0:=fun i=>G1e (m:=m) (xs:=xs) (k:=k) (p:=p) hm.1 i;refine Q0d [false,true,true,true,false,false,false,false,false,false,true,false,false,false,false,false,false,false,false,false,false,false,false,false,true,true,true] 0 0
  (fun c s'=> ∃i,c=xs.length-i/\i<=xs.length/\(X0v m xs k p i).2=0/\
   s'=⟨[.junk,.sl .no (encM xs),.sc (.int .i64 (k:Nat)),.sc (.int .i64 p),.junk,.junk,.junk,.junk,.junk,.junk,.sl .no (Q0v (X0v m xs k p i).1)]++List.replicate 13 .junk++ [.sl .no (encZ m.ks),.sc (.int .i64 (xs.length:Nat)),.sc (.int .i64 (i:Nat))]++List.replicate 25 .junk,[],[],st⟩) xs.length ?_ ?_
 simp-dsimp only[go_sem,hl];exact⟨0,by omega,by omega,rfl,rfl⟩;rintro c s' ⟨i,rfl,hi,he,rfl⟩;simp-dsimp only[go_sem];refine ck (fun h=> ?_) (fun h=> ?_);have hlt:i<xs.length:=(by have:=q_b h;omega);have e3:IntKind.i64.wrap ((i:Int)+1)=((i+1:Nat):Int):=(by rw[Q0l _ (by omega) (by omega)];omega);have g1:=K0a m.ks i (by omega);have g2:=Y0l xs i hlt;have hat:=X0n hr i (by omega);have hk8:m.ks.getD i 0=((m.ks.getD i 0).toNat:Int):=(by omega);have hk9:(m.ks.getD i 0).toNat<=8:=(by omega);have hstep:X0v m xs k p (i+1)=V0a (X0v m xs k p i).1 (xs.getD i []) k p (m.ks.getD i 0).toNat:=(by rw[X0v,if_neg (by rw[he];decide)]);have oks:=ok0 i;obtain⟨lx1,lx2⟩:=wx i hlt;have fin1:=fin (i+1) (by omega);rw[hstep] at fin1;rw[hk8] at g1;generalize (m.ks.getD i 0).toNat=n at*
 generalize (X0v m xs k p i).1=s0 at*
 simp-dsimp only[go_sem,g1];refine⟨by omega,?_⟩;refine Q0d [false,true,true,true,false,false,false,false,false,false,true,true,false,false,false,false,false,false,false,false,false,false,false,false,true,true,true,false,false,false,false,true,true] 0 0
  (fun c s'=> ∃j,c=n-j/\j<=n/\(V0a s0 (xs.getD i []) k p j).2=0/\
   s'=⟨[.junk,.sl .no (encM xs),.sc (.int .i64 (k:Nat)),.sc (.int .i64 p),.junk,.junk,.junk,.junk,.junk,.junk,.sl .no (Q0v (V0a s0 (xs.getD i []) k p j).1),.sc (.int .i64 (i:Nat))]++List.replicate 12 .junk++ [.sl .no (encZ m.ks),.sc (.int .i64 (xs.length:Nat)),.sc (.int .i64 (i:Nat)),.junk,.junk,.junk,.junk,.sc (.int .i64 (n:Nat)),.sc (.int .i64 (j:Nat))]++List.replicate 19 .junk,[],[],st⟩) n ?_ ?_
 simp-dsimp only[go_sem];exact⟨0,by omega,by omega,rfl,rfl⟩;rintro c s' ⟨j,rfl,hj,hej,rfl⟩;simp-dsimp only[go_sem];refine ck (fun h2=> ?_) (fun h2=> ?_);have hlt2:j<n:=(by have:=q_b h2;omega);have e4:IntKind.i64.wrap ((j:Int)+1)=((j+1:Nat):Int):=(by rw[Q0l _ (by omega) (by omega)];omega);have okn:=Z2h (x:=xs.getD i []) (p:=p) oks j;have hstep2:V0a s0 (xs.getD i []) k p (j+1)=Y0p (V0a s0 (xs.getD i []) k p j).1 (xs.getD i []) k p:=(by rw[V0a,if_neg (by rw[hej];decide)]);simp-dsimp only[go_sem,g2];refine⟨by omega,?_⟩;refine(J2y (V0a s0 (xs.getD i []) k p j).1 (xs.getD i []) k p _ hk (by omega) lx1 okn.2 lx2).mono ?_;rintro r st ⟨rfl,rfl⟩;rw[<-hstep2];by_cases hz:(V0a s0 (xs.getD i []) k p (j+1)).2=0;have ez:((V0a s0 (xs.getD i []) k p (j+1)).2 !=0)=false:=(by rw[hz];rfl);simp-dsimp only[go_sem,ez,e4];exact⟨n-(j+1),by omega,j+1,rfl,by omega,hz,rfl⟩;have ez:((V0a s0 (xs.getD i []) k p (j+1)).2 !=0)=true:=bne_iff_ne.2 hz;have hst:=Q1f hz (n-(j+1));rw[show j+1+(n-(j+1))=n by omega] at hst;have hall:=fin1 (by rw[hst];exact hz);rw[hst] at hall;simp-dsimp only[go_sem,ez];rw[hall,if_neg hz];rfl;have hge:j=n:=(by have:=q_c h2;omega);subst hge;simp-dsimp only[go_sem];refine Q0a ?_;simp-dsimp only[go_sem,e3];refine⟨xs.length-(i+1),by omega,i+1,rfl,by omega,by rw[hstep];exact hej,by rw[hstep]⟩;have hge:i=xs.length:=(by have:=q_c h;omega);subst hge;simp-dsimp only[go_sem];refine Q0a ?_;simp-dsimp only[go_sem];rw[hR] at he⊢;rw[he,if_pos rfl]
def wXs (xs:List (List Ivl)):Prop:=xs.length<=1000000/\ ∀i,i<xs.length->(xs.getD i []).length<=1000000/\ ∀y∈xs.getD i [],wI y
theorem K3t {q:List Mn}{xs:List (List Ivl)}{k:Nat}{p:Int} : ∀i,wI (ofS q xs k p i).1
 | 0=>U0w
 | i+1=>by rw[ofS];split;exact U0w;split;exact U0w;exact K0p (X0q _ _ _ _)
theorem G3k {l:List Ivl}(h: ∀y∈l,wI y)(k:Nat):wI (l.getD k default):=by by_cases hk:k<l.length;exact h _ (Q0t _ _ _ hk);rw[G0h _ _ _ (by omega)];exact U0w
theorem all_hasUp {xs:List (List Ivl)}{k:Nat} :(xs.all fun x=>K0k x k)=true<-> ∀i,i<xs.length->K0k (xs.getD i []) k=true:=by rw[q_d];constructor;intro h i hi;exact h _ (Q0t _ _ _ hi);intro h x hx;obtain⟨i,hi,rfl⟩:=List.mem_iff_getElem.1 hx;have:=h i hi;rwa [show xs.getD i []=xs[i] by simp[q_a,hi]] at this
theorem Y2r {s x:List Ivl}{k n:Nat}{p:Int}(hs:s.length=k+1)(h:(V0a s x k p n).2=0):(V0a s x k p n).1.length=k+1:=by
 cases n with
 | zero=>exact hs
 | succ n=>
  rw[V0a] at h⊢;split at h;rename_i c;exact absurd h c;rename_i c;rw[if_neg c];have:=J0t h;exact this.1
theorem z1h {m:Mn}{xs:List (List Ivl)}{k:Nat}{p:Int} : ∀i,(X0v m xs k p i).2=0->(X0v m xs k p i).1.length=k+1
 | 0,_=>by simp[X0v,numS]
 | i+1,h=>by rw[X0v] at h⊢;split at h;rename_i c;exact absurd h c;rename_i c;rw[if_neg c];exact Y2r (z1h i (Classical.not_not.1 c)) h
set_option maxHeartbeats 4000000 in
theorem U2n (q:List Mn)(xs:List (List Ivl))(k p:Int)(st:Q0f)(wq:wP q)(wx:wXs xs):
 PCalls Tryz.prog 149 [.sl .no (Z0n q),.sl .no (encM xs),.sc (.int .i64 k),.sc (.int .i64 p)] st
 (fun r st'=>r= .tup [.agg (encI (U0a q xs k p).1),.sc (.int .i64 (U0a q xs k p).2)]/\st'=st):=by
 have hdef:Z1d k p=true->X0a q xs.length=true->U0a q xs k p=if (xs.all fun x=>K0k x k.toNat)=true then ofS q xs k.toNat p q.length else(default,1):=fun h1 h2=>by unfold U0a;by_cases h3:(xs.all fun x=>K0k x k.toNat)=true;rw[if_pos ⟨h1,h2,h3⟩,if_pos h3];rw[if_neg (fun h=>h3 h.2.2),if_neg h3]
 refine Q0b none Tryz.func149 rfl fun E=>Q0a ?_;simp-dsimp only[go_sem];refine(W1t k p st).mono ?_;rintro r st ⟨rfl,rfl⟩;cases v:decide (0<=k)&&decide (k<=10)&&Z0p p with
 | false=>
  simp-dsimp only[go_sem];unfold U0a;rw[if_neg (fun h=>by have h1:=h.1;unfold Z1d at h1;rw[v] at h1;cases h1)];rfl
 | true=>
  have v':=v;simp only[q_i,decide_eq_true_eq] at v';obtain⟨⟨k0,k10⟩,hp⟩:=v';obtain⟨n,rfl⟩:=Int.eq_ofNat_of_zero_le k0;have hn:n<=10:=(by omega);rw[Int.toNat_natCast] at hdef;simp-dsimp only[go_sem];refine(k0s q xs.length _ wq).mono ?_;rintro r st ⟨rfl,rfl⟩;cases hr:X0a q xs.length with
  | false=>
   simp-dsimp only[go_sem];unfold U0a;rw[if_neg (fun h=>by rw[hr] at h;exact absurd h.2.1 (by decide))];rfl
  | true=>
  rw[hdef v hr];generalize hU:(xs.all fun x=>K0k x n)=U;have hall:=all_hasUp (xs:=xs) (k:=n);rw[hU] at hall;have rr:=hr;simp-dsimp only[go_sem];refine X0f 0 ?_;simp-dsimp only[go_sem];refine Q0d [true,true,true,true,false,false,false,false,true,false,false,false,false,false,false,false,false,false,false,false,false,false,false,false,false,false,false,false,false,true,true,true] 1 0
   (fun c s'=> ∃i,c=xs.length-i/\i<=xs.length/\(∀j,j<i->K0k (xs.getD j []) n=true)/\
    s'=⟨[.sl .no (Z0n q),.sl .no (encM xs),.sc (.int .i64 (n:Nat)),.sc (.int .i64 p),.junk,.junk,.junk,.junk,.lp 0 0]++List.replicate 20 .junk++ [.sl .no (encM xs),.sc (.int .i64 (xs.length:Nat)),.sc (.int .i64 (i:Nat))]++List.replicate 43 .junk,[encI default],[],st⟩) xs.length ?_ ?_
  simp-dsimp only[go_sem];exact⟨0,by omega,by omega,fun j hj=>absurd hj (by omega),rfl⟩;rintro c s' ⟨i,rfl,hi,hup,rfl⟩;have wx1:=wx.1;simp-dsimp only[go_sem];refine ck (fun h=> ?_) (fun h=> ?_);have hlt:i<xs.length:=(by have:=q_b h;omega);have e3:IntKind.i64.wrap ((i:Int)+1)=((i+1:Nat):Int):=(by rw[Q0l _ (by omega) (by omega)];omega);have g2:=Y0l xs i hlt;obtain⟨lx1,lx2⟩:=wx.2 i hlt;simp-dsimp only[go_sem,g2];refine⟨by omega,?_⟩;refine(y0x (xs.getD i []) n _ hn lx1 lx2).mono ?_;rintro r st ⟨rfl,rfl⟩;cases hu:(decide (n<(xs.getD i []).length)&&((xs.getD i []).take (n+1)).all Q0p) with
  | false=>
   have hno:U≠true:=fun e=>by have:=hall.1 e i hlt;unfold K0k at this;rw[hu] at this;cases this
   simp-dsimp only[go_sem];rw[if_neg hno];rfl
  | true=>
   simp-dsimp only[go_sem,e3];refine⟨xs.length-(i+1),by omega,i+1,rfl,by omega,fun j hj=> ?_,rfl⟩;by_cases e:j=i;rw[e];exact hu;exact hup j (by omega)
  have hge:i=xs.length:=by have:=q_c h;omega
  subst hge;rw[if_pos (hall.2 hup)];clear hall hU;have fin: ∀i,i<q.length->(ofS q xs n p i).2≠0->ofS q xs n p q.length=(default,(ofS q xs n p i).2):=fun i hi he=>by have:=G1h he (q.length-(i+1));rw[show i+1+(q.length-(i+1))=q.length by omega] at this;exact this
  have fin2: ∀i,i<q.length->(ofS q xs n p i).2=0->(ofS q xs n p (i+1)).2≠0->ofS q xs n p q.length=(default,(ofS q xs n p (i+1)).2):=fun i hi h0 he=>by
   by_cases hl:i+1<q.length;exact fin (i+1) hl he;have:i+1=q.length:=(by omega);rw[<-this];have hd:(ofS q xs n p (i+1)).1=default:=by rw[ofS,if_neg (by rw[h0];decide)] at he⊢;split;rfl;rename_i c;rw[if_neg c] at he;exact G1g 0 _ _ _ he
   exact Prod.ext hd rfl
  generalize hR:ofS q xs n p q.length=R at fin fin2⊢;simp-dsimp only[go_sem];refine Q0a ?_;simp-dsimp only[go_sem];refine X0f 1 ?_;simp-dsimp only[go_sem];have hS: ∀i,wI (ofS q xs n p i).1:=fun i=>K3t i;refine Q0d [false,true,true,true,false,false,false,false,true,false,false,false,true,false,false,false,false,false,false,false,false,false,false,false,false,false,false,false,false,false,false,false,false,false,false,false,false,false,false,false,false,true,true,true] 2 0
   (fun c s'=> ∃i,c=q.length-i/\i<=q.length/\(ofS q xs n p i).2=0/\
    s'=⟨[.junk,.sl .no (encM xs),.sc (.int .i64 (n:Nat)),.sc (.int .i64 p),.junk,.junk,.junk,.junk,.lp 0 0,.junk,.junk,.junk,.lp 1 0]++List.replicate 28 .junk++ [.sl .no (Z0n q),.sc (.int .i64 (q.length:Nat)),.sc (.int .i64 (i:Nat))]++List.replicate 31 .junk,[encI default,encI (ofS q xs n p i).1],[],st⟩) q.length ?_ ?_
  simp-dsimp only[go_sem];exact⟨0,by omega,by omega,rfl,rfl⟩;rintro c s' ⟨i,rfl,hi,he,rfl⟩;have wq1:=wq.1;simp-dsimp only[go_sem];refine ck (fun h2=> ?_) (fun h2=> ?_);have hlt:i<q.length:=(by have:=q_b h2;omega);have e3:IntKind.i64.wrap ((i:Int)+1)=((i+1:Nat):Int):=(by rw[Q0l _ (by omega) (by omega)];omega);have g3:=V0i q i hlt;have hmono:=V0c rr hlt;have hwm:=wq.2 i hlt;have hstep:ofS q xs n p (i+1)=if (X0v (q.getD i default) xs n p xs.length).2≠0 then(default,(X0v (q.getD i default) xs n p xs.length).2) else opI 0 (ofS q xs n p i).1 ((X0v (q.getD i default) xs n p xs.length).1.getD n default) p:=(by rw[ofS,if_neg (by rw[he];decide)]);have f2:=fin2 i hlt he;rw[hstep] at f2;have hov:=G1e (m:=q.getD i default) (xs:=xs) (k:=n) (p:=p) hwm.1 xs.length;have hovl:=z1h (m:=q.getD i default) (xs:=xs) (k:=n) (p:=p) xs.length;have hSi:=hS i;simp-dsimp only[go_sem,g3];refine⟨by omega,?_⟩;refine(U2l (q.getD i default) xs n p _ hn hwm hmono.2.1 (by have:=hmono.1;omega) wx.1 wx.2).mono ?_;rintro r st ⟨rfl,rfl⟩;generalize hO:X0v (q.getD i default) xs n p xs.length=O at hov hovl f2 hstep⊢;by_cases hz:O.2=0;have ez:(O.2 !=0)=false:=(by rw[hz];rfl);have hln:=hovl hz;have gI:=X0r O.1 n (by omega);rw[if_neg (by rw[hz];decide)] at hstep f2;simp-dsimp only[go_sem,hz,ez,gI];refine Q0o Z0m 75 (.step 0 [] (.step 1 [] (.step 2 [] (.step 3 [] (.step 4 [] (.step 5 [] (.step 6 [] (.step 7 [] (.step 8 [] (.step 9 [] (.step 10 [] (.step 11 [] (.done))))))))))))) (by decide+kernel) (by simp) ?_;simp-dsimp only[go_sem,gI];refine⟨⟨by omega,by omega⟩,?_⟩;refine(G1q (ofS q xs n p i).1 (O.1.getD n default) p _ hSi (G3k hov.2 n)).mono ?_;rintro r st ⟨rfl,rfl⟩;rw[<-hstep] at f2⊢;have hS1:=hS (i+1);by_cases hz2:(ofS q xs n p (i+1)).2=0;have ez2:((ofS q xs n p (i+1)).2 !=0)=false:=(by rw[hz2];rfl);simp-dsimp only[go_sem,hz2,ez2,e3];exact⟨q.length-(i+1),by omega,i+1,rfl,by omega,hz2,rfl⟩;have ez2:((ofS q xs n p (i+1)).2 !=0)=true:=bne_iff_ne.2 hz2;simp-dsimp only[go_sem,ez2];rw[f2 hz2];rfl;have ez:(O.2 !=0)=true:=bne_iff_ne.2 hz;rw[if_pos hz] at f2;simp-dsimp only[go_sem,ez];rw[f2 hz];rfl;have hge:i=q.length:=(by have:=q_c h2;omega);subst hge;simp-dsimp only[go_sem];refine Q0a ?_;simp-dsimp only[go_sem];rw[hR] at he⊢;rw[he]
def ptW (n:Nat):Nm:=(numV (oddV false n 0)).1
theorem z1e : ∀n,n<12->0<n->Q0q (ptW n)=true/\0<qN (ptW n)/\0<valW (ptW n).w/\valW (ptW n).w<4294967296:=by decide+kernel
def G0v (f:List (List Mn))(xs:List (List Ivl))(k:Nat)(p:Int)(i:Nat):Ivl×Int:=
 if (U0a (f.getD i []) xs k p).2≠0 then(default,(U0a (f.getD i []) xs k p).2) else divI (U0a (f.getD i []) xs k p).1 (ptW (k+1)) p
def J1g (f:List (List Mn))(xs:List (List Ivl))(k:Nat)(p:Int):List Ivl×Int:=tabF (G0v f xs k p) 0 f.length []
def Y0o (xs:List (List Ivl))(row:List Ivl):Nat->List (List Ivl)
 | 0=>xs
 | i+1=>(Y0o xs row i).set i (xs.getD i []++ [row.getD i default])
def Z0o (f:List (List Mn))(x:List Ivl)(p:Int):Nat->List (List Ivl)×Int
 | 0=>(x.map fun a=> [a],0)
 | k+1=>if (Z0o f x p k).2≠0 then([],(Z0o f x p k).2) else
  if (J1g f (Z0o f x p k).1 k p).2≠0 then([],(J1g f (Z0o f x p k).1 k p).2) else(Y0o (Z0o f x p k).1 (J1g f (Z0o f x p k).1 k p).1 f.length,0)
def W0s (f:List (List Mn))(x:List Ivl)(order p:Int):List (List Ivl)×Int:=
 if K0m f=true/\rightB x=true/\x.length=f.length/\0<=order/\order<=10/\Z0p p=true then Z0o f x p order.toNat else([],1)
theorem J3x (v:Vl):wN (numV v).1:=by unfold numV wN;split;decide;split;decide;rename_i h;have: ¬64<(Q0s v.m).length:=fun hh=>h (.inl hh);show(Q0s v.m).length<=_;omega
theorem W3i (lo hi:Vl):wI (U0j lo hi).1:=by unfold U0j;split;exact⟨J3x _,J3x _⟩;exact U0w
theorem x3x (a:Ivl)(c:Nm)(p:Int):wI (divI a c p).1:=by unfold divI;split;exact W3i _ _;exact U0w
theorem y2o (f:List (List Mn))(xs:List (List Ivl))(k:Nat)(p:Int)(i:Nat):wI (G0v f xs k p i).1:=by unfold G0v;split;exact U0w;exact x3x _ _ _
theorem V0b (xs:List (List Ivl))(row:List Ivl): ∀i,(Y0o xs row i).length=xs.length
 | 0=>rfl
 | i+1=>by rw[Y0o,List.length_set,V0b]
theorem H0w (xs:List (List Ivl))(row:List Ivl)(j:Nat)(hj:j<xs.length): ∀i,(Y0o xs row i).getD j []=if j<i then xs.getD j []++ [row.getD j default] else xs.getD j []
 | 0=>by simp[Y0o]
 | i+1=>by rw[Y0o];by_cases e:i=j;subst e;rw[if_pos (by omega)];simp[q_a,V0b,hj];rw[show((Y0o xs row i).set i (xs.getD i []++ [row.getD i default])).getD j []=(Y0o xs row i).getD j [] by simp[q_a,List.getElem?_set_ne e],H0w xs row j hj i];by_cases h:j<i;rw[if_pos h,if_pos (by omega)];rw[if_neg h,if_neg (by omega)]
theorem z0e {f:List (List Mn)}{x:List Ivl}{p:Int}(hl:x.length=f.length)(wx: ∀a∈x,wI a): ∀k,(Z0o f x p k).2=0->(Z0o f x p k).1.length=x.length/\ ∀i,i<x.length->((Z0o f x p k).1.getD i []).length=k+1/\ ∀y∈(Z0o f x p k).1.getD i [],wI y
 | 0,_=>by refine⟨by simp[Z0o],fun i hi=> ?_⟩;have:(Z0o f x p 0).1.getD i []= [x[i]]:=(by simp[Z0o,q_a,hi]);rw[this];exact⟨rfl,fun y hy=>by rw[List.mem_singleton.1 hy];exact wx _ (List.getElem_mem hi)⟩
 | k+1,h=>by rw[Z0o] at h⊢;by_cases h0:(Z0o f x p k).2=0;obtain⟨a1,a2⟩:=z0e hl wx k h0;rw[if_neg (by rw[h0];decide)] at h⊢;by_cases h1:(J1g f (Z0o f x p k).1 k p).2=0;rw[if_neg (by rw[h1];decide)] at h⊢;obtain⟨b1,b2,b3⟩:=J0t h1;refine⟨by rw[V0b,a1],fun i hi=> ?_⟩;show((Y0o _ _ _).getD i []).length=_/\ ∀y∈(Y0o _ _ _).getD i [],_;rw[H0w _ _ i (by omega),if_pos (by omega)];obtain⟨c1,c2⟩:=a2 i hi;refine⟨by rw[List.length_append,c1];rfl,fun y hy=> ?_⟩;rcases List.mem_append.1 hy with hy | hy;exact c2 y hy;rw[List.mem_singleton.1 hy];have:=b3 i (by omega);rw[show(J1g f (Z0o f x p k).1 k p).1=(tabF (G0v f (Z0o f x p k).1 k p) 0 f.length []).1 from rfl,this];exact y2o _ _ _ _ _;rw[if_pos h1] at h;exact absurd h h1;rw[if_pos h0] at h;exact absurd h h0
theorem Q1p {f:List (List Mn)}{x:List Ivl}{p:Int}{k:Nat}(h:(Z0o f x p k).2≠0): ∀d,Z0o f x p (k+1+d)=([],(Z0o f x p k).2)
 | 0=>by rw[Nat.add_zero,Z0o,if_pos h]
 | d+1=>by rw[<-Nat.add_assoc,Z0o,if_pos (by rw[Q1p h d];exact h),Q1p h d]
end Go.Pv
end
