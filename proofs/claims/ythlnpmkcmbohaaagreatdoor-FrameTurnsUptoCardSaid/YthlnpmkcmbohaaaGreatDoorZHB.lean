/- Parts of the walk: M106, N177, N178, N179, N181. -/
import Derived.Test.YthlnpmkcmbohaaaGreatDoorZHA
set_option linter.unusedVariables false
set_option linter.unusedSimpArgs false
section
namespace Go.Pv
def Kl (f:Fm)(p:Int):List Ivl×Int:=
 if Zb f=true/\Q4 p=true then(if (V4 (ofM f.a) f.r p).2≠0 then([],(V4 (ofM f.a) f.r p).2) else opB 0 (ofB f.m) (V4 (ofM f.a) f.r p).1 p) else([],1)
def vj (c:Mx)(p:Int):(List (List Nm)×Mx)×Int:=
 if (IY c p).2≠0 then(([],[]),(IY c p).2)
 else if (XU (IY c p).1 p).2≠0 then(([],[]),(XU (IY c p).1 p).2)
 else(((XU (IY c p).1 p).1,(Xr (XU (IY c p).1 p).1 p).1),(Xr (XU (IY c p).1 p).1 p).2)
def JA (c:Mx)(p:Int):(List (List Nm)×Mx)×Int:=if (vj c p).2=3 then((U0i c.length,idM c.length),0) else vj c p
def zq (v c:Mx)(r z:List Ivl)(p:Int):List Ivl×Int:=
 if (XW v c p).2≠0 then([],(XW v c p).2)
 else if (V4 (XW v c p).1 r p).2≠0 then([],(V4 (XW v c p).1 r p).2)
 else if (V4 v z p).2≠0 then([],(V4 v z p).2)
 else opB 0 (V4 (XW v c p).1 r p).1 (V4 v z p).1 p
def z0e (f:Fm)(m:List Nm)(c:Mx)(t:List (List Nm)×Mx)(d:List Ivl)(p:Int):Fm×Int:=
 if (zq t.2 c f.r d p).2≠0 then(default,(zq t.2 c f.r d p).2) else(⟨m,t.1,(zq t.2 c f.r d p).1⟩,0)
def Z1t (f:Fm)(z:List Ivl)(m:List Nm)(c:Mx)(t:List (List Nm)×Mx)(p:Int):Fm×Int:=
 if (opB 1 z (ofB m) p).2≠0 then(default,(opB 1 z (ofB m) p).2) else z0e f m c t (opB 1 z (ofB m) p).1 p
def Z1q (f:Fm)(z:List Ivl)(m:List Nm)(c:Mx)(p:Int):Fm×Int:=
 if (JA c p).2≠0 then(default,(JA c p).2) else Z1t f z m c (JA c p).1 p
def Z1u (f:Fm)(z:List Ivl)(s:Mx)(m:List Nm)(p:Int):Fm×Int:=
 if (XW s (ofM f.a) p).2≠0 then(default,(XW s (ofM f.a) p).2) else Z1q f z m (XW s (ofM f.a) p).1 p
def z0f (f:Fm)(z:List Ivl)(s:Mx)(p:Int):Fm×Int:=
 if (Xc z p).2≠0 then(default,(Xc z p).2) else Z1u f z s (Xc z p).1 p
def Gb (f:Fm)(z:List Ivl)(s:Mx)(p:Int):Bool:=Zb f&&rightB z&&rightM s&&decide (z.length=f.m.length)&&decide (s.length=f.m.length)&&Q4 p
def XJ (f:Fm)(z:List Ivl)(s:Mx)(p:Int):Fm×Int:=if Gb f z s p=true then z0f f z s p else(default,1)
theorem xL {m:Mx}{b:List Ivl}{p:Int}(h:(V4 m b p).2=0):(rightM m=true/\rightB b=true/\m.length=b.length/\Q4 p=true)/\(V4 m b p).1.length=m.length/\
 ∀i,i<m.length->(JZ (atM m i) (fun k=>b.getD k default) p m.length).2=0/\(V4 m b p).1.getD i default=(JZ (atM m i) (fun k=>b.getD k default) p m.length).1:=by
 unfold V4 at h⊢;split at h;rename_i c;rw[BC c];obtain⟨t1,t2,t3⟩:=Js h;refine⟨c,t1,fun i hi=> ?_⟩;have:=t2 i hi;have:=t3 i hi;simp only[<-c.2.2.1] at*
 exact⟨by assumption,by assumption⟩;exact absurd h (by decide)
theorem yv {m:Mx}{b:List Ivl}{p:Int}(h:(V4 m b p).2=0):rightB (V4 m b p).1=true/\(V4 m b p).1.length=m.length:=by obtain⟨⟨r1,r2,r3,r4⟩,v1,v2⟩:=xL h;have:=QI r1;refine⟨Xj (fun i hi=> ?_) oG oG,v1⟩;rw[(v2 i oG).2];exact Kv _ _ _ _
theorem H9 {f:Fm}{z:List Ivl}{s:Mx}{p:Int}(h:Gb f z s p=true):Zb f=true/\rightB z=true/\rightM s=true/\z.length=f.m.length/\s.length=f.m.length/\Q4 p=true:=by unfold Gb at h;simp only[q_i,BN] at h;exact⟨h.1.1.1.1.1,h.1.1.1.1.2,h.1.1.1.2,h.1.1.2,h.1.2,h.2⟩
set_option maxRecDepth 100000
open Go.Proofs
set_option maxHeartbeats 4000000 in
theorem jj (a:List (List Nm))(st:Qf)(hw:wQs a):PR 135 [.sl .no (Z8 a)] st (.sc (.bool (rightQ a))):=by
 obtain⟨hl,hw⟩:=hw;refine U2m Tryz.func135 fun E=> ?_;refine Qd [true,false,false,false,false,false,false,true,true,true] 0 0 (fun n s=> ∃i,n=a.length-i/\i<=a.length/\(∀j,j<i->QN (a.getD j []) a.length=true)/\s=⟨[.sl .no (Z8 a),.junk,.junk,.junk,.junk,.junk,.junk,.sl .no (Z8 a),.sc (.int .i64 a.length),.sc (.int .i64 (i:Nat))]++jk 27,[],[],st⟩) a.length ?_ ?_;refine G2s ?_;exact⟨0,oG,oG,fun j hj=>oG,rfl⟩;rintro n s ⟨i,rfl,hi,hr,rfl⟩;refine U2n (fun h=> ?_) (fun h=> ?_);have hlt:i<a.length:=(oT h);have e1:=Xh a i hlt;have e3:=Zw i oG;have wi:=hw i hlt;have wil:=wi.1;simp-dsimp only[go_sem,e1];refine⟨oG,?_⟩;refine ck (fun h2=> ?_) (fun h2=> ?_);have hn:=YG h2;refine G2s ?_;have:rightQ a=false:=CS.2 fun e=>hn (by have:=(rightQ_iff.1 e).1 i hlt;unfold QN at this;simp at this;exact this.2);rw[this];have hn:=Vq h2;refine G2s ?_;refine Qd ([true,false,false,false,false,false,false,true,true,true]++rF 8++ [true,true,true]) 0 0 (fun n s=> ∃k,n=(a.getD i []).length-k/\k<=(a.getD i []).length/\(∀j,j<k->Qg ((a.getD i []).getD j default)=true)/\s=⟨[.sl .no (Z8 a),.junk,.junk,.junk,.junk,.junk,.junk,.sl .no (Z8 a),.sc (.int .i64 a.length),.sc (.int .i64 (i:Nat))]++jk 8++ [.sl .no (Qy (a.getD i [])),.sc (.int .i64 (a.getD i []).length),.sc (.int .i64 (k:Nat))]++jk 16,[],[],st⟩) (a.getD i []).length ?_ ?_;refine G2s ?_;exact⟨0,oG,oG,fun j hj=>oG,rfl⟩;rintro n s ⟨k,rfl,hk,hrk,rfl⟩;refine U2n (fun h5=> ?_) (fun h5=> ?_);have hklt:k<(a.getD i []).length:=(oT h5);have e2:=QG (a.getD i []) k hklt;have e4:=Zw k oG;have wk:=wi.2 k hklt;unfold wN at wk;simp-dsimp only[go_sem,e2];refine⟨oG,?_⟩;refine(Zh _ st oG).Q ?_;refine ck (fun h6=> ?_) (fun h6=> ?_);have hf:Qg ((a.getD i []).getD k default)=false:=(by simpa using h6);refine G2s ?_;have:rightQ a=false:=CS.2 fun e=>by have:=(rightQ_iff.1 e).1 i hlt;unfold QN at this;rw[q_i] at this;rw[(J2 _ Qg).1 this.1 k hklt] at hf;cases hf
 rw[this];have ht:Qg ((a.getD i []).getD k default)=true:=(by simpa using h6);simp-dsimp only[go_sem,e4];refine⟨(a.getD i []).length-(k+1),oG,k+1,rfl,oG,fun j hj=> ?_,rfl⟩;by_cases e:j=k;subst e;exact ht;exact hrk j oG;have hge:k=(a.getD i []).length:=(oF h5);refine G2s ?_;refine Qa ?_;simp-dsimp only[go_sem,e3];refine⟨a.length-(i+1),oG,i+1,rfl,oG,fun j hj=> ?_,rfl⟩;by_cases e:j=i;subst e;unfold QN;rw[q_i];exact⟨(J2 _ Qg).2 fun b hb=>hrk b oG,q_h hn⟩;exact hr j oG
 . have hge:i=a.length:=oF h
   subst hge;refine G2s ?_;refine U2i ?_;have fin:rightQ a=(decide ((a.length:Int)>=1)&&decide ((a.length:Int)<=4)):=by rw[E6,rightQ_iff,q_i,D0,D0];exact⟨fun h=>⟨oG,oG⟩,fun h=>⟨hr,oG,oG⟩⟩
   rw[fin];refine gkT (fun h1=> ?_) (fun h1=> ?_)
   . simp-dsimp only[go_sem,h1]
     try rfl
   . simp-dsimp only[go_sem,h1]
     try rfl
theorem YK {n:Nat}{v:List Nm}(h:rowR n v): ∀i,wN (v.getD i default):=fun i=>Qr (h.at i)
set_option maxHeartbeats 8000000 in
theorem zR (u v:List Nm)(n:Nat)(p:Int)(st:Qf)(hu:rowR n u)(hv:rowR n v)(hn:n<=4):PCalls Tryz.prog 186 [.sl .no (Qy u),.sl .no (Qy v),.sc (.int .i64 p)] st
 (fun r st'=>r= .tup [.agg (Q9 (zk u v p).1),.sc (.int .i64 (zk u v p).2)]/\st'=st):=by
 have hlu:=hu.1;have hlv:=hv.1;refine Qb none Tryz.func186 rfl fun E=>Qa ?_;unfold zk;rw[hlu];generalize hT:wJ u v p 0 n default=T;simp-dsimp only[go_sem,hlu];refine ZN 1 ?_;refine G2s ?_;refine Qd [true,true,true,false,false,false,true,false,true,false,false,false,false,true,true] 2 0
  (fun m s=> ∃(i:Nat) (acc:Nm),m=n-i/\i<=n/\Qg acc=true/\(i=0->acc=default)/\T=wJ u v p i (n-i) acc/\
   s=⟨[.sl .no (Qy u),.sl .no (Qy v),.sc (.int .i64 p),.junk,.junk,.junk,.lp 0 0,.junk,.lp 1 0,.junk,.junk,.junk,.junk,.sc (.int .i64 n),.sc (.int .i64 (i:Nat))]++jk 35,
   [[.sc (.bool false),.sc (.int .i64 0),.sl .full []],Q9 acc],[],st⟩) n ?_ ?_
 refine G2s ?_;exact⟨0,default,oG,oG,rfl,fun _=>rfl,hT.symm,rfl⟩;rintro m s ⟨i,acc,rfl,hi,har,h00,hr,rfl⟩;refine U2n (fun h=> ?_) (fun h=> ?_);rotate_left;have hge:i=n:=(oF h);subst hge;rw[K1u] at hr;rw[hr];refine G2s ?_;refine Qa ?_;exact G2r;have hlt:i<n:=(oT h);have g1:=QG u i oG;have g2:=QG v i oG;have e3:=Zw i oG;rw[k0a u v p hlt acc] at hr;have hx:kg u v p i acc=if (Qv 2 (u.getD i default) (v.getD i default) p false).2=0/\0<i then Qv 0 acc (Qv 2 (u.getD i default) (v.getD i default) p false).1 p false else Qv 2 (u.getD i default) (v.getD i default) p false:=rfl;refine G2s ?_;refine Qm QH 50 (X0p [0,1,2,3,4,5,6,7,8] (.alt (X0p [9,10,11,12] (.step 13 [3,7] (.step 14 [] (.step 15 [] (.done))))) (.step 13 [3,7] (X0p [9,10,11,12,14,15] .done)))) (by decide+kernel) (by simp) ?_;simp-dsimp only[go_sem,hlu,hlv,g1,g2];refine⟨oG,oG,And.intro ?_ ?_⟩
 all_goals
  refine(UQ (u.getD i default) (v.getD i default) p false _ (YK hu i) (YK hv i)).w ?_;rintro st' rfl;have hmr:=QB 2 (u.getD i default) (v.getD i default) p false;by_cases hm:(Qv 2 (u.getD i default) (v.getD i default) p false).2=0;by_cases h0:0<i
  . rw[BC ⟨hm,h0⟩] at hx;have z1:((Qv 2 (u.getD i default) (v.getD i default) p false).2==0)=true:=(by rw[hm];rfl);have z2:decide ((i:Int)>0)=true:=q_h oG;generalize (Qv 2 (u.getD i default) (v.getD i default) p false)=Z at*
    simp-dsimp only[go_sem,z1,z2];refine(jc acc Z.1 p false _ (Qr har) (Qr hmr)).w ?_;rintro st' rfl;rw[<-hx];rw[<-hx] at*
    by_cases hz:(kg u v p i acc).2=0;have z3:((kg u v p i acc).2 !=0)=false:=(by rw[hz];rfl);rw[BA (fun e=>e hz)] at hr;simp-dsimp only[go_sem,z3,e3];exact⟨n-(i+1),oG,i+1,_,rfl,oG,Hp _ _ _ _ _,fun e=>oG,hr,rfl⟩
    . have z3:((kg u v p i acc).2 !=0)=true:=BV.2 hz;rw[BC hz] at hr;rw[hr];simp-dsimp only[go_sem,z3]
      try rfl
  rw[BA (fun h=>h0 h.2)] at hx;have z1:((Qv 2 (u.getD i default) (v.getD i default) p false).2==0)=true:=(by rw[hm];rfl);have z2:decide ((i:Int)>0)=false:=q_g oG;have z3:((Qv 2 (u.getD i default) (v.getD i default) p false).2 !=0)=false:=(by rw[hm];rfl);rw[hx,BA (fun e=>e hm)] at hr;generalize (Qv 2 (u.getD i default) (v.getD i default) p false)=Z at*
  simp-dsimp only[go_sem,z1,z2,z3,e3];exact⟨n-(i+1),oG,i+1,_,rfl,oG,hmr,fun e=>oG,hr,rfl⟩
  . rw[BA (fun h=>hm h.1)] at hx;have z1:((Qv 2 (u.getD i default) (v.getD i default) p false).2==0)=false:=(by simpa using hm);have z3:((Qv 2 (u.getD i default) (v.getD i default) p false).2 !=0)=true:=BV.2 hm;rw[hx,BC hm] at hr;rw[hr];generalize (Qv 2 (u.getD i default) (v.getD i default) p false)=Z at*
    simp-dsimp only[go_sem,z1,z3]
    try rfl
set_option maxHeartbeats 8000000 in
theorem yT (v u:List Nm)(n:Nat)(p:Int)(st:Qf)(hv:rowR n v)(hu:rowR n u)(hn:n<=4)(hp:Q4 p=true):PCalls Tryz.prog 165 [.sl .no (Qy v),.sl .no (Qy u),.sc (.int .i64 p)] st
 (fun r st'=>r= .tup [.sl .no (Qy (Y5 v u p).1),.sc (.int .i64 (Y5 v u p).2)]/\st'=st):=by
 have hlu:=hu.1;have hlv:=hv.1;have ar:=Yu u v p;have br:=Yu u u p;refine Qb none Tryz.func165 rfl fun E=>Qe (Qa ?_);unfold Y5;refine G2s ?_;refine U2h ?_;refine(zR u v n p _ hu hv hn).w ?_;rintro st' rfl;generalize zk u v p=A at*
 refine G2s ?_;refine Qe (Qa ?_);by_cases h1:A.2=0;rotate_left
 . have z1:(A.2 !=0)=true:=BV.2 h1;rw[BC h1];simp-dsimp only[go_sem,z1]
   try rfl
 have z1:(A.2 !=0)=false:=by rw[h1];rfl
 rw[BA (fun e=>e h1)];simp-dsimp only[go_sem,z1];refine U2h ?_;refine(zR u u n p _ hu hu hn).w ?_;rintro st' rfl;generalize zk u u p=B at*
 refine G2s ?_;refine Qe (Qa ?_);by_cases h2:B.2=0;rotate_left
 . have z2:(B.2 !=0)=true:=BV.2 h2;rw[BC h2];simp-dsimp only[go_sem,z2]
   try rfl
 have z2:(B.2 !=0)=false:=by rw[h2];rfl
 rw[BA (fun e=>e h2)];simp-dsimp only[go_sem,z2];refine U2h ?_;refine(kJ A.1 B.1 p false _ ar br hp).w ?_;rintro st' rfl;have cr:=YR A.1 B.1 p false;generalize Jx A.1 B.1 p false=C at*
 refine G2s ?_;refine Qe (Qa ?_);by_cases h3:C.2=0;rotate_left
 . have z3:(C.2 !=0)=true:=BV.2 h3;rw[BC h3];simp-dsimp only[go_sem,z3]
   try rfl
 have z3:(C.2 !=0)=false:=by rw[h3];rfl
 rw[BA (fun e=>e h3),hlv];generalize hT:XZ (fun i=>KD (v.getD i default) C.1 (u.getD i default) p) 0 n []=T;simp-dsimp only[go_sem,z3];refine U2h ?_;refine QQ 12 3 ?_;refine G2s ?_;refine Qa ?_;simp-dsimp only[go_sem,hlv];refine Qd ([true,true,true]++rF 8++ [true,true]++rF 34++ [true,true]) 3 1
  (fun c s=> ∃(i:Nat) (o:List Nm),c=n-i/\i<=n/\o.length=i/\T=XZ (fun i=>KD (v.getD i default) C.1 (u.getD i default) p) i (n-i) o/\
   s=⟨[.sl .no (Qy v),.sl .no (Qy u),.sc (.int .i64 p)]++jk 8++ [.lp 2 0,.sl (.own 0) (Qy o)]++jk 34++ [.sc (.int .i64 n),.sc (.int .i64 (i:Nat))]++jk 34,[Q9 A.1,Q9 B.1,Q9 C.1],[(o.length,3)],st'⟩) n ?_ ?_
 refine G2s ?_;exact⟨0,[],oG,oG,rfl,hT.symm,rfl⟩;rintro c s ⟨i,o,rfl,hi,ho,hr,rfl⟩;refine U2n (fun h=> ?_) (fun h=> ?_);rotate_left;have hge:i=n:=(oF h);subst hge;rw[WV] at hr;rw[hr];refine G2s ?_;refine XR (rF 12++ [true]) (Qa ?_);exact G2r;have hlt:i<n:=(oT h);have g1:=QG u i oG;have g2:=QG v i oG;have e3:=Zw i oG;rw[Vh _ hlt o] at hr;have hx:KD (v.getD i default) C.1 (u.getD i default) p=if (Qv 2 C.1 (u.getD i default) p false).2≠0 then Qv 2 C.1 (u.getD i default) p false else Qv 1 (v.getD i default) (Qv 2 C.1 (u.getD i default) p false).1 p false:=rfl;refine G2s ?_;refine Qm QH 83 (X0p [0,1,2,3,4,5] (.alt (X0p [6,7,8,9] (.step 10 [0,4] (.step 11 [] (.step 12 [] (.done))))) (.step 10 [0,4] (X0p [6,7,8,9,11,12] .done)))) (by decide+kernel) (by simp) ?_;simp-dsimp only[go_sem,hlu,g1];refine⟨oG,And.intro ?_ ?_⟩
 all_goals
  refine(UQ C.1 (u.getD i default) p false _ (Qr cr) (YK hu i)).w ?_;rintro st' rfl;have hmr:=QB 2 C.1 (u.getD i default) p false;generalize (Qv 2 C.1 (u.getD i default) p false)=Z at*
  by_cases hm:Z.2=0
  . rw[BA (fun e=>e hm)] at hx;have z4:(Z.2 !=0)=false:=(by rw[hm];rfl);simp-dsimp only[go_sem,z4];refine Qm QH 83 (X0p [0,1,2,3,4,5,6,7,8,9,10,11] .done) (by decide+kernel) (by simp) ?_;simp-dsimp only[go_sem,hlv,g2];refine⟨oG,?_⟩;refine(UP (v.getD i default) Z.1 p false _ (YK hv i) (Qr hmr)).w ?_;rintro st' rfl;rw[<-hx];generalize hW:KD (v.getD i default) C.1 (u.getD i default) p=W at*
    by_cases hz:W.2=0;have z5:(W.2 !=0)=false:=(by rw[hz];rfl);rw[BA (fun e=>e hz)] at hr;simp-dsimp only[go_sem,z5,e3];exact⟨oG,n-(i+1),oG,i+1,o++ [W.1],rfl,oG,by simp;omega,hr,by simp[Qy,Q9]⟩
    . have z5:(W.2 !=0)=true:=BV.2 hz;rw[BC hz] at hr;rw[hr];simp-dsimp only[go_sem,z5]
      try rfl
  . rw[BC hm] at hx;have z4:(Z.2 !=0)=true:=BV.2 hm;rw[hx,BC hm] at hr;rw[hr];simp-dsimp only[go_sem,z4]
    try rfl
theorem kK {x:Nm}(h:Qg x=true): -65536<=x.exp/\x.exp<=65536/\Zd x.w<=4096:=by have:=Uz h;exact⟨this.2.1,this.2.2,this.1⟩
theorem W0a {t:Nm}(h:Qg t=true):IntKind.i64.wrap (IntKind.i64.wrap (0-t.exp)-(Zd t.w:Nat))=VU t:=by obtain⟨h1,h2,h3⟩:=kK h;rw[Qw (0-t.exp) oG oG,Qw _ oG oG];unfold VU;omega
set_option maxHeartbeats 4000000 in
theorem jl (v:List Nm)(n:Nat)(st:Qf)(hv:rowR n v)(hn:n<=4):PCalls Tryz.prog 166 [.sl .no (Qy v)] st
 (fun r st'=>r= .tup [.sl .no (Qy (GO v).1),.sc (.int .i64 (GO v).2)]/\st'=st):=by
 have hlv:=hv.1;refine Qb none Tryz.func166 rfl fun E=>Qe (Qa ?_);unfold GO G0g;rw[hlv];refine G2s ?_;refine U2h ?_;refine ZN 0 ?_;refine G2s ?_;refine Qa ?_;simp-dsimp only[go_sem,hlv];refine Qd ([true,false,false,false,true]++rF 7++ [true,true,true]) 1 0
  (fun m s=> ∃i:Nat,m=n-i/\i<=n/\
   s=⟨[.sl .no (Qy v),.junk,.junk,.junk,.lp 0 0]++jk 7++ [.sl .no (Qy v),.sc (.int .i64 n),.sc (.int .i64 (i:Nat))]++jk 41,[Q9 (Iy v i)],[],st⟩) n ?_ ?_
 refine G2s ?_;exact⟨0,oG,oG,rfl⟩;rintro m s ⟨i,rfl,hi,rfl⟩;refine U2n (fun h=> ?_) (fun h=> ?_);have hlt:i<n:=(oT h);have g1:=QG v i oG;have e3:=Zw i oG;have ht:Iy v (i+1)=if Uw (J8 (v.getD i default)) (Iy v i)>0 then J8 (v.getD i default) else Iy v i:=rfl;have hb:=(Uz (ZL (v.getD i default))).1;simp-dsimp only[go_sem,hlv,g1];refine⟨oG,?_⟩;refine Qm QH 56 (.step 0 [] (.step 2 [] (.step 1 [2] (.step 3 [] (.step 4 [] (.done)))))) (by decide+kernel) (by simp) ?_;refine G2s ?_;refine(Ic (v.getD i default) _ (YK hv i)).w ?_;rintro st' rfl;refine G2s ?_;have wa:=Qr (ZL (v.getD i default));have wt:=Qr (Vg v i);unfold wN at wa wt;refine(Ib (J8 (v.getD i default)) (Iy v i) _ oG oG).w ?_;rintro st' rfl;refine U2n (fun h2=> ?_) (fun h2=> ?_);have hc:Uw (J8 (v.getD i default)) (Iy v i)>0:=q_b h2;rw[BC hc] at ht;refine G2s ?_;refine(Ic (v.getD i default) _ (YK hv i)).w ?_;rintro st' rfl;simp-dsimp only[go_sem,e3];exact⟨n-(i+1),oG,i+1,rfl,oG,by rw[ht]⟩;have hc: ¬Uw (J8 (v.getD i default)) (Iy v i)>0:=q_c h2;rw[BA hc] at ht;simp-dsimp only[go_sem,e3];exact⟨n-(i+1),oG,i+1,rfl,oG,by rw[ht]⟩;have hge:i=n:=(oF h);subst hge;have tr:=Vg v i;have tw:=Qr tr;have hsh:=W0a tr;obtain⟨tx1,tx2,tx3⟩:=kK tr;generalize Iy v i=t at*
 unfold wN at tw;refine G2s ?_;refine U2i ?_;refine(IV t _ oG).w ?_;rintro st' rfl;by_cases h0:t.w= []
 . have z1:(Va (kf t)==0)=true:=by unfold Va kf;rw[BC tr,h0];rfl
   rw[BC h0];simp-dsimp only[go_sem,z1]
   try rfl
 have z1:(Va (kf t)==0)=false:=by have hm:Qi t.w≠0:=fun e=>h0 ((QJ tr).1 e);unfold Va kf;rw[BC tr,BA hm];split<;>rfl
 rw[BA h0];generalize hT:XZ (fun k=>JN (v.getD k default) (VU t)) 0 i []=T;simp-dsimp only[go_sem,z1];refine QQ 7 3 ?_;refine G2s ?_;refine Qd ([false,false,false,false,true,false,false,true]++rF 21++ [true,true,true]) 1 1
  (fun c s=> ∃(k:Nat) (o:List Nm),c=i-k/\k<=i/\o.length=k/\T=XZ (fun k=>JN (v.getD k default) (VU t)) k (i-k) o/\
   s=⟨[.junk,.junk,.junk,.junk,.lp 0 0,.junk,.junk,.sl (.own 0) (Qy o)]++jk 21++ [.sl .no (Qy v),.sc (.int .i64 i),.sc (.int .i64 (k:Nat))]++jk 24,[Q9 t],[(o.length,3)],st'⟩) i ?_ ?_
 simp-dsimp only[go_sem,hlv];exact⟨0,[],oG,oG,rfl,hT.symm,rfl⟩;rintro c s ⟨k,o,rfl,hk,ho,hr,rfl⟩;refine U2n (fun h2=> ?_) (fun h2=> ?_);rotate_left;have hge:k=i:=(oF h2);subst hge;rw[WV] at hr;rw[hr];refine G2s ?_;refine XR (rF 7++ [true]) (Qa ?_);exact G2r;have hlt:k<i:=(oT h2);have g1:=QG v k oG;have e3:=Zw k oG;rw[Vh _ hlt o] at hr;simp-dsimp only[go_sem,hlv,g1];refine⟨oG,?_⟩;refine Qm QH 56 (X0p [0,1,2,3,4,5] (.alt (.step 6 [0,2] (.step 7 [] (.alt (X0p [8,9,10,11] (.step 12 [0,2,5] (.step 13 [] (.step 14 [] (.done))))) (.step 12 [0,2,5] (X0p [8,9,10,11,13,14] .done))))) (.step 12 [0,2,5] (.step 6 [0,2] (X0p [7,8,9,10,11,13,14] .done))))) (by decide+kernel) (by simp) ?_;refine G2s ?_;refine And.intro ?_ ?_
 all_goals
  refine(JV t.w _ oG).w ?_;rintro st' rfl;simp-dsimp only[go_sem,hsh]
  try refine And.intro ?_ ?_
 all_goals
  refine(W0t (v.getD k default) (VU t) _ (YK hv k)).w ?_;rintro st' rfl;generalize JN (v.getD k default) (VU t)=W at*
  by_cases hz:W.2=0;have z5:(W.2 !=0)=false:=(by rw[hz];rfl);rw[BA (fun e=>e hz)] at hr;simp-dsimp only[go_sem,z5,e3];exact⟨oG,i-(k+1),oG,k+1,o++ [W.1],rfl,oG,by simp;omega,hr,by simp[Qy,Q9]⟩
  . have z5:(W.2 !=0)=true:=BV.2 hz;rw[BC hz] at hr;rw[hr];simp-dsimp only[go_sem,z5]
    try rfl
theorem zt (v:List Nm)(made:List (List Nm))(n:Nat)(p:Int)(st:Qf)(hv:rowR n v)(hm: ∀i,i<made.length->rowR n (made.getD i []))(hml:made.length<=4)(hn:n<=4)(hp:Q4 p=true):
 PCalls Tryz.prog 136 [.sl .no (Qy v),.sl .no (Z8 made),.sc (.int .i64 p)] st
 (fun r st'=>r= .tup [.sl .no (Qy (zB v made p).1),.sc (.int .i64 (zB v made p).2)]/\st'=st):=by
 refine Qb none Tryz.func136 rfl fun E=>Qa ?_;unfold zB;generalize hT:ym made p 0 made.length v=T;refine G2s ?_;refine Qd ([true,false,true]++rF 9++ [true,true,true]) 0 0
  (fun m s=> ∃(i:Nat) (w:List Nm),m=made.length-i/\i<=made.length/\rowR n w/\T=ym made p i (made.length-i) w/\
   s=⟨[.sl .no (Qy w),.junk,.sc (.int .i64 p)]++jk 9++ [.sl .no (Z8 made),.sc (.int .i64 made.length),.sc (.int .i64 (i:Nat))]++jk 19,[],[],st⟩) made.length ?_ ?_
 refine G2s ?_;exact⟨0,v,oG,oG,hv,hT.symm,rfl⟩;rintro m s ⟨i,w,rfl,hi,hw,hr,rfl⟩;refine U2n (fun h=> ?_) (fun h=> ?_);rotate_left;have hge:i=made.length:=(oF h);subst hge;rw[w0y] at hr;rw[hr,BA (fun e=>e rfl)];refine G2s ?_;refine U2i ?_;refine(jl w n _ hw hn).w ?_;rintro st' rfl;exact G2r;have hlt:i<made.length:=(oT h);have g1:=Xh made i hlt;have e3:=Zw i oG;rw[G0b made p hlt w] at hr;simp-dsimp only[go_sem,g1];refine⟨oG,?_⟩;refine(yT w (made.getD i []) n p _ hw (hm i hlt) hn hp).w ?_;rintro st' rfl;have hrow:=qh (u:=made.getD i []) (p:=p) hw;generalize Y5 w (made.getD i []) p=Z at*
 by_cases hz:Z.2=0;have z1:(Z.2 !=0)=false:=(by rw[hz];rfl);rw[BA (fun e=>e hz)] at hr;simp-dsimp only[go_sem,z1,e3];exact⟨made.length-(i+1),oG,i+1,Z.1,rfl,oG,hrow hz,hr,rfl⟩
 . have z1:(Z.2 !=0)=true:=BV.2 hz;rw[BC hz] at hr;rw[hr,BC hz];simp-dsimp only[go_sem,z1]
   try rfl
theorem wT {a:List (List Nm)}{p:Int}(h: ¬(rightQ a=true/\Q4 p=true)):XU a p=([],1):=by unfold XU;rw[BA h]
theorem V1d {a:List (List Nm)}{p:Int}(h:rightQ a=true/\Q4 p=true):XU a p=if (J1 a p 0 a.length []).2≠0 then([],(J1 a p 0 a.length []).2) else(zo a.length (J1 a p 0 a.length []).1,0):=by unfold XU;rw[BC h]
def IS (cols:List (List Nm))(v:List Nm)(i:Nat):Nat->List Nm:=fun k=>(cols.map fun c=>c.getD k default)++if k<i then [v.getD k default] else []
theorem q0o (cols:List (List Nm))(v:List Nm){i:Nat} : ∀k,k1o (IS cols v i) i (v.getD i default) k=IS cols v (i+1) k:=fun k=>by unfold k1o IS;by_cases e:k=i;subst e;rw[BC rfl,BA (Nat.lt_irrefl k),BC oG,B9];rw[BA e];by_cases h:k<i;rw[BC h,BC oG];rw[BA h,BA oG]
theorem Z1b (cols:List (List Nm))(v:List Nm)(n:Nat): ∀k,k<n->IS cols v n k=IS (cols++ [v]) [] 0 k:=fun k hk=>by unfold IS;rw[BC hk,BA (CD k)];simp
theorem q0m (cols:List (List Nm))(v w:List Nm): ∀k,IS cols v 0 k=IS cols w 0 k:=fun k=>by unfold IS;rw[BA (CD k),BA (CD k)]
theorem q0n (cols:List (List Nm))(n:Nat):(List.range n).map (IS cols [] 0)=zo n cols:=by unfold zo;refine C4 fun k _=> ?_;unfold IS;rw[BA (CD k),B9]
theorem zM {a:List (List Nm)}(h:rightQ a=true){i:Nat}(hi:i<a.length):rowR a.length (a.getD i []):=by have:=(rightQ_iff.1 h).1 i hi;unfold QN at this;rw[q_i,q_d] at this;exact⟨q_b this.2,this.1⟩
theorem Q1f {f:PV->Bool}(n:Nat){z:List PV}(h:z.all f=true):(GR n z).all f=true:=by unfold GR;rw[q_d] at h⊢;intro x hx;simp only[List.mem_flatten,List.mem_replicate] at hx;obtain⟨l,⟨_,rfl⟩,hx⟩:=hx;exact h x hx
set_option maxHeartbeats 16000000 in
theorem zu (a:List (List Nm))(p:Int)(st:Qf)(hw:wQs a):PCalls Tryz.prog 103 [.sl .no (Z8 a),.sc (.int .i64 p)] st
 (fun r st'=>r= .tup [.sl .no (Z8 (XU a p).1),.sc (.int .i64 (XU a p).2)]/\st'=st):=by
 refine zr (Q:=fun r=>r= .tup [.sl .no (Z8 (XU a p).1),.sc (.int .i64 (XU a p).2)]) ?_;refine Qb none Tryz.func103 rfl fun E=>Qe (Qa ?_);refine G2s ?_;refine IG (Qe (Qa ?_));refine G2s ?_;refine(jj a _ hw).w ?_;rintro st' rfl;cases hr:rightQ a with
 | false=>
  have hc: ¬(rightQ a=true/\Q4 p=true):=fun h=>by rw[hr] at h;cases h.1
  refine G2s ?_;rw[wT hc];exact SeenRet.err0 rfl
 | true=>
 refine G2s ?_;refine(Xp p _).w ?_;rintro st' rfl;cases hp:Q4 p with
 | false=>
  have hc: ¬(rightQ a=true/\Q4 p=true):=fun h=>by rw[hp] at h;cases h.2
  refine G2s ?_;rw[wT hc];exact SeenRet.err0 rfl
 | true=>
 rw[V1d ⟨hr,hp⟩];have hl:=(rightQ_iff.1 hr).2;generalize hn:a.length=n at*
 generalize hT:J1 a p 0 n []=T;refine G2s ?_;refine Qe ?_;refine Yg [false,false,true,false] ?_;simp-dsimp only[go_sem,hn];refine⟨⟨oG,oG,oG⟩,?_⟩;have hO:=OutO.start st' n;have hv0: ∀k,k<n->(fun _=> []) k=IS [] [] 0 k:=fun k _=>(by unfold IS;rw[BA (CD k)];rfl);have hO:=hO.ext hv0;generalize st'++ [List.replicate n (PV.sl .full [])]=S at hO⊢;generalize hOO:st'.length=O at hO⊢;refine U2h ?_;refine QQ 7 1 ?_;refine G2s ?_;refine U2h ?_;refine U2h ?_;refine Qe (Qa ?_);simp-dsimp only[go_sem,hn];refine QF ([true,true,false,false,false,false,true,true,true]++rF 18++ [true,true]) 0 1
  (fun c s=> ∃(j:Nat) (made:List (List Nm)) (S:Qf) (cell:Nat->PV),c=n-j/\j<=n/\made.length=j/\(∀i,i<j->rowR n (made.getD i []))/\T=J1 a p j (n-j) made/\OutO st' S O n cell (IS made [] 0)/\
   s=⟨[.sl .no (Z8 a),.sc (.int .i64 p),.junk,.junk,.junk,.junk,.ms true O 0 n,.sl (.own 0) (Z8 made),.sc (.int .i64 0)]++jk 18++ [.sc (.int .i64 n),.sc (.int .i64 (j:Nat))]++jk 56,[],[(made.length,1)],S⟩) n ?_ ?_
 refine G2s ?_;exact⟨0,[],S,_,oG,oG,rfl,fun i hi=>absurd hi (CD i),hT.symm,hO,rfl⟩;clear hO;rintro c s ⟨j,made,S,cell,rfl,hj,hm,hmr,hr1,hO,rfl⟩;refine U2h ?_;refine U2h ?_;refine ck (fun h=> ?_) (fun h=> ?_);rotate_left;have hge:j=n:=(oF h);subst hge;rw[k0z] at hr1;rw[hr1,BA (fun e=>e rfl)];refine G2s ?_;refine U2i ?_;refine hO.seen (fun i hi e=> ?_) ?_;have:=B4 List.length e;unfold IS at this;rw[BH,BR] at this;simp only[D8] at this;omega;rw[q0n];have hlt:j<n:=(oT h);have e3:=Zw j oG;rw[Y0v a p hlt made] at hr1;refine G2s ?_;refine Qe (Zp ?_);refine U2h ?_;refine Qe (Qa ?_);simp-dsimp only[go_sem,hn];refine⟨⟨oG,oG⟩,?_⟩;refine ZN 0 ?_;have hc2:(GR n [.sc (.bool false),.sc (.int .i64 0),.sl .full []]).all PV.closed2=true:=Q1f n rfl;simp-dsimp only[go_sem,jf,hc2];have r0:GR n [.sc (.bool false),.sc (.int .i64 0),.sl .no []]=flat (Qy (List.replicate n default)):=H0o n;rw[r0];refine Qe (Qa ?_);simp-dsimp only[go_sem,hn];refine QF ([true,true,false,false,false,false,true,true,false,true,true]++rF 16++ [true,true,false,false,false,false,false,true,true,true]) 1 1
  (fun c s=> ∃(i:Nat) (w:List Nm),c=n-i/\i<=n/\w.length=n/\(∀k,k<i->w.getD k default=QM a k j)/\
   s=⟨[.sl .no (Z8 a),.sc (.int .i64 p),.junk,.junk,.junk,.junk,.ms true O 0 n,.sl (.own 0) (Z8 made),.junk,.sc (.int .i64 (j:Nat)),.ms false 0 0 n]++jk 16++ [.sc (.int .i64 n),.sc (.int .i64 (j:Nat))]++jk 5++ [.sl .no (Z8 a),.sc (.int .i64 n),.sc (.int .i64 (i:Nat))]++jk 48,[flat (Qy w)],[(made.length,1)],S⟩) n ?_ ?_
 refine G2s ?_;exact⟨0,List.replicate n default,oG,oG,by simp,fun k hk=>absurd hk (CD k),rfl⟩;rintro c s ⟨i,w,rfl,hi,hwl,hwv,rfl⟩;refine U2h ?_;refine U2h ?_;refine ck (fun h1=> ?_) (fun h1=> ?_);have hlt1:i<n:=(oT h1);have f3:=Zw i oG;have gA:=Xh a i oG;have gN:=QG (a.getD i []) j (by rw[(zM hr oG).1,hn];exact hlt);have hai:=(zM hr (show i<a.length by omega)).1;have hfl:=KY w;rw[QT,hwl] at hfl;have hset:=vX w i ((a.getD i []).getD j default) (by rw[hwl];exact hlt1);simp only[Q9] at hset;refine G2s ?_;refine Qe (Zp (Qe (Qa ?_)));simp-dsimp only[go_sem,gA];refine⟨oG,?_⟩;refine Qa ?_;simp-dsimp only[go_sem,gN,hai,hfl,hset];refine⟨oG,⟨oG,hlt1⟩,⟨oG,oG⟩,?_⟩;refine Qa ?_;simp-dsimp only[go_sem,f3];refine⟨n-(i+1),oG,i+1,w.set i ((a.getD i []).getD j default),rfl,oG,by simp[hwl],fun k hk=> ?_,rfl⟩;by_cases e:k=i;subst e;rw[Qt _ _ _ _ oG];rfl;rw[Qo _ _ _ _ _ (fun e'=>e e'.symm)];exact hwv k oG;have hge1:i=n:=(oF h1);have hwc:w=Ij a j:=by refine C9 (by simp[Ij,hwl,hn]) fun k h3 h4=> ?_;have:=hwv k oG;rw[q_a,BB h3] at this;simpa[Ij] using this
 subst hge1;rw[hwc];have hcl:(Ij a j).length=i:=(by simp[Ij,hn]);have c1:=K0k (Ij a j) i hcl.symm;refine G2s ?_;refine IH 0 3 ?_ ?_;exact G2r;simp-dsimp only[go_sem,hcl,c1];refine U2h ?_;have hcr:=jR hr (show j<a.length by omega);rw[hn] at hcr;refine(zt (Ij a j) made i p _ hcr (fun k hk=>hmr k oG) oG hl.2 hp).mono ?_;rintro r S9 ⟨rfl,e9⟩;have e9:=e9.symm;subst e9;have hur:=X0h (made:=made) (p:=p) hcr;generalize zB (Ij a j) made p=W at*
 by_cases hz:W.2=0;rotate_left;have z1:(W.2 !=0)=true:=BV.2 hz;rw[BC hz] at hr1;rw[hr1,BC hz];simp-dsimp only[go_sem,z1];refine Qa ?_;simp-dsimp only[go_sem,z1];obtain⟨X,hX⟩:=hO.old.app;rw[hX];exact SeenRet.err rfl;have z1:(W.2 !=0)=false:=(by rw[hz];rfl);rw[BA (fun e=>e hz)] at hr1;have hwr:=hur hz;have hwl:=hwr.1;simp-dsimp only[go_sem,z1];refine U2h ?_;refine⟨oG,?_⟩;have hmq:Z8 made++ [.sl .no (Qy W.1)]=Z8 (made++ [W.1]):=(by simp[Z8]);refine Qa ?_;simp-dsimp only[go_sem,hwl,hmq,hz];refine QF ([true,true,false,false,false,false,true,true,true]++List.replicate 18 false++ [true,true]++List.replicate 33 false++ [true,true,true]) 0 1
  (fun c s=> ∃(k:Nat) (cell:Nat->PV) (S:Qf),c=i-k/\k<=i/\OutO st' S O i cell (IS made W.1 k)/\
   s=⟨[.sl .no (Z8 a),.sc (.int .i64 p),.junk,.junk,.junk,.junk,.ms true O 0 i,.sl (.own 0) (Z8 (made++ [W.1])),.sc (.int .i64 0)]++jk 18++ [.sc (.int .i64 i),.sc (.int .i64 (j:Nat))]++jk 33++ [.sl .no (Qy W.1),.sc (.int .i64 i),.sc (.int .i64 (k:Nat))]++jk 20,[],[((made++ [W.1]).length,1)],S⟩) i ?_ ?_
 refine G2s ?_;exact⟨0,cell,S,oG,oG,hO.ext fun k _=>q0m made [] W.1 k,by simp⟩;clear hO;rintro c s ⟨k,cell,S,rfl,hk,hO,rfl⟩;refine U2h ?_;refine U2h ?_;refine ck (fun h2=> ?_) (fun h2=> ?_);rotate_left;have hge2:k=i:=(oF h2);subst hge2;refine G2s ?_;refine Qa ?_;simp-dsimp only[go_sem,e3];refine⟨k-(j+1),oG,j+1,made++ [W.1],S,cell,rfl,oG,by simp;omega,fun q hq=> ?_,hr1,hO.ext (Z1b made W.1 k),by simp⟩;by_cases e:q<j;rw[Qk _ _ _ _ oG];exact hmr q e;rw[Ql _ _ _ _ oG,show q-made.length=0 by omega];exact hwr;have hlt2:k<i:=(oT h2);have f3:=Zw k oG;have gW:=QG W.1 k oG;refine G2s ?_;refine Qe (Zp (Qe (Qa ?_)));simp-dsimp only[go_sem,gW,hwl];refine⟨oG,?_⟩;obtain⟨o1,o2,o3,o4⟩:=hO.o;have gO:=o4 k hlt2;have hput:=fun S1 y=>hO.put (S1:=S1) (y:=y) (x:=W.1.getD k default) hlt2;have hnx: ∀q,q<i->k1o (IS made W.1 k) k (W.1.getD k default) q=IS made W.1 (k+1) q:=fun q _=>q0o made W.1 q;have hsn:=(Y0q (IS made W.1 k k) (W.1.getD k default)).symm;have hvl:(IS made W.1 k k).length=j:=(by unfold IS;rw[BA (Nat.lt_irrefl k),B9,BR];exact hm);rcases hO.r k hlt2 with ⟨e0,ey⟩ | ⟨e0,K,cap,R,ey,k1,k2,k3,k4,k5⟩;rw[ey] at gO;refine vi (rF 8++ [true]) QH 85 (.step 0 [] (.step 1 [] (.step 2 [] (.step 3 [] (.step 4 [] (.step 5 [] (.step 6 [] (.step 7 [] (.step 8 [] (.step 9 [] (.step 10 [] (.done)))))))))))) (by decide+kernel) (by simp) ?_;simp-dsimp only[go_sem,gO];refine⟨⟨oG,hlt2⟩,oG,GrowOK.mk_one rfl (by decide) rfl oG oG rfl rfl,fun cap' R hc hR=> ?_⟩;have hone:=x0u (B:=O+1) (sz:=3) (S:=S) (a:= .agg (Q9 (W.1.getD k default))) oG hc hR;have hp:=hput (S++ [flat [PV.agg (Q9 (W.1.getD k default))]++R]) (.gr S.length 1 cap') (by simp) (fun q hq _=>Qk _ _ _ _ hq) (by rw[hsn,e0];exact hone) (fun K a c e=> .inl (by injection e with e;omega));have hSO:(S++ [flat [PV.agg (Q9 (W.1.getD k default))]++R]).getD O []=S.getD O []:=Qk _ _ _ _ o2;have hSl:S.length<=(S++ [flat [PV.agg (Q9 (W.1.getD k default))]++R]).length:=(by simp);simp only[Q9] at hp hSO hSl;generalize S++ [flat [PV.agg [PV.sc (.bool (W.1.getD k default).neg),.sc (.int .i64 (W.1.getD k default).exp),.sl .no (Q2 (W.1.getD k default).w)]]++R]=S1 at hp hSO hSl⊢;refine⟨⟨oG,hlt2⟩,⟨by rw[hSO];omega,by rw[hSO];omega⟩,?_⟩;refine Qa ?_;simp-dsimp only[go_sem,f3];exact⟨i-(k+1),oG,k+1,_,_,rfl,oG,hp.ext hnx,by simp⟩;have hfl:=KY (IS made W.1 k k);have hel:(Qy (IS made W.1 k k)).length=j:=(by rw[QT,hvl]);have hap:=fun K' cap' S'=>x0v (K':=K') (cap':=cap') (S':=S') (a:= .agg (Q9 (W.1.getD k default))) k1 k2 k3 k4 k5 hfl rfl;have hkl:(S.getD K []).length=cap*3:=(by rw[k3,BH,hfl,k4,<-BQ];congr 1;omega);rw[hel] at ey hap;rw[ey] at gO;refine vi (rF 8++ [true]) QH 85 (.step 0 [] (.step 1 [] (.step 2 [] (.step 3 [] (.step 4 [] (.step 5 [] (.step 6 [] (.step 7 [] (.step 8 [] (.step 9 [] (.step 10 [] (.done)))))))))))) (by decide+kernel) (by simp) ?_;simp-dsimp only[go_sem,gO];refine⟨⟨oG,hlt2⟩,oG,GrowOK.mk_one rfl (by decide) hkl oG oG rfl rfl,fun K' cap' S1 hG=> ?_⟩;obtain⟨p1,p2,p3,p4⟩:=hap K' cap' S1 hG;have hp:=hput S1 (.gr K' (j+1) cap') p2 (fun q hq hne=>p3 q hq fun e=>hne j cap (by rw[ey,e])) (by rw[hsn];exact p1) (fun K2 a c e=>by injection e with e;rcases p4 with h | h;exact .inr ⟨j,cap,by rw[ey,<-e,h]⟩;exact .inl oG);have hSO:S1.getD O []=S.getD O []:=p3 O o2 oG;refine⟨⟨oG,hlt2⟩,⟨by rw[hSO];omega,by rw[hSO];omega⟩,?_⟩;refine Qa ?_;simp-dsimp only[go_sem,f3];exact⟨i-(k+1),oG,k+1,_,_,rfl,oG,hp.ext hnx,by simp⟩
end Go.Pv
end
