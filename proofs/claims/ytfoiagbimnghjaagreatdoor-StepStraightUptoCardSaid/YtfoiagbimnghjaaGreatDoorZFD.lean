/- Walk. -/
import Derived.Test.YtfoiagbimnghjaaGreatDoorZEE
import Derived.Test.YtfoiagbimnghjaaGreatDoorZFB
set_option linter.all false
section
namespace Go.Pv
def QD (A:List (List Nm))(i j:Nat):Nm:=(A.getD i []).getD j default
def ZP (A:List (List Nm))(k:Nat):Nat->Nat
 | 0=>k
 | m+1=>if Q9 (Km (QD A (k+1+m) k)) (Km (QD A (ZP A k m) k))<=0 then ZP A k m else k+1+m
theorem zr (A:Ly)(k:Nat): ∀m,k<=ZP A k m/\ZP A k m<=k+m
 | 0=>⟨BD _,BD _⟩
 | m+1=>by have:=zr A k m;unfold ZP;split<;>omega
def KL (d:Nm)(p:Int)(row:List Nm):Bool:=row.all fun c=>(ZT c d p false).2==0
def Jq (d:Nm)(p:Int)(row:List Nm):List Nm:=row.map fun c=>(ZT c d p false).1
def KM (x m y:Nm)(p:Int):Nm×Int:=if (Qs 2 m y p false).2≠0 then Qs 2 m y p false else Qs 1 x (Qs 2 m y p false).1 p false
def WN (m:Nm)(p:Int)(row other:List Nm):Bool:=(List.range row.length).all fun j=>(KM (row.getD j default) m (other.getD j default) p).2==0
def KH (m:Nm)(p:Int)(row other:List Nm):List Nm:=(List.range row.length).map fun j=>(KM (row.getD j default) m (other.getD j default) p).1
structure GJ where
 a:List (List Nm)
 r:List (List Nm)
 e:Int
def I6 (p:Int)(k i:Nat)(x:GJ):GJ:=
 if i=k\/(QD x.a i k).w= [] then x
 else if (WN (QD x.a i k) p (x.a.getD i []) (x.a.getD k [])&&WN (QD x.a i k) p (x.r.getD i []) (x.r.getD k []))=true then
  ⟨x.a.set i (KH (QD x.a i k) p (x.a.getD i []) (x.a.getD k [])),x.r.set i (KH (QD x.a i k) p (x.r.getD i []) (x.r.getD k [])),0⟩
 else⟨x.a,x.r,2⟩
def Jh (p:Int)(k:Nat)(x:GJ):Nat->GJ
 | 0=>x
 | i+1=>if (Jh p k x i).e=0 then I6 p k i (Jh p k x i) else Jh p k x i
def xa (n k:Nat)(x:GJ):GJ:=⟨QZ [] x.a k (ZP x.a k (n-(k+1))),QZ [] x.r k (ZP x.a k (n-(k+1))),0⟩
def VM (p:Int)(k:Nat)(x:GJ):GJ:=
 if (KL (QD x.a k k) p (x.a.getD k [])&&KL (QD x.a k k) p (x.r.getD k []))=true then⟨x.a.set k (Jq (QD x.a k k) p (x.a.getD k [])),x.r.set k (Jq (QD x.a k k) p (x.r.getD k [])),0⟩ else⟨x.a,x.r,2⟩
def WR (p:Int)(n k:Nat)(x:GJ):GJ:=
 if (QD x.a (ZP x.a k (n-(k+1))) k).w= [] then⟨x.a,x.r,3⟩
 else if (VM p k (xa n k x)).e=0 then Jh p k (VM p k (xa n k x)) n
 else VM p k (xa n k x)
def Xr (p:Int)(n:Nat)(x:GJ):Nat->GJ
 | 0=>x
 | k+1=>if (Xr p n x k).e=0 then WR p n k (Xr p n x k) else Xr p n x k
def XL (n:Nat):List (List Nm):=(List.range n).map fun i=>(List.range n).map fun j=>if i=j then⟨false,0,[1]⟩ else default
def QK (a:List (List Nm))(p:Int):List (List Nm)×Int:=
 if Xv a=true/\Qt p=true then(if (Xr p a.length ⟨a,XL a.length,0⟩ a.length).e=0 then((Xr p a.length ⟨a,XL a.length,0⟩ a.length).r,0) else([],(Xr p a.length ⟨a,XL a.length,0⟩ a.length).e)) else([],1)
def sqR (n:Nat)(a:List (List Nm)):Prop:=a.length=n/\ ∀r∈a,r.length=n/\ ∀c∈r,Qh c=true
theorem sqR.row {n:Nat}{a:Ly}(h:sqR n a){i:Nat}(hi:i<n):(a.getD i []).length=n/\ ∀c∈a.getD i [],Qh c=true:=h.2 _ (Q8 _ _ _ (by rw[h.1];exact hi))
theorem sqR.ent {n:Nat}{a:Ly}(h:sqR n a){i j:Nat}(hi:i<n)(hj:j<n):Qh (QD a i j)=true:=(h.row hi).2 _ (Q8 _ _ _ (by rw[(h.row hi).1];exact hj))
theorem sqR.set {n:Nat}{a:Ly}(h:sqR n a){i:Nat}{r:Lx}(hr:r.length=n/\ ∀c∈r,Qh c=true):sqR n (a.set i r):=by refine⟨by rw[BL];exact h.1,fun x hx=> ?_⟩;rcases EP hx with hx | rfl;exact h.2 x hx;exact hr
theorem sqR.swap {n:Nat}{a:Ly}(h:sqR n a){i j:Nat}(hi:i<n)(hj:j<n):sqR n (QZ [] a i j):=by unfold QZ;exact(h.set (h.row hj)).set (h.row hi)
set_option maxRecDepth 100000
open Go.Proofs
theorem zG (x:Nm)(st:Qd)(hw:wN x):PR 375 [.agg (Qg x)] st (.agg (Qg (Km x))):=by unfold wN at hw;refine Qj Tryz.func375 fun E=> ?_;refine(Ru x st oG).Q ?_;refine(vY (XD x) st).Q ?_;unfold Km XD KG;split<;>rfl
set_option maxHeartbeats 4000000 in
theorem j0f (a:Ly)(st:Qd)(hw:wQs a):PR 351 [.sl .no (QL a)] st (.sc (.bool (Xv a))):=by
 obtain⟨hl,hw⟩:=hw;refine Qj Tryz.func351 fun E=> ?_;refine Q3 [true,false,false,false,false,false,false,true,true,true] 0 0 (fun n s=> ∃i,n=a.length-i/\i<=a.length/\(∀j,j<i->ZC (a.getD j []) a.length=true)/\s=⟨[.sl .no (QL a),.junk,.junk,.junk,.junk,.junk,.junk,.sl .no (QL a),.sc (.int .i64 a.length),.sc (.int .i64 (i:Nat))]++jk 27,[],[],st⟩) a.length ?_ ?_;refine Qr ?_;exact⟨0,oG,oG,fun j hj=>oG,rfl⟩;rintro n s ⟨i,rfl,hi,hr,rfl⟩;refine QM ?_ ?_<;>intro h;have hlt:i<a.length:=(oT h);have e1:=Wt a i hlt;have e3:=QN i oG;have wi:=hw i hlt;have wil:=wi.1;simp-dsimp only[go_sem,e1];refine⟨oG,?_⟩;refine ck ?_ ?_<;>intro h2;have hn:=WK h2;refine Qr ?_;have:Xv a=false:=CS.2 fun e=>hn (by have:=(rightQ_iff.1 e).1 i hlt;unfold ZC at this;simp at this;exact this.2);rw[this];have hn:=Vs h2;refine Qr ?_;refine Q3 ([true,false,false,false,false,false,false,true,true,true]++rF 8++ [true,true,true]) 0 0 (fun n s=> ∃k,n=(a.getD i []).length-k/\k<=(a.getD i []).length/\(∀j,j<k->Qh ((a.getD i []).getD j default)=true)/\s=⟨[.sl .no (QL a),.junk,.junk,.junk,.junk,.junk,.junk,.sl .no (QL a),.sc (.int .i64 a.length),.sc (.int .i64 (i:Nat))]++jk 8++ [.sl .no (Qy (a.getD i [])),.sc (.int .i64 (a.getD i []).length),.sc (.int .i64 (k:Nat))]++jk 16,[],[],st⟩) (a.getD i []).length ?_ ?_;refine Qr ?_;exact⟨0,oG,oG,fun j hj=>oG,rfl⟩;rintro n s ⟨k,rfl,hk,hrk,rfl⟩;refine QM ?_ ?_<;>intro h5;have hklt:k<(a.getD i []).length:=(oT h5);have e2:=JN (a.getD i []) k hklt;have e4:=QN k oG;have wk:=wi.2 k hklt;unfold wN at wk;simp-dsimp only[go_sem,e2];refine⟨oG,?_⟩;refine(XE _ st oG).Q ?_;refine ck ?_ ?_<;>intro h6;have hf:Qh ((a.getD i []).getD k default)=false:=(by simpa using h6);refine Qr ?_;have:Xv a=false:=CS.2 fun e=>by have:=(rightQ_iff.1 e).1 i hlt;unfold ZC at this;rw[q_i] at this;rw[(Y4 _ Qh).1 this.1 k hklt] at hf;cases hf
 rw[this];have ht:Qh ((a.getD i []).getD k default)=true:=(by simpa using h6);simp-dsimp only[go_sem,e4];refine⟨(a.getD i []).length-(k+1),oG,k+1,rfl,oG,fun j hj=> ?_,rfl⟩;by_cases e:j=k;subst e;exact ht;exact hrk j oG;have hge:k=(a.getD i []).length:=(oF h5);refine Qr ?_;refine Qb ?_;simp-dsimp only[go_sem,e3];refine⟨a.length-(i+1),oG,i+1,rfl,oG,fun j hj=> ?_,rfl⟩;by_cases e:j=i;subst e;unfold ZC;rw[q_i];exact⟨(Y4 _ Qh).2 fun b hb=>hrk b oG,q_h hn⟩;exact hr j oG
 . have hge:i=a.length:=oF h
   subst hge;refine Qr ?_;refine Qq ?_;have fin:Xv a=(decide ((a.length:Int)>=1)&&decide ((a.length:Int)<=4)):=by rw[E6,rightQ_iff,q_i,D0,D0];exact⟨fun h=>⟨oG,oG⟩,fun h=>⟨hr,oG,oG⟩⟩
   rw[fin];refine gkT ?_ ?_<;>intro h1
   . simp-dsimp only[go_sem,h1]
     try rfl
   . simp-dsimp only[go_sem,h1]
     try rfl
def Ja (a b:Nm)(p:Int)(up:Bool):Nm×Int:=if b.w= [] then(default,3) else ZT a b p up
theorem Nq (a b:Nm)(p:Int)(up:Bool):Qh (Ja a b p up).1=true:=by unfold Ja;split;decide;exact JZ (K5 (Kl (Gj _ _ _) _ _))
theorem Md (a b:Nm)(p:Int)(up:Bool)(st:Qd)(ha:Qh a=true)(hb:Qh b=true)(hp:Qt p=true):
 PR 310 [.agg (Qg a),.agg (Qg b),.sc (.int .i64 p),.sc (.bool up)] st (.tup [.agg (Qg (Ja a b p up).1),.sc (.int .i64 (Ja a b p up).2)]):=by
 by_cases h0:b.w= []
 . have wa:=QC ha;have wb:=QC hb;unfold wN at wa wb;have hq:Ja a b p up=(default,3):=(by unfold Ja;rw[BC h0]);rw[hq];refine Qj Tryz.func310 fun E=> ?_;refine(XE a _ oG).q ?_;rw[ha];refine Qr ?_;refine(XE b _ oG).q ?_;rw[hb];refine Qr ?_;refine(JY _ _).q ?_;rw[hp];have hbl:((b.w.length:Int)==0)=true:=(by rw[h0];rfl);simp-dsimp only[go_sem,hbl]
   try rfl
 have hq:Ja a b p up=ZT a b p up:=by unfold Ja;rw[BA h0]
 rw[hq];exact jS a b p up st ha hb hp (EU fun e=>h0 ((KO hb).1 e))
theorem v0p (x:Lx):(Qy x).all (fun x=>(x.cells.length==3)&&x.cells.all PV.cellOK)=true:=by simp only[Qy,q_d,CF];rintro _ ⟨c,_,rfl⟩;rfl
theorem HU {α:Type}(d:α)(l:List α){i:Nat}(h:i<l.length):l.take (i+1)=l.take i++ [l.getD i d]:=by rw[List.take_add_one,BB h,q_a,BB h];rfl
theorem qS (a:Ly){i:Nat}(h:i<a.length):(a.take (i+1)).map QP=(a.take i).map QP++ [QP (a.getD i [])]:=by rw[HU [] a h,E5];rfl
theorem Q0a {x:Lx}(h0:0<x.length)(h4:x.length<=4):GrowOK [] 0 0 (Qy x) { id:=24,sz:=3,by_:=40,agg:=true,zok:=true,u8:=false } :=
 ⟨rfl,by decide,rfl,by rw[Kh];omega,by rw[Kh];show(0+x.length)*40<=_;omega,v0p x,by rw[Kh];exact h0⟩
theorem Q0b (st:Qd)(x:Lx)(R:Lp):RowAt (st++ [flat (Qy x)++R]) st.length (QP x):=by refine⟨by simp,R,?_⟩;rw[Zl _ _ _ _ (BD _),DD];rfl
theorem Rl {P:Pg}{f:FuncId}{args:Lp}{st:Qd}{a:Ly}(h0:0<a.length)(hr: ∀r∈a,r.length=a.length)
 (h:PCalls P f args st fun r st'=> ∃ids cs X,st'=st++X/\Built st' st.length a.length a.length r ids cs (a.map QP)):
 PCalls P f args st (fun r st'=> ∃A ids X,r= .ms true A 0 a.length/\st'=st++X/\QO st' A ids a/\st.length<=A/\ ∀i∈ids,st.length<=i):=by
 refine PCalls.unGr h ?_;rintro r st' ⟨ids,cs,X,rfl,hB⟩;obtain⟨A,cap,R,rfl,hA,hAl,hAc,hM,hU⟩:=hB.done h0;refine⟨.ms true A 0 a.length,_,by rw[BL],rfl,rfl,.gr _ _ _,hU,A,ids,X.set (A-st.length) ((ids.map fun i=>PV.ms true i 0 a.length)++R),rfl,?_,⟨hr,hM⟩,hA,hB.ge⟩;rw[CJ _ _ hA]
set_option maxHeartbeats 4000000 in
theorem U1n (a:Ly)(st:Qd)(h0:0<a.length)(h4:a.length<=4)(hr: ∀r∈a,r.length=a.length):
 PCalls Tryz.prog 352 [.sl .no (QL a)] st (fun r st'=> ∃A ids X,r= .ms true A 0 a.length/\st'=st++X/\QO st' A ids a/\st.length<=A/\ ∀i∈ids,st.length<=i):=by
 refine Rl h0 hr ?_;refine Ql none Tryz.func352 rfl fun E=>Qe (Qb ?_);refine Qr ?_;refine Qa ?_;refine Qa ?_;refine XK [false,false,false,true,false,false,true,true,true] 0 0
  (fun m s=> ∃i out ids cs X,m=a.length-i/\i<=a.length/\Built (st++X) st.length a.length i out ids cs ((a.take i).map QP)/\
   s=⟨[.junk,.junk,.junk,out,.junk,.junk,.sl .no (QL a),.sc (.int .i64 a.length),.sc (.int .i64 (i:Nat))]++jk 10,[],[],st++X⟩) a.length ?_ ?_
 refine Qr ?_;refine⟨0,.sl .full [],[],[],[],oG,oG,?_,by simp⟩;rw[B9];exact Built.zero st _;rintro m s ⟨i,out,ids,cs,X,rfl,hi,hB,rfl⟩;refine Qa ?_;refine Qa ?_;refine ck ?_ ?_<;>intro h;have hlt:i<a.length:=(oT h);have e1:=Wt a i hlt;have e3:=QN i oG;have hri:=hr _ (Q8 a i [] hlt);refine Qr ?_;refine Qe (Xx ?_);refine Qe (Qb ?_);simp-dsimp only[go_sem,e1];refine⟨oG,?_⟩;refine Yq [false,false,true,false,true] ?_;rcases hB.out with ⟨rfl,rfl⟩ | ⟨hi0,A,cap,R,rfl,_⟩;refine Qr ?_;refine⟨Q0a oG oG,fun cap' R hc' hR=>⟨GrowOK.mk_one rfl (by decide) rfl oG oG rfl rfl,fun cap2 R2 hc2 hR2=> ?_⟩⟩;refine Qq ?_;have hY:RowAt (st++X++ [flat (Qy (a.getD 0 []))++R]) (st.length+X.length) (QP (a.getD 0 [])):=(by have:=Q0b (st++X) (a.getD 0 []) R;rwa [BH] at this);have hB2:=Built.first hB (Y:=st++X++ [flat (Qy (a.getD 0 []))++R]) (c:= .gr (st.length+X.length) (a.getD 0 []).length cap') (by simp) (by rw[hri];exact .gr _ _ _) hY (by simp) hc2 (by rw[hR2];omega);obtain⟨X2,hX2⟩: ∃X2,st++X++ [flat (Qy (a.getD 0 []))++R]++ [flat [PV.gr (st.length+X.length) (a.getD 0 []).length cap']++R2]=st++X2:=⟨_,by rw[BP,BP]⟩;rw[hX2] at hB2⊢;rw[<-qS a hlt] at hB2;refine⟨a.length-(0+1),oG,0+1,_,_,_,X2,rfl,oG,hB2,?_⟩;rw[e3,show(st++X++ [flat (Qy (a.getD 0 []))++R]).length=st.length+X.length+1 by simp;omega];refine Qr ?_;obtain⟨b1,b2,b3⟩:=hB.at hi0;refine⟨Q0a oG oG,fun cap' R hc' hR=> ?_⟩;have gA:(st++X++ [flat (Qy (a.getD i []))++R]).getD A []=(st++X).getD A []:=QQ _ _ _ _ b2;refine⟨GrowOK.mk_one rfl (by decide) (by rw[gA,b3];omega) oG oG rfl rfl,fun A' cap2 st' hG=> ?_⟩;refine Qq ?_;have hY:RowAt (st++X++ [flat (Qy (a.getD i []))++R]) (st.length+X.length) (QP (a.getD i [])):=(by have:=Q0b (st++X) (a.getD i []) R;rwa [BH] at this);have hB2:=Built.grow hB hi0 (Y:=st++X++ [flat (Qy (a.getD i []))++R]) (c:= .gr (st.length+X.length) (a.getD i []).length cap') (by simp) (fun x hx=>QQ _ _ _ _ hx) (by rw[hri];exact .gr _ _ _) hY (by simp) hG;obtain⟨X2,rfl⟩: ∃X2,st'=st++X2:=by rw[BP] at hG;exact hG.app b1
 rw[<-qS a hlt] at hB2;refine⟨a.length-(i+1),oG,i+1,_,_,_,X2,rfl,oG,hB2,?_⟩;rw[e3];have hge:i=a.length:=(oF h);subst hge;refine Qr ?_;refine Qb ?_;rcases hB.out with ⟨hz,rfl⟩ | ⟨hi0,A,cap,R,rfl,_⟩;omega;refine Qr ?_;rw[B0] at hB;exact⟨ids,cs,X,rfl,hB⟩
theorem QO.top {st:Qd}{A:Nat}{ids:Ln}{a:Ly}(h:QO st A ids a){i:Nat}(hi:i<a.length):(st.getD A []).getD i .junk= .ms true (ids.getD i 0) 0 a.length/\i+1<=(st.getD A []).length:=by obtain⟨R,hR⟩:=h.2.top.2;have hii:i<ids.length:=(by rw[h.2.lid];exact hi);rw[hR];refine⟨?_,by rw[BH,BR];omega⟩;rw[QQ _ _ _ _ (by rw[BR];exact hii),q_a,B8,q_a,BB hii];rfl
theorem QO.rowAt {st:Qd}{A:Nat}{ids:Ln}{a:Ly}(h:QO st A ids a){i:Nat}(hi:i<a.length):RowAt st (ids.getD i 0) (QP (a.getD i []))/\(a.getD i []).length=a.length:=by
 have h1:=h.2.row i hi;have e:(a.map QP).getD i []=QP (a.getD i []):=by rw[q_a,B8,q_a,BB hi];rfl
 rw[e] at h1;exact⟨h1,h.1 _ (Q8 _ _ _ hi)⟩
theorem RowAt.num {st:Qd}{k:Nat}{x:Lx}(h:RowAt st k (QP x)){j:Nat}(hj:j<x.length):((st.getD k []).drop (j*3)).take 3=Qg (x.getD j default)/\j*3+3<=(st.getD k []).length/\(st.getD k []).getD (j*3+2) .junk= .sl .no (Qf (x.getD j default).w):=by obtain⟨R,hR⟩:=h.2;rw[hR];refine⟨GQ x j R hj,?_,v0o x j R hj⟩;rw[BH,U6];omega
theorem QO.num {st:Qd}{A:Nat}{ids:Ln}{a:Ly}(h:QO st A ids a){i j:Nat}(hi:i<a.length)(hj:j<a.length):((st.getD (ids.getD i 0) []).drop (j*3)).take 3=Qg (QD a i j)/\j*3+3<=(st.getD (ids.getD i 0) []).length/\(st.getD (ids.getD i 0) []).getD (j*3+2) .junk= .sl .no (Qf (QD a i j).w):=by obtain⟨h1,h2⟩:=h.rowAt hi;exact h1.num (by rw[h2];exact hj)
set_option maxHeartbeats 4000000 in
theorem U1m (a:Ly)(A B:Nat)(ids:Ln)(p:Int)(k:Nat)(st:Qd)(h:QO st A ids a)(hk:k<a.length)(h4:a.length<=4)(hw: ∀i j,i<a.length->j<a.length->Qh (QD a i j)=true):
 PR 376 [.agg [.ms true A 0 a.length,.ms true B 0 a.length,.sc (.int .i64 p)],.sc (.int .i64 (k:Nat))] st (.sc (.int .i64 (ZP a k (a.length-(k+1)):Nat))):=by
 have x1:=QN k oG;refine Ql none Tryz.func376 rfl fun E=>Qb ?_;simp-dsimp only[go_sem,x1];refine Q3 [false,true,true,false,false,true,true] 1 0
  (fun m s=> ∃c,m=a.length-(k+1)-c/\c<=a.length-(k+1)/\
   s=⟨[.junk,.sc (.int .i64 (k:Nat)),.lp 0 0,.junk,.junk,.sc (.int .i64 (ZP a k c:Nat)),.sc (.int .i64 (k+1+c:Nat))]++jk 32,[[.ms true A 0 a.length,.ms true B 0 a.length,.sc (.int .i64 p)]],[],st⟩) (a.length-(k+1)) ?_ ?_
 refine Qr ?_;exact⟨0,oG,oG,rfl⟩;rintro m s ⟨c,rfl,hc,rfl⟩;have hp:=zr a k c;refine QM ?_ ?_<;>intro h1
 . have hlt:k+1+c<a.length:=oT h1
   have x2:=QN (k+1+c) oG;obtain⟨t1,t2⟩:=h.top hlt;obtain⟨t3,t4⟩:=h.top (show ZP a k c<a.length by omega);obtain⟨n1,n2,_⟩:=h.num hlt hk;obtain⟨n3,n4,_⟩:=h.num (show ZP a k c<a.length by omega) hk;have w1:=QC (hw _ _ hlt hk);have w2:=QC (hw _ _ (show ZP a k c<a.length by omega) hk);refine Qr ?_;refine Q5 39 (Qi [0,1,2,3,4,5,6,7,9,10,11,12,13,14,15,16] (.step 8 [1,10,13,16] (.step 17 [1,4,10] (.step 18 [1,4,10,13] (.step 19 [] (.done)))))) ?_;simp-dsimp only[go_sem,t1,t3,n1,n3];refine⟨⟨oG,hlt⟩,t2,⟨oG,oG⟩,n2,⟨oG,oG⟩,t4,⟨oG,oG⟩,n4,?_⟩;have r1:=QC (qj (QD a (k+1+c) k));have r2:=QC (qj (QD a (ZP a k c) k));unfold wN at r1 r2;refine(zG _ _ w1).Q ?_;refine⟨⟨⟨t4,t3.symm⟩,n4,by rw[n3];rfl⟩,?_⟩;refine(zG _ _ w2).Q ?_;refine⟨⟨t2,t1.symm⟩,?_⟩;refine(VJ _ _ _ oG oG).Q ?_;refine⟨⟨⟨t2,t1.symm⟩,t4,t3.symm⟩,?_⟩;refine ck ?_ ?_<;>intro h2
   . have hle:Q9 (Km (QD a (k+1+c) k)) (Km (QD a (ZP a k c) k))<=0:=q_b h2;have hpv:ZP a k (c+1)=ZP a k c:=(by rw[ZP,BC hle]);simp-dsimp only[go_sem,x2];refine⟨a.length-(k+1)-(c+1),oG,c+1,rfl,oG,?_⟩;rw[hpv]
     try rfl
   . have hle: ¬Q9 (Km (QD a (k+1+c) k)) (Km (QD a (ZP a k c) k))<=0:=q_c h2;have hpv:ZP a k (c+1)=k+1+c:=(by rw[ZP,BA hle]);simp-dsimp only[go_sem,x2];refine⟨a.length-(k+1)-(c+1),oG,c+1,rfl,oG,?_⟩;rw[hpv]
     try rfl
 have hge:c=a.length-(k+1):=oF h1
 subst hge;refine Qr ?_;refine Qb ?_;exact QA
theorem j1n (d:Nm)(p:Int)(x:Lx){j:Nat}(hj:j<x.length):(Jq d p (x.take j)++x.drop j).length=x.length/\(Jq d p (x.take j)++x.drop j).getD j default=x.getD j default/\
 (Jq d p (x.take j)++x.drop j).set j (ZT (x.getD j default) d p false).1=Jq d p (x.take (j+1))++x.drop (j+1):=by
 have hl:(Jq d p (x.take j)).length=j:=by unfold Jq;rw[BR,BX];omega
 refine⟨by rw[BH,hl,DM];omega,?_,?_⟩;rw[Zl _ _ _ _ oG,hl,DD,q_a,DH,B1,<-q_a];rw[CJ _ _ oG,hl,DD];have e1:x.drop j=x.getD j default::x.drop (j+1):=by rw[q_a,BB hj];exact FC hj
 rw[e1,F4,HU default x hj];unfold Jq;rw[E5,BP];rfl
theorem j1k {d:Nm}{p:Int}{x:Lx}{j:Nat}(hj:j<x.length)(h:KL d p (x.take j)=true):KL d p (x.take (j+1))=decide ((ZT (x.getD j default) d p false).2=0):=by rw[HU default x hj];unfold KL at h⊢;rw[List.all_append,h,FF];simp only[List.all_cons,List.all_nil,Bool.and_true];by_cases e:(ZT (x.getD j default) d p false).2=0;rw[e];rfl;rw[q_g e];simpa using e
theorem j1l {d:Nm}{p:Int}{x:Lx}{j:Nat}(hj:j<x.length)(h:(ZT (x.getD j default) d p false).2≠0):KL d p x=false:=by refine CS.2 fun e=>h ?_;unfold KL at e;rw[q_d] at e;simpa using e _ (Q8 x j default hj)
set_option maxHeartbeats 4000000 in
theorem V0e (x:Lx)(d:Nm)(A B n k:Nat)(R:Lp)(p:Int)(st:Qd)(hk:k<st.length)(hg:st.getD k []=QP x++R)(hx:x.length<=4)(hr: ∀c∈x,Qh c=true)(hd:Qh d=true)(hd0:d.w≠ [])(hp:Qt p=true):
 PCalls Tryz.prog 377 [.agg [.ms true A 0 n,.ms true B 0 n,.sc (.int .i64 p)],.ms true k 0 x.length,.agg (Qg d)] st
 (fun r st'=>(KL d p x=true/\r= .sc (.int .i64 0)/\st'=st.set k (QP (Jq d p x)++R))\/(KL d p x=false/\r= .sc (.int .i64 2)/\ ∃y,y.length=x.length/\st'=st.set k (QP y++R))):=by
 have hdv:0<Qc d.w:=EU fun e=>hd0 ((KO hd).1 e);refine Ql none Tryz.func377 rfl fun E=>Qb ?_;have hxl:=U6 x;refine Qr ?_;refine Q3 [false,true,false,true,false,true,false,false,false,false,false,true,true] 2 0
  (fun m s=> ∃j,m=x.length-j/\j<=x.length/\KL d p (x.take j)=true/\
   s=⟨[.junk,.ms true k 0 x.length,.junk,.lp 0 0,.junk,.lp 1 0,.junk,.junk,.junk,.junk,.junk,.sc (.int .i64 x.length),.sc (.int .i64 (j:Nat))]++jk 21,[[.ms true A 0 n,.ms true B 0 n,.sc (.int .i64 p)],Qg d],[],st.set k (QP (Jq d p (x.take j)++x.drop j)++R)⟩) x.length ?_ ?_
 refine Qr ?_;refine⟨0,oG,oG,by simp[KL],?_⟩;rw[qL hk (by rw[hg];simp[Jq])];rfl;rintro m s ⟨j,rfl,hj,ho,rfl⟩;refine QM ?_ ?_<;>intro h1
 . have hlt:j<x.length:=oT h1
   have x2:=QN j oG;obtain⟨d1,d2,d3⟩:=j1n d p x hlt;have hok:=j1k hlt ho;generalize hD:Jq d p (x.take j)++x.drop j=D at*
   have gst:=GE (QP D++R) hk;have tk:=GQ D j R oG;rw[d2] at tk;have hDl:=U6 D;have hle:j*3+3<=(QP D).length+R.length:=oG;have ov:=qU D j R (ZT (x.getD j default) d p false).1 oG;rw[d3] at ov;unfold Qg at ov;have hxr:=hr _ (Q8 x j default hlt);refine Qr ?_;refine Q5 34 (Qi [0,1,2,3,4,5,6] (.alt (Qi [7,8,9,10] (.step 11 [3,4,6] (.step 12 [] (.step 13 [] (.done))))) (.step 11 [3,4,6] (Qi [7,8,9,10,12,13] .done)))) ?_;simp-dsimp only[go_sem,gst,tk];refine⟨⟨oG,hlt⟩,hle,?_⟩;refine And.intro ?_ ?_
   all_goals
    first | refine(jS _ _ p false _ hxr hd hp hdv).mono ?_ | (refine⟨hle,?_⟩;refine(jS _ _ p false _ hxr hd hp hdv).mono ?_)
    rintro r st' ⟨rfl,rfl⟩;by_cases he:(ZT (x.getD j default) d p false).2=0;rw[he] at hok⊢;simp-dsimp only[go_sem,gst,tk,x2,ov,EF]
    try refine⟨hle,?_⟩
    refine⟨⟨oG,hlt⟩,⟨hle,oG⟩,x.length-(j+1),oG,j+1,rfl,oG,hok,rfl⟩;have h2:(ZT (x.getD j default) d p false).2=2:=(zC _).resolve_left he;rw[h2];simp-dsimp only[go_sem,gst,tk]
    try refine⟨hle,?_⟩
    exact .inr ⟨j1l hlt he,D,d1,rfl⟩
 have hge:j=x.length:=oF h1
 subst hge;rw[B0] at ho;refine Qr ?_;refine Qb ?_;simp-dsimp only[go_sem,ho];refine .inl ?_;rw[B0,FK,B9]
theorem Sy (n i:Nat)(hi:i<n):Qu (ZZ n (Qg default)) (i*3) (Qg oneN)=QP (XJ n i):=by rw[kg];have:=qU (List.replicate n default) i [] oneN (by simp;exact hi);rw[B9,B9] at this;exact this
theorem X0m {n i:Nat}(hi:i<n):(Qu (ZZ n [PV.sc (.bool false),.sc (.int .i64 0),.sl .full []]) (i*3) (Qg oneN)).map PV.forget2=QP (XJ n i):=by rw[kD,zg];exact Sy n i hi
theorem H1n (n i:Nat):Zo (Qu (ZZ n [PV.sc (.bool false),.sc (.int .i64 0),.sl .full []]) (i*3) (Qg oneN))=true:=vK (vJ rfl) rfl
theorem w0l (n:Nat)(z:Lp):(ZZ n z).length=n*z.length:=by unfold ZZ;simp
theorem Em (n i:Nat):(XJ n i).length=n:=by simp[XJ]
theorem X1y (n i:Nat)(h:i<n):(Xc n).getD i []=XJ n i:=by unfold Xc;rw[q_a,B8,EB h];rfl
theorem X1x (n:Nat): ∀r∈Xc n,r.length=(Xc n).length:=fun r hr=>by rw[YQ];simp only[Xc,CF] at hr;obtain⟨i,_,rfl⟩:=hr;exact Em n i
theorem H1c (st:Qd)(x:Lx):RowAt (st++ [QP x]) st.length (QP x):=by refine⟨by simp,[],?_⟩;rw[Zl _ _ _ _ (BD _),DD,B9];rfl
set_option maxHeartbeats 4000000 in
theorem U1l (n:Nat)(st:Qd)(h0:0<n)(h4:n<=4):
 PCalls Tryz.prog 353 [.sc (.int .i64 n)] st (fun r st'=> ∃A ids X,r= .ms true A 0 (Xc n).length/\st'=st++X/\QO st' A ids (Xc n)/\st.length<=A/\ ∀i∈ids,st.length<=i):=by
 have hl:=YQ n;refine Rl oG (X1x n) ?_;refine Ql none Tryz.func353 rfl fun E=>Qe (Qb ?_);refine Qr ?_;refine Qa ?_;refine Qa ?_;refine XK [true,false,false,true,false,false,true,true] 0 0
  (fun m s=> ∃i out ids cs X,m=n-i/\i<=n/\Built (st++X) st.length (Xc n).length i out ids cs (((Xc n).take i).map QP)/\
   s=⟨[.sc (.int .i64 n),.junk,.junk,out,.junk,.junk,.sc (.int .i64 n),.sc (.int .i64 (i:Nat))]++jk 14,[],[],st++X⟩) n ?_ ?_
 refine Qr ?_;refine⟨0,.sl .full [],[],[],[],oG,oG,?_,by simp⟩;rw[B9];exact Built.zero st _;rintro m s ⟨i,out,ids,cs,X,rfl,hi,hB,rfl⟩;refine Qa ?_;refine Qa ?_;refine ck ?_ ?_<;>intro h;have hlt:i<n:=(oT h);have e3:=QN i oG;have hov:=Sy n i hlt;have hog:=X1y n i hlt;refine Qr ?_;refine Qe (Xx ?_);refine Qa ?_;refine Qa ?_;refine⟨⟨oG,oG,oG⟩,?_⟩;refine Qa ?_;refine(UL _).w ?_;rintro st' rfl;refine Qr ?_;have hrl:=w0l n [PV.sc (.bool false),.sc (.int .i64 0),.sl .full []];simp only[C1,D6] at hrl;refine⟨⟨oG,hlt⟩,⟨oG,oG⟩,?_⟩;have hgv:(Qu (ZZ n [PV.sc (.bool false),.sc (.int .i64 0),.sl .full []]) (i*3) [PV.sc (.bool oneN.neg),.sc (.int .i64 oneN.exp),.sl .no (Qf oneN.w)]).map PV.forget2=QP (XJ n i):=X0m hlt;have hfz:=H1n n i;have hne:Qu (ZZ n [PV.sc (.bool false),.sc (.int .i64 0),.sl .full []]) (i*3) (Qg oneN)≠ []:=fun e=>by have h2:=U6 (XJ n i);rw[<-X0m hlt,e,Em] at h2;simp at h2;omega
 have hgl:=H1c (st++X) (XJ n i);rw[BH] at hgl;rcases hB.out with ⟨rfl,rfl⟩ | ⟨hi0,A,cap,R,rfl,_⟩;refine KF 0 hfz hne ?_;rw[DC] at hgv;simp-dsimp only[go_sem,hgv];refine Yq [false,false,false,true] ?_;refine Qr ?_;refine⟨GrowOK.mk_one rfl (by decide) rfl oG oG rfl rfl,fun cap2 R2 hc2 hR2=> ?_⟩;refine Qq ?_;have hB2:=Built.first hB (Y:=st++X++ [QP (XJ n 0)]) (c:= .ms true (st.length+X.length) 0 n) (by simp) (by rw[hl];exact .same _) hgl (by simp) hc2 (by rw[hR2];omega);obtain⟨X2,hX2⟩: ∃X2,st++X++ [QP (XJ n 0)]++ [flat [PV.ms true (st.length+X.length) 0 n]++R2]=st++X2:=⟨_,by rw[BP,BP]⟩;rw[hX2] at hB2⊢;have hlen:(st++X++ [QP (XJ n 0)]).length=st.length+X.length+1:=(by simp;omega);rw[hlen,<-hog,<-qS (Xc n) oG] at hB2;refine⟨n-(0+1),oG,0+1,_,_,_,X2,rfl,oG,hB2,?_⟩;rw[e3];refine KF 0 hfz hne ?_;simp-dsimp only[go_sem,hgv];refine Yq [false,false,false,true] ?_;refine Qr ?_;obtain⟨b1,b2,b3⟩:=hB.at hi0;have gA:(st++X++ [QP (XJ n i)]).getD A []=(st++X).getD A []:=QQ _ _ _ _ b2;refine⟨GrowOK.mk_one rfl (by decide) (by rw[gA,b3];omega) oG oG rfl rfl,fun A' cap2 st' hG=> ?_⟩;refine Qq ?_;have hB2:=Built.grow hB hi0 (Y:=st++X++ [QP (XJ n i)]) (c:= .ms true (st.length+X.length) 0 n) (by simp) (fun x hx=>QQ _ _ _ _ hx) (by rw[hl];exact .same _) hgl (by simp) hG;obtain⟨X2,rfl⟩: ∃X2,st'=st++X2:=by rw[BP] at hG;exact hG.app b1
 rw[<-hog,<-qS (Xc n) oG] at hB2;refine⟨n-(i+1),oG,i+1,_,_,_,X2,rfl,oG,hB2,?_⟩;rw[e3];have hge:i=n:=(oF h);subst hge;refine Qr ?_;refine Qb ?_;rcases hB.out with ⟨hz,rfl⟩ | ⟨hi0,A,cap,R,rfl,_⟩;omega;refine Qr ?_;rw[BF oG] at hB;rw[hl] at hB⊢;exact⟨ids,cs,X,rfl,hB⟩
theorem kA {α:Type}(d:α)(F x:List α){j:Nat}(hl:F.length=x.length)(hj:j<x.length):(F.take j++x.drop j).length=x.length/\(F.take j++x.drop j).getD j d=x.getD j d/\(F.take j++x.drop j).set j (F.getD j d)=F.take (j+1)++x.drop (j+1):=by
 have hlt:(F.take j).length=j:=by rw[BX];omega
 refine⟨by rw[BH,hlt,DM];omega,?_,?_⟩;rw[Zl _ _ _ _ oG,hlt,DD,q_a,DH,B1,<-q_a];rw[CJ _ _ oG,hlt,DD];have e1:x.drop j=x.getD j d::x.drop (j+1):=by rw[q_a,BB hj];exact FC hj
 rw[e1,F4,HU d F oG,BP];rfl
theorem Z0i (m:Nm)(p:Int)(x y:Lx):(KH m p x y).length=x.length:=by simp[KH]
theorem Y1c (m:Nm)(p:Int)(x y:Lx){j:Nat}(h:j<x.length):(KH m p x y).getD j default=(KM (x.getD j default) m (y.getD j default) p).1:=by unfold KH;exact X0n (fun j=>(KM (x.getD j default) m (y.getD j default) p).1) _ _ h
theorem Z0h {m:Nm}{p:Int}{x y:Lx}{j:Nat}(hj:j<x.length)(h:(KM (x.getD j default) m (y.getD j default) p).2≠0):WN m p x y=false:=by refine CS.2 fun e=>h ?_;unfold WN at e;rw[q_d] at e;simpa using e j (E0.2 hj)
theorem Y1a {m:Nm}{p:Int}{x y:Lx}(h: ∀j,j<x.length->(KM (x.getD j default) m (y.getD j default) p).2=0):WN m p x y=true:=by unfold WN;rw[q_d];intro j hj;rw[h j (E0.1 hj)];rfl
set_option maxHeartbeats 4000000 in
theorem Z0w (x y:Lx)(m:Nm)(A B n k o:Nat)(R R2:Lp)(p:Int)(st:Qd)(hk:k<st.length)(ho:o<st.length)(hne:k≠o)(hg:st.getD k []=QP x++R)(hgo:st.getD o []=QP y++R2)(hx:x.length<=4)(hxy:x.length=y.length)(hr: ∀c∈x,Qh c=true)(hry: ∀c∈y,Qh c=true)(hm:Qh m=true)(hp:Qt p=true):
 PCalls Tryz.prog 378 [.agg [.ms true A 0 n,.ms true B 0 n,.sc (.int .i64 p)],.ms true k 0 x.length,.ms true o 0 y.length,.agg (Qg m)] st
 (fun r st'=>(WN m p x y=true/\r= .sc (.int .i64 0)/\st'=st.set k (QP (KH m p x y)++R))\/(WN m p x y=false/\r= .sc (.int .i64 2)/\ ∃z,z.length=x.length/\st'=st.set k (QP z++R))):=by
 have wm:=QC hm;refine Qj Tryz.func378 fun E=> ?_;refine Q3 [false,true,true,false,true,false,false,true,false,false,false,false,false,true,true] 2 0
  (fun s' s=> ∃j,s'=x.length-j/\j<=x.length/\(∀i,i<j->(KM (x.getD i default) m (y.getD i default) p).2=0)/\
   s=⟨[.junk,.ms true k 0 x.length,.ms true o 0 y.length,.junk,.lp 0 0,.junk,.junk,.lp 1 0,.junk,.junk,.junk,.junk,.junk,.sc (.int .i64 x.length),.sc (.int .i64 (j:Nat))]++jk 34,[[.ms true A 0 n,.ms true B 0 n,.sc (.int .i64 p)],Qg m],[],st.set k (QP ((KH m p x y).take j++x.drop j)++R)⟩) x.length ?_ ?_
 refine Qr ?_;refine⟨0,oG,oG,fun i hi=>oG,?_⟩;rw[qL hk (by rw[hg];simp)];rfl;rintro m' s ⟨j,rfl,hj,hok,rfl⟩;refine QM ?_ ?_<;>intro h1
 . have hlt:j<x.length:=oT h1
   have x2:=QN j oG;obtain⟨d1,d2,d3⟩:=kA default (KH m p x y) x (Z0i m p x y) hlt;rw[Y1c m p x y hlt] at d3;generalize hD:(KH m p x y).take j++x.drop j=D at*
   have gst:=GE (QP D++R) hk;have gso:(st.set k (QP D++R)).getD o []=QP y++R2:=(by rw[Zg _ _ _ _ _ hne];exact hgo);have tk:=GQ D j R oG;rw[d2] at tk;have tko:=GQ y j R2 oG;have hDl:=U6 D;have hyl:=U6 y;have hle:j*3+3<=(QP D).length+R.length:=oG;have hlo:j*3+3<=(QP y).length+R2.length:=oG;have ov: ∀c,Qu (QP D++R) (j*3) (Qg c)=QP (D.set j c)++R:=fun c=>qU D j R c oG;unfold Qg at ov;have hxr:=QC (hr _ (Q8 x j default hlt));have hyr:=QC (hry _ (Q8 y j default oG));have ha:KM (x.getD j default) m (y.getD j default) p=if (Qs 2 m (y.getD j default) p false).2≠0 then Qs 2 m (y.getD j default) p false else Qs 1 (x.getD j default) (Qs 2 m (y.getD j default) p false).1 p false:=rfl;have wq:=QC (XZ 2 m (y.getD j default) p false);have e2:=GX (k:=2) (up:=false) hm (hry _ (Q8 y j default oG)) hp;have e1:=GX (k:=1) (up:=false) (hr _ (Q8 x j default hlt)) (XZ 2 m (y.getD j default) p false) hp;refine Qr ?_;refine Q5 49 (Qi [0,1,2,3,4,5,6] (.alt (Qi [7,8,9,10] (.step 11 [0,4,6] (.step 12 [] (.step 13 [] (.done))))) (.step 11 [0,4,6] (Qi [7,8,9,10,12,13] .done)))) ?_;simp-dsimp only[go_sem,gso,tko];refine⟨⟨oG,oG⟩,hlo,?_⟩;refine And.intro ?_ ?_
   all_goals
    first | refine(If _ _ p false _ wm hyr).mono ?_ | (refine⟨hlo,?_⟩;refine(If _ _ p false _ wm hyr).mono ?_)
    rintro r st' ⟨rfl,rfl⟩;by_cases he:(Qs 2 m (y.getD j default) p false).2=0;rw[BA (fun h=>h he)] at ha;rw[he];simp-dsimp only[go_sem,gso,tko]
    try refine⟨hlo,?_⟩
    refine Q5 49 (Qi [0,1,2,3,4,5,6,7,8,9,10,11,12,13,14,15] .done) ?_;simp-dsimp only[go_sem,gst,tk];refine⟨⟨oG,hlt⟩,hle,?_⟩;refine(GS _ _ p false _ hxr wq).q ?_;by_cases hf:(Qs 1 (x.getD j default) (Qs 2 m (y.getD j default) p false).1 p false).2=0;rw[hf];rw[ha] at d3;simp-dsimp only[go_sem,gst,tk,ov,x2,d3,EF];refine⟨⟨oG,hlt⟩,⟨hle,oG⟩,x.length-(j+1),oG,j+1,rfl,oG,fun i hi=> ?_,rfl⟩;by_cases e:i=j;subst e;rw[ha];exact hf;exact hok i oG;have h2:(Qs 1 (x.getD j default) (Qs 2 m (y.getD j default) p false).1 p false).2=2:=e1.resolve_left hf;rw[h2];simp-dsimp only[go_sem,gst,tk,ov,EF];exact⟨⟨oG,hlt⟩,⟨hle,oG⟩,.inr ⟨Z0h hlt (by rw[ha];exact hf),_,by rw[BL];exact d1,rfl⟩⟩;have h2:(Qs 2 m (y.getD j default) p false).2=2:=e2.resolve_left he;rw[BC he] at ha;rw[h2];simp-dsimp only[go_sem,gso,tko]
    try refine⟨hlo,?_⟩
    refine .inr ⟨Z0h hlt (by rw[ha];exact he),D,d1,rfl⟩
 have hge:j=x.length:=oF h1
 subst hge;refine Qr ?_;refine Qq ?_;refine .inl ⟨Y1a hok,?_⟩;rw[BF (by rw[Z0i];omega),FK,B9]
end Go.Pv
end
