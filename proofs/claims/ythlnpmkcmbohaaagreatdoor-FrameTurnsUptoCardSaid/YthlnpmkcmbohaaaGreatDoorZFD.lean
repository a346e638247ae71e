/- Parts of the walk: M84, N140, N141, N142, N143, N144, N145. -/
import Derived.Test.YthlnpmkcmbohaaaGreatDoorZFC
import Derived.Test.YthlnpmkcmbohaaaGreatDoorZFB
set_option linter.unusedVariables false
set_option linter.unusedSimpArgs false
section
namespace Go.Pv
def QM (A:List (List Nm))(i j:Nat):Nm:=(A.getD i []).getD j default
def Yj (A:List (List Nm))(k:Nat):Nat->Nat
 | 0=>k
 | m+1=>if Uw (J8 (QM A (k+1+m) k)) (J8 (QM A (Yj A k m) k))<=0 then Yj A k m else k+1+m
theorem IM (A:List (List Nm))(k:Nat): ∀m,k<=Yj A k m/\Yj A k m<=k+m
 | 0=>⟨BD _,BD _⟩
 | m+1=>by have:=IM A k m;unfold Yj;split<;>omega
def WI (d:Nm)(p:Int)(row:List Nm):Bool:=row.all fun c=>(Hs c d p false).2==0
def HO (d:Nm)(p:Int)(row:List Nm):List Nm:=row.map fun c=>(Hs c d p false).1
def KD (x m y:Nm)(p:Int):Nm×Int:=if (Qv 2 m y p false).2≠0 then Qv 2 m y p false else Qv 1 x (Qv 2 m y p false).1 p false
def VY (m:Nm)(p:Int)(row other:List Nm):Bool:=(List.range row.length).all fun j=>(KD (row.getD j default) m (other.getD j default) p).2==0
def W0 (m:Nm)(p:Int)(row other:List Nm):List Nm:=(List.range row.length).map fun j=>(KD (row.getD j default) m (other.getD j default) p).1
structure GJ where
 a:List (List Nm)
 r:List (List Nm)
 e:Int
def jF (p:Int)(k i:Nat)(x:GJ):GJ:=
 if i=k\/(QM x.a i k).w= [] then x
 else if (VY (QM x.a i k) p (x.a.getD i []) (x.a.getD k [])&&VY (QM x.a i k) p (x.r.getD i []) (x.r.getD k []))=true then
  ⟨x.a.set i (W0 (QM x.a i k) p (x.a.getD i []) (x.a.getD k [])),x.r.set i (W0 (QM x.a i k) p (x.r.getD i []) (x.r.getD k [])),0⟩
 else⟨x.a,x.r,2⟩
def Xl (p:Int)(k:Nat)(x:GJ):Nat->GJ
 | 0=>x
 | i+1=>if (Xl p k x i).e=0 then jF p k i (Xl p k x i) else Xl p k x i
def W6 (n k:Nat)(x:GJ):GJ:=⟨Zz [] x.a k (Yj x.a k (n-(k+1))),Zz [] x.r k (Yj x.a k (n-(k+1))),0⟩
def Gq (p:Int)(k:Nat)(x:GJ):GJ:=
 if (WI (QM x.a k k) p (x.a.getD k [])&&WI (QM x.a k k) p (x.r.getD k []))=true then⟨x.a.set k (HO (QM x.a k k) p (x.a.getD k [])),x.r.set k (HO (QM x.a k k) p (x.r.getD k [])),0⟩ else⟨x.a,x.r,2⟩
def Uf (p:Int)(n k:Nat)(x:GJ):GJ:=
 if (QM x.a (Yj x.a k (n-(k+1))) k).w= [] then⟨x.a,x.r,3⟩
 else if (Gq p k (W6 n k x)).e=0 then Xl p k (Gq p k (W6 n k x)) n
 else Gq p k (W6 n k x)
def Z7 (p:Int)(n:Nat)(x:GJ):Nat->GJ
 | 0=>x
 | k+1=>if (Z7 p n x k).e=0 then Uf p n k (Z7 p n x k) else Z7 p n x k
def Xb (n:Nat):List (List Nm):=(List.range n).map fun i=>(List.range n).map fun j=>if i=j then⟨false,0,[1]⟩ else default
def Qu (a:List (List Nm))(p:Int):List (List Nm)×Int:=
 if rightQ a=true/\Q4 p=true then(if (Z7 p a.length ⟨a,Xb a.length,0⟩ a.length).e=0 then((Z7 p a.length ⟨a,Xb a.length,0⟩ a.length).r,0) else([],(Z7 p a.length ⟨a,Xb a.length,0⟩ a.length).e)) else([],1)
def sqR (n:Nat)(a:List (List Nm)):Prop:=a.length=n/\ ∀r∈a,r.length=n/\ ∀c∈r,Qg c=true
theorem sqR.row {n:Nat}{a:List (List Nm)}(h:sqR n a){i:Nat}(hi:i<n):(a.getD i []).length=n/\ ∀c∈a.getD i [],Qg c=true:=h.2 _ (Qq _ _ _ (by rw[h.1];exact hi))
theorem sqR.ent {n:Nat}{a:List (List Nm)}(h:sqR n a){i j:Nat}(hi:i<n)(hj:j<n):Qg (QM a i j)=true:=(h.row hi).2 _ (Qq _ _ _ (by rw[(h.row hi).1];exact hj))
theorem sqR.set {n:Nat}{a:List (List Nm)}(h:sqR n a){i:Nat}{r:List Nm}(hr:r.length=n/\ ∀c∈r,Qg c=true):sqR n (a.set i r):=by refine⟨by rw[BL];exact h.1,fun x hx=> ?_⟩;rcases EQ hx with hx | rfl;exact h.2 x hx;exact hr
theorem sqR.swap {n:Nat}{a:List (List Nm)}(h:sqR n a){i j:Nat}(hi:i<n)(hj:j<n):sqR n (Zz [] a i j):=by unfold Zz;exact(h.set (h.row hj)).set (h.row hi)
set_option maxRecDepth 100000
open Go.Proofs
theorem Ic (x:Nm)(st:Qf)(hw:wN x):PR 187 [.agg (Q9 x)] st (.agg (Q9 (J8 x))):=by unfold wN at hw;refine U2m Tryz.func187 fun E=> ?_;refine(v1o x st oG).Q ?_;refine(Z0b (kf x) st).Q ?_;unfold J8 kf jz;split<;>rfl
set_option maxHeartbeats 4000000 in
theorem y0k (a:List (List Nm))(st:Qf)(hw:wQs a):PR 167 [.sl .no (Z8 a)] st (.sc (.bool (rightQ a))):=by
 obtain⟨hl,hw⟩:=hw;refine U2m Tryz.func167 fun E=> ?_;refine Qd [true,false,false,false,false,false,false,true,true,true] 0 0 (fun n s=> ∃i,n=a.length-i/\i<=a.length/\(∀j,j<i->QN (a.getD j []) a.length=true)/\s=⟨[.sl .no (Z8 a),.junk,.junk,.junk,.junk,.junk,.junk,.sl .no (Z8 a),.sc (.int .i64 a.length),.sc (.int .i64 (i:Nat))]++jk 27,[],[],st⟩) a.length ?_ ?_;refine G2s ?_;exact⟨0,oG,oG,fun j hj=>oG,rfl⟩;rintro n s ⟨i,rfl,hi,hr,rfl⟩;refine U2n (fun h=> ?_) (fun h=> ?_);have hlt:i<a.length:=(oT h);have e1:=Xh a i hlt;have e3:=Zw i oG;have wi:=hw i hlt;have wil:=wi.1;simp-dsimp only[go_sem,e1];refine⟨oG,?_⟩;refine ck (fun h2=> ?_) (fun h2=> ?_);have hn:=YG h2;refine G2s ?_;have:rightQ a=false:=CS.2 fun e=>hn (by have:=(rightQ_iff.1 e).1 i hlt;unfold QN at this;simp at this;exact this.2);rw[this];have hn:=Vq h2;refine G2s ?_;refine Qd ([true,false,false,false,false,false,false,true,true,true]++rF 8++ [true,true,true]) 0 0 (fun n s=> ∃k,n=(a.getD i []).length-k/\k<=(a.getD i []).length/\(∀j,j<k->Qg ((a.getD i []).getD j default)=true)/\s=⟨[.sl .no (Z8 a),.junk,.junk,.junk,.junk,.junk,.junk,.sl .no (Z8 a),.sc (.int .i64 a.length),.sc (.int .i64 (i:Nat))]++jk 8++ [.sl .no (Qy (a.getD i [])),.sc (.int .i64 (a.getD i []).length),.sc (.int .i64 (k:Nat))]++jk 16,[],[],st⟩) (a.getD i []).length ?_ ?_;refine G2s ?_;exact⟨0,oG,oG,fun j hj=>oG,rfl⟩;rintro n s ⟨k,rfl,hk,hrk,rfl⟩;refine U2n (fun h5=> ?_) (fun h5=> ?_);have hklt:k<(a.getD i []).length:=(oT h5);have e2:=QG (a.getD i []) k hklt;have e4:=Zw k oG;have wk:=wi.2 k hklt;unfold wN at wk;simp-dsimp only[go_sem,e2];refine⟨oG,?_⟩;refine(Zh _ st oG).Q ?_;refine ck (fun h6=> ?_) (fun h6=> ?_);have hf:Qg ((a.getD i []).getD k default)=false:=(by simpa using h6);refine G2s ?_;have:rightQ a=false:=CS.2 fun e=>by have:=(rightQ_iff.1 e).1 i hlt;unfold QN at this;rw[q_i] at this;rw[(J2 _ Qg).1 this.1 k hklt] at hf;cases hf
 rw[this];have ht:Qg ((a.getD i []).getD k default)=true:=(by simpa using h6);simp-dsimp only[go_sem,e4];refine⟨(a.getD i []).length-(k+1),oG,k+1,rfl,oG,fun j hj=> ?_,rfl⟩;by_cases e:j=k;subst e;exact ht;exact hrk j oG;have hge:k=(a.getD i []).length:=(oF h5);refine G2s ?_;refine Qa ?_;simp-dsimp only[go_sem,e3];refine⟨a.length-(i+1),oG,i+1,rfl,oG,fun j hj=> ?_,rfl⟩;by_cases e:j=i;subst e;unfold QN;rw[q_i];exact⟨(J2 _ Qg).2 fun b hb=>hrk b oG,q_h hn⟩;exact hr j oG
 . have hge:i=a.length:=oF h
   subst hge;refine G2s ?_;refine U2i ?_;have fin:rightQ a=(decide ((a.length:Int)>=1)&&decide ((a.length:Int)<=4)):=by rw[E6,rightQ_iff,q_i,D0,D0];exact⟨fun h=>⟨oG,oG⟩,fun h=>⟨hr,oG,oG⟩⟩
   rw[fin];refine gkT (fun h1=> ?_) (fun h1=> ?_)
   . simp-dsimp only[go_sem,h1]
     try rfl
   . simp-dsimp only[go_sem,h1]
     try rfl
def Jx (a b:Nm)(p:Int)(up:Bool):Nm×Int:=if b.w= [] then(default,3) else Hs a b p up
theorem YR (a b:Nm)(p:Int)(up:Bool):Qg (Jx a b p up).1=true:=by unfold Jx;split;decide;exact ZG (VQ (QW (Yz _ _ _) _ _))
theorem kJ (a b:Nm)(p:Int)(up:Bool)(st:Qf)(ha:Qg a=true)(hb:Qg b=true)(hp:Q4 p=true):
 PR 174 [.agg (Q9 a),.agg (Q9 b),.sc (.int .i64 p),.sc (.bool up)] st (.tup [.agg (Q9 (Jx a b p up).1),.sc (.int .i64 (Jx a b p up).2)]):=by
 by_cases h0:b.w= []
 . have wa:=Qr ha;have wb:=Qr hb;unfold wN at wa wb;have hq:Jx a b p up=(default,3):=(by unfold Jx;rw[BC h0]);rw[hq];refine U2m Tryz.func174 fun E=> ?_;refine(Zh a _ oG).q ?_;rw[ha];refine G2s ?_;refine(Zh b _ oG).q ?_;rw[hb];refine G2s ?_;refine(Xp _ _).q ?_;rw[hp];have hbl:((b.w.length:Int)==0)=true:=(by rw[h0];rfl);simp-dsimp only[go_sem,hbl]
   try rfl
 have hq:Jx a b p up=Hs a b p up:=by unfold Jx;rw[BA h0]
 rw[hq];exact I9 a b p up st ha hb hp (EU fun e=>h0 ((QJ hb).1 e))
theorem yE (x:List Nm):(Qy x).all (fun x=>(x.cells.length==3)&&x.cells.all PV.cellOK)=true:=by simp only[Qy,q_d,CF];rintro _ ⟨c,_,rfl⟩;rfl
theorem V9 {α:Type}(d:α)(l:List α){i:Nat}(h:i<l.length):l.take (i+1)=l.take i++ [l.getD i d]:=by rw[List.take_add_one,BB h,q_a,BB h];rfl
theorem UL (a:List (List Nm)){i:Nat}(h:i<a.length):(a.take (i+1)).map J4=(a.take i).map J4++ [J4 (a.getD i [])]:=by rw[V9 [] a h,E5];rfl
theorem vz {x:List Nm}(h0:0<x.length)(h4:x.length<=4):GrowOK [] 0 0 (Qy x) { id:=52,sz:=3,by_:=40,agg:=true,zok:=true,u8:=false } :=
 ⟨rfl,by decide,rfl,by rw[QT];omega,by rw[QT];show(0+x.length)*40<=_;omega,yE x,by rw[QT];exact h0⟩
theorem v5 (st:Qf)(x:List Nm)(R:List PV):RowAt (st++ [flat (Qy x)++R]) st.length (J4 x):=by refine⟨by simp,R,?_⟩;rw[Ql _ _ _ _ (BD _),DD];rfl
theorem H7 {P:Program}{f:FuncId}{args:List PV}{st:Qf}{a:List (List Nm)}(h0:0<a.length)(hr: ∀r∈a,r.length=a.length)
 (h:PCalls P f args st fun r st'=> ∃ids cs X,st'=st++X/\Built st' st.length a.length a.length r ids cs (a.map J4)):
 PCalls P f args st (fun r st'=> ∃A ids X,r= .ms true A 0 a.length/\st'=st++X/\QO st' A ids a/\st.length<=A/\ ∀i∈ids,st.length<=i):=by
 refine PCalls.unGr h ?_;rintro r st' ⟨ids,cs,X,rfl,hB⟩;obtain⟨A,cap,R,rfl,hA,hAl,hAc,hM,hU⟩:=hB.done h0;refine⟨.ms true A 0 a.length,_,by rw[BL],rfl,rfl,.gr _ _ _,hU,A,ids,X.set (A-st.length) ((ids.map fun i=>PV.ms true i 0 a.length)++R),rfl,?_,⟨hr,hM⟩,hA,hB.ge⟩;rw[CJ _ _ hA]
set_option maxHeartbeats 4000000 in
theorem Q0o (a:List (List Nm))(st:Qf)(h0:0<a.length)(h4:a.length<=4)(hr: ∀r∈a,r.length=a.length):
 PCalls Tryz.prog 168 [.sl .no (Z8 a)] st (fun r st'=> ∃A ids X,r= .ms true A 0 a.length/\st'=st++X/\QO st' A ids a/\st.length<=A/\ ∀i∈ids,st.length<=i):=by
 refine H7 h0 hr ?_;refine Qb none Tryz.func168 rfl fun E=>Qe (Qa ?_);refine G2s ?_;refine U2h ?_;refine U2h ?_;refine QF [false,false,false,true,false,false,true,true,true] 0 0
  (fun m s=> ∃i out ids cs X,m=a.length-i/\i<=a.length/\Built (st++X) st.length a.length i out ids cs ((a.take i).map J4)/\
   s=⟨[.junk,.junk,.junk,out,.junk,.junk,.sl .no (Z8 a),.sc (.int .i64 a.length),.sc (.int .i64 (i:Nat))]++jk 10,[],[],st++X⟩) a.length ?_ ?_
 refine G2s ?_;refine⟨0,.sl .full [],[],[],[],oG,oG,?_,by simp⟩;rw[B9];exact Built.zero st _;rintro m s ⟨i,out,ids,cs,X,rfl,hi,hB,rfl⟩;refine U2h ?_;refine U2h ?_;refine ck (fun h=> ?_) (fun h=> ?_);have hlt:i<a.length:=(oT h);have e1:=Xh a i hlt;have e3:=Zw i oG;have hri:=hr _ (Qq a i [] hlt);refine G2s ?_;refine Qe (Zp ?_);refine Qe (Qa ?_);simp-dsimp only[go_sem,e1];refine⟨oG,?_⟩;refine Yg [false,false,true,false,true] ?_;rcases hB.out with ⟨rfl,rfl⟩ | ⟨hi0,A,cap,R,rfl,_⟩;refine G2s ?_;refine⟨vz oG oG,fun cap' R hc' hR=>⟨GrowOK.mk_one rfl (by decide) rfl oG oG rfl rfl,fun cap2 R2 hc2 hR2=> ?_⟩⟩;refine U2i ?_;have hY:RowAt (st++X++ [flat (Qy (a.getD 0 []))++R]) (st.length+X.length) (J4 (a.getD 0 [])):=(by have:=v5 (st++X) (a.getD 0 []) R;rwa [BH] at this);have hB2:=Built.first hB (Y:=st++X++ [flat (Qy (a.getD 0 []))++R]) (c:= .gr (st.length+X.length) (a.getD 0 []).length cap') (by simp) (by rw[hri];exact .gr _ _ _) hY (by simp) hc2 (by rw[hR2];omega);obtain⟨X2,hX2⟩: ∃X2,st++X++ [flat (Qy (a.getD 0 []))++R]++ [flat [PV.gr (st.length+X.length) (a.getD 0 []).length cap']++R2]=st++X2:=⟨_,by rw[BP,BP]⟩;rw[hX2] at hB2⊢;rw[<-UL a hlt] at hB2;refine⟨a.length-(0+1),oG,0+1,_,_,_,X2,rfl,oG,hB2,?_⟩;rw[e3,show(st++X++ [flat (Qy (a.getD 0 []))++R]).length=st.length+X.length+1 by simp;omega];refine G2s ?_;obtain⟨b1,b2,b3⟩:=hB.at hi0;refine⟨vz oG oG,fun cap' R hc' hR=> ?_⟩;have gA:(st++X++ [flat (Qy (a.getD i []))++R]).getD A []=(st++X).getD A []:=Qk _ _ _ _ b2;refine⟨GrowOK.mk_one rfl (by decide) (by rw[gA,b3];omega) oG oG rfl rfl,fun A' cap2 st' hG=> ?_⟩;refine U2i ?_;have hY:RowAt (st++X++ [flat (Qy (a.getD i []))++R]) (st.length+X.length) (J4 (a.getD i [])):=(by have:=v5 (st++X) (a.getD i []) R;rwa [BH] at this);have hB2:=Built.grow hB hi0 (Y:=st++X++ [flat (Qy (a.getD i []))++R]) (c:= .gr (st.length+X.length) (a.getD i []).length cap') (by simp) (fun x hx=>Qk _ _ _ _ hx) (by rw[hri];exact .gr _ _ _) hY (by simp) hG;obtain⟨X2,rfl⟩: ∃X2,st'=st++X2:=by rw[BP] at hG;exact hG.app b1
 rw[<-UL a hlt] at hB2;refine⟨a.length-(i+1),oG,i+1,_,_,_,X2,rfl,oG,hB2,?_⟩;rw[e3];have hge:i=a.length:=(oF h);subst hge;refine G2s ?_;refine Qa ?_;rcases hB.out with ⟨hz,rfl⟩ | ⟨hi0,A,cap,R,rfl,_⟩;omega;refine G2s ?_;rw[B0] at hB;exact⟨ids,cs,X,rfl,hB⟩
theorem QO.top {st:Qf}{A:Nat}{ids:List Nat}{a:List (List Nm)}(h:QO st A ids a){i:Nat}(hi:i<a.length):(st.getD A []).getD i .junk= .ms true (ids.getD i 0) 0 a.length/\i+1<=(st.getD A []).length:=by obtain⟨R,hR⟩:=h.2.top.2;have hii:i<ids.length:=(by rw[h.2.lid];exact hi);rw[hR];refine⟨?_,by rw[BH,BR];omega⟩;rw[Qk _ _ _ _ (by rw[BR];exact hii),q_a,B8,q_a,BB hii];rfl
theorem QO.rowAt {st:Qf}{A:Nat}{ids:List Nat}{a:List (List Nm)}(h:QO st A ids a){i:Nat}(hi:i<a.length):RowAt st (ids.getD i 0) (J4 (a.getD i []))/\(a.getD i []).length=a.length:=by
 have h1:=h.2.row i hi;have e:(a.map J4).getD i []=J4 (a.getD i []):=by rw[q_a,B8,q_a,BB hi];rfl
 rw[e] at h1;exact⟨h1,h.1 _ (Qq _ _ _ hi)⟩
theorem RowAt.num {st:Qf}{k:Nat}{x:List Nm}(h:RowAt st k (J4 x)){j:Nat}(hj:j<x.length):((st.getD k []).drop (j*3)).take 3=Q9 (x.getD j default)/\j*3+3<=(st.getD k []).length/\(st.getD k []).getD (j*3+2) .junk= .sl .no (Q2 (x.getD j default).w):=by obtain⟨R,hR⟩:=h.2;rw[hR];refine⟨Vj x j R hj,?_,v1b x j R hj⟩;rw[BH,Ja];omega
theorem QO.num {st:Qf}{A:Nat}{ids:List Nat}{a:List (List Nm)}(h:QO st A ids a){i j:Nat}(hi:i<a.length)(hj:j<a.length):((st.getD (ids.getD i 0) []).drop (j*3)).take 3=Q9 (QM a i j)/\j*3+3<=(st.getD (ids.getD i 0) []).length/\(st.getD (ids.getD i 0) []).getD (j*3+2) .junk= .sl .no (Q2 (QM a i j).w):=by obtain⟨h1,h2⟩:=h.rowAt hi;exact h1.num (by rw[h2];exact hj)
set_option maxHeartbeats 4000000 in
theorem jC (a:List (List Nm))(A B:Nat)(ids:List Nat)(p:Int)(k:Nat)(st:Qf)(h:QO st A ids a)(hk:k<a.length)(h4:a.length<=4)(hw: ∀i j,i<a.length->j<a.length->Qg (QM a i j)=true):
 PR 190 [.agg [.ms true A 0 a.length,.ms true B 0 a.length,.sc (.int .i64 p)],.sc (.int .i64 (k:Nat))] st (.sc (.int .i64 (Yj a k (a.length-(k+1)):Nat))):=by
 have x1:=Zw k oG;refine Qb none Tryz.func190 rfl fun E=>Qa ?_;simp-dsimp only[go_sem,x1];refine Qd [false,true,true,false,false,true,true] 1 0
  (fun m s=> ∃c,m=a.length-(k+1)-c/\c<=a.length-(k+1)/\
   s=⟨[.junk,.sc (.int .i64 (k:Nat)),.lp 0 0,.junk,.junk,.sc (.int .i64 (Yj a k c:Nat)),.sc (.int .i64 (k+1+c:Nat))]++jk 32,[[.ms true A 0 a.length,.ms true B 0 a.length,.sc (.int .i64 p)]],[],st⟩) (a.length-(k+1)) ?_ ?_
 refine G2s ?_;exact⟨0,oG,oG,rfl⟩;rintro m s ⟨c,rfl,hc,rfl⟩;have hp:=IM a k c;refine U2n (fun h1=> ?_) (fun h1=> ?_)
 . have hlt:k+1+c<a.length:=oT h1
   have x2:=Zw (k+1+c) oG;obtain⟨t1,t2⟩:=h.top hlt;obtain⟨t3,t4⟩:=h.top (show Yj a k c<a.length by omega);obtain⟨n1,n2,_⟩:=h.num hlt hk;obtain⟨n3,n4,_⟩:=h.num (show Yj a k c<a.length by omega) hk;have w1:=Qr (hw _ _ hlt hk);have w2:=Qr (hw _ _ (show Yj a k c<a.length by omega) hk);refine G2s ?_;refine Qm QH 39 (X0p [0,1,2,3,4,5,6,7,9,10,11,12,13,14,15,16] (.step 8 [1,10,13,16] (.step 17 [1,4,10] (.step 18 [1,4,10,13] (.step 19 [] (.done)))))) (by decide+kernel) (by simp) ?_;simp-dsimp only[go_sem,t1,t3,n1,n3];refine⟨⟨oG,hlt⟩,t2,⟨oG,oG⟩,n2,⟨oG,oG⟩,t4,⟨oG,oG⟩,n4,?_⟩;have r1:=Qr (ZL (QM a (k+1+c) k));have r2:=Qr (ZL (QM a (Yj a k c) k));unfold wN at r1 r2;refine(Ic _ _ w1).w ?_;rintro st' rfl;refine G2s ?_;refine⟨⟨⟨t4,t3.symm⟩,n4,by rw[n3];rfl⟩,?_⟩;refine(Ic _ _ w2).w ?_;rintro st' rfl;refine G2s ?_;refine⟨⟨t2,t1.symm⟩,?_⟩;refine(Ib _ _ _ oG oG).w ?_;rintro st' rfl;refine G2s ?_;refine⟨⟨⟨t2,t1.symm⟩,t4,t3.symm⟩,?_⟩;refine ck (fun h2=> ?_) (fun h2=> ?_)
   . have hle:Uw (J8 (QM a (k+1+c) k)) (J8 (QM a (Yj a k c) k))<=0:=q_b h2;have hpv:Yj a k (c+1)=Yj a k c:=(by rw[Yj,BC hle]);simp-dsimp only[go_sem,x2];refine⟨a.length-(k+1)-(c+1),oG,c+1,rfl,oG,?_⟩;rw[hpv]
     try rfl
   . have hle: ¬Uw (J8 (QM a (k+1+c) k)) (J8 (QM a (Yj a k c) k))<=0:=q_c h2;have hpv:Yj a k (c+1)=k+1+c:=(by rw[Yj,BA hle]);simp-dsimp only[go_sem,x2];refine⟨a.length-(k+1)-(c+1),oG,c+1,rfl,oG,?_⟩;rw[hpv]
     try rfl
 have hge:c=a.length-(k+1):=oF h1
 subst hge;refine G2s ?_;refine Qa ?_;exact G2r
theorem k0i (d:Nm)(p:Int)(x:List Nm){j:Nat}(hj:j<x.length):(HO d p (x.take j)++x.drop j).length=x.length/\(HO d p (x.take j)++x.drop j).getD j default=x.getD j default/\
 (HO d p (x.take j)++x.drop j).set j (Hs (x.getD j default) d p false).1=HO d p (x.take (j+1))++x.drop (j+1):=by
 have hl:(HO d p (x.take j)).length=j:=by unfold HO;rw[BR,BX];omega
 refine⟨by rw[BH,hl,DM];omega,?_,?_⟩;rw[Ql _ _ _ _ oG,hl,DD,q_a,DH,B1,<-q_a];rw[CJ _ _ oG,hl,DD];have e1:x.drop j=x.getD j default::x.drop (j+1):=by rw[q_a,BB hj];exact FC hj
 rw[e1,FY,V9 default x hj];unfold HO;rw[E5,BP];rfl
theorem Y0t {d:Nm}{p:Int}{x:List Nm}{j:Nat}(hj:j<x.length)(h:WI d p (x.take j)=true):WI d p (x.take (j+1))=decide ((Hs (x.getD j default) d p false).2=0):=by rw[V9 default x hj];unfold WI at h⊢;rw[List.all_append,h,FE];simp only[List.all_cons,List.all_nil,Bool.and_true];by_cases e:(Hs (x.getD j default) d p false).2=0;rw[e];rfl;rw[q_g e];simpa using e
theorem k0g {d:Nm}{p:Int}{x:List Nm}{j:Nat}(hj:j<x.length)(h:(Hs (x.getD j default) d p false).2≠0):WI d p x=false:=by refine CS.2 fun e=>h ?_;unfold WI at e;rw[q_d] at e;simpa using e _ (Qq x j default hj)
set_option maxHeartbeats 4000000 in
theorem K0f (x:List Nm)(d:Nm)(A B n k:Nat)(R:List PV)(p:Int)(st:Qf)(hk:k<st.length)(hg:st.getD k []=J4 x++R)(hx:x.length<=4)(hr: ∀c∈x,Qg c=true)(hd:Qg d=true)(hd0:d.w≠ [])(hp:Q4 p=true):
 PCalls Tryz.prog 191 [.agg [.ms true A 0 n,.ms true B 0 n,.sc (.int .i64 p)],.ms true k 0 x.length,.agg (Q9 d)] st
 (fun r st'=>(WI d p x=true/\r= .sc (.int .i64 0)/\st'=st.set k (J4 (HO d p x)++R))\/(WI d p x=false/\r= .sc (.int .i64 2)/\ ∃y,y.length=x.length/\st'=st.set k (J4 y++R))):=by
 have hdv:0<Qi d.w:=EU fun e=>hd0 ((QJ hd).1 e);refine Qb none Tryz.func191 rfl fun E=>Qa ?_;have hxl:=Ja x;refine G2s ?_;refine Qd [false,true,false,true,false,true,false,false,false,false,false,true,true] 2 0
  (fun m s=> ∃j,m=x.length-j/\j<=x.length/\WI d p (x.take j)=true/\
   s=⟨[.junk,.ms true k 0 x.length,.junk,.lp 0 0,.junk,.lp 1 0,.junk,.junk,.junk,.junk,.junk,.sc (.int .i64 x.length),.sc (.int .i64 (j:Nat))]++jk 21,[[.ms true A 0 n,.ms true B 0 n,.sc (.int .i64 p)],Q9 d],[],st.set k (J4 (HO d p (x.take j)++x.drop j)++R)⟩) x.length ?_ ?_
 refine G2s ?_;refine⟨0,oG,oG,by simp[WI],?_⟩;rw[xV hk (by rw[hg];simp[HO])];rfl;rintro m s ⟨j,rfl,hj,ho,rfl⟩;refine U2n (fun h1=> ?_) (fun h1=> ?_)
 . have hlt:j<x.length:=oT h1
   have x2:=Zw j oG;obtain⟨d1,d2,d3⟩:=k0i d p x hlt;have hok:=Y0t hlt ho;generalize hD:HO d p (x.take j)++x.drop j=D at*
   have gst:=zF (J4 D++R) hk;have tk:=Vj D j R oG;rw[d2] at tk;have hDl:=Ja D;have hle:j*3+3<=(J4 D).length+R.length:=oG;have ov:=UM D j R (Hs (x.getD j default) d p false).1 oG;rw[d3] at ov;unfold Q9 at ov;have hxr:=hr _ (Qq x j default hlt);refine G2s ?_;refine Qm QH 34 (X0p [0,1,2,3,4,5,6] (.alt (X0p [7,8,9,10] (.step 11 [3,4,6] (.step 12 [] (.step 13 [] (.done))))) (.step 11 [3,4,6] (X0p [7,8,9,10,12,13] .done)))) (by decide+kernel) (by simp) ?_;simp-dsimp only[go_sem,gst,tk];refine⟨⟨oG,hlt⟩,hle,?_⟩;refine And.intro ?_ ?_
   all_goals
    first | refine(I9 _ _ p false _ hxr hd hp hdv).mono ?_ | (refine⟨hle,?_⟩;refine(I9 _ _ p false _ hxr hd hp hdv).mono ?_)
    rintro r st' ⟨rfl,rfl⟩;by_cases he:(Hs (x.getD j default) d p false).2=0;rw[he] at hok⊢;simp-dsimp only[go_sem,gst,tk,x2,ov,EH]
    try refine⟨hle,?_⟩
    refine⟨⟨oG,hlt⟩,⟨hle,oG⟩,x.length-(j+1),oG,j+1,rfl,oG,hok,rfl⟩;have h2:(Hs (x.getD j default) d p false).2=2:=(q0z _).resolve_left he;rw[h2];simp-dsimp only[go_sem,gst,tk]
    try refine⟨hle,?_⟩
    exact .inr ⟨k0g hlt he,D,d1,rfl⟩
 have hge:j=x.length:=oF h1
 subst hge;rw[B0] at ho;refine G2s ?_;refine Qa ?_;simp-dsimp only[go_sem,ho];refine .inl ?_;rw[B0,List.drop_length,B9]
theorem Y1e (n i:Nat)(hi:i<n):Zx (GR n (Q9 default)) (i*3) (Q9 oneN)=J4 (HU n i):=by rw[H0o];have:=UM (List.replicate n default) i [] oneN (by simp;exact hi);rw[B9,B9] at this;exact this
theorem x0w {n i:Nat}(hi:i<n):(Zx (GR n [PV.sc (.bool false),.sc (.int .i64 0),.sl .full []]) (i*3) (Q9 oneN)).map PV.forget2=J4 (HU n i):=by rw[J0g,jf];exact Y1e n i hi
theorem V2p (n i:Nat):VN (Zx (GR n [PV.sc (.bool false),.sc (.int .i64 0),.sl .full []]) (i*3) (Q9 oneN))=true:=x0y (x0x rfl) rfl
theorem Q1e (n:Nat)(z:List PV):(GR n z).length=n*z.length:=by unfold GR;simp
theorem X0q (n i:Nat):(HU n i).length=n:=by simp[HU]
theorem Z1f (n i:Nat)(h:i<n):(U4 n).getD i []=HU n i:=by unfold U4;rw[q_a,B8,EE h];rfl
theorem Z1e (n:Nat): ∀r∈U4 n,r.length=(U4 n).length:=fun r hr=>by rw[X5];simp only[U4,CF] at hr;obtain⟨i,_,rfl⟩:=hr;exact X0q n i
theorem Y0k (st:Qf)(x:List Nm):RowAt (st++ [J4 x]) st.length (J4 x):=by refine⟨by simp,[],?_⟩;rw[Ql _ _ _ _ (BD _),DD,B9];rfl
set_option maxHeartbeats 4000000 in
theorem x0p (n:Nat)(st:Qf)(h0:0<n)(h4:n<=4):
 PCalls Tryz.prog 169 [.sc (.int .i64 n)] st (fun r st'=> ∃A ids X,r= .ms true A 0 (U4 n).length/\st'=st++X/\QO st' A ids (U4 n)/\st.length<=A/\ ∀i∈ids,st.length<=i):=by
 have hl:=X5 n;refine H7 oG (Z1e n) ?_;refine Qb none Tryz.func169 rfl fun E=>Qe (Qa ?_);refine G2s ?_;refine U2h ?_;refine U2h ?_;refine QF [true,false,false,true,false,false,true,true] 0 0
  (fun m s=> ∃i out ids cs X,m=n-i/\i<=n/\Built (st++X) st.length (U4 n).length i out ids cs (((U4 n).take i).map J4)/\
   s=⟨[.sc (.int .i64 n),.junk,.junk,out,.junk,.junk,.sc (.int .i64 n),.sc (.int .i64 (i:Nat))]++jk 14,[],[],st++X⟩) n ?_ ?_
 refine G2s ?_;refine⟨0,.sl .full [],[],[],[],oG,oG,?_,by simp⟩;rw[B9];exact Built.zero st _;rintro m s ⟨i,out,ids,cs,X,rfl,hi,hB,rfl⟩;refine U2h ?_;refine U2h ?_;refine ck (fun h=> ?_) (fun h=> ?_);have hlt:i<n:=(oT h);have e3:=Zw i oG;have hov:=Y1e n i hlt;have hog:=Z1f n i hlt;refine G2s ?_;refine Qe (Zp ?_);refine U2h ?_;refine U2h ?_;refine⟨⟨oG,oG,oG⟩,?_⟩;refine U2h ?_;refine(Vp _).w ?_;rintro st' rfl;refine G2s ?_;have hrl:=Q1e n [PV.sc (.bool false),.sc (.int .i64 0),.sl .full []];simp only[C1,D8] at hrl;refine⟨⟨oG,hlt⟩,⟨oG,oG⟩,?_⟩;have hgv:(Zx (GR n [PV.sc (.bool false),.sc (.int .i64 0),.sl .full []]) (i*3) [PV.sc (.bool oneN.neg),.sc (.int .i64 oneN.exp),.sl .no (Q2 oneN.w)]).map PV.forget2=J4 (HU n i):=x0w hlt;have hfz:=V2p n i;have hne:Zx (GR n [PV.sc (.bool false),.sc (.int .i64 0),.sl .full []]) (i*3) (Q9 oneN)≠ []:=fun e=>by have h2:=Ja (HU n i);rw[<-x0w hlt,e,X0q] at h2;simp at h2;omega
 have hgl:=Y0k (st++X) (HU n i);rw[BH] at hgl;rcases hB.out with ⟨rfl,rfl⟩ | ⟨hi0,A,cap,R,rfl,_⟩;refine Yh 0 hfz hne ?_;rw[DC] at hgv;simp-dsimp only[go_sem,hgv];refine Yg [false,false,false,true] ?_;refine G2s ?_;refine⟨GrowOK.mk_one rfl (by decide) rfl oG oG rfl rfl,fun cap2 R2 hc2 hR2=> ?_⟩;refine U2i ?_;have hB2:=Built.first hB (Y:=st++X++ [J4 (HU n 0)]) (c:= .ms true (st.length+X.length) 0 n) (by simp) (by rw[hl];exact .same _) hgl (by simp) hc2 (by rw[hR2];omega);obtain⟨X2,hX2⟩: ∃X2,st++X++ [J4 (HU n 0)]++ [flat [PV.ms true (st.length+X.length) 0 n]++R2]=st++X2:=⟨_,by rw[BP,BP]⟩;rw[hX2] at hB2⊢;have hlen:(st++X++ [J4 (HU n 0)]).length=st.length+X.length+1:=(by simp;omega);rw[hlen,<-hog,<-UL (U4 n) oG] at hB2;refine⟨n-(0+1),oG,0+1,_,_,_,X2,rfl,oG,hB2,?_⟩;rw[e3];refine Yh 0 hfz hne ?_;simp-dsimp only[go_sem,hgv];refine Yg [false,false,false,true] ?_;refine G2s ?_;obtain⟨b1,b2,b3⟩:=hB.at hi0;have gA:(st++X++ [J4 (HU n i)]).getD A []=(st++X).getD A []:=Qk _ _ _ _ b2;refine⟨GrowOK.mk_one rfl (by decide) (by rw[gA,b3];omega) oG oG rfl rfl,fun A' cap2 st' hG=> ?_⟩;refine U2i ?_;have hB2:=Built.grow hB hi0 (Y:=st++X++ [J4 (HU n i)]) (c:= .ms true (st.length+X.length) 0 n) (by simp) (fun x hx=>Qk _ _ _ _ hx) (by rw[hl];exact .same _) hgl (by simp) hG;obtain⟨X2,rfl⟩: ∃X2,st'=st++X2:=by rw[BP] at hG;exact hG.app b1
 rw[<-hog,<-UL (U4 n) oG] at hB2;refine⟨n-(i+1),oG,i+1,_,_,_,X2,rfl,oG,hB2,?_⟩;rw[e3];have hge:i=n:=(oF h);subst hge;refine G2s ?_;refine Qa ?_;rcases hB.out with ⟨hz,rfl⟩ | ⟨hi0,A,cap,R,rfl,_⟩;omega;refine G2s ?_;rw[BF oG] at hB;rw[hl] at hB⊢;exact⟨ids,cs,X,rfl,hB⟩
theorem yR {α:Type}(d:α)(F x:List α){j:Nat}(hl:F.length=x.length)(hj:j<x.length):(F.take j++x.drop j).length=x.length/\(F.take j++x.drop j).getD j d=x.getD j d/\(F.take j++x.drop j).set j (F.getD j d)=F.take (j+1)++x.drop (j+1):=by
 have hlt:(F.take j).length=j:=by rw[BX];omega
 refine⟨by rw[BH,hlt,DM];omega,?_,?_⟩;rw[Ql _ _ _ _ oG,hlt,DD,q_a,DH,B1,<-q_a];rw[CJ _ _ oG,hlt,DD];have e1:x.drop j=x.getD j d::x.drop (j+1):=by rw[q_a,BB hj];exact FC hj
 rw[e1,FY,V9 d F oG,BP];rfl
theorem HA (m:Nm)(p:Int)(x y:List Nm):(W0 m p x y).length=x.length:=by simp[W0]
theorem x0b (m:Nm)(p:Int)(x y:List Nm){j:Nat}(h:j<x.length):(W0 m p x y).getD j default=(KD (x.getD j default) m (y.getD j default) p).1:=by unfold W0;exact K5 (fun j=>(KD (x.getD j default) m (y.getD j default) p).1) _ _ h
theorem xb {m:Nm}{p:Int}{x y:List Nm}{j:Nat}(hj:j<x.length)(h:(KD (x.getD j default) m (y.getD j default) p).2≠0):VY m p x y=false:=by refine CS.2 fun e=>h ?_;unfold VY at e;rw[q_d] at e;simpa using e j (E0.2 hj)
theorem W0y {m:Nm}{p:Int}{x y:List Nm}(h: ∀j,j<x.length->(KD (x.getD j default) m (y.getD j default) p).2=0):VY m p x y=true:=by unfold VY;rw[q_d];intro j hj;rw[h j (E0.1 hj)];rfl
set_option maxHeartbeats 4000000 in
theorem vH (x y:List Nm)(m:Nm)(A B n k o:Nat)(R R2:List PV)(p:Int)(st:Qf)(hk:k<st.length)(ho:o<st.length)(hne:k≠o)(hg:st.getD k []=J4 x++R)(hgo:st.getD o []=J4 y++R2)(hx:x.length<=4)(hxy:x.length=y.length)(hr: ∀c∈x,Qg c=true)(hry: ∀c∈y,Qg c=true)(hm:Qg m=true)(hp:Q4 p=true):
 PCalls Tryz.prog 192 [.agg [.ms true A 0 n,.ms true B 0 n,.sc (.int .i64 p)],.ms true k 0 x.length,.ms true o 0 y.length,.agg (Q9 m)] st
 (fun r st'=>(VY m p x y=true/\r= .sc (.int .i64 0)/\st'=st.set k (J4 (W0 m p x y)++R))\/(VY m p x y=false/\r= .sc (.int .i64 2)/\ ∃z,z.length=x.length/\st'=st.set k (J4 z++R))):=by
 have wm:=Qr hm;refine U2m Tryz.func192 fun E=> ?_;refine Qd [false,true,true,false,true,false,false,true,false,false,false,false,false,true,true] 2 0
  (fun s' s=> ∃j,s'=x.length-j/\j<=x.length/\(∀i,i<j->(KD (x.getD i default) m (y.getD i default) p).2=0)/\
   s=⟨[.junk,.ms true k 0 x.length,.ms true o 0 y.length,.junk,.lp 0 0,.junk,.junk,.lp 1 0,.junk,.junk,.junk,.junk,.junk,.sc (.int .i64 x.length),.sc (.int .i64 (j:Nat))]++jk 34,[[.ms true A 0 n,.ms true B 0 n,.sc (.int .i64 p)],Q9 m],[],st.set k (J4 ((W0 m p x y).take j++x.drop j)++R)⟩) x.length ?_ ?_
 refine G2s ?_;refine⟨0,oG,oG,fun i hi=>oG,?_⟩;rw[xV hk (by rw[hg];simp)];rfl;rintro m' s ⟨j,rfl,hj,hok,rfl⟩;refine U2n (fun h1=> ?_) (fun h1=> ?_)
 . have hlt:j<x.length:=oT h1
   have x2:=Zw j oG;obtain⟨d1,d2,d3⟩:=yR default (W0 m p x y) x (HA m p x y) hlt;rw[x0b m p x y hlt] at d3;generalize hD:(W0 m p x y).take j++x.drop j=D at*
   have gst:=zF (J4 D++R) hk;have gso:(st.set k (J4 D++R)).getD o []=J4 y++R2:=(by rw[Qo _ _ _ _ _ hne];exact hgo);have tk:=Vj D j R oG;rw[d2] at tk;have tko:=Vj y j R2 oG;have hDl:=Ja D;have hyl:=Ja y;have hle:j*3+3<=(J4 D).length+R.length:=oG;have hlo:j*3+3<=(J4 y).length+R2.length:=oG;have ov: ∀c,Zx (J4 D++R) (j*3) (Q9 c)=J4 (D.set j c)++R:=fun c=>UM D j R c oG;unfold Q9 at ov;have hxr:=Qr (hr _ (Qq x j default hlt));have hyr:=Qr (hry _ (Qq y j default oG));have ha:KD (x.getD j default) m (y.getD j default) p=if (Qv 2 m (y.getD j default) p false).2≠0 then Qv 2 m (y.getD j default) p false else Qv 1 (x.getD j default) (Qv 2 m (y.getD j default) p false).1 p false:=rfl;have wq:=Qr (QB 2 m (y.getD j default) p false);have e2:=HV (k:=2) (up:=false) hm (hry _ (Qq y j default oG)) hp;have e1:=HV (k:=1) (up:=false) (hr _ (Qq x j default hlt)) (QB 2 m (y.getD j default) p false) hp;refine G2s ?_;refine Qm QH 49 (X0p [0,1,2,3,4,5,6] (.alt (X0p [7,8,9,10] (.step 11 [0,4,6] (.step 12 [] (.step 13 [] (.done))))) (.step 11 [0,4,6] (X0p [7,8,9,10,12,13] .done)))) (by decide+kernel) (by simp) ?_;simp-dsimp only[go_sem,gso,tko];refine⟨⟨oG,oG⟩,hlo,?_⟩;refine And.intro ?_ ?_
   all_goals
    first | refine(UQ _ _ p false _ wm hyr).mono ?_ | (refine⟨hlo,?_⟩;refine(UQ _ _ p false _ wm hyr).mono ?_)
    rintro r st' ⟨rfl,rfl⟩;by_cases he:(Qv 2 m (y.getD j default) p false).2=0;rw[BA (fun h=>h he)] at ha;rw[he];simp-dsimp only[go_sem,gso,tko]
    try refine⟨hlo,?_⟩
    refine Qm QH 49 (X0p [0,1,2,3,4,5,6,7,8,9,10,11,12,13,14,15] .done) (by decide+kernel) (by simp) ?_;simp-dsimp only[go_sem,gst,tk];refine⟨⟨oG,hlt⟩,hle,?_⟩;refine(UP _ _ p false _ hxr wq).w ?_;rintro st' rfl;by_cases hf:(Qv 1 (x.getD j default) (Qv 2 m (y.getD j default) p false).1 p false).2=0;rw[hf];rw[ha] at d3;simp-dsimp only[go_sem,gst,tk,ov,x2,d3,EH];refine⟨⟨oG,hlt⟩,⟨hle,oG⟩,x.length-(j+1),oG,j+1,rfl,oG,fun i hi=> ?_,rfl⟩;by_cases e:i=j;subst e;rw[ha];exact hf;exact hok i oG;have h2:(Qv 1 (x.getD j default) (Qv 2 m (y.getD j default) p false).1 p false).2=2:=e1.resolve_left hf;rw[h2];simp-dsimp only[go_sem,gst,tk,ov,EH];exact⟨⟨oG,hlt⟩,⟨hle,oG⟩,.inr ⟨xb hlt (by rw[ha];exact hf),_,by rw[BL];exact d1,rfl⟩⟩;have h2:(Qv 2 m (y.getD j default) p false).2=2:=e2.resolve_left he;rw[BC he] at ha;rw[h2];simp-dsimp only[go_sem,gso,tko]
    try refine⟨hlo,?_⟩
    refine .inr ⟨xb hlt (by rw[ha];exact he),D,d1,rfl⟩
 have hge:j=x.length:=oF h1
 subst hge;refine G2s ?_;refine U2i ?_;refine .inl ⟨W0y hok,?_⟩;rw[BF (by rw[HA];omega),List.drop_length,B9]
end Go.Pv
end
