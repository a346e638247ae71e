/- Parts of the walk: M84, N140, N141, N142, N143, N144, N145. -/
import Derived.Test.YtldalepagmhnmaaGreatDoorZFC
import Derived.Test.YtldalepagmhnmaaGreatDoorZFB
set_option linter.unusedVariables false
set_option linter.unusedSimpArgs false
section
namespace Go.Pv
def entQ (A:List (List Nm))(i j:Nat):Nm:=(A.getD i []).getD j default
def pivN (A:List (List Nm))(k:Nat):Nat->Nat
 | 0=>k
 | m+1=>if cmpR (absN (entQ A (k+1+m) k)) (absN (entQ A (pivN A k m) k))<=0 then pivN A k m else k+1+m
theorem V1k (A:List (List Nm))(k:Nat): ∀m,k<=pivN A k m/\pivN A k m<=k+m
 | 0=>⟨Nat.le_refl _,Nat.le_refl _⟩
 | m+1=>by have:=V1k A k m;unfold pivN;split<;>omega
def x0c (d:Nm)(p:Int)(row:List Nm):Bool:=row.all fun c=>(divN c d p false).2==0
def divL (d:Nm)(p:Int)(row:List Nm):List Nm:=row.map fun c=>(divN c d p false).1
def W0e (x m y:Nm)(p:Int):Nm×Int:=if (Q0t 2 m y p false).2≠0 then Q0t 2 m y p false else Q0t 1 x (Q0t 2 m y p false).1 p false
def x0n (m:Nm)(p:Int)(row other:List Nm):Bool:=(List.range row.length).all fun j=>(W0e (row.getD j default) m (other.getD j default) p).2==0
def H0e (m:Nm)(p:Int)(row other:List Nm):List Nm:=(List.range row.length).map fun j=>(W0e (row.getD j default) m (other.getD j default) p).1
structure GJ where
 a:List (List Nm)
 r:List (List Nm)
 e:Int
def W1h (p:Int)(k i:Nat)(x:GJ):GJ:=
 if i=k\/(entQ x.a i k).w= [] then x
 else if (x0n (entQ x.a i k) p (x.a.getD i []) (x.a.getD k [])&&x0n (entQ x.a i k) p (x.r.getD i []) (x.r.getD k []))=true then
  ⟨x.a.set i (H0e (entQ x.a i k) p (x.a.getD i []) (x.a.getD k [])),x.r.set i (H0e (entQ x.a i k) p (x.r.getD i []) (x.r.getD k [])),0⟩
 else⟨x.a,x.r,2⟩
def K0q (p:Int)(k:Nat)(x:GJ):Nat->GJ
 | 0=>x
 | i+1=>if (K0q p k x i).e=0 then W1h p k i (K0q p k x i) else K0q p k x i
def J3l (n k:Nat)(x:GJ):GJ:=⟨X0h [] x.a k (pivN x.a k (n-(k+1))),X0h [] x.r k (pivN x.a k (n-(k+1))),0⟩
def q0o (p:Int)(k:Nat)(x:GJ):GJ:=
 if (x0c (entQ x.a k k) p (x.a.getD k [])&&x0c (entQ x.a k k) p (x.r.getD k []))=true then⟨x.a.set k (divL (entQ x.a k k) p (x.a.getD k [])),x.r.set k (divL (entQ x.a k k) p (x.r.getD k [])),0⟩ else⟨x.a,x.r,2⟩
def J1i (p:Int)(n k:Nat)(x:GJ):GJ:=
 if (entQ x.a (pivN x.a k (n-(k+1))) k).w= [] then⟨x.a,x.r,3⟩
 else if (q0o p k (J3l n k x)).e=0 then K0q p k (q0o p k (J3l n k x)) n
 else q0o p k (J3l n k x)
def X0s (p:Int)(n:Nat)(x:GJ):Nat->GJ
 | 0=>x
 | k+1=>if (X0s p n x k).e=0 then J1i p n k (X0s p n x k) else X0s p n x k
def V0e (n:Nat):List (List Nm):=(List.range n).map fun i=>(List.range n).map fun j=>if i=j then⟨false,0,[1]⟩ else default
def Q0y (a:List (List Nm))(p:Int):List (List Nm)×Int:=
 if X0r a=true/\Z0c p=true then(if (X0s p a.length ⟨a,V0e a.length,0⟩ a.length).e=0 then((X0s p a.length ⟨a,V0e a.length,0⟩ a.length).r,0) else([],(X0s p a.length ⟨a,V0e a.length,0⟩ a.length).e)) else([],1)
def sqR (n:Nat)(a:List (List Nm)):Prop:=a.length=n/\ ∀r∈a,r.length=n/\ ∀c∈r,Q0h c=true
theorem sqR.row {n:Nat}{a:List (List Nm)}(h:sqR n a){i:Nat}(hi:i<n):(a.getD i []).length=n/\ ∀c∈a.getD i [],Q0h c=true:=h.2 _ (Q0r _ _ _ (by rw[h.1];exact hi))
theorem sqR.ent {n:Nat}{a:List (List Nm)}(h:sqR n a){i j:Nat}(hi:i<n)(hj:j<n):Q0h (entQ a i j)=true:=(h.row hi).2 _ (Q0r _ _ _ (by rw[(h.row hi).1];exact hj))
theorem sqR.set {n:Nat}{a:List (List Nm)}(h:sqR n a){i:Nat}{r:List Nm}(hr:r.length=n/\ ∀c∈r,Q0h c=true):sqR n (a.set i r):=by refine⟨by rw[List.length_set];exact h.1,fun x hx=> ?_⟩;rcases List.mem_or_eq_of_mem_set hx with hx | rfl;exact h.2 x hx;exact hr
theorem sqR.swap {n:Nat}{a:List (List Nm)}(h:sqR n a){i j:Nat}(hi:i<n)(hj:j<n):sqR n (X0h [] a i j):=by unfold X0h;exact(h.set (h.row hj)).set (h.row hi)
set_option maxRecDepth 100000
open Go.Proofs
theorem J1z (x:Nm)(st:Q0f)(hw:wN x):PR 310 [.agg (encN x)] st (.agg (encN (absN x))):=by unfold wN at hw;refine W4y Tryz.func310 fun E=> ?_;refine(v3d x st oG).Q ?_;refine(Z2a (ownN x) st).Q ?_;unfold absN ownN magN;split<;>rfl
set_option maxHeartbeats 4000000 in
theorem y2e (a:List (List Nm))(st:Q0f)(hw:wQs a):PR 284 [.sl .no (encQ a)] st (.sc (.bool (X0r a))):=by
 obtain⟨hl,hw⟩:=hw;refine W4y Tryz.func284 fun E=> ?_;refine Q0e [true,false,false,false,false,false,false,true,true,true] 0 0 (fun n s=> ∃i,n=a.length-i/\i<=a.length/\(∀j,j<i->X0c (a.getD j []) a.length=true)/\s=⟨[.sl .no (encQ a),.junk,.junk,.junk,.junk,.junk,.junk,.sl .no (encQ a),.sc (.int .i64 a.length),.sc (.int .i64 (i:Nat))]++jk 27,[],[],st⟩) a.length ?_ ?_;refine Y4w ?_;exact⟨0,oG,oG,fun j hj=>oG,rfl⟩;rintro n s ⟨i,rfl,hi,hr,rfl⟩;refine W4z (fun h=> ?_) (fun h=> ?_);have hlt:i<a.length:=(oT h);have e1:=J0d a i hlt;have e3:=Z0x i oG;have wi:=hw i hlt;have wil:=wi.1;simp-dsimp only[go_sem,e1];refine⟨oG,?_⟩;refine ck (fun h2=> ?_) (fun h2=> ?_);have hn:=x0m h2;refine Y4w ?_;have:X0r a=false:=Bool.eq_false_iff.2 fun e=>hn (by have:=(rightQ_iff.1 e).1 i hlt;unfold X0c at this;simp at this;exact this.2);rw[this];have hn:=H0b h2;refine Y4w ?_;refine Q0e ([true,false,false,false,false,false,false,true,true,true]++rF 8++ [true,true,true]) 0 0 (fun n s=> ∃k,n=(a.getD i []).length-k/\k<=(a.getD i []).length/\(∀j,j<k->Q0h ((a.getD i []).getD j default)=true)/\s=⟨[.sl .no (encQ a),.junk,.junk,.junk,.junk,.junk,.junk,.sl .no (encQ a),.sc (.int .i64 a.length),.sc (.int .i64 (i:Nat))]++jk 8++ [.sl .no (Q0u (a.getD i [])),.sc (.int .i64 (a.getD i []).length),.sc (.int .i64 (k:Nat))]++jk 16,[],[],st⟩) (a.getD i []).length ?_ ?_;refine Y4w ?_;exact⟨0,oG,oG,fun j hj=>oG,rfl⟩;rintro n s ⟨k,rfl,hk,hrk,rfl⟩;refine W4z (fun h5=> ?_) (fun h5=> ?_);have hklt:k<(a.getD i []).length:=(oT h5);have e2:=Z0k (a.getD i []) k hklt;have e4:=Z0x k oG;have wk:=wi.2 k hklt;unfold wN at wk;simp-dsimp only[go_sem,e2];refine⟨oG,?_⟩;refine(X0p _ st oG).Q ?_;refine ck (fun h6=> ?_) (fun h6=> ?_);have hf:Q0h ((a.getD i []).getD k default)=false:=(by simpa using h6);refine Y4w ?_;have:X0r a=false:=Bool.eq_false_iff.2 fun e=>by have:=(rightQ_iff.1 e).1 i hlt;unfold X0c at this;rw[q_i] at this;rw[(Y0s _ Q0h).1 this.1 k hklt] at hf;cases hf
 rw[this];have ht:Q0h ((a.getD i []).getD k default)=true:=(by simpa using h6);simp-dsimp only[go_sem,e4];refine⟨(a.getD i []).length-(k+1),oG,k+1,rfl,oG,fun j hj=> ?_,rfl⟩;by_cases e:j=k;subst e;exact ht;exact hrk j oG;have hge:k=(a.getD i []).length:=(oF h5);refine Y4w ?_;refine Q0a ?_;simp-dsimp only[go_sem,e3];refine⟨a.length-(i+1),oG,i+1,rfl,oG,fun j hj=> ?_,rfl⟩;by_cases e:j=i;subst e;unfold X0c;rw[q_i];exact⟨(Y0s _ Q0h).2 fun b hb=>hrk b oG,q_h hn⟩;exact hr j oG;have hge:i=a.length:=(oF h);subst hge;refine Y4w ?_;refine W4u ?_;have fin:X0r a=(decide ((a.length:Int)>=1)&&decide ((a.length:Int)<=4)):=by rw[Bool.eq_iff_iff,rightQ_iff,q_i,decide_eq_true_iff,decide_eq_true_iff];exact⟨fun h=>⟨oG,oG⟩,fun h=>⟨hr,oG,oG⟩⟩
 rw[fin];refine gkT (fun h1=> ?_) (fun h1=> ?_);simp-dsimp only[go_sem,h1]
 try rfl
 simp-dsimp only[go_sem,h1]
 try rfl
theorem V1d (x m y:Nm)(p:Int)(st:Q0f)(hx:wN x)(hm:wN m)(hy:wN y):PR 303 [.agg (encN x),.agg (encN m),.agg (encN y),.sc (.int .i64 p)] st (.tup [.agg (encN (W0e x m y p).1),.sc (.int .i64 (W0e x m y p).2)]):=by
 refine W4y Tryz.func303 fun E=> ?_;refine(j0f m y p false _ hm hy).Q ?_;refine ck (fun h=> ?_) (fun h=> ?_);have h2:=W0k h;refine Y4w ?_;unfold W0e;rw[if_pos h2]
 try rfl
 have h2:=W0y h;refine Y4w ?_;refine(j0g x (Q0t 2 m y p false).1 p false _ hx ?_).mono ?_;exact Q0o (Z0l _ _ _ _ _);rintro r st ⟨rfl,rfl⟩;refine Y4w ?_;unfold W0e;rw[if_neg (fun e=>e h2)]
 try rfl
def W0t (a b:Nm)(p:Int)(up:Bool):Nm×Int:=if b.w= [] then(default,3) else divN a b p up
theorem v0r (a b:Nm)(p:Int)(up:Bool):Q0h (W0t a b p up).1=true:=by unfold W0t;split;decide;exact K0t (w0j (V0d (z1q _ _ _) _ _))
theorem j1d (a b:Nm)(p:Int)(up:Bool)(st:Q0f)(ha:Q0h a=true)(hb:Q0h b=true)(hp:Z0c p=true):
 PR 217 [.agg (encN a),.agg (encN b),.sc (.int .i64 p),.sc (.bool up)] st (.tup [.agg (encN (W0t a b p up).1),.sc (.int .i64 (W0t a b p up).2)]):=by
 by_cases h0:b.w= [];have wa:=Q0o ha;have wb:=Q0o hb;unfold wN at wa wb;have hq:W0t a b p up=(default,3):=(by unfold W0t;rw[if_pos h0]);rw[hq];refine W4y Tryz.func217 fun E=> ?_;refine(X0p a _ oG).q ?_;rw[ha];refine Y4w ?_;refine(X0p b _ oG).q ?_;rw[hb];refine Y4w ?_;refine(V0b _ _).q ?_;rw[hp];have hbl:((b.w.length:Int)==0)=true:=(by rw[h0];rfl);simp-dsimp only[go_sem,hbl]
 try rfl
 have hq:W0t a b p up=divN a b p up:=by unfold W0t;rw[if_neg h0]
 rw[hq];exact K1w a b p up st ha hb hp (Nat.pos_of_ne_zero fun e=>h0 ((X0f hb).1 e))
theorem H0u (a b:Nm)(p:Int)(up:Bool)(st:Q0f)(ha:Q0h a=true)(hb:Q0h b=true)(hp:Z0c p=true):PR 279 [.sc (.int .i64 3),.agg (encN a),.agg (encN b),.sc (.int .i64 p),.sc (.bool up)] st (.tup [.agg (encN (W0t a b p up).1),.sc (.int .i64 (W0t a b p up).2)]):=by
 refine Q0b none Tryz.func279 rfl fun E=>Q0a ?_;have e0: ∀x y:Nm,[PV.agg [.sc (.bool x.neg),.sc (.int .i64 x.exp),.sl .no (encW x.w)],.agg [.sc (.bool y.neg),.sc (.int .i64 y.exp),.sl .no (encW y.w)]]=Q0u [x,y]:=fun x y=>rfl;simp-dsimp only[go_sem,e0];refine(V3n p [a,b] _ (by simp) (fun i hi=>by
  match i,hi with
  | 0,_=>exact Q0o ha
  | 1,_=>exact Q0o hb)).mono ?_
 rintro r st ⟨rfl,rfl⟩;have hf: ∀x:Bool,x=false->(PV.sc (.bool x))= .sc (.bool false):=fun x h=>(by rw[h]);refine W4z (fun h=> ?_) (fun h=> ?_);exfalso;simp[ha,hb,hp] at h;obtain⟨q,rfl,q1,q2,q3⟩:=K0c hp;have d1:=X0x ha;have d2:=X0x hb;have hbz:b.w= []<->(ofN b).m=0:=(X0f hb).symm;have hqv: ∀x y:Vl,(x=ofN a)->(y=ofN b)->divN a b q up=numV (Z0p (ratV x y q) q up):=fun x y hx hy=>(by rw[hx,hy,divN,q3]);refine Y4w ?_;refine W0q Z0b 49 [0,1,2,3] [4,5] [6,7] (.step 0 [] (.step 2 [] (.step 1 [2] (.step 3 [] (.done))))) (.step 6 [] (.step 7 [] (.done))) (by decide+kernel) (by simp) ?_;refine Y4w ?_;refine(of_c a _ (K0a ha)).Q ?_;refine(of_c b _ (K0a hb)).q ?_;unfold W0t;generalize hx:ofN a=x at*
 generalize hy:ofN b=y at*
 have t3:((3:Int)==3)=true:=rfl;by_cases hz:y.m=0;rw[if_pos (hbz.2 hz)];have f1:(((Q0g y.m).length:Int)==0)=true:=(by rw[hz,Z0o];rfl);simp-dsimp only[go_sem,t3,f1]
 try rfl
 rw[if_neg (fun e=>hz (hbz.1 e)),hqv x y rfl rfl];have f1:(((Q0g y.m).length:Int)==0)=false:=beq_eq_false_iff_ne.2 (fun e=>hz (digitsOf_nil.1 (List.eq_nil_of_length_eq_zero oG)));simp-dsimp only[go_sem,t3,f1];refine(G3q x y q up _ d1 d2 (Nat.pos_of_ne_zero hz) oG).q ?_;have e1:=v2m d1 d2 (p:=q) oG;have e2:=V0x e1 q up;refine Y4w ?_;refine(v0d _ _ (X0w e2 oG)).Q0
theorem y1m (x:List Nm):(Q0u x).all (fun x=>(x.cells.length==3)&&x.cells.all PV.cellOK)=true:=by simp only[Q0u,q_d,List.mem_map];rintro _ ⟨c,_,rfl⟩;rfl
theorem w0w {α:Type}(d:α)(l:List α){i:Nat}(h:i<l.length):l.take (i+1)=l.take i++ [l.getD i d]:=by rw[List.take_add_one,List.getElem?_eq_getElem h,q_a,List.getElem?_eq_getElem h];rfl
theorem U0s (a:List (List Nm)){i:Nat}(h:i<a.length):(a.take (i+1)).map rowC=(a.take i).map rowC++ [rowC (a.getD i [])]:=by rw[w0w [] a h,List.map_append];rfl
theorem y0w {x:List Nm}(h0:0<x.length)(h4:x.length<=4):GrowOK [] 0 0 (Q0u x) { id:=32,sz:=3,by_:=40,agg:=true,zok:=true,u8:=false } :=
 ⟨rfl,by decide,rfl,by rw[Q0v];omega,by rw[Q0v];show(0+x.length)*40<=_;omega,y1m x,by rw[Q0v];exact h0⟩
theorem y0x (st:Q0f)(x:List Nm)(R:List PV):RowAt (st++ [flat (Q0u x)++R]) st.length (rowC x):=by refine⟨by simp,R,?_⟩;rw[Q0m _ _ _ _ (Nat.le_refl _),Nat.sub_self];rfl
theorem H0x {P:Program}{f:FuncId}{args:List PV}{st:Q0f}{a:List (List Nm)}(h0:0<a.length)(hr: ∀r∈a,r.length=a.length)
 (h:PCalls P f args st fun r st'=> ∃ids cs X,st'=st++X/\Built st' st.length a.length a.length r ids cs (a.map rowC)):
 PCalls P f args st (fun r st'=> ∃A ids X,r= .ms true A 0 a.length/\st'=st++X/\QO st' A ids a/\st.length<=A/\ ∀i∈ids,st.length<=i):=by
 refine PCalls.unGr h ?_;rintro r st' ⟨ids,cs,X,rfl,hB⟩;obtain⟨A,cap,R,rfl,hA,hAl,hAc,hM,hU⟩:=hB.done h0;refine⟨.ms true A 0 a.length,_,by rw[List.length_set],rfl,rfl,.gr _ _ _,hU,A,ids,X.set (A-st.length) ((ids.map fun i=>PV.ms true i 0 a.length)++R),rfl,?_,⟨hr,hM⟩,hA,hB.ge⟩;rw[List.set_append_right _ _ hA]
set_option maxHeartbeats 4000000 in
theorem Q2q (a:List (List Nm))(st:Q0f)(h0:0<a.length)(h4:a.length<=4)(hr: ∀r∈a,r.length=a.length):
 PCalls Tryz.prog 285 [.sl .no (encQ a)] st (fun r st'=> ∃A ids X,r= .ms true A 0 a.length/\st'=st++X/\QO st' A ids a/\st.length<=A/\ ∀i∈ids,st.length<=i):=by
 refine H0x h0 hr ?_;refine Q0b none Tryz.func285 rfl fun E=>Q0d (Q0a ?_);refine Y4w ?_;refine W4t ?_;refine W4t ?_;refine Z0e [false,false,false,true,false,false,true,true,true] 0 0
  (fun m s=> ∃i out ids cs X,m=a.length-i/\i<=a.length/\Built (st++X) st.length a.length i out ids cs ((a.take i).map rowC)/\
   s=⟨[.junk,.junk,.junk,out,.junk,.junk,.sl .no (encQ a),.sc (.int .i64 a.length),.sc (.int .i64 (i:Nat))]++jk 10,[],[],st++X⟩) a.length ?_ ?_
 refine Y4w ?_;refine⟨0,.sl .full [],[],[],[],oG,oG,?_,by simp⟩;rw[List.append_nil];exact Built.zero st _;rintro m s ⟨i,out,ids,cs,X,rfl,hi,hB,rfl⟩;refine W4t ?_;refine W4t ?_;refine ck (fun h=> ?_) (fun h=> ?_);have hlt:i<a.length:=(oT h);have e1:=J0d a i hlt;have e3:=Z0x i oG;have hri:=hr _ (Q0r a i [] hlt);refine Y4w ?_;refine Q0d (X0b ?_);refine Q0d (Q0a ?_);simp-dsimp only[go_sem,e1];refine⟨oG,?_⟩;refine W0a [false,false,true,false,true] ?_;rcases hB.out with ⟨rfl,rfl⟩ | ⟨hi0,A,cap,R,rfl,_⟩;refine Y4w ?_;refine⟨y0w oG oG,fun cap' R hc' hR=>⟨GrowOK.mk_one rfl (by decide) rfl oG oG rfl rfl,fun cap2 R2 hc2 hR2=> ?_⟩⟩;refine W4u ?_;have hY:RowAt (st++X++ [flat (Q0u (a.getD 0 []))++R]) (st.length+X.length) (rowC (a.getD 0 [])):=(by have:=y0x (st++X) (a.getD 0 []) R;rwa [List.length_append] at this);have hB2:=Built.first hB (Y:=st++X++ [flat (Q0u (a.getD 0 []))++R]) (c:= .gr (st.length+X.length) (a.getD 0 []).length cap') (by simp) (by rw[hri];exact .gr _ _ _) hY (by simp) hc2 (by rw[hR2];omega);obtain⟨X2,hX2⟩: ∃X2,st++X++ [flat (Q0u (a.getD 0 []))++R]++ [flat [PV.gr (st.length+X.length) (a.getD 0 []).length cap']++R2]=st++X2:=⟨_,by rw[List.append_assoc,List.append_assoc]⟩;rw[hX2] at hB2⊢;rw[<-U0s a hlt] at hB2;refine⟨a.length-(0+1),oG,0+1,_,_,_,X2,rfl,oG,hB2,?_⟩;rw[e3,show(st++X++ [flat (Q0u (a.getD 0 []))++R]).length=st.length+X.length+1 by simp;omega];refine Y4w ?_;obtain⟨b1,b2,b3⟩:=hB.at hi0;refine⟨y0w oG oG,fun cap' R hc' hR=> ?_⟩;have gA:(st++X++ [flat (Q0u (a.getD i []))++R]).getD A []=(st++X).getD A []:=Q0j _ _ _ _ b2;refine⟨GrowOK.mk_one rfl (by decide) (by rw[gA,b3];omega) oG oG rfl rfl,fun A' cap2 st' hG=> ?_⟩;refine W4u ?_;have hY:RowAt (st++X++ [flat (Q0u (a.getD i []))++R]) (st.length+X.length) (rowC (a.getD i [])):=(by have:=y0x (st++X) (a.getD i []) R;rwa [List.length_append] at this);have hB2:=Built.grow hB hi0 (Y:=st++X++ [flat (Q0u (a.getD i []))++R]) (c:= .gr (st.length+X.length) (a.getD i []).length cap') (by simp) (fun x hx=>Q0j _ _ _ _ hx) (by rw[hri];exact .gr _ _ _) hY (by simp) hG;obtain⟨X2,rfl⟩: ∃X2,st'=st++X2:=by rw[List.append_assoc] at hG;exact hG.app b1
 rw[<-U0s a hlt] at hB2;refine⟨a.length-(i+1),oG,i+1,_,_,_,X2,rfl,oG,hB2,?_⟩;rw[e3];have hge:i=a.length:=(oF h);subst hge;refine Y4w ?_;refine Q0a ?_;rcases hB.out with ⟨hz,rfl⟩ | ⟨hi0,A,cap,R,rfl,_⟩;omega;refine Y4w ?_;rw[List.take_length] at hB;exact⟨ids,cs,X,rfl,hB⟩
theorem QO.top {st:Q0f}{A:Nat}{ids:List Nat}{a:List (List Nm)}(h:QO st A ids a){i:Nat}(hi:i<a.length):(st.getD A []).getD i .junk= .ms true (ids.getD i 0) 0 a.length/\i+1<=(st.getD A []).length:=by obtain⟨R,hR⟩:=h.2.top.2;have hii:i<ids.length:=(by rw[h.2.lid];exact hi);rw[hR];refine⟨?_,by rw[List.length_append,List.length_map];omega⟩;rw[Q0j _ _ _ _ (by rw[List.length_map];exact hii),q_a,List.getElem?_map,q_a,List.getElem?_eq_getElem hii];rfl
theorem QO.rowAt {st:Q0f}{A:Nat}{ids:List Nat}{a:List (List Nm)}(h:QO st A ids a){i:Nat}(hi:i<a.length):RowAt st (ids.getD i 0) (rowC (a.getD i []))/\(a.getD i []).length=a.length:=by
 have h1:=h.2.row i hi;have e:(a.map rowC).getD i []=rowC (a.getD i []):=by rw[q_a,List.getElem?_map,q_a,List.getElem?_eq_getElem hi];rfl
 rw[e] at h1;exact⟨h1,h.1 _ (Q0r _ _ _ hi)⟩
theorem RowAt.num {st:Q0f}{k:Nat}{x:List Nm}(h:RowAt st k (rowC x)){j:Nat}(hj:j<x.length):((st.getD k []).drop (j*3)).take 3=encN (x.getD j default)/\j*3+3<=(st.getD k []).length/\(st.getD k []).getD (j*3+2) .junk= .sl .no (encW (x.getD j default).w):=by obtain⟨R,hR⟩:=h.2;rw[hR];refine⟨G0u x j R hj,?_,k3k x j R hj⟩;rw[List.length_append,K0i];omega
theorem QO.num {st:Q0f}{A:Nat}{ids:List Nat}{a:List (List Nm)}(h:QO st A ids a){i j:Nat}(hi:i<a.length)(hj:j<a.length):((st.getD (ids.getD i 0) []).drop (j*3)).take 3=encN (entQ a i j)/\j*3+3<=(st.getD (ids.getD i 0) []).length/\(st.getD (ids.getD i 0) []).getD (j*3+2) .junk= .sl .no (encW (entQ a i j).w):=by obtain⟨h1,h2⟩:=h.rowAt hi;exact h1.num (by rw[h2];exact hj)
set_option maxHeartbeats 4000000 in
theorem q1x (a:List (List Nm))(A B:Nat)(ids:List Nat)(p:Int)(k:Nat)(st:Q0f)(h:QO st A ids a)(hk:k<a.length)(h4:a.length<=4)(hw: ∀i j,i<a.length->j<a.length->Q0h (entQ a i j)=true):
 PR 313 [.agg [.ms true A 0 a.length,.ms true B 0 a.length,.sc (.int .i64 p)],.sc (.int .i64 (k:Nat))] st (.sc (.int .i64 (pivN a k (a.length-(k+1)):Nat))):=by
 have x1:=Z0x k oG;refine Q0b none Tryz.func313 rfl fun E=>Q0a ?_;simp-dsimp only[go_sem,x1];refine Q0e [false,true,true,false,false,true,true] 1 0
  (fun m s=> ∃c,m=a.length-(k+1)-c/\c<=a.length-(k+1)/\
   s=⟨[.junk,.sc (.int .i64 (k:Nat)),.lp 0 0,.junk,.junk,.sc (.int .i64 (pivN a k c:Nat)),.sc (.int .i64 (k+1+c:Nat))]++jk 32,[[.ms true A 0 a.length,.ms true B 0 a.length,.sc (.int .i64 p)]],[],st⟩) (a.length-(k+1)) ?_ ?_
 refine Y4w ?_;exact⟨0,oG,oG,rfl⟩;rintro m s ⟨c,rfl,hc,rfl⟩;have hp:=V1k a k c;refine W4z (fun h1=> ?_) (fun h1=> ?_);have hlt:k+1+c<a.length:=(oT h1);have x2:=Z0x (k+1+c) oG;obtain⟨t1,t2⟩:=h.top hlt;obtain⟨t3,t4⟩:=h.top (show pivN a k c<a.length by omega);obtain⟨n1,n2,_⟩:=h.num hlt hk;obtain⟨n3,n4,_⟩:=h.num (show pivN a k c<a.length by omega) hk;have w1:=Q0o (hw _ _ hlt hk);have w2:=Q0o (hw _ _ (show pivN a k c<a.length by omega) hk);refine Y4w ?_;refine Q0k Z0b 39 (X2p [0,1,2,3,4,5,6,7,9,10,11,12,13,14,15,16] (.step 8 [1,10,13,16] (.step 17 [1,4,10] (.step 18 [1,4,10,13] (.step 19 [] (.done)))))) (by decide+kernel) (by simp) ?_;simp-dsimp only[go_sem,t1,t3,n1,n3];refine⟨⟨oG,hlt⟩,t2,⟨oG,oG⟩,n2,⟨oG,oG⟩,t4,⟨oG,oG⟩,n4,?_⟩;have r1:=Q0o (J0a (entQ a (k+1+c) k));have r2:=Q0o (J0a (entQ a (pivN a k c) k));unfold wN at r1 r2;refine(J1z _ _ w1).w ?_;rintro st' rfl;refine Y4w ?_;refine⟨⟨⟨t4,t3.symm⟩,n4,by rw[n3];rfl⟩,?_⟩;refine(J1z _ _ w2).w ?_;rintro st' rfl;refine Y4w ?_;refine⟨⟨t2,t1.symm⟩,?_⟩;refine(J1y _ _ _ oG oG).w ?_;rintro st' rfl;refine Y4w ?_;refine⟨⟨⟨t2,t1.symm⟩,t4,t3.symm⟩,?_⟩;refine ck (fun h2=> ?_) (fun h2=> ?_);have hle:cmpR (absN (entQ a (k+1+c) k)) (absN (entQ a (pivN a k c) k))<=0:=q_b h2;have hpv:pivN a k (c+1)=pivN a k c:=(by rw[pivN,if_pos hle]);simp-dsimp only[go_sem,x2];refine⟨a.length-(k+1)-(c+1),oG,c+1,rfl,oG,?_⟩;rw[hpv]
 try rfl
 have hle: ¬cmpR (absN (entQ a (k+1+c) k)) (absN (entQ a (pivN a k c) k))<=0:=q_c h2;have hpv:pivN a k (c+1)=k+1+c:=(by rw[pivN,if_neg hle]);simp-dsimp only[go_sem,x2];refine⟨a.length-(k+1)-(c+1),oG,c+1,rfl,oG,?_⟩;rw[hpv]
 try rfl
 have hge:c=a.length-(k+1):=oF h1
 subst hge;refine Y4w ?_;refine Q0a ?_;exact Y4v
theorem k2f (d:Nm)(p:Int)(x:List Nm){j:Nat}(hj:j<x.length):(divL d p (x.take j)++x.drop j).length=x.length/\(divL d p (x.take j)++x.drop j).getD j default=x.getD j default/\
 (divL d p (x.take j)++x.drop j).set j (divN (x.getD j default) d p false).1=divL d p (x.take (j+1))++x.drop (j+1):=by
 have hl:(divL d p (x.take j)).length=j:=by unfold divL;rw[List.length_map,List.length_take];omega
 refine⟨by rw[List.length_append,hl,List.length_drop];omega,?_,?_⟩;rw[Q0m _ _ _ _ oG,hl,Nat.sub_self,q_a,List.getElem?_drop,Nat.add_zero,<-q_a];rw[List.set_append_right _ _ oG,hl,Nat.sub_self];have e1:x.drop j=x.getD j default::x.drop (j+1):=by rw[q_a,List.getElem?_eq_getElem hj];exact List.drop_eq_getElem_cons hj
 rw[e1,List.set_cons_zero,w0w default x hj];unfold divL;rw[List.map_append,List.append_assoc];rfl
theorem U2c {d:Nm}{p:Int}{x:List Nm}{j:Nat}(hj:j<x.length)(h:x0c d p (x.take j)=true):x0c d p (x.take (j+1))=decide ((divN (x.getD j default) d p false).2=0):=by rw[w0w default x hj];unfold x0c at h⊢;rw[List.all_append,h,Bool.true_and];simp only[List.all_cons,List.all_nil,Bool.and_true];by_cases e:(divN (x.getD j default) d p false).2=0;rw[e];rfl;rw[q_g e];simpa using e
theorem W1z {d:Nm}{p:Int}{x:List Nm}{j:Nat}(hj:j<x.length)(h:(divN (x.getD j default) d p false).2≠0):x0c d p x=false:=by refine Bool.eq_false_iff.2 fun e=>h ?_;unfold x0c at e;rw[q_d] at e;simpa using e _ (Q0r x j default hj)
set_option maxHeartbeats 4000000 in
theorem K2u (x:List Nm)(d:Nm)(A B n k:Nat)(R:List PV)(p:Int)(st:Q0f)(hk:k<st.length)(hg:st.getD k []=rowC x++R)(hx:x.length<=4)(hr: ∀c∈x,Q0h c=true)(hd:Q0h d=true)(hd0:d.w≠ [])(hp:Z0c p=true):
 PCalls Tryz.prog 314 [.agg [.ms true A 0 n,.ms true B 0 n,.sc (.int .i64 p)],.ms true k 0 x.length,.agg (encN d)] st
 (fun r st'=>(x0c d p x=true/\r= .sc (.int .i64 0)/\st'=st.set k (rowC (divL d p x)++R))\/(x0c d p x=false/\r= .sc (.int .i64 2)/\ ∃y,y.length=x.length/\st'=st.set k (rowC y++R))):=by
 have hdv:0<valW d.w:=Nat.pos_of_ne_zero fun e=>hd0 ((X0f hd).1 e);refine Q0b none Tryz.func314 rfl fun E=>Q0a ?_;have hxl:=K0i x;refine Y4w ?_;refine Q0e [false,true,false,true,false,true,false,false,false,false,false,true,true] 2 0
  (fun m s=> ∃j,m=x.length-j/\j<=x.length/\x0c d p (x.take j)=true/\
   s=⟨[.junk,.ms true k 0 x.length,.junk,.lp 0 0,.junk,.lp 1 0,.junk,.junk,.junk,.junk,.junk,.sc (.int .i64 x.length),.sc (.int .i64 (j:Nat))]++jk 21,[[.ms true A 0 n,.ms true B 0 n,.sc (.int .i64 p)],encN d],[],st.set k (rowC (divL d p (x.take j)++x.drop j)++R)⟩) x.length ?_ ?_
 refine Y4w ?_;refine⟨0,oG,oG,by simp[x0c],?_⟩;rw[H1q hk (by rw[hg];simp[divL])];rfl;rintro m s ⟨j,rfl,hj,ho,rfl⟩;refine W4z (fun h1=> ?_) (fun h1=> ?_)
 . have hlt:j<x.length:=oT h1
   have x2:=Z0x j oG;obtain⟨d1,d2,d3⟩:=k2f d p x hlt;have hok:=U2c hlt ho;generalize hD:divL d p (x.take j)++x.drop j=D at*
   have gst:=X1r (rowC D++R) hk;have tk:=G0u D j R oG;rw[d2] at tk;have hDl:=K0i D;have hle:j*3+3<=(rowC D).length+R.length:=oG;have ov:=q0x D j R (divN (x.getD j default) d p false).1 oG;rw[d3] at ov;unfold encN at ov;have hxr:=hr _ (Q0r x j default hlt);refine Y4w ?_;refine Q0k Z0b 34 (X2p [0,1,2,3,4,5,6] (.alt (X2p [7,8,9,10] (.step 11 [3,4,6] (.step 12 [] (.step 13 [] (.done))))) (.step 11 [3,4,6] (X2p [7,8,9,10,12,13] .done)))) (by decide+kernel) (by simp) ?_;simp-dsimp only[go_sem,gst,tk];refine⟨⟨oG,hlt⟩,hle,?_⟩;refine And.intro ?_ ?_
   all_goals
    first | refine(K1w _ _ p false _ hxr hd hp hdv).mono ?_ | (refine⟨hle,?_⟩;refine(K1w _ _ p false _ hxr hd hp hdv).mono ?_)
    rintro r st' ⟨rfl,rfl⟩;by_cases he:(divN (x.getD j default) d p false).2=0;rw[he] at hok⊢;simp-dsimp only[go_sem,gst,tk,x2,ov,List.set_set]
    try refine⟨hle,?_⟩
    refine⟨⟨oG,hlt⟩,⟨hle,oG⟩,x.length-(j+1),oG,j+1,rfl,oG,hok,rfl⟩;have h2:(divN (x.getD j default) d p false).2=2:=(Q2e _).resolve_left he;rw[h2];simp-dsimp only[go_sem,gst,tk]
    try refine⟨hle,?_⟩
    exact .inr ⟨W1z hlt he,D,d1,rfl⟩
 have hge:j=x.length:=oF h1
 subst hge;rw[List.take_length] at ho;refine Y4w ?_;refine Q0a ?_;simp-dsimp only[go_sem,ho];refine .inl ?_;rw[List.take_length,List.drop_length,List.append_nil]
set_option maxHeartbeats 4000000 in
theorem y1o (a:List (List Nm))(st:Q0f)(h0:0<a.length)(h4:a.length<=4)(hr: ∀r∈a,r.length=a.length):
 PCalls Tryz.prog 304 [.sl .no (encQ a)] st (fun r st'=> ∃A ids X,r= .ms true A 0 a.length/\st'=st++X/\QO st' A ids a/\st.length<=A/\ ∀i∈ids,st.length<=i):=by
 refine H0x h0 hr ?_;refine Q0b none Tryz.func304 rfl fun E=>Q0d (Q0a ?_);refine Y4w ?_;refine W4t ?_;refine W4t ?_;refine Z0e [true,false,false,true,true] 0 0
  (fun m s=> ∃i out ids cs X,m=a.length-i/\i<=a.length/\Built (st++X) st.length a.length i out ids cs ((a.take i).map rowC)/\
   s=⟨[.sl .no (encQ a),.junk,.junk,out,.sc (.int .i64 (i:Nat))]++jk 16,[],[],st++X⟩) a.length ?_ ?_
 refine Y4w ?_;refine⟨0,.sl .full [],[],[],[],oG,oG,?_,by simp⟩;rw[List.append_nil];exact Built.zero st _;rintro m s ⟨i,out,ids,cs,X,rfl,hi,hB,rfl⟩;refine W4t ?_;refine ck (fun h=> ?_) (fun h=> ?_);have hlt:i<a.length:=(oT h);have e1:=J0d a i hlt;have e3:=Z0x i oG;have hri:=hr _ (Q0r a i [] hlt);refine Y4w ?_;refine Q0d (X0b ?_);refine W0a [false,false,false,false,false,false,true,false,true] ?_;rcases hB.out with ⟨rfl,rfl⟩ | ⟨hi0,A,cap,R,rfl,_⟩;simp-dsimp only[go_sem,e1];refine⟨oG,?_⟩;refine⟨y0w oG oG,fun cap' R hc' hR=>⟨GrowOK.mk_one rfl (by decide) rfl oG oG rfl rfl,fun cap2 R2 hc2 hR2=> ?_⟩⟩;refine W4u ?_;have hY:RowAt (st++X++ [flat (Q0u (a.getD 0 []))++R]) (st.length+X.length) (rowC (a.getD 0 [])):=(by have:=y0x (st++X) (a.getD 0 []) R;rwa [List.length_append] at this);have hB2:=Built.first hB (Y:=st++X++ [flat (Q0u (a.getD 0 []))++R]) (c:= .gr (st.length+X.length) (a.getD 0 []).length cap') (by simp) (by rw[hri];exact .gr _ _ _) hY (by simp) hc2 (by rw[hR2];omega);obtain⟨X2,hX2⟩: ∃X2,st++X++ [flat (Q0u (a.getD 0 []))++R]++ [flat [PV.gr (st.length+X.length) (a.getD 0 []).length cap']++R2]=st++X2:=⟨_,by rw[List.append_assoc,List.append_assoc]⟩;rw[hX2] at hB2⊢;rw[<-U0s a hlt] at hB2;refine⟨a.length-(0+1),oG,0+1,_,_,_,X2,rfl,oG,hB2,?_⟩;rw[e3,show(st++X++ [flat (Q0u (a.getD 0 []))++R]).length=st.length+X.length+1 by simp;omega];simp-dsimp only[go_sem,e1];refine⟨oG,?_⟩;obtain⟨b1,b2,b3⟩:=hB.at hi0;refine⟨y0w oG oG,fun cap' R hc' hR=> ?_⟩;have gA:(st++X++ [flat (Q0u (a.getD i []))++R]).getD A []=(st++X).getD A []:=Q0j _ _ _ _ b2;refine⟨GrowOK.mk_one rfl (by decide) (by rw[gA,b3];omega) oG oG rfl rfl,fun A' cap2 st' hG=> ?_⟩;refine W4u ?_;have hY:RowAt (st++X++ [flat (Q0u (a.getD i []))++R]) (st.length+X.length) (rowC (a.getD i [])):=(by have:=y0x (st++X) (a.getD i []) R;rwa [List.length_append] at this);have hB2:=Built.grow hB hi0 (Y:=st++X++ [flat (Q0u (a.getD i []))++R]) (c:= .gr (st.length+X.length) (a.getD i []).length cap') (by simp) (fun x hx=>Q0j _ _ _ _ hx) (by rw[hri];exact .gr _ _ _) hY (by simp) hG;obtain⟨X2,rfl⟩: ∃X2,st'=st++X2:=by rw[List.append_assoc] at hG;exact hG.app b1
 rw[<-U0s a hlt] at hB2;refine⟨a.length-(i+1),oG,i+1,_,_,_,X2,rfl,oG,hB2,?_⟩;rw[e3];have hge:i=a.length:=(oF h);subst hge;refine Y4w ?_;refine Q0a ?_;rcases hB.out with ⟨hz,rfl⟩ | ⟨hi0,A,cap,R,rfl,_⟩;omega;refine Y4w ?_;rw[List.take_length] at hB;exact⟨ids,cs,X,rfl,hB⟩
theorem J2n (n i:Nat)(hi:i<n):over (repC n (encN default)) (i*3) (encN oneN)=rowC (rowQ n i):=by rw[X2x];have:=q0x (List.replicate n default) i [] oneN (by simp;exact hi);rw[List.append_nil,List.append_nil] at this;exact this
theorem j2b {n i:Nat}(hi:i<n):(over (repC n [PV.sc (.bool false),.sc (.int .i64 0),.sl .full []]) (i*3) (encN oneN)).map PV.forget2=rowC (rowQ n i):=by rw[J1u,y0n];exact J2n n i hi
theorem K4e (n i:Nat):fzOK (over (repC n [PV.sc (.bool false),.sc (.int .i64 0),.sl .full []]) (i*3) (encN oneN))=true:=q1z (q1y rfl) rfl
theorem K2j {n i:Nat}(hi:i<n):(over (repC n [PV.sc (.bool false),.sc (.int .i64 0),.sl .full []]) (i*3) [PV.sc (.bool false),.sc (.int .i64 0),.sl .full [.sc (.int .u64 1)]]).map PV.forget2=rowC (rowQ n i):=by rw[J1u,y0n];exact J2n n i hi
theorem v3y (n i:Nat):fzOK (over (repC n [PV.sc (.bool false),.sc (.int .i64 0),.sl .full []]) (i*3) [PV.sc (.bool false),.sc (.int .i64 0),.sl .full [.sc (.int .u64 1)]])=true:=q1z (q1y rfl) rfl
theorem X2w (n:Nat)(z:List PV):(repC n z).length=n*z.length:=by unfold repC;simp
theorem H1u (n i:Nat):(rowQ n i).length=n:=by simp[rowQ]
theorem J2p (n i:Nat)(h:i<n):(oneL n).getD i []=rowQ n i:=by unfold oneL;rw[q_a,List.getElem?_map,List.getElem?_range h];rfl
theorem J2o (n:Nat): ∀r∈oneL n,r.length=(oneL n).length:=fun r hr=>by rw[X0y];simp only[oneL,List.mem_map] at hr;obtain⟨i,_,rfl⟩:=hr;exact H1u n i
theorem G1n (st:Q0f)(x:List Nm):RowAt (st++ [rowC x]) st.length (rowC x):=by refine⟨by simp,[],?_⟩;rw[Q0m _ _ _ _ (Nat.le_refl _),Nat.sub_self,List.append_nil];rfl
set_option maxHeartbeats 4000000 in
theorem x2u (n:Nat)(st:Q0f)(h0:0<n)(h4:n<=4):
 PCalls Tryz.prog 286 [.sc (.int .i64 n)] st (fun r st'=> ∃A ids X,r= .ms true A 0 (oneL n).length/\st'=st++X/\QO st' A ids (oneL n)/\st.length<=A/\ ∀i∈ids,st.length<=i):=by
 have hl:=X0y n;refine H0x oG (J2o n) ?_;refine Q0b none Tryz.func286 rfl fun E=>Q0d (Q0a ?_);refine Y4w ?_;refine W4t ?_;refine W4t ?_;refine Z0e [true,false,false,true,false,false,true,true] 0 0
  (fun m s=> ∃i out ids cs X,m=n-i/\i<=n/\Built (st++X) st.length (oneL n).length i out ids cs (((oneL n).take i).map rowC)/\
   s=⟨[.sc (.int .i64 n),.junk,.junk,out,.junk,.junk,.sc (.int .i64 n),.sc (.int .i64 (i:Nat))]++jk 14,[],[],st++X⟩) n ?_ ?_
 refine Y4w ?_;refine⟨0,.sl .full [],[],[],[],oG,oG,?_,by simp⟩;rw[List.append_nil];exact Built.zero st _;rintro m s ⟨i,out,ids,cs,X,rfl,hi,hB,rfl⟩;refine W4t ?_;refine W4t ?_;refine ck (fun h=> ?_) (fun h=> ?_);have hlt:i<n:=(oT h);have e3:=Z0x i oG;have hov:=J2n n i hlt;have hog:=J2p n i hlt;refine Y4w ?_;refine Q0d (X0b ?_);refine W4t ?_;refine W4t ?_;refine⟨⟨oG,oG,oG⟩,?_⟩;refine W4t ?_;refine(z0b _).w ?_;rintro st' rfl;refine Y4w ?_;have hrl:=X2w n [PV.sc (.bool false),.sc (.int .i64 0),.sl .full []];simp only[List.length_cons,List.length_nil] at hrl;refine⟨⟨oG,hlt⟩,⟨oG,oG⟩,?_⟩;have hgv:(over (repC n [PV.sc (.bool false),.sc (.int .i64 0),.sl .full []]) (i*3) [PV.sc (.bool oneN.neg),.sc (.int .i64 oneN.exp),.sl .no (encW oneN.w)]).map PV.forget2=rowC (rowQ n i):=j2b hlt;have hfz:=K4e n i;have hne:over (repC n [PV.sc (.bool false),.sc (.int .i64 0),.sl .full []]) (i*3) (encN oneN)≠ []:=fun e=>by have h2:=K0i (rowQ n i);rw[<-j2b hlt,e,H1u] at h2;simp at h2;omega
 have hgl:=G1n (st++X) (rowQ n i);rw[List.length_append] at hgl;rcases hB.out with ⟨rfl,rfl⟩ | ⟨hi0,A,cap,R,rfl,_⟩;refine H0w 0 hfz hne ?_;rw[Nat.zero_mul] at hgv;simp-dsimp only[go_sem,hgv];refine W0a [false,false,false,true] ?_;refine Y4w ?_;refine⟨GrowOK.mk_one rfl (by decide) rfl oG oG rfl rfl,fun cap2 R2 hc2 hR2=> ?_⟩;refine W4u ?_;have hB2:=Built.first hB (Y:=st++X++ [rowC (rowQ n 0)]) (c:= .ms true (st.length+X.length) 0 n) (by simp) (by rw[hl];exact .same _) hgl (by simp) hc2 (by rw[hR2];omega);obtain⟨X2,hX2⟩: ∃X2,st++X++ [rowC (rowQ n 0)]++ [flat [PV.ms true (st.length+X.length) 0 n]++R2]=st++X2:=⟨_,by rw[List.append_assoc,List.append_assoc]⟩;rw[hX2] at hB2⊢;have hlen:(st++X++ [rowC (rowQ n 0)]).length=st.length+X.length+1:=(by simp;omega);rw[hlen,<-hog,<-U0s (oneL n) oG] at hB2;refine⟨n-(0+1),oG,0+1,_,_,_,X2,rfl,oG,hB2,?_⟩;rw[e3];refine H0w 0 hfz hne ?_;simp-dsimp only[go_sem,hgv];refine W0a [false,false,false,true] ?_;refine Y4w ?_;obtain⟨b1,b2,b3⟩:=hB.at hi0;have gA:(st++X++ [rowC (rowQ n i)]).getD A []=(st++X).getD A []:=Q0j _ _ _ _ b2;refine⟨GrowOK.mk_one rfl (by decide) (by rw[gA,b3];omega) oG oG rfl rfl,fun A' cap2 st' hG=> ?_⟩;refine W4u ?_;have hB2:=Built.grow hB hi0 (Y:=st++X++ [rowC (rowQ n i)]) (c:= .ms true (st.length+X.length) 0 n) (by simp) (fun x hx=>Q0j _ _ _ _ hx) (by rw[hl];exact .same _) hgl (by simp) hG;obtain⟨X2,rfl⟩: ∃X2,st'=st++X2:=by rw[List.append_assoc] at hG;exact hG.app b1
 rw[<-hog,<-U0s (oneL n) oG] at hB2;refine⟨n-(i+1),oG,i+1,_,_,_,X2,rfl,oG,hB2,?_⟩;rw[e3];have hge:i=n:=(oF h);subst hge;refine Y4w ?_;refine Q0a ?_;rcases hB.out with ⟨hz,rfl⟩ | ⟨hi0,A,cap,R,rfl,_⟩;omega;refine Y4w ?_;rw[List.take_of_length_le oG] at hB;rw[hl] at hB⊢;exact⟨ids,cs,X,rfl,hB⟩
set_option maxHeartbeats 4000000 in
theorem H2t (n:Nat)(st:Q0f)(h0:0<n)(h4:n<=4):
 PCalls Tryz.prog 138 [.sc (.int .i64 n)] st (fun r st'=> ∃A ids X,r= .ms true A 0 (oneL n).length/\st'=st++X/\QO st' A ids (oneL n)/\st.length<=A/\ ∀i∈ids,st.length<=i):=by
 have hl:=X0y n;refine H0x oG (J2o n) ?_;have d1:decide ((n:Int)<1)=false:=q_g oG;have d2:decide ((n:Int)>4)=false:=q_g oG;refine Q0b none Tryz.func138 rfl fun E=>Q0d (Q0a ?_);refine Y4w ?_;refine Q0d (Q0a ?_);simp-dsimp only[go_sem,d1,d2];refine W4t ?_;refine W4t ?_;refine Z0e [true,false,false,true,true] 0 0
  (fun m s=> ∃i out ids cs X,m=n-i/\i<=n/\Built (st++X) st.length (oneL n).length i out ids cs (((oneL n).take i).map rowC)/\
   s=⟨[.sc (.int .i64 n),.junk,.junk,out,.sc (.int .i64 (i:Nat))]++jk 24,[],[],st++X⟩) n ?_ ?_
 refine Y4w ?_;refine⟨0,.sl .full [],[],[],[],oG,oG,?_,by simp⟩;rw[List.append_nil];exact Built.zero st _;rintro m s ⟨i,out,ids,cs,X,rfl,hi,hB,rfl⟩;refine W4t ?_;refine ck (fun h=> ?_) (fun h=> ?_);have hlt:i<n:=(oT h);have e3:=Z0x i oG;have hov:=J2n n i hlt;have hog:=J2p n i hlt;refine Y4w ?_;refine Q0d (X0b ?_);refine W4t ?_;refine⟨⟨oG,oG,oG⟩,?_⟩;refine W4t ?_;have hrl:=X2w n [PV.sc (.bool false),.sc (.int .i64 0),.sl .full []];simp only[List.length_cons,List.length_nil] at hrl;refine⟨⟨oG,hlt⟩,⟨oG,oG⟩,?_⟩;have hgv:(over (repC n [PV.sc (.bool false),.sc (.int .i64 0),.sl .full []]) (i*3) [PV.sc (.bool false),.sc (.int .i64 0),.sl .full [.sc (.int .u64 1)]]).map PV.forget2=rowC (rowQ n i):=K2j hlt;have hfz:=v3y n i;have hne:over (repC n [PV.sc (.bool false),.sc (.int .i64 0),.sl .full []]) (i*3) [PV.sc (.bool false),.sc (.int .i64 0),.sl .full [.sc (.int .u64 1)]]≠ []:=fun e=>by have h2:=K0i (rowQ n i);rw[<-K2j hlt,e,H1u] at h2;simp at h2;omega
 have hgl:=G1n (st++X) (rowQ n i);rw[List.length_append] at hgl;rcases hB.out with ⟨rfl,rfl⟩ | ⟨hi0,A,cap,R,rfl,_⟩;refine H0w 0 hfz hne ?_;rw[Nat.zero_mul] at hgv;simp-dsimp only[go_sem,hgv];refine W0a [false,false,false,true] ?_;refine Y4w ?_;refine⟨GrowOK.mk_one rfl (by decide) rfl oG oG rfl rfl,fun cap2 R2 hc2 hR2=> ?_⟩;refine W4u ?_;have hB2:=Built.first hB (Y:=st++X++ [rowC (rowQ n 0)]) (c:= .ms true (st.length+X.length) 0 n) (by simp) (by rw[hl];exact .same _) hgl (by simp) hc2 (by rw[hR2];omega);obtain⟨X2,hX2⟩: ∃X2,st++X++ [rowC (rowQ n 0)]++ [flat [PV.ms true (st.length+X.length) 0 n]++R2]=st++X2:=⟨_,by rw[List.append_assoc,List.append_assoc]⟩;rw[hX2] at hB2⊢;have hlen:(st++X++ [rowC (rowQ n 0)]).length=st.length+X.length+1:=(by simp;omega);rw[hlen,<-hog,<-U0s (oneL n) oG] at hB2;refine⟨n-(0+1),oG,0+1,_,_,_,X2,rfl,oG,hB2,?_⟩;rw[e3];refine H0w 0 hfz hne ?_;simp-dsimp only[go_sem,hgv];refine W0a [false,false,false,true] ?_;refine Y4w ?_;obtain⟨b1,b2,b3⟩:=hB.at hi0;have gA:(st++X++ [rowC (rowQ n i)]).getD A []=(st++X).getD A []:=Q0j _ _ _ _ b2;refine⟨GrowOK.mk_one rfl (by decide) (by rw[gA,b3];omega) oG oG rfl rfl,fun A' cap2 st' hG=> ?_⟩;refine W4u ?_;have hB2:=Built.grow hB hi0 (Y:=st++X++ [rowC (rowQ n i)]) (c:= .ms true (st.length+X.length) 0 n) (by simp) (fun x hx=>Q0j _ _ _ _ hx) (by rw[hl];exact .same _) hgl (by simp) hG;obtain⟨X2,rfl⟩: ∃X2,st'=st++X2:=by rw[List.append_assoc] at hG;exact hG.app b1
 rw[<-hog,<-U0s (oneL n) oG] at hB2;refine⟨n-(i+1),oG,i+1,_,_,_,X2,rfl,oG,hB2,?_⟩;rw[e3];have hge:i=n:=(oF h);subst hge;refine Y4w ?_;refine Q0a ?_;rcases hB.out with ⟨hz,rfl⟩ | ⟨hi0,A,cap,R,rfl,_⟩;omega;refine Y4w ?_;rw[List.take_of_length_le oG] at hB;rw[hl] at hB⊢;exact⟨ids,cs,X,rfl,hB⟩
theorem v0x {α:Type}(d:α)(F x:List α){j:Nat}(hl:F.length=x.length)(hj:j<x.length):(F.take j++x.drop j).length=x.length/\(F.take j++x.drop j).getD j d=x.getD j d/\(F.take j++x.drop j).set j (F.getD j d)=F.take (j+1)++x.drop (j+1):=by
 have hlt:(F.take j).length=j:=by rw[List.length_take];omega
 refine⟨by rw[List.length_append,hlt,List.length_drop];omega,?_,?_⟩;rw[Q0m _ _ _ _ oG,hlt,Nat.sub_self,q_a,List.getElem?_drop,Nat.add_zero,<-q_a];rw[List.set_append_right _ _ oG,hlt,Nat.sub_self];have e1:x.drop j=x.getD j d::x.drop (j+1):=by rw[q_a,List.getElem?_eq_getElem hj];exact List.drop_eq_getElem_cons hj
 rw[e1,List.set_cons_zero,w0w d F oG,List.append_assoc];rfl
theorem Y0e (m:Nm)(p:Int)(x y:List Nm):(H0e m p x y).length=x.length:=by simp[H0e]
theorem V1v (m:Nm)(p:Int)(x y:List Nm){j:Nat}(h:j<x.length):(H0e m p x y).getD j default=(W0e (x.getD j default) m (y.getD j default) p).1:=by unfold H0e;exact k1u (fun j=>(W0e (x.getD j default) m (y.getD j default) p).1) _ _ h
theorem k0q {m:Nm}{p:Int}{x y:List Nm}{j:Nat}(hj:j<x.length)(h:(W0e (x.getD j default) m (y.getD j default) p).2≠0):x0n m p x y=false:=by refine Bool.eq_false_iff.2 fun e=>h ?_;unfold x0n at e;rw[q_d] at e;simpa using e j (List.mem_range.2 hj)
theorem X1b {m:Nm}{p:Int}{x y:List Nm}(h: ∀j,j<x.length->(W0e (x.getD j default) m (y.getD j default) p).2=0):x0n m p x y=true:=by unfold x0n;rw[q_d];intro j hj;rw[h j (List.mem_range.1 hj)];rfl
set_option maxHeartbeats 4000000 in
theorem k1r (x y:List Nm)(m:Nm)(A B n k o:Nat)(R R2:List PV)(p:Int)(st:Q0f)(hk:k<st.length)(ho:o<st.length)(hne:k≠o)(hg:st.getD k []=rowC x++R)(hgo:st.getD o []=rowC y++R2)(hx:x.length<=4)(hxy:x.length=y.length)(hr: ∀c∈x,Q0h c=true)(hry: ∀c∈y,Q0h c=true)(hm:Q0h m=true)(hp:Z0c p=true):
 PCalls Tryz.prog 315 [.agg [.ms true A 0 n,.ms true B 0 n,.sc (.int .i64 p)],.ms true k 0 x.length,.ms true o 0 y.length,.agg (encN m)] st
 (fun r st'=>(x0n m p x y=true/\r= .sc (.int .i64 0)/\st'=st.set k (rowC (H0e m p x y)++R))\/(x0n m p x y=false/\r= .sc (.int .i64 2)/\ ∃z,z.length=x.length/\st'=st.set k (rowC z++R))):=by
 have wm:=Q0o hm;refine W4y Tryz.func315 fun E=> ?_;refine Q0e [false,true,true,false,true,false,false,true,false,false,false,false,false,true,true] 2 0
  (fun s' s=> ∃j,s'=x.length-j/\j<=x.length/\(∀i,i<j->(W0e (x.getD i default) m (y.getD i default) p).2=0)/\
   s=⟨[.junk,.ms true k 0 x.length,.ms true o 0 y.length,.junk,.lp 0 0,.junk,.junk,.lp 1 0,.junk,.junk,.junk,.junk,.junk,.sc (.int .i64 x.length),.sc (.int .i64 (j:Nat))]++jk 34,[[.ms true A 0 n,.ms true B 0 n,.sc (.int .i64 p)],encN m],[],st.set k (rowC ((H0e m p x y).take j++x.drop j)++R)⟩) x.length ?_ ?_
 refine Y4w ?_;refine⟨0,oG,oG,fun i hi=>oG,?_⟩;rw[H1q hk (by rw[hg];simp)];rfl;rintro m' s ⟨j,rfl,hj,hok,rfl⟩;refine W4z (fun h1=> ?_) (fun h1=> ?_)
 . have hlt:j<x.length:=oT h1
   have x2:=Z0x j oG;obtain⟨d1,d2,d3⟩:=v0x default (H0e m p x y) x (Y0e m p x y) hlt;rw[V1v m p x y hlt] at d3;generalize hD:(H0e m p x y).take j++x.drop j=D at*
   have gst:=X1r (rowC D++R) hk;have gso:(st.set k (rowC D++R)).getD o []=rowC y++R2:=(by rw[Q0l _ _ _ _ _ hne];exact hgo);have tk:=G0u D j R oG;rw[d2] at tk;have tko:=G0u y j R2 oG;have hDl:=K0i D;have hyl:=K0i y;have hle:j*3+3<=(rowC D).length+R.length:=oG;have hlo:j*3+3<=(rowC y).length+R2.length:=oG;have ov: ∀c,over (rowC D++R) (j*3) (encN c)=rowC (D.set j c)++R:=fun c=>q0x D j R c oG;unfold encN at ov;have hxr:=Q0o (hr _ (Q0r x j default hlt));have hyr:=Q0o (hry _ (Q0r y j default oG));have ha:W0e (x.getD j default) m (y.getD j default) p=if (Q0t 2 m (y.getD j default) p false).2≠0 then Q0t 2 m (y.getD j default) p false else Q0t 1 (x.getD j default) (Q0t 2 m (y.getD j default) p false).1 p false:=rfl;have wq:=Q0o (Z0l 2 m (y.getD j default) p false);have e2:=k0m (k:=2) (up:=false) hm (hry _ (Q0r y j default oG)) hp;have e1:=k0m (k:=1) (up:=false) (hr _ (Q0r x j default hlt)) (Z0l 2 m (y.getD j default) p false) hp;refine Y4w ?_;refine Q0k Z0b 49 (X2p [0,1,2,3,4,5,6] (.alt (X2p [7,8,9,10] (.step 11 [0,4,6] (.step 12 [] (.step 13 [] (.done))))) (.step 11 [0,4,6] (X2p [7,8,9,10,12,13] .done)))) (by decide+kernel) (by simp) ?_;simp-dsimp only[go_sem,gso,tko];refine⟨⟨oG,oG⟩,hlo,?_⟩;refine And.intro ?_ ?_
   all_goals
    first | refine(y0i _ _ p false _ wm hyr).mono ?_ | (refine⟨hlo,?_⟩;refine(y0i _ _ p false _ wm hyr).mono ?_)
    rintro r st' ⟨rfl,rfl⟩;by_cases he:(Q0t 2 m (y.getD j default) p false).2=0;rw[if_neg (fun h=>h he)] at ha;rw[he];simp-dsimp only[go_sem,gso,tko]
    try refine⟨hlo,?_⟩
    refine Q0k Z0b 49 (X2p [0,1,2,3,4,5,6,7,8,9,10,11,12,13,14,15] .done) (by decide+kernel) (by simp) ?_;simp-dsimp only[go_sem,gst,tk];refine⟨⟨oG,hlt⟩,hle,?_⟩;refine(y0h _ _ p false _ hxr wq).w ?_;rintro st' rfl;by_cases hf:(Q0t 1 (x.getD j default) (Q0t 2 m (y.getD j default) p false).1 p false).2=0;rw[hf];rw[ha] at d3;simp-dsimp only[go_sem,gst,tk,ov,x2,d3,List.set_set];refine⟨⟨oG,hlt⟩,⟨hle,oG⟩,x.length-(j+1),oG,j+1,rfl,oG,fun i hi=> ?_,rfl⟩;by_cases e:i=j;subst e;rw[ha];exact hf;exact hok i oG;have h2:(Q0t 1 (x.getD j default) (Q0t 2 m (y.getD j default) p false).1 p false).2=2:=e1.resolve_left hf;rw[h2];simp-dsimp only[go_sem,gst,tk,ov,List.set_set];exact⟨⟨oG,hlt⟩,⟨hle,oG⟩,.inr ⟨k0q hlt (by rw[ha];exact hf),_,by rw[List.length_set];exact d1,rfl⟩⟩;have h2:(Q0t 2 m (y.getD j default) p false).2=2:=e2.resolve_left he;rw[if_pos he] at ha;rw[h2];simp-dsimp only[go_sem,gso,tko]
    try refine⟨hlo,?_⟩
    refine .inr ⟨k0q hlt (by rw[ha];exact he),D,d1,rfl⟩
 have hge:j=x.length:=oF h1
 subst hge;refine Y4w ?_;refine W4u ?_;refine .inl ⟨X1b hok,?_⟩;rw[List.take_of_length_le (by rw[Y0e];omega),List.drop_length,List.append_nil]
end Go.Pv
end
