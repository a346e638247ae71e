/- Walk. -/
import Derived.Test.YtfoiagbimnghjaaGreatDoorZBQ
import Derived.Test.YtfoiagbimnghjaaGreatDoorZBE
set_option linter.all false
section
set_option maxRecDepth 100000
namespace Go.Pv
open Go.Proofs
theorem k0k (a b:Li)(k:Int)(st:Qd):PCalls Tryz.prog 384 [.sl .no (Qk a),.sl .no (Qk b),.sc (.int .i64 k)] st (fun r st'=>r= .fn (.func 388) [] [.gp (st.length+2) 0,.gp st.length 0,.gp (st.length+1) 0]/\st'=st++ [[.sl .no (Qk a)],[.sl .no (Qk b)],[.sc (.int .i64 k)]]):=by
 refine Ql none Tryz.func384 rfl fun E=>Qe (Qb ?_);refine Qr ?_;refine Qe (KF 0 (by simp[go_sem]) (by simp) (KF 1 (by simp[go_sem]) (by simp[go_sem,PFS.give]) (KF 2 (by simp[go_sem]) (by simp[go_sem,PFS.give]) (Qb ?_))));refine Qr ?_;refine Qq ?_;simp
theorem Z1z (a b:Li)(k ka kb kk l:Nat)(r:Loop)(w:Lw)(g:Gh)(J:Nat->Qd->Prop)(Jx:Code->Qd->Prop)(hk:k<=10)(hka:k<a.length)(hkb:k<b.length)
 (la:a.length<=1000000) (lb:b.length<=1000000)
 (hJ: ∀i st,J i st->st.getD kk []= [.sc (.int .i64 k)]/\st.getD ka []= [.sl .no (Qk a)]/\st.getD kb []= [.sl .no (Qk b)])
 (hy: ∀i,i<k+1-> ∀st,J i st->PYields Tryz.prog l r w g [.agg (Qn (a.getD i default)),.agg (Qn (b.getD (k-i) default))] st (J (i+1)) Jx) (st:Qd) (h0:J 0 st):
 xP Tryz.prog 388 l r w g [.fn (.yield l) [] [],.gp kk 0,.gp ka 0,.gp kb 0] st (J (k+1)) Jx:=by
 refine Rh Tryz.func388 rfl rfl fun E hrd hw hg hl=> ?_;subst hw hg;obtain⟨q1,q2,q3⟩:=hJ 0 st h0;have wk:IntKind.i64.wrap ((k:Int)+1)=k+1:=Q4 _ oG oG;refine J2 (XQ (Qb ?_));simp-dsimp only[go_sem,q1,wk];refine zm ?_;refine Ok [true,true,true,true,false,false,false,true,true] 0 0 (fun n s=> ∃i st,i<=k+1/\n=k+1-i/\J i st/\s=⟨[.fn (.yield l) [] [],.gp kk 0,.gp ka 0,.gp kb 0,.junk,.junk,.junk,.sc (.int .i64 ((k:Int)+1)),.sc (.int .i64 (i:Nat))]++jk 16,[],[],st⟩) (k+1) ?_ ?_;refine Qr ?_;exact⟨0,st,oG,oG,h0,rfl⟩;rintro n s ⟨i,st,hi,rfl,hj,rfl⟩;obtain⟨q1,q2,q3⟩:=hJ i st hj;refine J2 (XQ (Qb ?_));refine Qr ?_;refine J2 (XQ (Qb ?_));refine QM ?_ ?_<;>intro h;have hik:i<k+1:=(by simp at h;omega);refine Qr ?_;refine J2 (zm ?_);refine J2 (XQ (Qb ?_));refine Qr ?_;refine J2 (Q1j hl hrd Q1 25 [0,1,2,3,4,5,6,7,8,9,10] 11 [12] (.step 0 [] (.step 1 [] (.step 2 [] (.step 3 [] (.step 4 [] (.step 5 [] (.step 6 [] (.step 7 [] (.step 8 [] (.step 9 [] (.step 10 [] (.done)))))))))))) (.step 11 [6] (.step 12 [] (.done))) (.step 12 [] (.done)) (by decide+kernel) (by simp) ?_);have e3:IntKind.i64.wrap ((k:Int)-(i:Nat))=((k-i:Nat):Int):=(by rw[Q4 _ oG oG];omega);have g1:=Zt a i oG;have g2:=Zt b (k-i) oG;simp-dsimp only[go_sem,q1,q2,q3,e3,g1,g2];have e4:=J2u i oG;refine⟨oG,oG,yH (hy i hik st hj) (fun st' hj'=> ?_) (fun c st' hx=> ?_)⟩;refine Qr ?_;refine XQ (Qb ?_);refine Qr ?_;refine XQ (Qb ?_);simp-dsimp only[go_sem,e4];exact⟨k+1-(i+1),oG,i+1,st',oG,rfl,hj',rfl⟩;refine Qr ?_;refine Qq ?_;exact hx;refine Qr ?_;have:i=k+1:=(by simp at h;omega);subst this;simp only[XG,D4,US];exact hj
theorem Dv (k p:Int)(st:Qd):PR 306 [.sc (.int .i64 k),.sc (.int .i64 p)] st (.sc (.bool (decide (0<=k)&&decide (k<=10)&&Qt p))):=by
 refine Ql none Tryz.func306 rfl fun E=>Qb ?_;by_cases h0:0<=k;by_cases h1:k<=10;simp-dsimp only[go_sem,ge_iff_le,h0,h1,decide_true];refine(JY p st).Q ?_;simp[h0,h1];simp-dsimp only[go_sem,ge_iff_le,h0,h1,decide_true,decide_false];simp[h1];simp-dsimp only[go_sem,ge_iff_le,h0,decide_false];simp[h0]
theorem qP (a:Li)(k:Nat)(st:Qd)(hk:k<=10)(la:a.length<=1000000)(wa: ∀x∈a,wI x):PR 307 [.sl .no (Qk a),.sc (.int .i64 k)] st (.sc (.bool (decide (k<a.length)&&(a.take (k+1)).all Qp))):=by
 refine Qj Tryz.func307 fun E=> ?_;refine ck ?_ ?_<;>intro h;have: ¬k<a.length:=(by simp at h;omega);refine Qr ?_;simp[this];have hka:k<a.length:=(by simp at h;omega);have wk:=J2u k oG;simp-dsimp only[go_sem,wk];have lt':(a.take (k+1)).length=k+1:=(by simp;omega);refine⟨oG,?_⟩;refine Q3 (rF 14++ [true,true,true]) 0 0 (fun n s=> ∃i,n=k+1-i/\i<=k+1/\(∀j,j<i->Qp (a.getD j default)=true)/\
  s=⟨jk 14++ [.sl .no (Qk (a.take (k+1))),.sc (.int .i64 ((k+1:Nat):Int)),.sc (.int .i64 (i:Nat))]++jk 7,[],[],st⟩) (k+1) ?_ ?_
 simp-dsimp only[go_sem,lt'];exact⟨0,oG,oG,fun j hj=>oG,rfl⟩;rintro n s ⟨i,rfl,hi,hr,rfl⟩;have hall:(a.take (k+1)).all Qp=true<-> ∀j,j<k+1->Qp (a.getD j default)=true:=by rw[q_d];constructor;intro h j hj;have:=h ((a.take (k+1)).getD j default) (Q8 _ _ _ oG);rwa [WS _ _ _ _ hj] at this;intro h x hx;obtain⟨j,hj,rfl⟩:=List.getElem_of_mem hx;have:=h j oG;rw[List.getElem_take];rwa [q_a,BB oG] at this
 simp-dsimp only[go_sem,lt'];refine ck ?_ ?_<;>intro h';have hlt:i<k+1:=(by have:=q_b h';omega);have e1:(Qk (a.take (k+1))).getD i .junk= .agg (Qn (a.getD i default)):=(by rw[Zt _ i oG,WS _ _ _ _ hlt]);have e3:=J2u i oG;have hm:a.getD i default∈a:=(by rw[q_a,BB oG];simp);simp-dsimp only[go_sem,e1,lt'];refine⟨oG,?_⟩;refine(JL (a.getD i default) st (wa _ hm)).Q ?_;refine ck ?_ ?_<;>intro h2;have hf:Qp (a.getD i default)=false:=(by simpa using h2);refine Qr ?_;have:(a.take (k+1)).all Qp=false:=by
  cases hb:(a.take (k+1)).all Qp with
  | false=>rfl
  | true=>have:=hall.1 hb i hlt;rw[hf] at this;cases this
 simp[this];have ht:Qp (a.getD i default)=true:=(by simpa using h2);simp-dsimp only[go_sem,e3];exact⟨k+1-(i+1),oG,i+1,rfl,oG,fun j hj=>(by by_cases e:j=i;rw[e];exact ht;exact hr j oG),rfl⟩;have:i=k+1:=(by have:=q_c h';omega);subst this;refine Qr ?_;refine Qq ?_;simp[hka,hall.2 hr]
def V2 (p:Int):List (Ivl×Ivl)->Bool->Ivl->Ivl×Int
 | [],_,s=>(s,0)
 | x::l,sm,s=>
  if (opI 2 x.1 x.2 p).2=0 then
   if sm=true then
    if (opI 0 s (opI 2 x.1 x.2 p).1 p).2=0 then V2 p l true (opI 0 s (opI 2 x.1 x.2 p).1 p).1 else(default,(opI 0 s (opI 2 x.1 x.2 p).1 p).2)
   else V2 p l true (opI 2 x.1 x.2 p).1
  else(default,(opI 2 x.1 x.2 p).2)
theorem xw (p:Int)(x:Ivl×Ivl)(l:List (Ivl×Ivl))(sm:Bool)(s:Ivl):V2 p (x::l) sm s=
 if (opI 2 x.1 x.2 p).2=0 then
  if sm=true then
   if (opI 0 s (opI 2 x.1 x.2 p).1 p).2=0 then V2 p l true (opI 0 s (opI 2 x.1 x.2 p).1 p).1 else(default,(opI 0 s (opI 2 x.1 x.2 p).1 p).2)
  else V2 p l true (opI 2 x.1 x.2 p).1
 else(default,(opI 2 x.1 x.2 p).2):=rfl
def VH (a b:List Ivl)(k:Nat):List (Ivl×Ivl):=(List.range (k+1)).map fun i=>(a.getD i default,b.getD (k-i) default)
def Zp (a:List Ivl)(k:Nat):Bool:=decide (k<a.length)&&(a.take (k+1)).all Qp
def XV (a b:List Ivl)(k:Nat)(p:Int):Ivl×Int:=if Qt p=true/\Zp a k=true/\Zp b k=true then V2 p (VH a b k) false default else(default,1)
theorem X1b (a b:Li)(k i:Nat)(h:i<k+1):(VH a b k).drop i=(a.getD i default,b.getD (k-i) default)::(VH a b k).drop (i+1):=by rw[FC (by simpa[VH] using h)];simp[VH]
def He (a b:List Ivl)(k:Nat):List (List PV):=(List.range (k+1)).map fun i=> [.agg (Qn (a.getD i default)),.agg (Qn (b.getD (k-i) default))]
theorem Ir (a b:Li)(k:Nat):(He a b k).length=k+1:=by simp[He]
theorem kC (a b:Li)(k i:Nat)(h:i<k+1):(He a b k).getD i []= [.agg (Qn (a.getD i default)),.agg (Qn (b.getD (k-i) default))]:=by simp[He,q_a,h]
theorem JA (st X:Qd)(i:Nat):(st++X).getD (st.length+i) []=X.getD i []:=by rw[q_a,CA oG,DY,<-q_a]
theorem K8 (st X:Qd):(st++X).getD st.length []=X.getD 0 []:=JA st X 0
theorem WX (st X:Qd)(i:Nat)(v:Lp):(st++X).set (st.length+i) v=st++X.set i v:=by simp[List.set_append]
theorem Y3 (st X:Qd)(v:Lp):(st++X).set st.length v=st++X.set 0 v:=WX st X 0 v
theorem JD :wI (default:Ivl):=by refine⟨?_,?_⟩<;>(show wN ⟨false,0,[]⟩;simp[wN])
theorem Z0a (n:Nat)(l:Lu):Low n (.sl .no (Qf l)):=vu fun e he c hc=>by obtain⟨x,_,rfl⟩:=CF.1 he;simp only[PV.cells,C0] at hc;subst hc;exact UQ _ _
theorem W1s (n:Nat)(x:Ivl):Low n (.agg (Qn x)):=Z0c fun c hc=>by simp only[Qn,Qg,EH,CQ,D8,List.not_mem_nil,or_false] at hc;rcases hc with rfl | rfl | rfl | rfl | rfl | rfl<;>first | exact UQ _ _ | exact Z0a _ _
theorem Vx (n:Nat)(x:Ivl)(e:Value):yC n (.tup [.agg (Qn x),.sc e]):=vt fun c hc=>by simp only[D8,List.not_mem_nil,or_false] at hc;rcases hc with rfl | rfl;exact W1s n x;exact UQ _ _
def W0e (a b:List Ivl)(k:Nat)(p:Int)(st:Qd)(i:Nat)(st':Qd):Prop:= ∃sm s,wI s/\V2 p ((VH a b k).drop i) sm s=V2 p (VH a b k) false default/\st'=st++ [[.sc (.int .i64 p)],Qn default,[.sc (.int .i64 0)],Qn s,[.sc (.bool sm)],[.sl .no (Qk a)],[.sl .no (Qk b)],[.sc (.int .i64 k)]]
def W0d (a b:List Ivl)(k:Nat)(p:Int)(st:Qd)(c:Code)(st':Qd):Prop:=c= .ret/\ ∃e X,V2 p (VH a b k) false default=(default,e)/\st'=st++([.sc (.int .i64 p)]::Qn default:: [.sc (.int .i64 e)]::X)
theorem v1c (a b:Li)(k:Nat)(p:Int)(st:Qd)(hk:k<=10)(la:a.length<=1000000)(lb:b.length<=1000000)(wa: ∀x∈a,wI x)(wb: ∀x∈b,wI x):
 PR 372 [.sl .no (Qk a),.sl .no (Qk b),.sc (.int .i64 k),.sc (.int .i64 p)] st (.tup [.agg (Qn (XV a b k p).1),.sc (.int .i64 (XV a b k p).2)]):=by
 refine zt (Q:=fun r _=>r= .tup [.agg (Qn (XV a b k p).1),.sc (.int .i64 (XV a b k p).2)]) ?_;have v1:decide (0<=(k:Int))=true:=(by simp);have v2:decide ((k:Int)<=10)=true:=(by simp;omega);refine Rk none Tryz.func372 rfl fun E=> ?_;refine WH (Qb ?_);refine Qr ?_;refine WH (Qb ?_);refine Qr ?_;refine(Dv k p st).q ?_;rw[v1,v2];cases hp:Qt p with
 | false=>
  simp-dsimp only[go_sem,Bool.and_self,Bool.and_false,FF];have e:XV a b k p=(default,1):=(by unfold XV;rw[hp];simp);rw[e];exact⟨⟨[],by simp⟩,Vx _ default _,rfl⟩
 | true=>
  simp-dsimp only[go_sem,Bool.and_self];refine(qP a k st hk la wa).q ?_;rw[show(decide (k<a.length)&&(a.take (k+1)).all Qp)=Zp a k from rfl];cases ha:Zp a k with
  | false=>
   refine Qr ?_;have e:XV a b k p=(default,1):=(by unfold XV;rw[ha];simp);rw[e];exact⟨⟨[],by simp⟩,Vx _ default _,rfl⟩
  | true=>
   refine Qr ?_;refine(qP b k st hk lb wb).q ?_;rw[show(decide (k<b.length)&&(b.take (k+1)).all Qp)=Zp b k from rfl];cases hb:Zp b k with
   | false=>
    refine Qr ?_;have e:XV a b k p=(default,1):=(by unfold XV;rw[hb];simp);rw[e];exact⟨⟨[],by simp⟩,Vx _ default _,rfl⟩
   | true=>
    refine Qr ?_;have e:XV a b k p=V2 p (VH a b k) false default:=(by unfold XV;rw[hp,ha,hb];simp);rw[e];refine WH (Qb ?_);refine Qr ?_;refine WH (Qb ?_);refine Qr ?_;refine Ku (qo 1) (Ku (qo 3) ?_);refine Qr ?_;refine Ku (V6 0 (by simp[go_sem]) (by simp)) ?_;refine Qr ?_;refine Ku (V6 1 (by simp[go_sem]) (by simp)) ?_;refine Qr ?_;refine Ku (V6 2 (by simp[go_sem]) (by simp)) ?_;refine Qr ?_;refine Ku (V6 3 (by simp[go_sem]) (by simp)) ?_;refine Qr ?_;refine Ku (V6 4 (by simp[go_sem]) (by simp)) ?_;refine Qr ?_;refine Oh (WH (Qb ?_));refine Qr ?_;refine(k0k a b k _).w ?_;rintro st' rfl;refine Qr ?_;refine Oj ?_;refine Ku (G0 (bs:= (rF 7++ [true,true,true,true,true]++rF 24++ [true])) (nL:=0) (nT:=0) (by simp[go_sem])) ?_;simp-dsimp only[go_sem,BP,EH,CQ,DK,Nat.reduceAdd];obtain⟨hka,_⟩:=CR.1 ha;obtain⟨hkb,_⟩:=CR.1 hb;have hka:=q_b hka;have hkb:=q_b hkb;refine Oi rfl rfl rfl (by simp only[go_sem]) (He a b k) (fun i hi=> ?_)
     (W0e a b k p st)
     (W0d a b k p st) ?_ ?_ ?_ ?_ ?_
    rw[kC _ _ _ _ (by rw[Ir] at hi;exact hi)];rfl;exact⟨false,default,JD,rfl,rfl⟩;intro l r w g hy;rw[Ir];refine Z1z a b k (st.length+5) (st.length+6) (st.length+7) l r w g (W0e a b k p st) (W0d a b k p st) hk hka hkb la lb (fun i st' ⟨sm,s,_,_,e⟩=> ?_) (fun i hi st' hj=> ?_) _ ⟨false,default,JD,rfl,rfl⟩;subst e;simp only[JA];exact⟨rfl,rfl,rfl⟩;have:=hy i (by rw[Ir];exact hi) st' hj;rw[kC _ _ _ _ hi] at this;exact this;rintro i st' hi ⟨sm,s,ws,hc,rfl⟩ E;have hi:i<k+1:=(by rw[Ir] at hi;exact hi);rw[kC _ _ _ _ hi];refine Qb ?_;simp-dsimp only[go_sem,List.zip_cons_cons,List.zip_nil_right,List.foldl_cons,List.foldl_nil];intro E;refine Qb ?_;simp-dsimp only[go_sem,JA,K8];have m1:a.getD i default∈a:=Q8 _ _ _ oG;have m2:b.getD (k-i) default∈b:=Q8 _ _ _ oG;rw[X1b a b k i hi] at hc;rw[xw] at hc;refine(UR _ _ p _ (wa _ m1) (wb _ m2)).q ?_;have wz:=HI 2 (a.getD i default) (b.getD (k-i) default) p;simp only at hc;generalize opI 2 (a.getD i default) (b.getD (k-i) default) p=z at hc wz⊢;by_cases hz:z.2=0;have b0:(z.2==0)=true:=(by simp[hz]);have b1:(z.2 !=0)=false:=(by simp[hz]);rw[BC hz] at hc;cases sm with
    | false=>
     simp-dsimp only[go_sem,JA,K8,WX,Y3,b0,b1];rw[BA (by simp)] at hc;exact⟨true,z.1,wz,hc,rfl⟩
    | true=>
     simp-dsimp only[go_sem,JA,K8,WX,Y3,b0,b1];refine(YU _ _ p _ ws wz).q ?_;have wu:=HI 0 s z.1 p;rw[BC rfl] at hc;generalize opI 0 s z.1 p=u at hc wu⊢;by_cases hu:u.2=0;have c1:(u.2 !=0)=false:=(by simp[hu]);simp-dsimp only[go_sem,JA,K8,WX,Y3,c1];rw[BC hu] at hc;exact⟨true,u.1,wu,hc,rfl⟩;have c1:(u.2 !=0)=true:=(by simp[hu]);simp-dsimp only[go_sem,JA,K8,WX,Y3,c1];rw[BA hu] at hc;exact⟨rfl,u.2,_,hc.symm,rfl⟩
    have b0:(z.2==0)=false:=(by simp[hz]);have b1:(z.2 !=0)=true:=(by simp[hz]);rw[BA hz] at hc;simp-dsimp only[go_sem,JA,K8,WX,Y3,b0,b1];exact⟨rfl,z.2,_,hc.symm,rfl⟩;rintro st' ⟨sm,s,ws,hc,rfl⟩;show∀E',PWP _ E' _ _ _;intro E';refine Qb ?_;simp-dsimp only[go_sem,JA,K8,WX,Y3];have e0:(VH a b k).drop (He a b k).length= []:=(by rw[Ir];simp[VH]);rw[e0] at hc;rw[<-hc];exact⟨⟨_,rfl⟩,Vx _ s _,rfl⟩;rintro c st' ⟨rfl,e,X,hc,rfl⟩;simp-dsimp only[go_sem,v7,XG,ZI,Gr,JA,K8];rw[hc];exact⟨⟨_,rfl⟩,Vx _ default _,rfl⟩
def ZG (f:List (List Mn))(x a:List Ivl)(h:Nm)(p:Int):List Ivl×Int:=
 if Xh f=true/\rightB x=true/\rightB a=true/\x.length=f.length/\a.length=f.length/\Qh h=true/\ ¬QJ (XD h)<=0/\Qt p=true then
  if (Xa f a p).2=0 then
   if (XX ⟨default,h⟩ (Xa f a p).1 p).2=0 then opB 0 x (XX ⟨default,h⟩ (Xa f a p).1 p).1 p else([],(XX ⟨default,h⟩ (Xa f a p).1 p).2)
  else([],(Xa f a p).2)
 else([],1)
theorem Rj (f:Lk)(x a:Li)(h:Nm)(p:Int)(st:Qd)(hf:wF f)(hx:wB x)(ha:wB a)(hh:wN h):
 PR 110 [.sl .no (QV f),.sl .no (Qk x),.sl .no (Qk a),.agg (Qg h),.sc (.int .i64 p)] st (.tup [.sl .no (Qk (ZG f x a h p).1),.sc (.int .i64 (ZG f x a h p).2)]):=by
 refine Qj Tryz.func110 fun E=> ?_;refine(ID f st hf).q ?_;cases h1:Xh f with
 | false=>simp-dsimp only[go_sem];simp[ZG,h1,Qk]
 | true=>
 refine Qr ?_;refine(K7 x st hx).q ?_;cases h2:rightB x with
 | false=>simp-dsimp only[go_sem];simp[ZG,h2,Qk]
 | true=>
 refine Qr ?_;refine(K7 a st ha).q ?_;cases h3:rightB a with
 | false=>simp-dsimp only[go_sem];simp[ZG,h3,Qk]
 | true=>
 have bne: ∀ {m n:Nat},m≠n->((m:Int) !=(n:Int))=true:=fun h=>by rw[BV];omega
 have beq: ∀ {m n:Nat},m=n->((m:Int) !=(n:Int))=false:=fun h=>by subst h;simp
 by_cases h4:x.length=f.length;rotate_left;simp-dsimp only[go_sem,bne h4];simp[ZG,h4,Qk];by_cases h5:a.length=f.length;rotate_left;simp-dsimp only[go_sem,beq h4,bne h5];simp[ZG,h5,Qk];simp-dsimp only[go_sem,beq h4,beq h5];refine(XE h st (by have:=hh;unfold wN at this;omega)).q ?_;cases h6:Qh h with
 | false=>simp-dsimp only[go_sem];simp[ZG,h6,Qk]
 | true=>
 refine Qr ?_;refine(Iu h st (by have:=hh;unfold wN at this;omega)).q ?_;by_cases h7:QJ (XD h)<=0;simp-dsimp only[go_sem,q_h h7];simp[ZG,h7,Qk];simp-dsimp only[go_sem,q_g h7];refine(JY p st).q ?_;cases h8:Qt p with
 | false=>simp-dsimp only[go_sem];simp[ZG,h8,Qk]
 | true=>
 refine Qr ?_;have hall:ZG f x a h p=if (Xa f a p).2=0 then
  if (XX ⟨default,h⟩ (Xa f a p).1 p).2=0 then opB 0 x (XX ⟨default,h⟩ (Xa f a p).1 p).1 p else([],(XX ⟨default,h⟩ (Xa f a p).1 p).2)
  else([],(Xa f a p).2):=by unfold ZG;rw[BC ⟨h1,h2,h3,h4,h5,h6,h7,h8⟩]
 rw[hall];refine(q1t f a p st hf ha).q ?_;have w1:=w0t f a p hf.1;generalize Xa f a p=z at w1⊢;by_cases hz:z.2=0;rotate_left;have e:(z.2 !=0)=true:=(by simp[hz]);simp-dsimp only[go_sem,e];simp[hz,Qk];have e:(z.2 !=0)=false:=(by simp[hz]);simp-dsimp only[go_sem,e];rw[BC hz];refine(y1o ⟨default,h⟩ z.1 p st ⟨by show wN ⟨false,0,[]⟩;simp[wN],hh⟩ w1).q ?_;have w2:=H0a ⟨default,h⟩ z.1 p w1;generalize XX ⟨default,h⟩ z.1 p=u at w2⊢;by_cases hu:u.2=0;rotate_left;have e:(u.2 !=0)=true:=(by simp[hu]);simp-dsimp only[go_sem,e];simp[hu,Qk];have e:(u.2 !=0)=false:=(by simp[hu]);simp-dsimp only[go_sem,e];rw[BC hu];refine(yu x u.1 p st hx w2).Q0
theorem kW (f:Lk)(x a:Li)(h:Nm)(p:Int)(hx:wB x):wB (ZG f x a h p).1:=by unfold ZG;split;split;split;exact H0b 0 x _ p hx;exact JT;exact JT;exact JT
def HW (f:List (List Mn))(x a:List Ivl)(h:Nm)(p:Int):Bool:=decide ((ZG f x a h p).2=0)&&inB (ZG f x a h p).1 a
theorem Z1r (f:Lk)(x a:Li)(h:Nm)(p:Int)(st:Qd)(hf:wF f)(hx:wB x)(ha:wB a)(hh:wN h):
 PR 44 [.sl .no (QV f),.sl .no (Qk x),.sl .no (Qk a),.agg (Qg h),.sc (.int .i64 p)] st (.sc (.bool (HW f x a h p))):=by
 refine Qj Tryz.func44 fun E=> ?_;refine(Rj f x a h p st hf hx ha hh).q ?_;have w:=kW f x a h p hx;unfold HW;generalize ZG f x a h p=z at w⊢;by_cases hz:z.2=0;have e:(z.2==0)=true:=(by simp[hz]);simp-dsimp only[go_sem,e];refine(Y0b z.1 a st w ha).Q ?_;simp[hz];have e:(z.2==0)=false:=(by simp[hz]);simp-dsimp only[go_sem,e];simp[hz]
def Wa (a b:List Ivl)(p:Int):List Ivl×Int:=if (Wm a b).2=0 then Ue (Wm a b).1 p else([],(Wm a b).2)
theorem Ri (a b:Li)(p:Int)(st:Qd)(ha:wB a)(hb:wB b):PR 253 [.sl .no (Qk a),.sl .no (Qk b),.sc (.int .i64 p)] st (.tup [.sl .no (Qk (Wa a b p).1),.sc (.int .i64 (Wa a b p).2)]):=by
 refine Qj Tryz.func253 fun E=> ?_;refine(y1w a b st ha hb).q ?_;have w:=yW ha hb;unfold Wa;generalize Wm a b=z at w⊢;by_cases hz:z.2=0;have e:(z.2 !=0)=false:=(by simp[hz]);simp-dsimp only[go_sem,e];refine(y1x z.1 p st w).Q ?_;rw[BC hz];have e:(z.2 !=0)=true:=(by simp[hz]);simp-dsimp only[go_sem,e];simp[hz,Qk]
theorem xX (a b:Li)(p:Int)(ha:wB a)(hb:wB b):wB (Wa a b p).1:=by unfold Wa;split;exact H0d _ _ (yW ha hb);exact JT
def Ws (f:List (List Mn))(x:List Ivl)(h:Nm)(p:Int):List PV:= [.sl .no (QV f),.sl .no (Qk x)]++Qg h++ [.sc (.int .i64 p)]
theorem k0p (f:Lk)(x a:Li)(h:Nm)(p:Int)(st:Qd)(hf:wF f)(hx:wB x)(ha:wB a)(hh:wN h):
 PR 252 [.agg (Ws f x h p),.sl .no (Qk a)] st (.tup [.sl .no (Qk (ZG f x a h p).1),.sc (.int .i64 (ZG f x a h p).2)]):=by
 refine Ql none Tryz.func252 rfl fun E=>Qb ?_;simp-dsimp only[go_sem,Ws,EH,CQ];refine(Rj f x a h p st hf hx ha hh).Q0
def JV (f:List (List Mn))(x:List Ivl)(h:Nm)(p:Int):Nat->Bool->List Ivl->List (List Ivl×List Ivl)
 | 0,_,_=> []
 | n+1,yl,a=>
  if (ZG f x a h p).2=0 then
   (if yl=true then [(a,(ZG f x a h p).1)] else [])++(if (Wa a (ZG f x a h p).1 p).2=0 then JV f x h p n true (Wa a (ZG f x a h p).1 p).1 else [])
  else []
theorem Bz (f:Lk)(x:Li)(h:Nm)(p:Int)(n:Nat)(yl:Bool)(a:Li):JV f x h p (n+1) yl a=
 if (ZG f x a h p).2=0 then
  (if yl=true then [(a,(ZG f x a h p).1)] else [])++(if (Wa a (ZG f x a h p).1 p).2=0 then JV f x h p n true (Wa a (ZG f x a h p).1 p).1 else [])
 else []:=rfl
theorem q0s (f:Lk)(x:Li)(h:Nm)(p:Int)(st:Qd):PCalls Tryz.prog 194 [.agg (Ws f x h p)] st (fun r st'=>r= .fn (.func 251) [] [.gp st.length 0]/\st'=st++ [Ws f x h p]):=by
 refine Ql none Tryz.func194 rfl fun E=>Qe (Qb ?_);simp-dsimp only[go_sem,Ws,EH,CQ];refine Qe (KF 0 (by simp[go_sem]) (by simp) (Qb ?_));refine Qr ?_;refine Qb ?_;exact QA
theorem q0t (f:Lk)(x:Li)(h:Nm)(p:Int)(ks l:Nat)(r:Loop)(w:Lw)(g:Gh)(J:Nat->Qd->Prop)(Jx:Code->Qd->Prop)(hf:wF f)(hx:wB x)(hh:wN h)
 (hJ: ∀i st,J i st->st.getD ks []=Ws f x h p)
 (hy: ∀i,i<(JV f x h p 9 false x).length-> ∀st,J i st->PYields Tryz.prog l r w g [.sl .no (Qk ((JV f x h p 9 false x).getD i default).1),.sl .no (Qk ((JV f x h p 9 false x).getD i default).2)] st (J (i+1)) Jx) (st:Qd) (h0:J 0 st):
 xP Tryz.prog 251 l r w g [.fn (.yield l) [] [],.gp ks 0] st (J (JV f x h p 9 false x).length) Jx:=by
 generalize hT:JV f x h p 9 false x=T at hy⊢;refine Rh Tryz.func251 rfl rfl fun E hrd hw hg hl=> ?_;subst hw hg;have q1:=hJ 0 st h0;refine J2 (XQ (Qb ?_));simp-dsimp only[go_sem,q1,Ws,EH,CQ];refine J2 (XQ (Qb ?_));refine Qr ?_;refine zm ?_;refine Ok [true,true,false,true,false,false,false,false,false,true] 0 0 (fun n s=> ∃i j a st,i<=9/\n=9-i/\wB a/\J j st/\j<=T.length/\T.drop j=JV f x h p (9-i) (decide (0<i)) a/\
  s=⟨[.fn (.yield l) [] [],.gp ks 0,.junk,.sl .no (Qk a),.junk,.junk,.junk,.junk,.junk,.sc (.int .i64 (i:Nat))]++jk 32,[],[],st⟩) 9 ?_ ?_
 refine Qr ?_;exact⟨0,0,x,st,oG,rfl,hx,h0,oG,hT.symm,rfl⟩;rintro n s ⟨i,j,a,st,hi,rfl,wa,hj,hjl,hd,rfl⟩;have q1:=hJ j st hj;refine J2 (XQ (Qb ?_));refine Qr ?_;refine J2 (XQ (Qb ?_));refine Qr ?_;have fin': ∀j,j<=T.length->T.drop j= []->j=T.length:=fun j hjl h=>(by have:=B4 List.length h;simp at this;omega);have fin:=fin' j hjl;have e4:i<9->IntKind.i64.wrap ((i:Int)+1)=((i+1:Nat):Int):=fun h=>(by rw[Q4 _ oG oG];omega);refine ck ?_ ?_<;>intro h';have hlt:i<9:=(by simp at h';omega);refine Qr ?_;refine J2 (zm ?_);refine J2 (XQ (Qb ?_));refine Qr ?_;refine J2 (XQ (Qb ?_));simp-dsimp only[go_sem,q1,Ws,EH,CQ];refine(k0p f x a h p st hf hx wa hh).mono ?_;rintro r st ⟨rfl,rfl⟩;refine Qr ?_;have e9:9-i=(8-i)+1:=oG;have e4:=e4 hlt;have hi9:=hlt;rw[e9,Bz] at hd;have wb:=kW f x a h p hx;generalize ZG f x a h p=b at hd wb⊢;by_cases hb:b.2=0;have eb:(b.2 !=0)=false:=(by simp[hb]);rw[BC hb] at hd;by_cases h0i:0<i;have gi:decide ((i:Int)>0)=true:=(by simp;omega);rw[BC (by simpa using h0i)] at hd;have hlt:j<T.length:=EV fun hle=>(by rw[E7 hle] at hd;cases hd);rw[FC hlt] at hd;simp only[EH,CQ,FP] at hd;obtain⟨hd1,hd2⟩:=hd;have hget:T.getD j default=(a,b.1):=(by rw[q_a,BB hlt];exact hd1);have hyj:=hy j hlt st hj;rw[hget] at hyj;refine J2 (J2 (Q1h hl hrd 9 ?_));simp-dsimp only[go_sem,eb,gi];refine yH hyj (fun st' hj'=> ?_) (fun c st' hx=> ?_);refine Qr ?_;refine XQ (Qb ?_);refine Qr ?_;refine J2 (XQ (Qb ?_));simp-dsimp only[go_sem,hJ _ _ hj',Ws,EH,CQ];refine(Ri a b.1 p _ wa wb).mono ?_;rintro r st2 ⟨rfl,rfl⟩;have wc:=xX a b.1 p wa wb;generalize Wa a b.1 p=c at hd2 wc⊢;by_cases hc:c.2=0;have ec:(c.2 !=0)=false:=(by simp[hc]);rw[BC hc] at hd2;refine Qr ?_;refine XQ (Qb ?_);simp-dsimp only[go_sem,ec];refine XQ (Qb ?_);simp-dsimp only[go_sem,e4];exact⟨9-(i+1),oG,i+1,(j+1),c.1,_,oG,rfl,wc,hj',oG,by rw[hd2,show 8-i=9-(i+1) from oG];simp,rfl⟩;have ec:(c.2 !=0)=true:=(by simp[hc]);rw[BA hc] at hd2;refine Qr ?_;refine XQ (Qb ?_);simp-dsimp only[go_sem,ec];simp only[XG,US,ZI];rw[<-fin' _ oG hd2];exact hj';refine Qr ?_;refine Qq ?_;exact hx;have gi:decide ((i:Int)>0)=false:=(by simp;omega);have hi0:decide (0<i)=false:=(by simp;omega);refine J2 (XQ (Qb ?_));simp-dsimp only[go_sem,eb,gi];simp only[hi0,B3,DT,CQ] at hd;refine J2 (XQ (Qb ?_));simp-dsimp only[go_sem,hJ _ _ hj,Ws,EH,CQ];refine(Ri a b.1 p _ wa wb).mono ?_;rintro r st2 ⟨rfl,rfl⟩;have wc:=xX a b.1 p wa wb;generalize Wa a b.1 p=c at hd wc⊢;by_cases hc:c.2=0;have ec:(c.2 !=0)=false:=(by simp[hc]);rw[BC hc] at hd;refine Qr ?_;refine XQ (Qb ?_);simp-dsimp only[go_sem,ec];refine XQ (Qb ?_);simp-dsimp only[go_sem,e4];exact⟨9-(i+1),oG,i+1,j,c.1,_,oG,rfl,wc,hj,hjl,by rw[hd,show 8-i=9-(i+1) from oG];simp,rfl⟩;have ec:(c.2 !=0)=true:=(by simp[hc]);rw[BA hc] at hd;refine Qr ?_;refine XQ (Qb ?_);simp-dsimp only[go_sem,ec];simp only[XG,US,ZI];rw[<-fin' _ hjl hd];exact hj;have eb:(b.2 !=0)=true:=(by simp[hb]);rw[BA hb] at hd;refine J2 (XQ (Qb ?_));simp-dsimp only[go_sem,eb];simp only[XG,US,ZI];rw[<-fin hd];exact hj;refine Qr ?_;have:i=9:=(by simp at h';omega);subst this;simp only[XG,D4,US];rw[<-fin (by rw[hd];rfl)];exact hj
def Gq (f:List (List Mn))(x:List Ivl)(h:Nm)(p:Int):List (List Ivl×List Ivl)->List Ivl×Bool
 | []=>([],false)
 | e::l=>if inB e.2 e.1=true then(if HW f x e.2 h p=true then e.2 else e.1,true) else Gq f x h p l
theorem W0z (f:Lk)(x:Li)(h:Nm)(p:Int)(e:List Ivl×List Ivl)(l:List (List Ivl×List Ivl)):Gq f x h p (e::l)=if inB e.2 e.1=true then(if HW f x e.2 h p=true then e.2 else e.1,true) else Gq f x h p l:=rfl
def VV (f:List (List Mn))(x:List Ivl)(h:Nm)(p:Int):List Ivl×Bool:=Gq f x h p (JV f x h p 9 false x)
theorem jy (f:Lk)(x:Li)(h:Nm)(p:Int)(hx:wB x): ∀(n:Nat) (yl:Bool) (a:Li),wB a-> ∀e∈JV f x h p n yl a,wB e.1/\wB e.2
 | 0,_,_,_,e,he=>by cases he
 | n+1,yl,a,ha,e,he=>by rw[Bz] at he;have hb:=kW f x a h p hx;split at he;rcases DN.1 he with he | he;split at he;have:e=(a,(ZG f x a h p).1):=(by simpa using he);rw[this];exact⟨ha,hb⟩;cases he;split at he;exact jy f x h p hx n true _ (xX a _ p ha hb) e he;cases he;cases he
def Y0a (f:List (List Mn))(x:List Ivl)(h:Nm)(p:Int)(st:Qd)(i:Nat)(st':Qd):Prop:=Gq f x h p ((JV f x h p 9 false x).drop i)=VV f x h p/\
 st'=st++ [[.sl .no (QV f)],[.sl .no (Qk x)],Qg h,[.sc (.int .i64 p)],[.sl .no (Qk [])],[.sc (.bool false)],Ws f x h p]
def W0v (f:List (List Mn))(x:List Ivl)(h:Nm)(p:Int)(st:Qd)(c:Code)(st':Qd):Prop:=c= .exit 0/\ ∃o X,VV f x h p=(o,true)/\
 st'=st++([.sl .no (QV f)]:: [.sl .no (Qk x)]::Qg h:: [.sc (.int .i64 p)]:: [.sl .no (Qk o)]:: [.sc (.bool true)]::X)
def HS (l:List (List Ivl×List Ivl)):List (List PV):=l.map fun e=> [.sl .no (Qk e.1),.sl .no (Qk e.2)]
theorem HR (l:List (List Ivl×List Ivl)):(HS l).length=l.length:=by simp[HS]
theorem jz (l:List (List Ivl×List Ivl))(i:Nat)(h:i<l.length):(HS l).getD i []= [.sl .no (Qk (l.getD i default).1),.sl .no (Qk (l.getD i default).2)]:=by simp[HS,q_a,h]
theorem Z0d (n:Nat)(l:Li)(v:Value):yC n (.tup [.sl .no (Qk l),.sc v]):=vt fun c hc=>by
 simp only[D8,List.not_mem_nil,or_false] at hc;rcases hc with rfl | rfl;refine vu fun e he c hc=> ?_;obtain⟨x,_,rfl⟩:=CF.1 he;have hc:c∈Qn x:=hc;simp only[Qn,Qg,EH,CQ,D8,List.not_mem_nil,or_false] at hc;rcases hc with rfl | rfl | rfl | rfl | rfl | rfl<;>first | exact UQ _ _ | exact Z0a _ _
 exact UQ _ _
theorem Z1s (f:Lk)(x:Li)(h:Nm)(p:Int)(st:Qd)(hf:wF f)(hx:wB x)(hh:wN h):
 PR 134 [.sl .no (QV f),.sl .no (Qk x),.agg (Qg h),.sc (.int .i64 p)] st (.tup [.sl .no (Qk (VV f x h p).1),.sc (.bool (VV f x h p).2)]):=by
 refine zt (Q:=fun r _=>r= .tup [.sl .no (Qk (VV f x h p).1),.sc (.bool (VV f x h p).2)]) ?_;refine Rk none Tryz.func134 rfl fun E=> ?_;refine WH (Qb ?_);refine Qr ?_;refine Q1g ?_;refine WH (Qb ?_);refine Qr ?_;refine WH (Qb ?_);refine Qr ?_;refine WH (Qb ?_);refine Qr ?_;refine Ku (qo 4) ?_;refine Qr ?_;refine Ku (V6 0 (by simp[go_sem]) (by simp)) ?_;refine Qr ?_;refine Ku (V6 1 (by simp[go_sem]) (by simp)) ?_;refine Qr ?_;refine Ku (V6 2 (by simp[go_sem]) (by simp)) ?_;refine Qr ?_;refine Ku (V6 3 (by simp[go_sem]) (by simp)) ?_;refine Qr ?_;refine Ku (V6 4 (by simp[go_sem]) (by simp)) ?_;refine Qr ?_;refine Ku (V6 5 (by simp[go_sem]) (by simp)) ?_;refine Qr ?_;refine Oh (WH (Qb ?_));simp-dsimp only[go_sem,BP,EH,CQ,DK,Nat.reduceAdd,JA,K8];refine(q0s f x h p _).w ?_;rintro st' rfl;refine Qr ?_;refine Oj ?_;refine Ku (G0 (bs:= ([false,false,false,false,true,true,true,true,false,false,true,true]++rF 7++ [true])) (nL:=0) (nT:=0) (by simp[go_sem])) ?_;simp-dsimp only[go_sem,BP,EH,CQ,DK,Nat.reduceAdd];refine Oi rfl rfl rfl (by simp only[go_sem]) (HS (JV f x h p 9 false x)) (fun i hi=> ?_) (Y0a f x h p st) (W0v f x h p st) ?_ ?_ ?_ ?_ ?_;rw[jz _ _ (by rw[HR] at hi;exact hi)];rfl;exact⟨rfl,rfl⟩;intro l r w g hy;rw[HR];refine q0t f x h p (st.length+6) l r w g (Y0a f x h p st) (W0v f x h p st) hf hx hh (fun i st' ⟨_,e⟩=> ?_) (fun i hi st' hj=> ?_) _ ⟨rfl,rfl⟩;subst e;simp only[JA];rfl;have:=hy i (by rw[HR];exact hi) st' hj;rw[jz _ _ hi] at this;exact this;rintro i st' hi ⟨hc,rfl⟩ E;have hi:i<(JV f x h p 9 false x).length:=(by rw[HR] at hi;exact hi);rw[jz _ _ hi];have hw:=jy f x h p hx 9 false x hx _ (Q8 _ i default hi);have hc:Gq f x h p ((JV f x h p 9 false x).getD i default::(JV f x h p 9 false x).drop (i+1))=VV f x h p:=by rw[<-hc,FC hi,q_a,BB hi];rfl
 rw[W0z] at hc;generalize (JV f x h p 9 false x).getD i default=e at hw hc⊢;obtain⟨wa,wb⟩:=hw;refine Qb ?_;simp-dsimp only[go_sem,List.zip_cons_cons,List.zip_nil_right,List.foldl_cons,List.foldl_nil];intro E;refine Qb ?_;simp-dsimp only[go_sem,JA,K8];refine(Y0b e.2 e.1 _ wb wa).q ?_;cases hin:inB e.2 e.1 with
 | false=>
  rw[hin,BA (by simp)] at hc;refine Qr ?_;exact⟨hc,rfl⟩
 | true=>
  rw[hin,BC rfl] at hc;simp-dsimp only[go_sem,JA,K8,WX,Y3];refine(Z1r f x e.2 h p _ hf hx wb hh).q ?_;cases hs:HW f x e.2 h p with
  | false=>
   rw[hs,BA (by simp)] at hc;simp-dsimp only[go_sem,JA,K8,WX,Y3];exact⟨rfl,e.1,_,hc.symm,rfl⟩
  | true=>
   rw[hs,BC rfl] at hc;simp-dsimp only[go_sem,JA,K8,WX,Y3];exact⟨rfl,e.2,_,hc.symm,rfl⟩
 rintro st' ⟨hc,rfl⟩;show∀E',PWP _ E' _ _ _;intro E';refine Qe (Q5 36 (Qi [0,1,2,3] .done) ?_);simp-dsimp only[go_sem,JA,K8];refine Qq ?_;rw[HR,FK] at hc;rw[<-hc];exact⟨⟨_,rfl⟩,Z0d _ [] _,rfl⟩;rintro c st' ⟨rfl,o,X,hc,rfl⟩;simp-dsimp only[go_sem,v7,XG,ZI,D4];intro E';refine Qe (Q5 36 (Qi [0,1,2,3] .done) ?_);simp-dsimp only[go_sem,JA,K8];refine Qq ?_;rw[hc];exact⟨⟨_,rfl⟩,Z0d _ o _,rfl⟩
theorem W0y (f:Lk)(x:Li)(h:Nm)(p:Int): ∀(l:List (List Ivl×List Ivl)),(∀e∈l,wB e.1/\wB e.2)->wB (Gq f x h p l).1
 | [],_=>JT
 | e::l,hl=>by rw[W0z];split;split;exact(hl e (by simp)).2;exact(hl e (by simp)).1;exact W0y f x h p l fun e he=>hl e (by simp[he])
theorem y1s (f:Lk)(x:Li)(h:Nm)(p:Int)(hx:wB x):wB (VV f x h p).1:=W0y f x h p _ (jy f x h p hx 9 false x hx)
theorem k0r {x:Nm}{k:Nat}(h:(Z5 x (-(k:Int))).2=0):Qh x=true/\qN (Z5 x (-(k:Int))).1*p2 k=qN x:=by
 unfold Z5 at h⊢;split at h;rename_i hr;rw[BC hr];refine⟨hr,?_⟩;split at h;rename_i hw;rw[BC hw];have h0:qN x=0:=Nz (by rw[hw];rfl);show qN x*p2 k=qN x;rw[h0,Rat.zero_mul];rename_i hw;rw[BA hw];split at h;exact absurd h (by decide);rename_i hk;rw[BA hk];have hc:QI (⟨x.neg,Qc x.w,x.exp+ -(k:Int)⟩:Vl):=by rcases Js hr with h1 | h1;exact .inl h1;exact absurd ((KO hr).1 (show Qc x.w=0 from B4 Vl.m h1)) hw
 rw[(WJ hc h).2];unfold qV qN qM;show((Z0 ⟨x.neg,Qc x.w,x.exp+ -(k:Int)⟩:Int):Rat)*p2 (x.exp+ -(k:Int))*p2 k=((ZQ x:Int):Rat)*p2 x.exp;rw[Rat.mul_assoc,<-Is];congr 2;omega;exact absurd h (by decide)
theorem Su {k:Nat}{a b:Li}{p:Int}(h:(opB k a b p).2=0):(rightB a=true/\rightB b=true/\a.length=b.length/\Qt p=true)/\(opB k a b p).1.length=a.length/\
 (∀j,j<a.length->(opI k (a.getD j default) (b.getD j default) p).2=0)/\ ∀j,j<a.length->(opB k a b p).1.getD j default=(opI k (a.getD j default) (b.getD j default) p).1:=by
 unfold opB at h⊢;by_cases c:rightB a=true/\rightB b=true/\a.length=b.length/\Qt p=true;rw[BC c,Gc] at h;rw[BC c,Gc];exact⟨c,KA h⟩;rw[BA c] at h;exact absurd h (by decide)
theorem z0b {x:Ivl}{b:Li}{p:Int}(h:(XX x b p).2=0):(rightB b=true/\Qp x=true/\Qt p=true)/\(XX x b p).1.length=b.length/\
 (∀j,j<b.length->(opI 2 x (b.getD j default) p).2=0)/\ ∀j,j<b.length->(XX x b p).1.getD j default=(opI 2 x (b.getD j default) p).1:=by
 unfold XX at h⊢;by_cases c:rightB b=true/\Qp x=true/\Qt p=true;rw[BC c,Gc] at h;rw[BC c,Gc];exact⟨c,KA h⟩;rw[BA c] at h;exact absurd h (by decide)
theorem k0f {h:Nm}(hr:Qh h=true):(¬QJ (XD h)<=0)<->0<qN h:=by unfold XD;rw[BC hr,<-GN];omega
structure NextOK (f:List (List Mn)) (x a:List Ivl) (h:Nm) (p:Int):Prop where
 rf:Xh f=true
 rx:rightB x=true
 ra:rightB a=true
 lx:x.length=f.length
 la:a.length=f.length
 rh:Qh h=true
 ph:0<qN h
 pp:Qt p=true
 e1:(Xa f a p).2=0
 e2:(XX ⟨default,h⟩ (Xa f a p).1 p).2=0
 e3:(opB 0 x (XX ⟨default,h⟩ (Xa f a p).1 p).1 p).2=0
theorem NextOK.val {f:Lk}{x a:Li}{h:Nm}{p:Int}(n:NextOK f x a h p):(ZG f x a h p).1=(opB 0 x (XX ⟨default,h⟩ (Xa f a p).1 p).1 p).1:=by unfold ZG;rw[BC ⟨n.rf,n.rx,n.ra,n.lx,n.la,n.rh,(k0f n.rh).2 n.ph,n.pp⟩,BC n.e1,BC n.e2]
theorem w0u {f:Lk}{a:Li}{p:Int}(h:(Xa f a p).2=0):(Xh f=true/\a.length=f.length)/\(Xa f a p).1.length=f.length/\ ∀j,j<f.length->(Xa f a p).1.getD j default=(X5 (f.getD j []) a p (f.getD j []).length).1/\(X5 (f.getD j []) a p (f.getD j []).length).2=0:=by unfold Xa at h⊢;by_cases c:Xh f=true/\a.length=f.length;rw[BC c] at h⊢;obtain⟨g1,g2,g3⟩:=KA h;refine⟨c,g1,fun j hj=> ?_⟩;have e:=g2 j hj;rw[g3 j hj];show(Ka (f.getD j []) a p).1=_/\_;replace e:(Ka (f.getD j []) a p).2=0:=e;unfold Ka at e⊢;split at e;rename_i d;rw[BC d];exact⟨rfl,e⟩;exact absurd e (by decide);rw[BA c] at h;exact absurd h (by decide)
structure NextAt (f:List (List Mn)) (x a:List Ivl) (h:Nm) (p:Int) (j:Nat):Prop where
 r0:(X5 (f.getD j []) a p (f.getD j []).length).2=0
 t0:(opI 2 ⟨default,h⟩ (X5 (f.getD j []) a p (f.getD j []).length).1 p).2=0
 s0:(opI 0 (x.getD j default) (opI 2 ⟨default,h⟩ (X5 (f.getD j []) a p (f.getD j []).length).1 p).1 p).2=0
 val:(ZG f x a h p).1.getD j default=(opI 0 (x.getD j default) (opI 2 ⟨default,h⟩ (X5 (f.getD j []) a p (f.getD j []).length).1 p).1 p).1
theorem NextOK.at {f:Lk}{x a:Li}{h:Nm}{p:Int}(n:NextOK f x a h p){j:Nat}(hj:j<f.length):NextAt f x a h p j:=by obtain⟨_,r1,r2⟩:=w0u n.e1;obtain⟨r3,r4⟩:=r2 j hj;obtain⟨_,t1,t2,t3⟩:=z0b n.e2;obtain⟨_,s1,s2,s3⟩:=Su n.e3;have t2:=t2 j oG;have t3:=t3 j oG;have s2:=s2 j (by rw[n.lx];exact hj);have s3:=s3 j (by rw[n.lx];exact hj);rw[r3] at t2 t3;rw[t3] at s2 s3;exact⟨r4,t2,s2,by rw[n.val];exact s3⟩
theorem zx {k:Nat}{a b:Li}{p:Int}(h:(opB k a b p).2=0):rightB (opB k a b p).1=true:=by obtain⟨c,l,_,v⟩:=Su h;have:=WB c.1;exact GV (fun j hj=>by rw[v j oG];exact XT _ _ _ _) oG oG
theorem NextOK.rightB {f:Lk}{x a:Li}{h:Nm}{p:Int}(n:NextOK f x a h p):Go.Pv.rightB (ZG f x a h p).1=true:=by rw[n.val];exact zx n.e3
theorem w0r {k:Nat}{a b:Nm}{p:Int}{up:Bool}(h:(Qs k a b p up).2=0):Qh a=true/\Qh b=true/\Qt p=true:=by unfold Qs at h;split at h;assumption;exact absurd h (by decide)
theorem UA {k:Nat}{a b:Nm}{p:Int}{up:Bool}(h:(Qs k a b p up).2=0):qN (Qs k a b p up).1=qV (QX (exV k (ofN a) (ofN b)) p.toNat up):=by have c:=w0r h;unfold Qs at h⊢;rw[BC c] at h⊢;exact(WJ (Kl (Gk k (Js c.1) (Js c.2.1)) _ _) h).2
theorem Rm (e:Int):p2 e=qM 1 e:=by simp[qM]
theorem X1d {a b:Int}(h:a<=b):p2 a<=p2 b:=by rw[Rm,Rm,show b=a+((b-a).toNat:Int) from oG,<-Vk,qM_le];have:0<(2:Int)^(b-a).toNat:=Int.pow_pos (by decide);omega
theorem X1c (a:Int):p2 (a+1)=p2 a*2:=by rw[Is];congr 1
def magQ (e:Int)(x:Rat):Prop:= -(p2 e)<=x/\x<=p2 e
theorem magQ.up {e g:Int}{x:Rat}(h:magQ e x)(he:e<=g):magQ g x:=by have:=X1d he;exact⟨by have:=h.1;grind,by have:=h.2;grind⟩
def ampI (e:Int)(a:Ivl):Prop:=magQ e (qN a.lo)/\magQ e (qN a.hi)
theorem ampI.up {e g:Int}{a:Ivl}(h:ampI e a)(he:e<=g):ampI g a:=⟨h.1.up he,h.2.up he⟩
def X1z (n M:Nat)(D:Int)(p:List Mn):Prop:=ZY p n=true/\p.length<=M/\ ∀m∈p,zz n 6 (8+M) D m
def okFieldT (n M:Nat)(D:Int)(f:List (List Mn)):Prop:=f.length=n/\ ∀p∈f,X1z n M D p
theorem okFieldT.at {n M:Nat}{D:Int}{f:Lk}(h:okFieldT n M D f){i j:Nat}(hi:i<f.length)(hj:j<(f.getD i []).length):zz n 6 (8+M) D ((f.getD i []).getD j default):=by have e:f.getD i []=f[i]:=(by simp[q_a,hi]);rw[e] at hj⊢;exact X0q (h.2 _ (EA hi)).2.2 hj
section
variable {w:World} {g g':Gh} {F:Fr} {T:List (Nat×Nat)} {k sz:Nat} {cs:List PV}
end
section
variable {k sz:Nat} {cs:List PV}
end
def tI (a:Ivl):Prop:=smI a/\luI 6 8 a
def uwV (v:Value):Prop:= ∃x,v= .int .u64 x\/v= .int .u32 x
inductive Wordy :PV->Prop
 | sc (v:Value):Wordy (.sc v)
 | agg (cs:List PV) (h: ∀c∈cs,Wordy c):Wordy (.agg cs)
 | tup (cs:List PV) (h: ∀c∈cs,Wordy c):Wordy (.tup cs)
 | sl (es:List PV) (h: ∀j,j<es.length-> ∃x,uwV x/\es.getD j .junk= .sc x):Wordy (.sl .no es)
theorem Wordy.turn {w:Lw}{g g':Gh}(hv: ∀b off x,uwV x->off<g.vis b->w.cell? ⟨b,off,none⟩=some x->g'.vis b=g.vis b): ∀ {p:PV},Wordy p-> ∀ {v:Value},Rep w g v p->Rep w g' v p:=by
 intro p hp
 induction hp with
 | sc v=>intro v' h;cases h;exact .sc _
 | agg cs hc ih=>intro v h;cases h with | agg vs _ hl h=>exact .agg vs cs hl fun j hj=>ih _ (Q8 _ _ _ hj) (h j hj)
 | tup cs hc ih=>intro v h;cases h with | tup vs _ hl h=>exact .tup vs cs hl fun j hj=>ih _ (Q8 _ _ _ hj) (h j hj)
 | sl es hes=>
  intro v h;cases h with
  | nil t ad ht=>exact .nil _ _ rfl
  | sl t es b off sz cap cf ht hfull hcap hsz hvis hc hr=>
   by_cases h0:es= [];subst h0;exact .sl _ [] b off sz cap cf rfl hfull hcap hsz (fun h=>by simp at h) (fun i j hi=>by simp at hi) (fun i j hi=>by simp at hi);have hl:0<es.length:=EM.2 h0;have hs:sz=1:=by have h1:=hsz 0 hl;obtain⟨x,_,hx⟩:=hes 0 hl;rw[hx] at h1;exact h1.symm
   subst hs;have hvb:g'.vis b=g.vis b:=by have h1:=hr 0 0 hl oG;have h2:=hc 0 0 hl oG;obtain⟨x,hxw,hx⟩:=hes 0 hl;rw[hx] at h1;rw[show cf 0 0=x from Rep.sc_inv h1] at h2;exact hv b (off+0*1+0) x hxw (by have:=hvis hl;omega) h2
   refine .sl _ es b off 1 cap cf rfl hfull hcap hsz (by rw[hvb];exact hvis) hc fun i j hi hj=> ?_;have h1:=hr i j hi hj;have h3:j=0:=oG;subst h3;obtain⟨x,_,hx⟩:=hes i hi;rw[hx] at h1⊢;rw[show cf i 0=x from Rep.sc_inv h1];exact .sc _
theorem Low.mk {p:PV}(h:Low 0 p){w:Lw}{g:Gh}{v:Value}(vis:Nat->Nat)(hv: ∀b,g.vis b<=vis b)(hr:Rep w g v p):Rep w ⟨0,fun _=>0,vis⟩ v p:=
 Rep.mono (w:=w) (g:= { g with n:=0 }) (w':=w) (g':=⟨0,fun _=>0,vis⟩) ⟨BD 0,fun i hi=>absurd hi (CD _),hv,fun _ _ _ _ hc=>hc⟩ (h w g v hr (CX _))
section
variable {P:Program} {E:Ent} {a:Act} {w:World} {g:Gh} {F:Fr} {s:PFS} {e:List Nat}
theorem Wordy.res {B:Nat}{w:Lw}{g:Gh}{v:Value}{R:PV}(hw:Wordy R):RepRes B w g v R=Rep w g v R:=by cases hw<;>rfl
end
section
variable {P:Program} {E:Ent} {a:Act} {w:World} {g:Gh} {F:Fr} {s:PFS} {e:List Nat}
end
section
variable {P:Program} {s:PFS} {K:PFS->Prop} {d:Option Tmp} {ty:TypeId} {pos:String} {af:Array Edge} {e:List Nat}
end
section
variable {P:Program} {E:Ent} {a:Act} {w:World} {g:Gh} {F:Fr} {s:PFS}
theorem y1m {t:Lt}{v:Value}{es:Lp}{x1:Bool}{x2:Nat}{x4:Pr}{e:EI}(h:FSRep E a w g F s)(hT:ti P t=some ⟨x1,x2,.slice e,x4⟩)(c1:e.sz=1)(c3:e.zok=true)
 (hv:RepF w g F s.T v (.sl .full es)):XP P E a w (do pure (.value (<-Instr.buildSlice t 1 [(0,v)].toArray))) (.sl .full [.sl .full es]) s:=by
 obtain⟨i',u,hi',hu,hT'⟩:=QS hT;obtain⟨rfl,hei⟩:=ZK (B4 TI.ud hT').symm;have hrep:Rep w g v (.sl .full es):=by cases hv with | base _ _ h=>exact h
 have hcv:v.cells= #[v]:=by cases hrep<;>rfl
 obtain⟨i2,u2,hi2,hu2,e2⟩:=K1 hei;have hsz2:i2.size=e.sz:=(by rw[e2]);obtain⟨z,hz,hzs⟩: ∃z,i2.zero=some z/\z.cells.size=i2.size:=by have:=B4 EI.zok e2;rw[c3] at this;simp only at this;split at this;rename_i z hz;exact⟨z,hz,by simpa using this.symm⟩;cases this
 have hfill:=xh e.sz [(0,v)] 0 ((Array.range (1*e.sz)).map (fun i=>(if 1*e.sz=0 then #[] else z.cells)[i % (if 1*e.sz=0 then #[] else z.cells).size]!)) (by rfl) (fun j hj=>by have:j=0:=(by simpa using hj);subst this;show v.cells.size=e.sz;rw[hcv,c1];rfl) (by simp);obtain⟨cells',f1,f2,f3,f4⟩:=hfill;have hrun:(Instr.buildSlice t 1 [(0,v)].toArray).run P w= .ok (.slice (some ⟨w.heap.size,0,none⟩) 1 1) (w.alloc (.cells cells' e.id)):=(by unfold Instr.buildSlice;simp only[Sem.run_bind,run_underlying hu,Result.andThen_ok,Wv hei];rw[BA oG];have h0: ¬(e.sz=0):=oG;have h0': ¬(1*e.sz=0):=oG;simp only[h0,h0',DT,Sem.run_bind,zeroValue,typeInfo,hi2,hz,Sem.run_pure,Result.andThen_ok,CY] at f1⊢;simp[hi2,hz,f1,newRow,newObj,Sem.run]);obtain⟨g',_,_,_,r1,r2,r3,_⟩:=h.slice_new e.id cells' [.sl .full es] e.sz 1 (fun i hi=>by
  have:i=0:=(by simpa using hi);subst this;rw[c1];rfl) (by simp) (by rw[f2,Array.size_map,Array.size_range]) (fun m hm=>by
  have hm0:m=0:=by have:m<1*e.sz:=hm;omega
  subst hm0;have hc:=f4 0 0 (by simp) oG;simp only[CU,DC] at hc;rw[hc,c1];show Rep w g (v.cells.getD 0 undef) (.sl .full es);rw[hcv];exact hrep)
 exact⟨_,_,g',F,by simp only[Sem.run_bind,hrun,Result.andThen_ok,Sem.run_pure];rfl,r1,.inl ⟨_,rfl,.base _ _ (r3 .full rfl (fun _=>rfl))⟩⟩
end
def Uk (P:Program)(o:Oper)(K:PFS->Prop)(s:PFS):Prop:=
 match o.op with
 | .buildSlice t 1 parts=>
  match parts.toList with
  | [(0,x)]=>match ti P t,s.ev x with
   | some ⟨_,_,.slice e,_⟩,.sl .full es=>(e.sz=1/\e.zok=true)/\K (s.put o.dst (.sl .full [.sl .full es]))
   | _,_=>False
  | _=>False
 | _=>False
section
variable {P:Program} {E:Ent} {a:Act} {w:World} {g:Gh} {F:Fr} {s:PFS}
theorem Z2z {o:Oper}{K:Pf}(h:FSRep E a w g F s)(hp:Uk P o K s){next:Act->World->Prop}{Q:Pt}
 (hn: ∀a' w' g' F' s',FSRep E a' w' g' F' s'->K s'->next a' w'):o.wp P a w next Q:=by
 unfold Uk at hp;split at hp;rotate_left;exact hp.elim;rename_i t parts heq;split at hp;rotate_left;exact hp.elim;rename_i x hx;split at hp;rotate_left;exact hp.elim;rename_i e _ es hT hs;obtain⟨⟨c1,c2⟩,hK⟩:=hp;have hv:=h.ev x;rw[hs] at hv;have ep:parts= #[(0,x)]:=(by rw[<-hx]);subst ep;obtain⟨nx,w',g',F',r1,r2,r3⟩:=y1m h hT c1 c2 hv;have hex:(execOp a.eval o).run P w= .ok nx w':=by unfold execOp;simp only[heq];have e:(#[(0,x)]:Array (Nat×Operand)).map (fun x=>(x.1,a.eval x.2))= [(0,a.eval x)].toArray:=(by simp);rw[e];exact r1
 unfold Oper.wp;rw[hex];rcases r3 with ⟨v,rfl,hv⟩ | ⟨rfl,hj⟩;exact hn _ _ _ _ _ (r2.put o.dst hv) hK;cases hj
theorem X2b {o:Oper}{K:Pf}(hp:Uk P o K s): ∀c,o.op≠ .defer c:=by intro c hc;unfold Uk at hp;rw[hc] at hp;exact hp
theorem X2a {o:Oper}{K:Pf}(h:FSRep E a w g F s)(hp:Uk P o K s){next:Act->World->Prop}{Q:Pt}
 (hn: ∀a' w' g' F' s',FSRep E a' w' g' F' s'->K s'->next a' w'):o.wpIn (fen E.rd) 0 P a w next Q:=
 HH E.rd (X2b hp) (Z2z h hp hn)
end
inductive Mk where
 | no | room | keep
def HE (P:Program)(ops:List Oper):List Mk->List Oper->(PFS->Prop)->PFS->Prop
 | _,[],K,s=>K s
 | [],rest,K,s=>OL0 P ops rest K s
 | .room::bs,o::rest,K,s=>o.guard=none/\Gu P o (HE P ops bs rest K) s
 | .keep::bs,o::rest,K,s=>o.guard=none/\Uk P o (HE P ops bs rest K) s
 | .no::bs,o::rest,K,s=>o.guard=none/\OC0 P o (HE P ops bs rest K) s
theorem xT {P:Pg}{E:Ent}{ops:La}{Q:Pt}{K:Pf}(hK: ∀a' w' g' F' s',FSRep E a' w' g' F' s'->K s'->Q .normal a' w'):
 ∀(bs:List Mk) (rest:Lo) (a:Act) (w:Lw) (g:Gh) (F:Fr) (s:PFS),FSRep E a w g F s->HE P ops.toList bs rest K s->wpListIn (fen E.rd) 0 P ops Q rest a w
 | bs,[],a,w,g,F,s,h,hp=>hK a w g F s h (by unfold HE at hp;exact hp)
 | [],o::rest,a,w,g,F,s,h,hp=>HD hK (o::rest) a w g F s h (HF hp)
 | .room::bs,o::rest,a,w,g,F,s,h,hp=>by obtain⟨hg,hp⟩:=hp;have ih:=xT (P:=P) (ops:=ops) hK bs rest;unfold wpListIn;rw[BC (by simp[Region.wanted,hg])];exact Z2w h hp fun a' w' g' F' s' hr hk=>ih a' w' g' F' s' hr hk
 | .keep::bs,o::rest,a,w,g,F,s,h,hp=>by obtain⟨hg,hp⟩:=hp;have ih:=xT (P:=P) (ops:=ops) hK bs rest;unfold wpListIn;rw[BC (by simp[Region.wanted,hg])];exact X2a h hp fun a' w' g' F' s' hr hk=>ih a' w' g' F' s' hr hk
 | .no::bs,o::rest,a,w,g,F,s,h,hp=>by obtain⟨hg,hp⟩:=hp;have ih:=xT (P:=P) (ops:=ops) hK bs rest;unfold wpListIn;rw[BC (by simp[Region.wanted,hg])];exact V5 h (Y7 hp) fun a' w' g' F' s' hr hk=>ih a' w' g' F' s' hr hk
def OLk (P:Program)(ops:List Oper)(bs:List Mk)(rest:List Oper)(K:PFS->Prop)[Stop ops][Stop rest][Stop K](s:PFS):Prop:=HE P ops bs rest K s
theorem y0y {P:Pg}{E:Ent}{id:Nat}{l:Lo}{Q:Pe}{s:PFS}(bs:List Mk)(h:OLk P l bs l (Q .normal) s):PWP P E (.region id l.toArray false) Q s:=fun a w g F hr=>
 wpIn_region_list (xT (fun a' w' g' F' s' hr' hk=>⟨g',F',s',hr',hk⟩) bs l a w g F s hr h)
def v6 (T:Option TI)(x:PV)(K:PV->Prop)[Stop K]:Prop:=
 match T,x with
 | some ⟨_,_,.slice e,_⟩,.sl .full es=>(e.sz=1/\e.zok=true)/\K (.sl .full [.sl .full es])
 | _,_=>False
section
variable {P:Program} {s:PFS} {K:PFS->Prop} {d:Option Tmp} {ty:TypeId} {pos:String} {af:Array Edge}
@[go_sem] theorem j2f {ops:Lo}{bs:List Mk} :OLk P ops bs [] K s=K s:=by
 cases bs with
 | nil=>rfl
 | cons b bs=>cases b<;>rfl
@[go_sem] theorem j2e {ops rest:Lo}{bs:List Mk}{op:Op} :OLk P ops (.no::bs) (⟨d,op,ty,pos,af,none⟩::rest) K s=OC P ⟨d,op,ty,pos,af,none⟩ (OLk P ops bs rest K) s:=by show((none:Option (Nat×Bool))=none/\_)=_;simp only[LD];rfl
@[go_sem] theorem j2d {ops rest:Lo}{bs:List Mk}{op:Op} :OLk P ops (.room::bs) (⟨d,op,ty,pos,af,none⟩::rest) K s=POr P ⟨d,op,ty,pos,af,none⟩ (OLk P ops bs rest K) s:=by show((none:Option (Nat×Bool))=none/\_)=_;simp only[LD];rfl
@[go_sem] theorem j2g {ops rest:Lo}{bs:List Mk}{t:Lt}{x:Operand} :OLk P ops (.keep::bs) (⟨d,.buildSlice t 1 [(0,x)].toArray,ty,pos,af,none⟩::rest) K s=v6 (ti P t) (s.ev x) (fun p=>OLk P ops bs rest K (s.put d p)):=by show((none:Option (Nat×Bool))=none/\Uk P _ _ s)=_;simp only[LD];unfold Uk v6;simp only;rfl
@[go_sem] theorem W2h {e:EI}{x1:Bool}{x2:Nat}{x4:Pr}{es:Lp}{K:PV->Prop} :v6 (some ⟨x1,x2,.slice e,x4⟩) (.sl .full es) K=((e.sz=1/\e.zok=true)/\K (.sl .full [.sl .full es])):=(rfl)
end
theorem yQ {E:Ent}(s:PFS)(i j:Nat)(q:PV)(hj:j<(s.L.getD i []).length)(hpq: ∀w g F v,F.nl=s.L.length->RepF w g F s.T v ((s.L.getD i []).getD j .junk)->RepF w g F s.T v q):JQ E s { s with L:=s.L.set i ((s.L.getD i []).set j q) } :=by
 intro a w g F h;have hne0:s.L.getD i []≠ []:=fun e=>(by rw[e] at hj;simp at hj);have hil:i<s.L.length:=by refine EV fun hn=>hne0 ?_;rw[q_a,C2 hn];rfl
 have hne: ∀m,(s.L.set i ((s.L.getD i []).set j q)).getD m []≠ []->s.L.getD m []≠ []:=fun m hm=>by by_cases e:i=m;subst e;exact hne0;rwa [Zg _ _ _ _ _ e] at hm
 refine⟨g,F,h.ext,h.store,⟨by simpa using h.frame.nl,fun m hm=>h.frame.lo m (hne m hm),fun m hm=>h.frame.apart m (hne m hm),fun m l hm hl=>h.frame.inj m l (hne m hm) (hne l hl),fun m hm=> ?_,h.frame.tlo,fun m b h1 h2=>⟨(h.frame.tapart m b h1 h2).1,fun l hl=>(h.frame.tapart m b h1 h2).2 l (hne l hl)⟩,h.frame.tinj⟩,h.defers,h.len,h.tmps⟩;have hh:=h.frame.holds m (hne m hm);by_cases e:i=m;subst e;simp only at hm⊢;rw[Zw _ _ _ _ hil];intro o ho;rw[BL] at ho;obtain⟨q1,c,q2,q3⟩:=hh o ho;refine⟨q1,c,q2,?_⟩;by_cases e2:j=o;subst e2;rw[Zw _ _ _ _ ho];exact hpq w g F c h.frame.nl q3;rw[Zg _ _ _ _ _ e2];exact q3;simp only at hm⊢;rw[Zg _ _ _ _ _ e] at hm⊢;exact hh
theorem G0q {E:Ent}(s:PFS)(i j k:Nat)(hk:k<s.L.length)(he:(s.L.getD i []).getD j .junk= .sl .full []):JQ E s { s with L:=s.L.set i ((s.L.getD i []).set j (.mr k 0 0)) } :=by refine yQ s i j _ ?_ fun w g F v hn h=> ?_;refine EV fun hn=> ?_;rw[q_a,C2 hn] at he;cases he;rw[he] at h;obtain⟨ad,hv⟩:=X0s h;rw[hv];exact .lmr0 k ad (by rw[hn];exact hk)
theorem G0j {E:Ent}(s:PFS)(i j k len cap:Nat)(he:(s.L.getD i []).getD j .junk= .mr k len cap)(hl:0<len):JQ E s { s with L:=s.L.set i ((s.L.getD i []).set j (.ms false k 0 len)) } :=by
 refine yQ s i j _ ?_ fun w g F v hn h=> ?_;refine EV fun hn=> ?_;rw[q_a,C2 hn] at he;cases he;rw[he] at h;cases h with
 | base _ _ h'=>cases h'
 | lmr _ _ _ hi hcap=>exact .lms k 0 len cap hi hcap
 | lmr0 _ _ _=>omega
theorem y0v {P:Pg}{E:Ent}{c:Code}{Q:Pe}{s:PFS}(i j k len cap:Nat)(he:(s.L.getD i []).getD j .junk= .mr k len cap)(hl:0<len)(h:PWP P E c Q { s with L:=s.L.set i ((s.L.getD i []).set j (.ms false k 0 len)) }):PWP P E c Q s:=
 Kt (G0j s i j k len cap he hl) h
theorem Q1f {P:Pg}{E:Ent}{c:Code}{Q:Pe}{s:PFS}(i j k:Nat)(hk:k<s.L.length)(he:(s.L.getD i []).getD j .junk= .sl .full [])(h:PWP P E c Q { s with L:=s.L.set i ((s.L.getD i []).set j (.mr k 0 0)) }):PWP P E c Q s:=
 Kt (G0q s i j k hk he) h
inductive Tame :PV->Prop
 | sc (v:Value):Tame (.sc v)
 | agg {cs:List PV} (h: ∀c∈cs,Tame c):Tame (.agg cs)
 | sl {t:Tag} {es:List PV} (h: ∀e∈es,Tame e):Tame (.sl t es)
theorem Tame.low {p:PV}(h:Tame p)(n:Nat):Low n p/\ ∀c∈p.cells,Low n c:=by
 induction h with
 | sc v=>exact⟨UQ n v,fun c hc=>by rw[C0.1 hc];exact UQ n v⟩
 | agg h ih=>exact⟨Z0c fun c hc=>(ih c hc).1,fun c hc=>(ih c hc).1⟩
 | @sl t es h ih=>
  have:=vu (n:=n) (t:=t) fun e he c hc=>(ih e he).2 c hc;exact⟨this,fun c hc=>by rw[C0.1 hc];exact this⟩
theorem G9 (t:Tag)(w:Lu):Tame (.sl t (Qf w)):= .sl fun e he=>by simp only[Qf,CF] at he;obtain⟨x,_,rfl⟩:=he;exact .sc _
theorem z0f (t:Tag)(l:Pq):Tame (.sl t (QU l)):= .sl fun e he=>by simp only[QU,CF] at he;obtain⟨x,_,rfl⟩:=he;exact .sc _
theorem GA (x:Nm): ∀c∈Qg x,Tame c:=fun c hc=>by simp only[Qg,D8,List.not_mem_nil,or_false] at hc;rcases hc with rfl | rfl | rfl;exact .sc _;exact .sc _;exact G9 _ _
theorem j5 (x:Ivl): ∀c∈Qn x,Tame c:=fun c hc=>by have hc:c∈Qg x.lo++Qg x.hi:=hc;rcases DN.1 hc with hc | hc;exact GA _ _ hc;exact GA _ _ hc
theorem qE (t:Tag)(l:Li):Tame (.sl t (Qk l)):= .sl fun e he=>by simp only[Qk,CF] at he;obtain⟨x,_,rfl⟩:=he;exact .agg (j5 x)
theorem Ch (t:Tag)(l:Lj):Tame (.sl t (Qw l)):= .sl fun e he=>by simp only[Qw,CF] at he;obtain⟨x,_,rfl⟩:=he;exact qE _ x
theorem Cg (m:Mn): ∀c∈Ki m,Tame c:=fun c hc=>by have hc:c∈Qg m.c++ [.sl .no (QU m.ks)]:=hc;rcases DN.1 hc with hc | hc;exact GA _ _ hc;rw[C0.1 hc];exact z0f _ _
theorem z0g (t:Tag)(l:Lm):Tame (.sl t (ZA l)):= .sl fun e he=>by simp only[ZA,CF] at he;obtain⟨x,_,rfl⟩:=he;exact .agg (Cg x)
theorem z0h (t:Tag)(l:Lk):Tame (.sl t (QV l)):= .sl fun e he=>by simp only[QV,CF] at he;obtain⟨x,_,rfl⟩:=he;exact z0g _ x
theorem U0x (w:Lu):Wordy (.sl .no (Qf w)):= .sl _ fun j hj=>by have hj':j<w.length:=(by simpa[Qf] using hj);exact⟨_,⟨_,.inl rfl⟩,by simp only[Qf,q_a,B8,BB hj'];rfl⟩
theorem qn (x:Nm): ∀c∈Qg x,Wordy c:=fun c hc=>by simp only[Qg,D8,List.not_mem_nil,or_false] at hc;rcases hc with rfl | rfl | rfl;exact .sc _;exact .sc _;exact U0x _
theorem U0w (x:Ivl)(v:Value):Wordy (.tup [.agg (Qn x),.sc v]):= .tup _ fun c hc=>by simp only[D8,List.not_mem_nil,or_false] at hc;rcases hc with rfl | rfl;refine .agg _ fun c hc=> ?_;have hc:c∈Qg x.lo++Qg x.hi:=hc;rcases DN.1 hc with hc | hc;exact qn _ _ hc;exact qn _ _ hc;exact .sc _
structure Pb where
 fld:List (List Mn)
 box:List Ivl
 until':Nm
 most:Nm
 least:Nm
 prec:Int
 order:Int
 budget:Int
instance : Inhabited Pb:=⟨⟨[],[],default,default,default,0,0,0⟩⟩
def We (p:Pb):Bool:=Xh p.fld&&rightB p.box&&decide (p.box.length=p.fld.length)&&Qh p.until'&&Qh p.most&&Qh p.least&&decide (0<Q9 p.until' default)&&decide (0<Q9 p.least default)&&decide (0<=Q9 p.most p.least)&&
 Qt p.prec&&decide (2<=p.order)&&decide (p.order<=10)&&decide (1<=p.budget)&&decide (p.budget<=4096)
def H9 (p:Pb):Sx×Int:=if We p=true then(if (Wq p.box p.prec).2≠0 then(default,(Wq p.box p.prec).2) else(⟨0,default,p.most,(Wq p.box p.prec).1⟩,0)) else(default,1)
def Wu (f:Fm):List PV:= [.sl .no (Qy f.m),.sl .no (QL f.a),.sl .no (Qk f.r)]
attribute [go_sem] Wu
def JM (s:Sx):List PV:= [.sc (.int .i64 s.idx),.sc (.bool s.t.neg),.sc (.int .i64 s.t.exp),.sl .no (Qf s.t.w),.sc (.bool s.h.neg),.sc (.int .i64 s.h.exp),.sl .no (Qf s.h.w),.sl .no (Qy s.f.m),.sl .no (QL s.f.a),.sl .no (Qk s.f.r)]
attribute [go_sem] JM
def XO (p:Pb):List PV:= [.sl .no (QV p.fld),.sl .no (Qk p.box),.sc (.bool p.until'.neg),.sc (.int .i64 p.until'.exp),.sl .no (Qf p.until'.w),.sc (.bool p.most.neg),.sc (.int .i64 p.most.exp),.sl .no (Qf p.most.w),
 .sc (.bool p.least.neg),.sc (.int .i64 p.least.exp),.sl .no (Qf p.least.w),.sc (.int .i64 p.prec),.sc (.int .i64 p.order),.sc (.int .i64 p.budget)]
attribute [go_sem] XO
def Yb (l:List Nm):Prop:=l.length<=100000000000/\ ∀i,i<l.length->wN (l.getD i default)
def wQs (l:List (List Nm)):Prop:=l.length<=100000000000/\ ∀i,i<l.length->Yb (l.getD i [])
def wFm (f:Fm):Prop:=Yb f.m/\wQs f.a/\wB f.r
def wSx (s:Sx):Prop:=wN s.t/\wN s.h/\wFm s.f
def wPb (p:Pb):Prop:=wF p.fld/\wB p.box/\wN p.until'/\wN p.most/\wN p.least
theorem H1z {a b:Fm} :a=b<->a.m=b.m/\a.a=b.a/\a.r=b.r:=by cases a;cases b;simp
theorem sx_eq {a b:Sx} :a=b<->a.idx=b.idx/\a.t=b.t/\a.h=b.h/\a.f=b.f:=by cases a;cases b;simp
theorem Mo {l:Lx}{n:Nat}(h:ZC l n=true)(hn:n<=1000):Yb l:=by unfold ZC at h;simp only[q_i,BN,q_d] at h;refine⟨oG,fun i hi=>QC (h.1 _ ?_)⟩;rw[q_a,BB hi];exact EA hi
theorem Mu {f:Fm}(h:X4 f=true):wFm f:=by obtain⟨f1,f2,f3,f4,f5,f6,f7⟩:=Ih h;refine⟨Mo (n:=f.m.length) (by unfold ZC;rw[f3];simp) oG,⟨oG,fun i hi=> ?_⟩,⟨oG,fun i hi=> ?_⟩⟩;rw[q_d] at f6;refine Mo (n:=f.m.length) (f6 _ ?_) oG;rw[q_a,BB hi];exact EA hi;have:=Xg (zd f7 i hi);exact⟨QC this.1,QC this.2.1⟩
theorem jU {s:Sx}(h:jV s=true):wSx s:=by obtain⟨_,_,h3,h4,h5⟩:=v0w h;exact⟨QC h3,QC h4,Mu h5⟩
theorem X0z (l:Lx)(n:Nat)(st:Qd)(hw:Yb l)(hn:n<=1000000000000):PR 152 [.sl .no (Qy l),.sc (.int .i64 n)] st (.sc (.bool (ZC l n))):=by
 obtain⟨hl,hw⟩:=hw;refine Qj Tryz.func152 fun E=> ?_;refine Q3 [true,true,false,false,false,false,false,true,true,true] 0 0 (fun m s=> ∃i,m=l.length-i/\i<=l.length/\(∀j,j<i->Qh (l.getD j default)=true)/\
  s=⟨[.sl .no (Qy l),.sc (.int .i64 n),.junk,.junk,.junk,.junk,.junk,.sl .no (Qy l),.sc (.int .i64 l.length),.sc (.int .i64 (i:Nat))]++jk 11,[],[],st⟩) l.length ?_ ?_
 refine Qr ?_;exact⟨0,oG,oG,fun j hj=>absurd hj (CD j),rfl⟩;rintro m s ⟨i,rfl,hi,hr,rfl⟩;refine QM ?_ ?_<;>intro h1;have hlt:i<l.length:=(oT h1);have g1:=JN l i hlt;have wi:=hw i hlt;unfold wN at wi;have x1:=J2u i oG;simp-dsimp only[go_sem,g1];refine⟨oG,?_⟩;refine(XE (l.getD i default) st oG).Q ?_;refine ck ?_ ?_<;>intro h2;have hf:Qh (l.getD i default)=false:=(by simpa using h2);refine Qr ?_;have:ZC l n=false:=CS.2 fun e=>by unfold ZC at e;rw[q_i] at e;rw[(Y4 l Qh).1 e.1 i hlt] at hf;cases hf
 rw[this];have ht:Qh (l.getD i default)=true:=(by simpa using h2);simp-dsimp only[go_sem,x1];refine⟨l.length-(i+1),oG,i+1,rfl,oG,fun j hj=> ?_,rfl⟩;by_cases e:j=i;subst e;exact ht;exact hr j oG;have hge:i=l.length:=(oF h1);refine Qr ?_;refine Qq ?_;have ha:l.all Qh=true:=(Y4 l Qh).2 fun j hj=>hr j oG;have e:((l.length:Int)==(n:Int))=decide (l.length=n):=(by rw[E6];simp;omega);rw[e,ZC,ha,FF]
theorem vO (f:Fm)(st:Qd)(hw:wFm f):PR 82 [.agg (Wu f)] st (.sc (.bool (X4 f))):=by
 obtain⟨wm,⟨wal,wa⟩,wr⟩:=hw;have wml:=wm.1;have wrl:=wr.1;have no: ¬X4 f=true->X4 f=false:=fun h=>(by simpa using h);refine Ql none Tryz.func82 rfl fun E=>Qb ?_;by_cases h1:1<=f.m.length;rotate_left;have d1:decide ((f.m.length:Int)<1)=true:=q_h oG;simp-dsimp only[go_sem,d1];rw[no fun e=>h1 (Ih e).1];have d1:decide ((f.m.length:Int)<1)=false:=q_g oG;by_cases h2:f.m.length<=4;rotate_left;have d2:decide ((f.m.length:Int)>4)=true:=q_h oG;simp-dsimp only[go_sem,d1,d2];rw[no fun e=>h2 (Ih e).2.1];have d2:decide ((f.m.length:Int)>4)=false:=q_g oG;simp-dsimp only[go_sem,d1,d2];refine(X0z f.m f.m.length st wm oG).q ?_;cases h3:ZC f.m f.m.length with
 | false=>
  simp-dsimp only[go_sem,d1,d2];rw[no fun e=>by unfold X4 at e;rw[h3] at e;simp at e]
 | true=>
 by_cases h4:f.a.length=f.m.length;rotate_left;have d4:((f.a.length:Int) !=(f.m.length:Int))=true:=BV.2 oG;simp-dsimp only[go_sem,d1,d2,d4];rw[no fun e=>h4 (Ih e).2.2.2.1];have d4:((f.a.length:Int) !=(f.m.length:Int))=false:=(by rw[h4];simp);by_cases h5:f.r.length=f.m.length;rotate_left;have d5:((f.r.length:Int) !=(f.m.length:Int))=true:=BV.2 oG;simp-dsimp only[go_sem,d1,d2,d4,d5];rw[no fun e=>h5 (Ih e).2.2.2.2.1];have d5:((f.r.length:Int) !=(f.m.length:Int))=false:=(by rw[h5];simp);simp-dsimp only[go_sem,d1,d2,d4,d5];have key:X4 f=true<-> ∀j,j<f.m.length->ZC (f.a.getD j []) f.m.length=true/\Kf (f.r.getD j default) default=true:=by unfold X4;simp only[q_i,BN,h1,h2,h3,h4,h5,LD,q_d];refine⟨fun⟨q1,q2⟩ j hj=>⟨q1 _ ?_,q2 _ ?_⟩,fun h=>⟨fun x hx=> ?_,fun x hx=> ?_⟩⟩;rw[q_a,BB oG];exact EA _;rw[q_a,BB oG];exact EA _;obtain⟨i,hi,rfl⟩:=CM.1 hx;have:=(h i oG).1;rwa [q_a,BB hi] at this;obtain⟨i,hi,rfl⟩:=H1f hx;exact(h i oG).2
 refine Q3 ([false,true,false,true]++rF 31++ [true,true]) 1 0
  (fun m s=> ∃i,m=f.m.length-i/\i<=f.m.length/\(∀j,j<i->ZC (f.a.getD j []) f.m.length=true/\Kf (f.r.getD j default) default=true)/\
   s=⟨[.junk,.lp 0 0,.junk,.sc (.int .i64 f.m.length)]++(jk 31++([.sc (.int .i64 f.m.length),.sc (.int .i64 (i:Nat))]++jk 21)),[Wu f],[],st⟩) f.m.length ?_ ?_
 refine Qr ?_;exact⟨0,oG,oG,fun j hj=>absurd hj (CD j),rfl⟩;rintro m s ⟨i,rfl,hi,hr,rfl⟩;refine QM ?_ ?_<;>intro h6;have hlt:i<f.m.length:=(oT h6);have g1:=Wt f.a i oG;have g2:=Zt f.r i oG;have x1:=J2u i oG;simp-dsimp only[go_sem,g1];refine⟨oG,?_⟩;refine(X0z (f.a.getD i []) f.m.length st (wa i oG) oG).q ?_;cases h7:ZC (f.a.getD i []) f.m.length with
 | false=>
  refine Qr ?_;rw[no fun e=>by have:=(key.1 e i hlt).1;rw[h7] at this;cases this]
 | true=>
  simp-dsimp only[go_sem,g2];refine⟨oG,?_⟩;refine(v9 (f.r.getD i default) default st (wr.2 i oG) (by show([]:Lu).length<=_;simp)).q ?_;cases h8:Kf (f.r.getD i default) default with
  | false=>
   refine Qr ?_;rw[no fun e=>by have:=(key.1 e i hlt).2;rw[h8] at this;cases this]
  | true=>
   simp-dsimp only[go_sem,x1];refine⟨f.m.length-(i+1),oG,i+1,rfl,oG,fun j hj=> ?_,rfl⟩;by_cases e:j=i;subst e;exact⟨h7,h8⟩;exact hr j oG
 have hge:i=f.m.length:=oF h6
 refine Qr ?_;refine Qq ?_;rw[key.2 fun j hj=>hr j oG]
def Xv (a:List (List Nm)):Bool:=(a.all fun r=>ZC r a.length)&&decide (1<=a.length)&&decide (a.length<=4)
theorem rightQ_iff {a:Ly} :Xv a=true<->(∀j,j<a.length->ZC (a.getD j []) a.length=true)/\1<=a.length/\a.length<=4:=by unfold Xv;simp only[q_i,BN,q_d];constructor;rintro⟨⟨h,h1⟩,h2⟩;exact⟨fun j hj=>h _ (by rw[q_a,BB hj];exact EA _),h1,h2⟩;rintro⟨h,h1,h2⟩;refine⟨⟨fun x hx=> ?_,h1⟩,h2⟩;obtain⟨i,hi,rfl⟩:=CM.1 hx;have:=h i hi;rwa [q_a,BB hi] at this
theorem Y8 {q:Lx}(h:wNs q):wB (ofB q):=by obtain⟨h1,h2⟩:=h;refine⟨by simpa[ofB] using h1,fun i hi=> ?_⟩;have hi':i<q.length:=(by simpa[ofB] using hi);have e:(ofB q).getD i default=⟨q.getD i default,q.getD i default⟩:=(by simp[ofB,q_a,hi']);rw[e];exact⟨h2 i hi',h2 i hi'⟩
theorem Q0p {b:Li}{p:Int}(h:(Zk b p).2=0):1<=b.length/\b.length<=4:=by unfold Zk at h;split at h;rename_i hc;have:=WB hc.1;exact⟨this.1,this.2⟩;exact absurd h (by decide)
def PV.forgetK :PV->PV
 | .sl .full es=> .sl .full es
 | p=>p.forget2
theorem RepF.forgetK {w:Lw}{g:Gh}{F:Fr}{T:Lv}{v:Value}{p:PV}(h:RepF w g F T v p)(hc:p.closed2=true):Rep w g v p.forgetK:=by
 cases p with
 | sl t es=>
  cases t with
  | full=>cases h with | base _ _ h=>exact h
  | _=>exact RepF.forget2 h hc
 | _=>exact RepF.forget2 h hc
def PFS.giveK (i:Nat)(s:PFS):PFS:=
 ⟨s.pa.map (PV.giv i s.st.length),(s.L.map fun l=>l.map (PV.giv i s.st.length)).set i [],s.T,s.st++ [(s.L.getD i []).map PV.forgetK]⟩
theorem G0l {E:Ent}{s:PFS}(i:Nat)(hi:s.freezeOK i)(hne:s.L.getD i []≠ []):JQ E s (s.giveK i):=by
 intro a w g F h;obtain⟨l1,l2,l3⟩:=h.frame.lo i hne;have hall:=List.all_eq_true.1 hi
 let g':Gh:= { g with n:=g.n+1,mu:=fun k=>if k=g.n then F.lmu i else g.mu k }
 have hmu: ∀k,k<g.n->g'.mu k=g.mu k:=fun k hk=>BA oG;have hmun:g'.mu g.n=F.lmu i:=BC rfl;have hLe:Le w g w g':=⟨Nat.le_succ _,hmu,fun _=>BD _,fun _ _ _ _ hc=>hc⟩;have htok:KN w g F s.T w g' F s.T:=⟨BD _,fun k hk=>⟨BD _,fun _ v es hR=>hR.mono fun b hb=>⟨rfl,rfl⟩⟩⟩;have hm: ∀v p,RepF w g F s.T v p->RepF w g' F s.T v p:=fun v p hr=>hr.mono hLe (BD _) (fun _ _=>rfl) htok;have en:s.st.length=g.n:=h.store.n.symm;have hf: ∀v p,RepF w g F s.T v p->RepF w g' F s.T v (p.giv i s.st.length):=fun v p hp=>RepF.giv hm (by rw[en];exact Nat.lt_succ_self _) (by rw[en];exact hmun) hp;have hL: ∀k,((s.L.map fun l=>l.map (PV.giv i s.st.length)).set i []).getD k []≠ []->k≠i/\s.L.getD k []≠ []/\((s.L.map fun l=>l.map (PV.giv i s.st.length)).set i []).getD k []=(s.L.getD k []).map (PV.giv i s.st.length):=fun k hk=>by
  by_cases hki:i=k;subst hki;exfalso;apply hk;exact Wo _ _;have e:((s.L.map fun l=>l.map (PV.giv i s.st.length)).set i []).getD k []=(s.L.getD k []).map (PV.giv i s.st.length):=by rw[<-YX (f:=fun l=>l.map (PV.giv i s.st.length)) rfl];simp[q_a,DR hki]
  exact⟨fun e=>hki e.symm,fun e0=>hk (by rw[e,e0];rfl),e⟩
 have hst0: ∀j,j<g.n->(s.st++ [(s.L.getD i []).map PV.forgetK]).getD j []=s.st.getD j []:=fun j hj=>(by rw[q_a,B6 oG,<-q_a]);have hst1:(s.st++ [(s.L.getD i []).map PV.forgetK]).getD g.n []=(s.L.getD i []).map PV.forgetK:=(by rw[q_a,CA oG,<-en];simp);have hst:StoreOK w g' (s.st++ [(s.L.getD i []).map PV.forgetK]):=(by refine⟨by simp[g',h.store.n],fun j k hj hk e=> ?_,fun j hj=> ?_,fun j hj hj0=> ?_,fun j hj=> ?_,h.store.none,h.store.tab⟩;have hj:j<g.n+1:=hj;have hk:k<g.n+1:=hk;by_cases e1:j=g.n;by_cases e2:k=g.n;omega;rw[e1,hmun,hmu k oG] at e;exact absurd e.symm (h.frame.apart i hne k oG);by_cases e2:k=g.n;rw[e2,hmun,hmu j oG] at e;exact absurd e (h.frame.apart i hne j oG);rw[hmu j oG,hmu k oG] at e;exact h.store.inj j k oG oG e;have hj:j<g.n+1:=hj;by_cases e1:j=g.n;rw[e1,hmun];exact l2;rw[hmu j oG];exact h.store.lt j oG;have hj:j<g.n+1:=hj;by_cases e1:j=g.n;rw[e1,hmun];exact l3;rw[hmu j oG];rw[hst0 j oG] at hj0;exact h.store.vis j oG hj0;have hj:j<g.n+1:=hj;by_cases e1:j=g.n;subst e1;rw[hmun,hst1];intro k hk;have hk':k<(s.L.getD i []).length:=(by simpa using hk);obtain⟨q1,c,q2,q3⟩:=h.frame.holds i hne k hk';refine⟨q1,c,q2,?_⟩;have e:((s.L.getD i []).map PV.forgetK).getD k .junk=((s.L.getD i []).getD k .junk).forgetK:=Xs (f:=PV.forgetK) rfl _ _;rw[e];exact(hm _ _ q3).forgetK (CR.1 (hall _ (Q8 _ _ _ hk'))).1;rw[hmu j oG,hst0 j oG];exact(h.store.holds j oG).mono rfl fun v p hr=>hr.mono hLe);have hext:Ext E.w E.g w g':=(by refine⟨h.ext.le.trans hLe,h.ext.os,h.ext.tape,h.ext.output,h.ext.size,h.ext.old,fun j h1 h2=> ?_⟩;have h2:j<g.n+1:=h2;by_cases e1:j=g.n;rw[e1,hmun];exact l1;rw[hmu j oG];exact h.ext.new j h1 oG);refine⟨g',F,⟨hext,hst,⟨by simp[PFS.giveK,h.frame.nl],fun k hk=> ?_,fun k hk j hj=> ?_,fun k j hk hj=> ?_,fun k hk=> ?_,h.frame.tlo,fun k b hk hb=>⟨fun j hj=> ?_,fun j hj=> ?_⟩,h.frame.tinj⟩,h.defers,by simp[PFS.giveK,h.len],fun t ht=> ?_⟩⟩;exact h.frame.lo k (hL k hk).2.1;have hj:j<g.n+1:=hj;obtain⟨h1,h2,h3⟩:=hL k hk;by_cases e1:j=g.n;rw[e1,hmun];exact fun e=>h1 (h.frame.inj k i h2 hne e.symm);rw[hmu j oG];exact h.frame.apart k h2 j oG;exact h.frame.inj k j (hL k hk).2.1 (hL j hj).2.1;obtain⟨h1,h2,h3⟩:=hL k hk;show Holds w _ _ (((s.L.map fun l=>l.map (PV.giv i s.st.length)).set i []).getD k []);rw[h3];intro j hj;obtain⟨q1,c,q2,q3⟩:=h.frame.holds k h2 j (by simpa using hj);exact⟨q1,c,q2,by rw[Xs (f:=PV.giv i s.st.length) rfl];exact hf _ _ q3⟩;have hj:j<g.n+1:=hj;by_cases e1:j=g.n;rw[e1,hmun];exact(h.frame.tapart k b hk hb).2 i hne;rw[hmu j oG];exact(h.frame.tapart k b hk hb).1 j oG;exact(h.frame.tapart k b hk hb).2 j (hL j hj).2.1;simp only[PFS.giveK] at ht⊢;show RepF w g' F s.T _ ((s.pa.map (PV.giv i s.st.length)).getD t .junk);rw[Xs (f:=PV.giv i s.st.length) rfl];exact hf _ _ (h.tmps t (by simpa using ht))
@[go_sem] theorem W2x {i:Nat}{pa:Lp}{L st:Qd}{T:Lv} :(PFS.mk pa L T st).giveK i=⟨pa.map (PV.giv i st.length),(L.map fun l=>l.map (PV.giv i st.length)).set i [],T,st++ [(L.getD i []).map PV.forgetK]⟩:=(rfl)
@[go_sem] theorem Y2u {es:Lp} :PV.forgetK (.sl .full es)= .sl .full es:=(rfl)
@[go_sem] theorem Y2s {es:Lp} :PV.forgetK (.sl .no es)= .sl .no es:=(rfl)
@[go_sem] theorem Y2r {v:Value} :PV.forgetK (.sc v)= .sc v:=(rfl)
theorem Og {P:Pg}{E:Ent}{c:Code}{Q:Pe}{s:PFS}(i:Nat)(hi:s.freezeOK i)(hne:s.L.getD i []≠ [])(h:PWP P E c Q (s.giveK i)):PWP P E c Q s:=Kt (G0l i hi hne) h
end Go.Pv
end
