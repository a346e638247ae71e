/- Walk. -/
import Derived.Test.YtpfladficeildaaGreatDoorZBQ
import Derived.Test.YtpfladficeildaaGreatDoorZBE
set_option linter.all false
set_option maxHeartbeats 160000000
section
set_option maxRecDepth 100000
namespace Go.Pv
open Go.Proofs
theorem k0t (a b:Li)(k:Int)(st:Qc):PCalls Tryz.prog 359 [.sl .no (Qj a),.sl .no (Qj b),.sc (.int .i64 k)] st (fun r st'=>r= .fn (.func 364) [] [.gp (st.length+2) 0,.gp st.length 0,.gp (st.length+1) 0]/\st'=st++ [[.sl .no (Qj a)],[.sl .no (Qj b)],[.sc (.int .i64 k)]]):=by
 refine Qh none Tryz.func359 rfl fun E=>Qe (Qb ?_);refine Qq ?_;refine Qe (Vb 0 (by simp[go_sem]) (by simp) (Vb 1 (by simp[go_sem]) (by simp[go_sem,PFS.give]) (Vb 2 (by simp[go_sem]) (by simp[go_sem,PFS.give]) (Qb ?_))));refine Qq ?_;refine Qp ?_;simp
theorem J1a (a b:Li)(k ka kb kk l:Nat)(r:Loop)(w:Lw)(g:Gh)(J:Nat->Qc->Prop)(Jx:Code->Qc->Prop)(hk:k<=10)(hka:k<a.length)(hkb:k<b.length)
 (la:a.length<=1000000) (lb:b.length<=1000000)
 (hJ: ∀i st,J i st->st.getD kk []= [.sc (.int .i64 k)]/\st.getD ka []= [.sl .no (Qj a)]/\st.getD kb []= [.sl .no (Qj b)])
 (hy: ∀i,i<k+1-> ∀st,J i st->PYields Tryz.prog l r w g [.agg (Qm (a.getD i default)),.agg (Qm (b.getD (k-i) default))] st (J (i+1)) Jx) (st:Qc) (h0:J 0 st):
 xV Tryz.prog 364 l r w g [.fn (.yield l) [] [],.gp kk 0,.gp ka 0,.gp kb 0] st (J (k+1)) Jx:=by
 refine Sw Tryz.func364 rfl rfl fun E hrd hw hg hl=> ?_;subst hw hg;obtain⟨q1,q2,q3⟩:=hJ 0 st h0;have wk:IntKind.i64.wrap ((k:Int)+1)=k+1:=Q2 _ oG oG;refine J1 (XJ (Qb ?_));simp-dsimp only[go_sem,q1,wk];refine zG ?_;refine Ry [true,true,true,true,false,false,false,true,true] 0 0 (fun n s=> ∃i st,i<=k+1/\n=k+1-i/\J i st/\s=⟨[.fn (.yield l) [] [],.gp kk 0,.gp ka 0,.gp kb 0,.junk,.junk,.junk,.sc (.int .i64 ((k:Int)+1)),.sc (.int .i64 (i:Nat))]++jk 16,[],[],st⟩) (k+1) ?_ ?_;refine Qq ?_;exact⟨0,st,oG,oG,h0,rfl⟩;rintro n s ⟨i,st,hi,rfl,hj,rfl⟩;obtain⟨q1,q2,q3⟩:=hJ i st hj;refine J1 (XJ (Qb ?_));refine Qq ?_;refine J1 (XJ (Qb ?_));refine QS ?_ ?_<;>intro h;have hik:i<k+1:=(by simp at h;omega);refine Qq ?_;refine J1 (zG ?_);refine J1 (XJ (Qb ?_));refine Qq ?_;refine J1 (Z1k hl hrd Qy 25 [0,1,2,3,4,5,6,7,8,9,10] 11 [12] (.step 0 [] (.step 1 [] (.step 2 [] (.step 3 [] (.step 4 [] (.step 5 [] (.step 6 [] (.step 7 [] (.step 8 [] (.step 9 [] (.step 10 [] (.done)))))))))))) (.step 11 [6] (.step 12 [] (.done))) (.step 12 [] (.done)) (by decide+kernel) (by simp) ?_);have e3:IntKind.i64.wrap ((k:Int)-(i:Nat))=((k-i:Nat):Int):=(by rw[Q2 _ oG oG];omega);have g1:=Zr a i oG;have g2:=Zr b (k-i) oG;simp-dsimp only[go_sem,q1,q2,q3,e3,g1,g2];have e4:=J2v i oG;refine⟨oG,oG,yY (hy i hik st hj) (fun st' hj'=> ?_) (fun c st' hx=> ?_)⟩;refine Qq ?_;refine XJ (Qb ?_);refine Qq ?_;refine XJ (Qb ?_);simp-dsimp only[go_sem,e4];exact⟨k+1-(i+1),oG,i+1,st',oG,rfl,hj',rfl⟩;refine Qq ?_;refine Qp ?_;exact hx;refine Qq ?_;have:i=k+1:=(by simp at h;omega);subst this;simp only[XL,D4,UM];exact hj
theorem Mg (k p:Int)(st:Qc):PR 267 [.sc (.int .i64 k),.sc (.int .i64 p)] st (.sc (.bool (decide (0<=k)&&decide (k<=10)&&Qv p))):=by
 refine Qh none Tryz.func267 rfl fun E=>Qb ?_;by_cases h0:0<=k;by_cases h1:k<=10;simp-dsimp only[go_sem,ge_iff_le,h0,h1,decide_true];refine(Ks p st).Q ?_;simp[h0,h1];simp-dsimp only[go_sem,ge_iff_le,h0,h1,decide_true,decide_false];simp[h1];simp-dsimp only[go_sem,ge_iff_le,h0,decide_false];simp[h0]
theorem zl (a:Li)(k:Nat)(st:Qc)(hk:k<=10)(la:a.length<=1000000)(wa: ∀x∈a,wI x):PR 268 [.sl .no (Qj a),.sc (.int .i64 k)] st (.sc (.bool (decide (k<a.length)&&(a.take (k+1)).all Qr))):=by
 refine Ql Tryz.func268 fun E=> ?_;refine ck ?_ ?_<;>intro h;have: ¬k<a.length:=(by simp at h;omega);refine Qq ?_;simp[this];have hka:k<a.length:=(by simp at h;omega);have wk:=J2v k oG;simp-dsimp only[go_sem,wk];have lt':(a.take (k+1)).length=k+1:=(by simp;omega);refine⟨oG,?_⟩;refine Q1 (rF 14++ [true,true,true]) 0 0 (fun n s=> ∃i,n=k+1-i/\i<=k+1/\(∀j,j<i->Qr (a.getD j default)=true)/\
  s=⟨jk 14++ [.sl .no (Qj (a.take (k+1))),.sc (.int .i64 ((k+1:Nat):Int)),.sc (.int .i64 (i:Nat))]++jk 7,[],[],st⟩) (k+1) ?_ ?_
 simp-dsimp only[go_sem,lt'];exact⟨0,oG,oG,fun j hj=>oG,rfl⟩;rintro n s ⟨i,rfl,hi,hr,rfl⟩;have hall:(a.take (k+1)).all Qr=true<-> ∀j,j<k+1->Qr (a.getD j default)=true:=by rw[q_d];constructor;intro h j hj;have:=h ((a.take (k+1)).getD j default) (QE _ _ _ oG);rwa [WB _ _ _ _ hj] at this;intro h x hx;obtain⟨j,hj,rfl⟩:=List.getElem_of_mem hx;have:=h j oG;rw[List.getElem_take];rwa [q_a,BB oG] at this
 simp-dsimp only[go_sem,lt'];refine ck ?_ ?_<;>intro h';have hlt:i<k+1:=(by have:=q_b h';omega);have e1:(Qj (a.take (k+1))).getD i .junk= .agg (Qm (a.getD i default)):=(by rw[Zr _ i oG,WB _ _ _ _ hlt]);have e3:=J2v i oG;have hm:a.getD i default∈a:=(by rw[q_a,BB oG];simp);simp-dsimp only[go_sem,e1,lt'];refine⟨oG,?_⟩;refine(JF (a.getD i default) st (wa _ hm)).Q ?_;refine ck ?_ ?_<;>intro h2;have hf:Qr (a.getD i default)=false:=(by simpa using h2);refine Qq ?_;have:(a.take (k+1)).all Qr=false:=by
  cases hb:(a.take (k+1)).all Qr with
  | false=>rfl
  | true=>have:=hall.1 hb i hlt;rw[hf] at this;cases this
 simp[this];have ht:Qr (a.getD i default)=true:=(by simpa using h2);simp-dsimp only[go_sem,e3];exact⟨k+1-(i+1),oG,i+1,rfl,oG,fun j hj=>(by by_cases e:j=i;rw[e];exact ht;exact hr j oG),rfl⟩;have:i=k+1:=(by have:=q_c h';omega);subst this;refine Qq ?_;refine Qp ?_;simp[hka,hall.2 hr]
def Wi (p:Int):List (Ivl×Ivl)->Bool->Ivl->Ivl×Int
 | [],_,s=>(s,0)
 | x::l,sm,s=>
  if (opI 2 x.1 x.2 p).2=0 then
   if sm=true then
    if (opI 0 s (opI 2 x.1 x.2 p).1 p).2=0 then Wi p l true (opI 0 s (opI 2 x.1 x.2 p).1 p).1 else(default,(opI 0 s (opI 2 x.1 x.2 p).1 p).2)
   else Wi p l true (opI 2 x.1 x.2 p).1
  else(default,(opI 2 x.1 x.2 p).2)
theorem W0w (p:Int)(x:Ivl×Ivl)(l:List (Ivl×Ivl))(sm:Bool)(s:Ivl):Wi p (x::l) sm s=
 if (opI 2 x.1 x.2 p).2=0 then
  if sm=true then
   if (opI 0 s (opI 2 x.1 x.2 p).1 p).2=0 then Wi p l true (opI 0 s (opI 2 x.1 x.2 p).1 p).1 else(default,(opI 0 s (opI 2 x.1 x.2 p).1 p).2)
  else Wi p l true (opI 2 x.1 x.2 p).1
 else(default,(opI 2 x.1 x.2 p).2):=rfl
def VT (a b:List Ivl)(k:Nat):List (Ivl×Ivl):=(List.range (k+1)).map fun i=>(a.getD i default,b.getD (k-i) default)
def XU (a:List Ivl)(k:Nat):Bool:=decide (k<a.length)&&(a.take (k+1)).all Qr
def JG (a b:List Ivl)(k:Nat)(p:Int):Ivl×Int:=if Qv p=true/\XU a k=true/\XU b k=true then Wi p (VT a b k) false default else(default,1)
theorem J1c (a b:Li)(k i:Nat)(h:i<k+1):(VT a b k).drop i=(a.getD i default,b.getD (k-i) default)::(VT a b k).drop (i+1):=by rw[E8 (by simpa[VT] using h)];simp[VT]
def GY (a b:List Ivl)(k:Nat):List (List PV):=(List.range (k+1)).map fun i=> [.agg (Qm (a.getD i default)),.agg (Qm (b.getD (k-i) default))]
theorem It (a b:Li)(k:Nat):(GY a b k).length=k+1:=by simp[GY]
theorem kE (a b:Li)(k i:Nat)(h:i<k+1):(GY a b k).getD i []= [.agg (Qm (a.getD i default)),.agg (Qm (b.getD (k-i) default))]:=by simp[GY,q_a,h]
theorem J8 (st X:Qc)(i:Nat):(st++X).getD (st.length+i) []=X.getD i []:=by rw[q_a,CA oG,DY,<-q_a]
theorem Kp (st X:Qc):(st++X).getD st.length []=X.getD 0 []:=J8 st X 0
theorem WH (st X:Qc)(i:Nat)(v:Lp):(st++X).set (st.length+i) v=st++X.set i v:=by simp[List.set_append]
theorem Yo (st X:Qc)(v:Lp):(st++X).set st.length v=st++X.set 0 v:=WH st X 0 v
theorem JA :wI (default:Ivl):=by refine⟨?_,?_⟩<;>(show wN ⟨false,0,[]⟩;simp[wN])
theorem X0j (n:Nat)(l:Lu):Low n (.sl .no (Qo l)):=vD fun e he c hc=>by obtain⟨x,_,rfl⟩:=CF.1 he;simp only[PV.cells,C0] at hc;subst hc;exact UI _ _
theorem Y1y (n:Nat)(x:Ivl):Low n (.agg (Qm x)):=X0l fun c hc=>by simp only[Qm,Qf,EG,CQ,D8,List.not_mem_nil,or_false] at hc;rcases hc with rfl | rfl | rfl | rfl | rfl | rfl<;>first | exact UI _ _ | exact X0j _ _
theorem Vg (n:Nat)(x:Ivl)(e:Value):yT n (.tup [.agg (Qm x),.sc e]):=X0h fun c hc=>by simp only[D8,List.not_mem_nil,or_false] at hc;rcases hc with rfl | rfl;exact Y1y n x;exact UI _ _
def W0x (a b:List Ivl)(k:Nat)(p:Int)(st:Qc)(i:Nat)(st':Qc):Prop:= ∃sm s,wI s/\Wi p ((VT a b k).drop i) sm s=Wi p (VT a b k) false default/\st'=st++ [[.sc (.int .i64 p)],Qm default,[.sc (.int .i64 0)],Qm s,[.sc (.bool sm)],[.sl .no (Qj a)],[.sl .no (Qj b)],[.sc (.int .i64 k)]]
def W0v (a b:List Ivl)(k:Nat)(p:Int)(st:Qc)(c:Code)(st':Qc):Prop:=c= .ret/\ ∃e X,Wi p (VT a b k) false default=(default,e)/\st'=st++([.sc (.int .i64 p)]::Qm default:: [.sc (.int .i64 e)]::X)
theorem v1c (a b:Li)(k:Nat)(p:Int)(st:Qc)(hk:k<=10)(la:a.length<=1000000)(lb:b.length<=1000000)(wa: ∀x∈a,wI x)(wb: ∀x∈b,wI x):
 PR 345 [.sl .no (Qj a),.sl .no (Qj b),.sc (.int .i64 k),.sc (.int .i64 p)] st (.tup [.agg (Qm (JG a b k p).1),.sc (.int .i64 (JG a b k p).2)]):=by
 refine kB (Q:=fun r _=>r= .tup [.agg (Qm (JG a b k p).1),.sc (.int .i64 (JG a b k p).2)]) ?_;have v1:decide (0<=(k:Int))=true:=(by simp);have v2:decide ((k:Int)<=10)=true:=(by simp;omega);refine Td none Tryz.func345 rfl fun E=> ?_;refine W5 (Qb ?_);refine Qq ?_;refine W5 (Qb ?_);refine Qq ?_;refine(Mg k p st).q ?_;rw[v1,v2];cases hp:Qv p with
 | false=>
  simp-dsimp only[go_sem,Bool.and_self,Bool.and_false,FB];have e:JG a b k p=(default,1):=(by unfold JG;rw[hp];simp);rw[e];exact⟨⟨[],by simp⟩,Vg _ default _,rfl⟩
 | true=>
  simp-dsimp only[go_sem,Bool.and_self];refine(zl a k st hk la wa).q ?_;rw[show(decide (k<a.length)&&(a.take (k+1)).all Qr)=XU a k from rfl];cases ha:XU a k with
  | false=>
   refine Qq ?_;have e:JG a b k p=(default,1):=(by unfold JG;rw[ha];simp);rw[e];exact⟨⟨[],by simp⟩,Vg _ default _,rfl⟩
  | true=>
   refine Qq ?_;refine(zl b k st hk lb wb).q ?_;rw[show(decide (k<b.length)&&(b.take (k+1)).all Qr)=XU b k from rfl];cases hb:XU b k with
   | false=>
    refine Qq ?_;have e:JG a b k p=(default,1):=(by unfold JG;rw[hb];simp);rw[e];exact⟨⟨[],by simp⟩,Vg _ default _,rfl⟩
   | true=>
    refine Qq ?_;have e:JG a b k p=Wi p (VT a b k) false default:=(by unfold JG;rw[hp,ha,hb];simp);rw[e];refine W5 (Qb ?_);refine Qq ?_;refine W5 (Qb ?_);refine Qq ?_;refine Ke (HI 1) (Ke (HI 3) ?_);refine Qq ?_;refine Ke (Vu 0 (by simp[go_sem]) (by simp)) ?_;refine Qq ?_;refine Ke (Vu 1 (by simp[go_sem]) (by simp)) ?_;refine Qq ?_;refine Ke (Vu 2 (by simp[go_sem]) (by simp)) ?_;refine Qq ?_;refine Ke (Vu 3 (by simp[go_sem]) (by simp)) ?_;refine Qq ?_;refine Ke (Vu 4 (by simp[go_sem]) (by simp)) ?_;refine Qq ?_;refine Ru (W5 (Qb ?_));refine Qq ?_;refine(k0t a b k _).w ?_;rintro st' rfl;refine Qq ?_;refine Rx ?_;refine Ke (Uc (bs:= (rF 7++ [true,true,true,true,true]++rF 24++ [true])) (nL:=0) (nT:=0) (by simp[go_sem])) ?_;simp-dsimp only[go_sem,BP,EG,CQ,DK,Nat.reduceAdd];obtain⟨hka,_⟩:=CR.1 ha;obtain⟨hkb,_⟩:=CR.1 hb;have hka:=q_b hka;have hkb:=q_b hkb;refine Rv rfl rfl rfl (by simp only[go_sem]) (GY a b k) (fun i hi=> ?_)
     (W0x a b k p st)
     (W0v a b k p st) ?_ ?_ ?_ ?_ ?_
    rw[kE _ _ _ _ (by rw[It] at hi;exact hi)];rfl;exact⟨false,default,JA,rfl,rfl⟩;intro l r w g hy;rw[It];refine J1a a b k (st.length+5) (st.length+6) (st.length+7) l r w g (W0x a b k p st) (W0v a b k p st) hk hka hkb la lb (fun i st' ⟨sm,s,_,_,e⟩=> ?_) (fun i hi st' hj=> ?_) _ ⟨false,default,JA,rfl,rfl⟩;subst e;simp only[J8];exact⟨rfl,rfl,rfl⟩;have:=hy i (by rw[It];exact hi) st' hj;rw[kE _ _ _ _ hi] at this;exact this;rintro i st' hi ⟨sm,s,ws,hc,rfl⟩ E;have hi:i<k+1:=(by rw[It] at hi;exact hi);rw[kE _ _ _ _ hi];refine Qb ?_;simp-dsimp only[go_sem,List.zip_cons_cons,List.zip_nil_right,List.foldl_cons,List.foldl_nil];intro E;refine Qb ?_;simp-dsimp only[go_sem,J8,Kp];have m1:a.getD i default∈a:=QE _ _ _ oG;have m2:b.getD (k-i) default∈b:=QE _ _ _ oG;rw[J1c a b k i hi] at hc;rw[W0w] at hc;refine(UK _ _ p _ (wa _ m1) (wb _ m2)).q ?_;have wz:=qF 2 (a.getD i default) (b.getD (k-i) default) p;simp only at hc;generalize opI 2 (a.getD i default) (b.getD (k-i) default) p=z at hc wz⊢;by_cases hz:z.2=0;have b0:(z.2==0)=true:=(by simp[hz]);have b1:(z.2 !=0)=false:=(by simp[hz]);rw[BC hz] at hc;cases sm with
    | false=>
     simp-dsimp only[go_sem,J8,Kp,WH,Yo,b0,b1];rw[BA (by simp)] at hc;exact⟨true,z.1,wz,hc,rfl⟩
    | true=>
     simp-dsimp only[go_sem,J8,Kp,WH,Yo,b0,b1];refine(UL _ _ p _ ws wz).q ?_;have wu:=qF 0 s z.1 p;rw[BC rfl] at hc;generalize opI 0 s z.1 p=u at hc wu⊢;by_cases hu:u.2=0;have c1:(u.2 !=0)=false:=(by simp[hu]);simp-dsimp only[go_sem,J8,Kp,WH,Yo,c1];rw[BC hu] at hc;exact⟨true,u.1,wu,hc,rfl⟩;have c1:(u.2 !=0)=true:=(by simp[hu]);simp-dsimp only[go_sem,J8,Kp,WH,Yo,c1];rw[BA hu] at hc;exact⟨rfl,u.2,_,hc.symm,rfl⟩
    have b0:(z.2==0)=false:=(by simp[hz]);have b1:(z.2 !=0)=true:=(by simp[hz]);rw[BA hz] at hc;simp-dsimp only[go_sem,J8,Kp,WH,Yo,b0,b1];exact⟨rfl,z.2,_,hc.symm,rfl⟩;rintro st' ⟨sm,s,ws,hc,rfl⟩;show∀E',PWP _ E' _ _ _;intro E';refine Qb ?_;simp-dsimp only[go_sem,J8,Kp,WH,Yo];have e0:(VT a b k).drop (GY a b k).length= []:=(by rw[It];simp[VT]);rw[e0] at hc;rw[<-hc];exact⟨⟨_,rfl⟩,Vg _ s _,rfl⟩;rintro c st' ⟨rfl,e,X,hc,rfl⟩;simp-dsimp only[go_sem,vL,XL,ZO,Gk,J8,Kp];rw[hc];exact⟨⟨_,rfl⟩,Vg _ default _,rfl⟩
def ZM (f:List (List Mn))(x a:List Ivl)(h:Nm)(p:Int):List Ivl×Int:=
 if ZY f=true/\rightB x=true/\rightB a=true/\x.length=f.length/\a.length=f.length/\Qg h=true/\ ¬QT (XR h)<=0/\Qv p=true then
  if (ZZ f a p).2=0 then
   if (XP ⟨default,h⟩ (ZZ f a p).1 p).2=0 then opB 0 x (XP ⟨default,h⟩ (ZZ f a p).1 p).1 p else([],(XP ⟨default,h⟩ (ZZ f a p).1 p).2)
  else([],(ZZ f a p).2)
 else([],1)
theorem Tc (f:Lk)(x a:Li)(h:Nm)(p:Int)(st:Qc)(hf:wF f)(hx:wB x)(ha:wB a)(hh:wN h):
 PR 199 [.sl .no (QL f),.sl .no (Qj x),.sl .no (Qj a),.agg (Qf h),.sc (.int .i64 p)] st (.tup [.sl .no (Qj (ZM f x a h p).1),.sc (.int .i64 (ZM f x a h p).2)]):=by
 refine Ql Tryz.func199 fun E=> ?_;refine(IJ f st hf).q ?_;cases h1:ZY f with
 | false=>simp-dsimp only[go_sem];simp[ZM,h1,Qj]
 | true=>
 refine Qq ?_;refine(Ko x st hx).q ?_;cases h2:rightB x with
 | false=>simp-dsimp only[go_sem];simp[ZM,h2,Qj]
 | true=>
 refine Qq ?_;refine(Ko a st ha).q ?_;cases h3:rightB a with
 | false=>simp-dsimp only[go_sem];simp[ZM,h3,Qj]
 | true=>
 have bne: ∀ {m n:Nat},m≠n->((m:Int) !=(n:Int))=true:=fun h=>by rw[BV];omega
 have beq: ∀ {m n:Nat},m=n->((m:Int) !=(n:Int))=false:=fun h=>by subst h;simp
 by_cases h4:x.length=f.length;rotate_left;simp-dsimp only[go_sem,bne h4];simp[ZM,h4,Qj];by_cases h5:a.length=f.length;rotate_left;simp-dsimp only[go_sem,beq h4,bne h5];simp[ZM,h5,Qj];simp-dsimp only[go_sem,beq h4,beq h5];refine(XY h st (by have:=hh;unfold wN at this;omega)).q ?_;cases h6:Qg h with
 | false=>simp-dsimp only[go_sem];simp[ZM,h6,Qj]
 | true=>
 refine Qq ?_;refine(zV h st (by have:=hh;unfold wN at this;omega)).q ?_;by_cases h7:QT (XR h)<=0;simp-dsimp only[go_sem,q_h h7];simp[ZM,h7,Qj];simp-dsimp only[go_sem,q_g h7];refine(Ks p st).q ?_;cases h8:Qv p with
 | false=>simp-dsimp only[go_sem];simp[ZM,h8,Qj]
 | true=>
 refine Qq ?_;have hall:ZM f x a h p=if (ZZ f a p).2=0 then
  if (XP ⟨default,h⟩ (ZZ f a p).1 p).2=0 then opB 0 x (XP ⟨default,h⟩ (ZZ f a p).1 p).1 p else([],(XP ⟨default,h⟩ (ZZ f a p).1 p).2)
  else([],(ZZ f a p).2):=by unfold ZM;rw[BC ⟨h1,h2,h3,h4,h5,h6,h7,h8⟩]
 rw[hall];refine(z1t f a p st hf ha).q ?_;have w1:=y0w f a p hf.1;generalize ZZ f a p=z at w1⊢;by_cases hz:z.2=0;rotate_left;have e:(z.2 !=0)=true:=(by simp[hz]);simp-dsimp only[go_sem,e];simp[hz,Qj];have e:(z.2 !=0)=false:=(by simp[hz]);simp-dsimp only[go_sem,e];rw[BC hz];refine(w1y ⟨default,h⟩ z.1 p st ⟨by show wN ⟨false,0,[]⟩;simp[wN],hh⟩ w1).q ?_;have w2:=H0u ⟨default,h⟩ z.1 p w1;generalize XP ⟨default,h⟩ z.1 p=u at w2⊢;by_cases hu:u.2=0;rotate_left;have e:(u.2 !=0)=true:=(by simp[hu]);simp-dsimp only[go_sem,e];simp[hu,Qj];have e:(u.2 !=0)=false:=(by simp[hu]);simp-dsimp only[go_sem,e];rw[BC hu];refine(y6 x u.1 p st hx w2).Q0
theorem ve (f:Lk)(x a:Li)(h:Nm)(p:Int)(hx:wB x):wB (ZM f x a h p).1:=by unfold ZM;split;split;split;exact H0v 0 x _ p hx;exact Kr;exact Kr;exact Kr
def HV (f:List (List Mn))(x a:List Ivl)(h:Nm)(p:Int):Bool:=decide ((ZM f x a h p).2=0)&&inB (ZM f x a h p).1 a
theorem X1t (f:Lk)(x a:Li)(h:Nm)(p:Int)(st:Qc)(hf:wF f)(hx:wB x)(ha:wB a)(hh:wN h):
 PR 131 [.sl .no (QL f),.sl .no (Qj x),.sl .no (Qj a),.agg (Qf h),.sc (.int .i64 p)] st (.sc (.bool (HV f x a h p))):=by
 refine Ql Tryz.func131 fun E=> ?_;refine(Tc f x a h p st hf hx ha hh).q ?_;have w:=ve f x a h p hx;unfold HV;generalize ZM f x a h p=z at w⊢;by_cases hz:z.2=0;have e:(z.2==0)=true:=(by simp[hz]);simp-dsimp only[go_sem,e];refine(Y0v z.1 a st w ha).Q ?_;simp[hz];have e:(z.2==0)=false:=(by simp[hz]);simp-dsimp only[go_sem,e];simp[hz]
def VJ (a b:List Ivl)(p:Int):List Ivl×Int:=if (Wa a b).2=0 then YL (Wa a b).1 p else([],(Wa a b).2)
theorem Tb (a b:Li)(p:Int)(st:Qc)(ha:wB a)(hb:wB b):PR 197 [.sl .no (Qj a),.sl .no (Qj b),.sc (.int .i64 p)] st (.tup [.sl .no (Qj (VJ a b p).1),.sc (.int .i64 (VJ a b p).2)]):=by
 refine Ql Tryz.func197 fun E=> ?_;refine(y1g a b st ha hb).q ?_;have w:=Bp ha hb;unfold VJ;generalize Wa a b=z at w⊢;by_cases hz:z.2=0;have e:(z.2 !=0)=false:=(by simp[hz]);simp-dsimp only[go_sem,e];refine(y1h z.1 p st w).Q ?_;rw[BC hz];have e:(z.2 !=0)=true:=(by simp[hz]);simp-dsimp only[go_sem,e];simp[hz,Qj]
theorem jb (a b:Li)(p:Int)(ha:wB a)(hb:wB b):wB (VJ a b p).1:=by unfold VJ;split;exact H0y _ _ (Bp ha hb);exact Kr
def We (f:List (List Mn))(x:List Ivl)(h:Nm)(p:Int):List PV:= [.sl .no (QL f),.sl .no (Qj x)]++Qf h++ [.sc (.int .i64 p)]
theorem k0x (f:Lk)(x a:Li)(h:Nm)(p:Int)(st:Qc)(hf:wF f)(hx:wB x)(ha:wB a)(hh:wN h):
 PR 196 [.agg (We f x h p),.sl .no (Qj a)] st (.tup [.sl .no (Qj (ZM f x a h p).1),.sc (.int .i64 (ZM f x a h p).2)]):=by
 refine Qh none Tryz.func196 rfl fun E=>Qb ?_;simp-dsimp only[go_sem,We,EG,CQ];refine(Tc f x a h p st hf hx ha hh).Q0
def JL (f:List (List Mn))(x:List Ivl)(h:Nm)(p:Int):Nat->Bool->List Ivl->List (List Ivl×List Ivl)
 | 0,_,_=> []
 | n+1,yl,a=>
  if (ZM f x a h p).2=0 then
   (if yl=true then [(a,(ZM f x a h p).1)] else [])++(if (VJ a (ZM f x a h p).1 p).2=0 then JL f x h p n true (VJ a (ZM f x a h p).1 p).1 else [])
  else []
theorem Db (f:Lk)(x:Li)(h:Nm)(p:Int)(n:Nat)(yl:Bool)(a:Li):JL f x h p (n+1) yl a=
 if (ZM f x a h p).2=0 then
  (if yl=true then [(a,(ZM f x a h p).1)] else [])++(if (VJ a (ZM f x a h p).1 p).2=0 then JL f x h p n true (VJ a (ZM f x a h p).1 p).1 else [])
 else []:=rfl
theorem z0g (f:Lk)(x:Li)(h:Nm)(p:Int)(st:Qc):PCalls Tryz.prog 129 [.agg (We f x h p)] st (fun r st'=>r= .fn (.func 195) [] [.gp st.length 0]/\st'=st++ [We f x h p]):=by
 refine Qh none Tryz.func129 rfl fun E=>Qe (Qb ?_);simp-dsimp only[go_sem,We,EG,CQ];refine Qe (Vb 0 (by simp[go_sem]) (by simp) (Qb ?_));refine Qq ?_;refine Qb ?_;exact QA
theorem z0h (f:Lk)(x:Li)(h:Nm)(p:Int)(ks l:Nat)(r:Loop)(w:Lw)(g:Gh)(J:Nat->Qc->Prop)(Jx:Code->Qc->Prop)(hf:wF f)(hx:wB x)(hh:wN h)
 (hJ: ∀i st,J i st->st.getD ks []=We f x h p)
 (hy: ∀i,i<(JL f x h p 9 false x).length-> ∀st,J i st->PYields Tryz.prog l r w g [.sl .no (Qj ((JL f x h p 9 false x).getD i default).1),.sl .no (Qj ((JL f x h p 9 false x).getD i default).2)] st (J (i+1)) Jx) (st:Qc) (h0:J 0 st):
 xV Tryz.prog 195 l r w g [.fn (.yield l) [] [],.gp ks 0] st (J (JL f x h p 9 false x).length) Jx:=by
 generalize hT:JL f x h p 9 false x=T at hy⊢;refine Sw Tryz.func195 rfl rfl fun E hrd hw hg hl=> ?_;subst hw hg;have q1:=hJ 0 st h0;refine J1 (XJ (Qb ?_));simp-dsimp only[go_sem,q1,We,EG,CQ];refine J1 (XJ (Qb ?_));refine Qq ?_;refine zG ?_;refine Ry [true,true,false,true,false,false,false,false,false,true] 0 0 (fun n s=> ∃i j a st,i<=9/\n=9-i/\wB a/\J j st/\j<=T.length/\T.drop j=JL f x h p (9-i) (decide (0<i)) a/\
  s=⟨[.fn (.yield l) [] [],.gp ks 0,.junk,.sl .no (Qj a),.junk,.junk,.junk,.junk,.junk,.sc (.int .i64 (i:Nat))]++jk 32,[],[],st⟩) 9 ?_ ?_
 refine Qq ?_;exact⟨0,0,x,st,oG,rfl,hx,h0,oG,hT.symm,rfl⟩;rintro n s ⟨i,j,a,st,hi,rfl,wa,hj,hjl,hd,rfl⟩;have q1:=hJ j st hj;refine J1 (XJ (Qb ?_));refine Qq ?_;refine J1 (XJ (Qb ?_));refine Qq ?_;have fin': ∀j,j<=T.length->T.drop j= []->j=T.length:=fun j hjl h=>(by have:=B4 List.length h;simp at this;omega);have fin:=fin' j hjl;have e4:i<9->IntKind.i64.wrap ((i:Int)+1)=((i+1:Nat):Int):=fun h=>(by rw[Q2 _ oG oG];omega);refine ck ?_ ?_<;>intro h';have hlt:i<9:=(by simp at h';omega);refine Qq ?_;refine J1 (zG ?_);refine J1 (XJ (Qb ?_));refine Qq ?_;refine J1 (XJ (Qb ?_));simp-dsimp only[go_sem,q1,We,EG,CQ];refine(k0x f x a h p st hf hx wa hh).mono ?_;rintro r st ⟨rfl,rfl⟩;refine Qq ?_;have e9:9-i=(8-i)+1:=oG;have e4:=e4 hlt;have hi9:=hlt;rw[e9,Db] at hd;have wb:=ve f x a h p hx;generalize ZM f x a h p=b at hd wb⊢;by_cases hb:b.2=0;have eb:(b.2 !=0)=false:=(by simp[hb]);rw[BC hb] at hd;by_cases h0i:0<i;have gi:decide ((i:Int)>0)=true:=(by simp;omega);rw[BC (by simpa using h0i)] at hd;have hlt:j<T.length:=ES fun hle=>(by rw[E4 hle] at hd;cases hd);rw[E8 hlt] at hd;simp only[EG,CQ,FJ] at hd;obtain⟨hd1,hd2⟩:=hd;have hget:T.getD j default=(a,b.1):=(by rw[q_a,BB hlt];exact hd1);have hyj:=hy j hlt st hj;rw[hget] at hyj;refine J1 (J1 (Z1i hl hrd 9 ?_));simp-dsimp only[go_sem,eb,gi];refine yY hyj (fun st' hj'=> ?_) (fun c st' hx=> ?_);refine Qq ?_;refine XJ (Qb ?_);refine Qq ?_;refine J1 (XJ (Qb ?_));simp-dsimp only[go_sem,hJ _ _ hj',We,EG,CQ];refine(Tb a b.1 p _ wa wb).mono ?_;rintro r st2 ⟨rfl,rfl⟩;have wc:=jb a b.1 p wa wb;generalize VJ a b.1 p=c at hd2 wc⊢;by_cases hc:c.2=0;have ec:(c.2 !=0)=false:=(by simp[hc]);rw[BC hc] at hd2;refine Qq ?_;refine XJ (Qb ?_);simp-dsimp only[go_sem,ec];refine XJ (Qb ?_);simp-dsimp only[go_sem,e4];exact⟨9-(i+1),oG,i+1,(j+1),c.1,_,oG,rfl,wc,hj',oG,by rw[hd2,show 8-i=9-(i+1) from oG];simp,rfl⟩;have ec:(c.2 !=0)=true:=(by simp[hc]);rw[BA hc] at hd2;refine Qq ?_;refine XJ (Qb ?_);simp-dsimp only[go_sem,ec];simp only[XL,UM,ZO];rw[<-fin' _ oG hd2];exact hj';refine Qq ?_;refine Qp ?_;exact hx;have gi:decide ((i:Int)>0)=false:=(by simp;omega);have hi0:decide (0<i)=false:=(by simp;omega);refine J1 (XJ (Qb ?_));simp-dsimp only[go_sem,eb,gi];simp only[hi0,B3,DT,CQ] at hd;refine J1 (XJ (Qb ?_));simp-dsimp only[go_sem,hJ _ _ hj,We,EG,CQ];refine(Tb a b.1 p _ wa wb).mono ?_;rintro r st2 ⟨rfl,rfl⟩;have wc:=jb a b.1 p wa wb;generalize VJ a b.1 p=c at hd wc⊢;by_cases hc:c.2=0;have ec:(c.2 !=0)=false:=(by simp[hc]);rw[BC hc] at hd;refine Qq ?_;refine XJ (Qb ?_);simp-dsimp only[go_sem,ec];refine XJ (Qb ?_);simp-dsimp only[go_sem,e4];exact⟨9-(i+1),oG,i+1,j,c.1,_,oG,rfl,wc,hj,hjl,by rw[hd,show 8-i=9-(i+1) from oG];simp,rfl⟩;have ec:(c.2 !=0)=true:=(by simp[hc]);rw[BA hc] at hd;refine Qq ?_;refine XJ (Qb ?_);simp-dsimp only[go_sem,ec];simp only[XL,UM,ZO];rw[<-fin' _ hjl hd];exact hj;have eb:(b.2 !=0)=true:=(by simp[hb]);rw[BA hb] at hd;refine J1 (XJ (Qb ?_));simp-dsimp only[go_sem,eb];simp only[XL,UM,ZO];rw[<-fin hd];exact hj;refine Qq ?_;have:i=9:=(by simp at h';omega);subst this;simp only[XL,D4,UM];rw[<-fin (by rw[hd];rfl)];exact hj
def Gj (f:List (List Mn))(x:List Ivl)(h:Nm)(p:Int):List (List Ivl×List Ivl)->List Ivl×Bool
 | []=>([],false)
 | e::l=>if inB e.2 e.1=true then(if HV f x e.2 h p=true then e.2 else e.1,true) else Gj f x h p l
theorem Y0t (f:Lk)(x:Li)(h:Nm)(p:Int)(e:List Ivl×List Ivl)(l:List (List Ivl×List Ivl)):Gj f x h p (e::l)=if inB e.2 e.1=true then(if HV f x e.2 h p=true then e.2 else e.1,true) else Gj f x h p l:=rfl
def VE (f:List (List Mn))(x:List Ivl)(h:Nm)(p:Int):List Ivl×Bool:=Gj f x h p (JL f x h p 9 false x)
theorem jx (f:Lk)(x:Li)(h:Nm)(p:Int)(hx:wB x): ∀(n:Nat) (yl:Bool) (a:Li),wB a-> ∀e∈JL f x h p n yl a,wB e.1/\wB e.2
 | 0,_,_,_,e,he=>by cases he
 | n+1,yl,a,ha,e,he=>by rw[Db] at he;have hb:=ve f x a h p hx;split at he;rcases DN.1 he with he | he;split at he;have:e=(a,(ZM f x a h p).1):=(by simpa using he);rw[this];exact⟨ha,hb⟩;cases he;split at he;exact jx f x h p hx n true _ (jb a _ p ha hb) e he;cases he;cases he
def Y0u (f:List (List Mn))(x:List Ivl)(h:Nm)(p:Int)(st:Qc)(i:Nat)(st':Qc):Prop:=Gj f x h p ((JL f x h p 9 false x).drop i)=VE f x h p/\
 st'=st++ [[.sl .no (QL f)],[.sl .no (Qj x)],Qf h,[.sc (.int .i64 p)],[.sl .no (Qj [])],[.sc (.bool false)],We f x h p]
def Y0p (f:List (List Mn))(x:List Ivl)(h:Nm)(p:Int)(st:Qc)(c:Code)(st':Qc):Prop:=c= .exit 0/\ ∃o X,VE f x h p=(o,true)/\
 st'=st++([.sl .no (QL f)]:: [.sl .no (Qj x)]::Qf h:: [.sc (.int .i64 p)]:: [.sl .no (Qj o)]:: [.sc (.bool true)]::X)
def HR (l:List (List Ivl×List Ivl)):List (List PV):=l.map fun e=> [.sl .no (Qj e.1),.sl .no (Qj e.2)]
theorem HQ (l:List (List Ivl×List Ivl)):(HR l).length=l.length:=by simp[HR]
theorem jy (l:List (List Ivl×List Ivl))(i:Nat)(h:i<l.length):(HR l).getD i []= [.sl .no (Qj (l.getD i default).1),.sl .no (Qj (l.getD i default).2)]:=by simp[HR,q_a,h]
theorem X0m (n:Nat)(l:Li)(v:Value):yT n (.tup [.sl .no (Qj l),.sc v]):=X0h fun c hc=>by
 simp only[D8,List.not_mem_nil,or_false] at hc;rcases hc with rfl | rfl;refine vD fun e he c hc=> ?_;obtain⟨x,_,rfl⟩:=CF.1 he;have hc:c∈Qm x:=hc;simp only[Qm,Qf,EG,CQ,D8,List.not_mem_nil,or_false] at hc;rcases hc with rfl | rfl | rfl | rfl | rfl | rfl<;>first | exact UI _ _ | exact X0j _ _
 exact UI _ _
theorem X1u (f:Lk)(x:Li)(h:Nm)(p:Int)(st:Qc)(hf:wF f)(hx:wB x)(hh:wN h):
 PR 74 [.sl .no (QL f),.sl .no (Qj x),.agg (Qf h),.sc (.int .i64 p)] st (.tup [.sl .no (Qj (VE f x h p).1),.sc (.bool (VE f x h p).2)]):=by
 refine kB (Q:=fun r _=>r= .tup [.sl .no (Qj (VE f x h p).1),.sc (.bool (VE f x h p).2)]) ?_;refine Td none Tryz.func74 rfl fun E=> ?_;refine W5 (Qb ?_);refine Qq ?_;refine Z1h ?_;refine W5 (Qb ?_);refine Qq ?_;refine W5 (Qb ?_);refine Qq ?_;refine W5 (Qb ?_);refine Qq ?_;refine Ke (HI 4) ?_;refine Qq ?_;refine Ke (Vu 0 (by simp[go_sem]) (by simp)) ?_;refine Qq ?_;refine Ke (Vu 1 (by simp[go_sem]) (by simp)) ?_;refine Qq ?_;refine Ke (Vu 2 (by simp[go_sem]) (by simp)) ?_;refine Qq ?_;refine Ke (Vu 3 (by simp[go_sem]) (by simp)) ?_;refine Qq ?_;refine Ke (Vu 4 (by simp[go_sem]) (by simp)) ?_;refine Qq ?_;refine Ke (Vu 5 (by simp[go_sem]) (by simp)) ?_;refine Qq ?_;refine Ru (W5 (Qb ?_));simp-dsimp only[go_sem,BP,EG,CQ,DK,Nat.reduceAdd,J8,Kp];refine(z0g f x h p _).w ?_;rintro st' rfl;refine Qq ?_;refine Rx ?_;refine Ke (Uc (bs:= ([false,false,false,false,true,true,true,true,false,false,true,true]++rF 7++ [true])) (nL:=0) (nT:=0) (by simp[go_sem])) ?_;simp-dsimp only[go_sem,BP,EG,CQ,DK,Nat.reduceAdd];refine Rv rfl rfl rfl (by simp only[go_sem]) (HR (JL f x h p 9 false x)) (fun i hi=> ?_) (Y0u f x h p st) (Y0p f x h p st) ?_ ?_ ?_ ?_ ?_;rw[jy _ _ (by rw[HQ] at hi;exact hi)];rfl;exact⟨rfl,rfl⟩;intro l r w g hy;rw[HQ];refine z0h f x h p (st.length+6) l r w g (Y0u f x h p st) (Y0p f x h p st) hf hx hh (fun i st' ⟨_,e⟩=> ?_) (fun i hi st' hj=> ?_) _ ⟨rfl,rfl⟩;subst e;simp only[J8];rfl;have:=hy i (by rw[HQ];exact hi) st' hj;rw[jy _ _ hi] at this;exact this;rintro i st' hi ⟨hc,rfl⟩ E;have hi:i<(JL f x h p 9 false x).length:=(by rw[HQ] at hi;exact hi);rw[jy _ _ hi];have hw:=jx f x h p hx 9 false x hx _ (QE _ i default hi);have hc:Gj f x h p ((JL f x h p 9 false x).getD i default::(JL f x h p 9 false x).drop (i+1))=VE f x h p:=by rw[<-hc,E8 hi,q_a,BB hi];rfl
 rw[Y0t] at hc;generalize (JL f x h p 9 false x).getD i default=e at hw hc⊢;obtain⟨wa,wb⟩:=hw;refine Qb ?_;simp-dsimp only[go_sem,List.zip_cons_cons,List.zip_nil_right,List.foldl_cons,List.foldl_nil];intro E;refine Qb ?_;simp-dsimp only[go_sem,J8,Kp];refine(Y0v e.2 e.1 _ wb wa).q ?_;cases hin:inB e.2 e.1 with
 | false=>
  rw[hin,BA (by simp)] at hc;refine Qq ?_;exact⟨hc,rfl⟩
 | true=>
  rw[hin,BC rfl] at hc;simp-dsimp only[go_sem,J8,Kp,WH,Yo];refine(X1t f x e.2 h p _ hf hx wb hh).q ?_;cases hs:HV f x e.2 h p with
  | false=>
   rw[hs,BA (by simp)] at hc;simp-dsimp only[go_sem,J8,Kp,WH,Yo];exact⟨rfl,e.1,_,hc.symm,rfl⟩
  | true=>
   rw[hs,BC rfl] at hc;simp-dsimp only[go_sem,J8,Kp,WH,Yo];exact⟨rfl,e.2,_,hc.symm,rfl⟩
 rintro st' ⟨hc,rfl⟩;show∀E',PWP _ E' _ _ _;intro E';refine Qe (Q8 36 (Qk [0,1,2,3] .done) ?_);simp-dsimp only[go_sem,J8,Kp];refine Qp ?_;rw[HQ,FF] at hc;rw[<-hc];exact⟨⟨_,rfl⟩,X0m _ [] _,rfl⟩;rintro c st' ⟨rfl,o,X,hc,rfl⟩;simp-dsimp only[go_sem,vL,XL,ZO,D4];intro E';refine Qe (Q8 36 (Qk [0,1,2,3] .done) ?_);simp-dsimp only[go_sem,J8,Kp];refine Qp ?_;rw[hc];exact⟨⟨_,rfl⟩,X0m _ o _,rfl⟩
theorem Y0s (f:Lk)(x:Li)(h:Nm)(p:Int): ∀(l:List (List Ivl×List Ivl)),(∀e∈l,wB e.1/\wB e.2)->wB (Gj f x h p l).1
 | [],_=>Kr
 | e::l,hl=>by rw[Y0t];split;split;exact(hl e (by simp)).2;exact(hl e (by simp)).1;exact Y0s f x h p l fun e he=>hl e (by simp[he])
theorem y1c (f:Lk)(x:Li)(h:Nm)(p:Int)(hx:wB x):wB (VE f x h p).1:=Y0s f x h p _ (jx f x h p hx 9 false x hx)
theorem zn {x:Nm}{k:Nat}(h:(QQ x (-(k:Int))).2=0):Qg x=true/\qN (QQ x (-(k:Int))).1*p2 k=qN x:=by
 unfold QQ at h⊢;split at h;rename_i hr;rw[BC hr];refine⟨hr,?_⟩;split at h;rename_i hw;rw[BC hw];have h0:qN x=0:=kn (by rw[hw];rfl);show qN x*p2 k=qN x;rw[h0,Rat.zero_mul];rename_i hw;rw[BA hw];split at h;exact absurd h (by decide);rename_i hk;rw[BA hk];have hc:QF (⟨x.neg,Qd x.w,x.exp+ -(k:Int)⟩:Vl):=by rcases Jd hr with h1 | h1;exact .inl h1;exact absurd ((Wp hr).1 (show Qd x.w=0 from B4 Vl.m h1)) hw
 rw[(JQ hc h).2];unfold qV qN qM;show((QK ⟨x.neg,Qd x.w,x.exp+ -(k:Int)⟩:Int):Rat)*p2 (x.exp+ -(k:Int))*p2 k=((Z6 x:Int):Rat)*p2 x.exp;rw[Rat.mul_assoc,<-Y3];congr 2;omega;exact absurd h (by decide)
theorem Ml {x:Nm}{L U k:Nat}(hx:Qg x=true)(h:luQ L U (qN x))(hk:k<=1000)(hb:L+U+k+1<=4096):(QQ x (-(k:Int))).2=0/\luQ (L+k) U (qN (QQ x (-(k:Int))).1):=by
 have key: ∀y:Rat,y*p2 k=qN x->luQ (L+k) U y:=fun y hy=>by
  obtain⟨z,h1,h2⟩:=h;refine⟨z,?_,B7 h2 (BS (by decide) oG)⟩;have hne:=J1e k;have e:qM z (-((L+k:Nat):Int))*p2 k=qM z (-(L:Int)):=by unfold qM;rw[Rat.mul_assoc,<-Y3];congr 2;omega
  rw[h1,<-e] at hy;have:=B4 (fun t=>t*(p2 k)⁻¹) hy;simp only[Rat.mul_assoc,Rat.mul_inv_cancel _ hne,Rat.mul_one] at this;exact this
 have h0:(QQ x (-(k:Int))).2=0:=by
  unfold QQ;rw[BC hx];split;rfl;rename_i hw;rw[BA oG];have hc:QF (⟨x.neg,Qd x.w,x.exp+ -(k:Int)⟩:Vl):=by rcases Jd hx with h1 | h1;exact .inl h1;exact absurd ((Wp hx).1 (show Qd x.w=0 from B4 Vl.m h1)) hw
  refine YB hc (key _ ?_) oG;unfold qV qN qM;show((QK ⟨x.neg,Qd x.w,x.exp+ -(k:Int)⟩:Int):Rat)*p2 (x.exp+ -(k:Int))*p2 k=((Z6 x:Int):Rat)*p2 x.exp;rw[Rat.mul_assoc,<-Y3];congr 2;omega
 exact⟨h0,key _ (zn h0).2⟩
theorem HS {q:Nat}(h0:0<q)(h:q<=64):luQ 3 6 (qN (tq q))/\0<qN (tq q):=by have e:qN (tq q)=qM (q:Int) (-3):=(by rw[<-Zv,(Q0u q oG).2,zB]);refine⟨⟨(q:Int),e,?_⟩,?_⟩;simp only[LF];omega;rw[e,<-XD (-3)];exact qM_lt.2 oG
theorem Z1y {x y:Rat}{k:Int}(h:y*p2 k=x)(hx:0<x):0<y:=by have:=zL k;apply Rat.not_le.1;intro hy;have h2:=Kh (a:= -y) (b:=p2 k) (by grind) (by grind);grind
theorem Q0b {k:Nat}{a b:Li}{p:Int}(h:(opB k a b p).2=0):(rightB a=true/\rightB b=true/\a.length=b.length/\Qv p=true)/\(opB k a b p).1.length=a.length/\
 (∀j,j<a.length->(opI k (a.getD j default) (b.getD j default) p).2=0)/\ ∀j,j<a.length->(opB k a b p).1.getD j default=(opI k (a.getD j default) (b.getD j default) p).1:=by
 unfold opB at h⊢;by_cases c:rightB a=true/\rightB b=true/\a.length=b.length/\Qv p=true;rw[BC c,UX] at h;rw[BC c,UX];exact⟨c,WS h⟩;rw[BA c] at h;exact absurd h (by decide)
theorem z0n {x:Ivl}{b:Li}{p:Int}(h:(XP x b p).2=0):(rightB b=true/\Qr x=true/\Qv p=true)/\(XP x b p).1.length=b.length/\
 (∀j,j<b.length->(opI 2 x (b.getD j default) p).2=0)/\ ∀j,j<b.length->(XP x b p).1.getD j default=(opI 2 x (b.getD j default) p).1:=by
 unfold XP at h⊢;by_cases c:rightB b=true/\Qr x=true/\Qv p=true;rw[BC c,UX] at h;rw[BC c,UX];exact⟨c,WS h⟩;rw[BA c] at h;exact absurd h (by decide)
theorem k0p {h:Nm}(hr:Qg h=true):(¬QT (XR h)<=0)<->0<qN h:=by unfold XR;rw[BC hr,<-GF];omega
structure NextOK (f:List (List Mn)) (x a:List Ivl) (h:Nm) (p:Int):Prop where
 rf:ZY f=true
 rx:rightB x=true
 ra:rightB a=true
 lx:x.length=f.length
 la:a.length=f.length
 rh:Qg h=true
 ph:0<qN h
 pp:Qv p=true
 e1:(ZZ f a p).2=0
 e2:(XP ⟨default,h⟩ (ZZ f a p).1 p).2=0
 e3:(opB 0 x (XP ⟨default,h⟩ (ZZ f a p).1 p).1 p).2=0
theorem NextOK.val {f:Lk}{x a:Li}{h:Nm}{p:Int}(n:NextOK f x a h p):(ZM f x a h p).1=(opB 0 x (XP ⟨default,h⟩ (ZZ f a p).1 p).1 p).1:=by unfold ZM;rw[BC ⟨n.rf,n.rx,n.ra,n.lx,n.la,n.rh,(k0p n.rh).2 n.ph,n.pp⟩,BC n.e1,BC n.e2]
theorem y0x {f:Lk}{a:Li}{p:Int}(h:(ZZ f a p).2=0):(ZY f=true/\a.length=f.length)/\(ZZ f a p).1.length=f.length/\ ∀j,j<f.length->(ZZ f a p).1.getD j default=(Xu (f.getD j []) a p (f.getD j []).length).1/\(Xu (f.getD j []) a p (f.getD j []).length).2=0:=by unfold ZZ at h⊢;by_cases c:ZY f=true/\a.length=f.length;rw[BC c] at h⊢;obtain⟨g1,g2,g3⟩:=WS h;refine⟨c,g1,fun j hj=> ?_⟩;have e:=g2 j hj;rw[g3 j hj];show(JO (f.getD j []) a p).1=_/\_;replace e:(JO (f.getD j []) a p).2=0:=e;unfold JO at e⊢;split at e;rename_i d;rw[BC d];exact⟨rfl,e⟩;exact absurd e (by decide);rw[BA c] at h;exact absurd h (by decide)
structure NextAt (f:List (List Mn)) (x a:List Ivl) (h:Nm) (p:Int) (j:Nat):Prop where
 r0:(Xu (f.getD j []) a p (f.getD j []).length).2=0
 t0:(opI 2 ⟨default,h⟩ (Xu (f.getD j []) a p (f.getD j []).length).1 p).2=0
 s0:(opI 0 (x.getD j default) (opI 2 ⟨default,h⟩ (Xu (f.getD j []) a p (f.getD j []).length).1 p).1 p).2=0
 val:(ZM f x a h p).1.getD j default=(opI 0 (x.getD j default) (opI 2 ⟨default,h⟩ (Xu (f.getD j []) a p (f.getD j []).length).1 p).1 p).1
theorem NextOK.at {f:Lk}{x a:Li}{h:Nm}{p:Int}(n:NextOK f x a h p){j:Nat}(hj:j<f.length):NextAt f x a h p j:=by obtain⟨_,r1,r2⟩:=y0x n.e1;obtain⟨r3,r4⟩:=r2 j hj;obtain⟨_,t1,t2,t3⟩:=z0n n.e2;obtain⟨_,s1,s2,s3⟩:=Q0b n.e3;have t2:=t2 j oG;have t3:=t3 j oG;have s2:=s2 j (by rw[n.lx];exact hj);have s3:=s3 j (by rw[n.lx];exact hj);rw[r3] at t2 t3;rw[t3] at s2 s3;exact⟨r4,t2,s2,by rw[n.val];exact s3⟩
theorem zQ {k:Nat}{a b:Li}{p:Int}(h:(opB k a b p).2=0):rightB (opB k a b p).1=true:=by obtain⟨c,l,_,v⟩:=Q0b h;have:=Wx c.1;exact GN (fun j hj=>by rw[v j oG];exact KK _ _ _ _) oG oG
theorem NextOK.rightB {f:Lk}{x a:Li}{h:Nm}{p:Int}(n:NextOK f x a h p):Go.Pv.rightB (ZM f x a h p).1=true:=by rw[n.val];exact zQ n.e3
theorem y0s {k:Nat}{a b:Nm}{p:Int}{up:Bool}(h:(Qw k a b p up).2=0):Qg a=true/\Qg b=true/\Qv p=true:=by unfold Qw at h;split at h;assumption;exact absurd h (by decide)
theorem Il {k:Nat}{a b:Nm}{p:Int}{up:Bool}(h:(Qw k a b p up).2=0):qN (Qw k a b p up).1=qV (QR (exV k (ofN a) (ofN b)) p.toNat up):=by have c:=y0s h;unfold Qw at h⊢;rw[BC c] at h⊢;exact(JQ (JY (qj k (Jd c.1) (Jd c.2.1)) _ _) h).2
theorem Th (e:Int):p2 e=qM 1 e:=by simp[qM]
theorem J1d (a:Int):p2 (a+1)=p2 a*2:=by rw[Y3];congr 1
def K1f (n M:Nat)(D:Int)(p:List Mn):Prop:=ZL p n=true/\p.length<=M/\ ∀m∈p,Yc n 6 (8+M) D m
def okFieldT (n M:Nat)(D:Int)(f:List (List Mn)):Prop:=f.length=n/\ ∀p∈f,K1f n M D p
theorem okFieldT.at {n M:Nat}{D:Int}{f:Lk}(h:okFieldT n M D f){i j:Nat}(hi:i<f.length)(hj:j<(f.getD i []).length):Yc n 6 (8+M) D ((f.getD i []).getD j default):=by have e:f.getD i []=f[i]:=(by simp[q_a,hi]);rw[e] at hj⊢;exact ID (h.2 _ (EA hi)).2.2 hj
theorem H0c {E:Ent}(s:PFS)(t i len cap:Nat)(ht:s.pa.getD t .junk= .mr i len cap)(hl:0<len):Weak E s { s with pa:=s.pa.set t (.ms false i 0 len) } :=by
 intro a w g F h;refine⟨g,F,h.ext,h.store,h.frame,h.defers,by simp[h.len],fun k hk=> ?_⟩;simp only[BL] at hk⊢;by_cases e:t=k;subst e;rw[Z0 _ _ _ _ hk];have:=h.tmps t hk;rw[ht] at this;generalize a.tmps.getD t undef=v at this⊢;cases this with
 | base _ _ h'=>cases h'
 | lmr _ _ _ hi hcap=>exact .lms i 0 len cap hi hcap
 | lmr0 _ _ _=>omega
 rw[Z3 _ _ _ _ _ e];exact h.tmps k hk
theorem Q1y {P:Pg}{E:Ent}{c:Code}{Q:Pe}{s:PFS}(t i len cap:Nat)(ht:s.pa.getD t .junk= .mr i len cap)(hl:0<len)(h:PWP P E c Q { s with pa:=s.pa.set t (.ms false i 0 len) }):PWP P E c Q s:=J0 (H0c s t i len cap ht hl) h
section
variable {w:World} {g g':Gh} {F:Fr} {T:List (Nat×Nat)} {k sz:Nat} {cs:List PV}
end
section
variable {k sz:Nat} {cs:List PV}
end
def tN (x:Nm):Prop:=smN x/\luQ 6 8 (qN x)
def tI (a:Ivl):Prop:=smI a/\luI 6 8 a
theorem z0z {neg:Bool}{w:Lu}{e:Int}(hw:Qn (Qd w)<=6)(h1: -6<=e)(h2:e<=2):tN (XF neg w e).1:=by refine⟨Eo hw h1 oG,?_⟩;unfold XF;split;show luQ 6 8 (qN default);rw[Kw];exact X0f _ _;split;show luQ 6 8 (qN default);rw[Kw];exact X0f _ _;have hb:=qo (neg:=neg) (m:=Qd w) (e:=e) (n:=6) (k:=6) hw oG oG;have hf:=zU hb oG oG;rw[(JQ (YJ _ _ _) hf).2,Vy];have hm:=bitlen_le_iff.1 hw;have hz: ∃z:Int,(if neg then -(Qd w:Int) else(Qd w:Int))=z/\z.natAbs<2^6:=⟨_,rfl,by split<;>omega⟩;obtain⟨z,hz,hz2⟩:=hz;rw[hz];obtain⟨d,hd⟩: ∃d:Nat,e= -6+d:=⟨(e+6).toNat,oG⟩;have hd8:d<=8:=oG;refine⟨z*2^d,?_,?_⟩;rw[Jz,hd];rfl;rw[Int.natAbs_mul,Int.natAbs_pow,show 6+8=14 from rfl,show(2:Nat)^14=2^6*2^8 from rfl];exact DW (F0 hz2) (BS (by decide) hd8)
def uwV (v:Value):Prop:= ∃x,v= .int .u64 x\/v= .int .u32 x
inductive Wordy :PV->Prop
 | sc (v:Value):Wordy (.sc v)
 | agg (cs:List PV) (h: ∀c∈cs,Wordy c):Wordy (.agg cs)
 | tup (cs:List PV) (h: ∀c∈cs,Wordy c):Wordy (.tup cs)
 | sl (es:List PV) (h: ∀j,j<es.length-> ∃x,uwV x/\es.getD j .junk= .sc x):Wordy (.sl .no es)
theorem Wordy.turn {w:Lw}{g g':Gh}(hv: ∀b off x,uwV x->off<g.vis b->w.cell? ⟨b,off,none⟩=some x->g'.vis b=g.vis b): ∀ {p:PV},Wordy p-> ∀ {v:Value},Rep w g v p->Rep w g' v p:=by
 intro p hp
 induction hp with
 | sc v=>intro v' h;cases h;exact .sc _
 | agg cs hc ih=>intro v h;cases h with | agg vs _ hl h=>exact .agg vs cs hl fun j hj=>ih _ (QE _ _ _ hj) (h j hj)
 | tup cs hc ih=>intro v h;cases h with | tup vs _ hl h=>exact .tup vs cs hl fun j hj=>ih _ (QE _ _ _ hj) (h j hj)
 | sl es hes=>
  intro v h;cases h with
  | nil t ad ht=>exact .nil _ _ rfl
  | sl t es b off sz cap cf ht hfull hcap hsz hvis hc hr=>
   by_cases h0:es= [];subst h0;exact .sl _ [] b off sz cap cf rfl hfull hcap hsz (fun h=>by simp at h) (fun i j hi=>by simp at hi) (fun i j hi=>by simp at hi);have hl:0<es.length:=EL.2 h0;have hs:sz=1:=by have h1:=hsz 0 hl;obtain⟨x,_,hx⟩:=hes 0 hl;rw[hx] at h1;exact h1.symm
   subst hs;have hvb:g'.vis b=g.vis b:=by have h1:=hr 0 0 hl oG;have h2:=hc 0 0 hl oG;obtain⟨x,hxw,hx⟩:=hes 0 hl;rw[hx] at h1;rw[show cf 0 0=x from Rep.sc_inv h1] at h2;exact hv b (off+0*1+0) x hxw (by have:=hvis hl;omega) h2
   refine .sl _ es b off 1 cap cf rfl hfull hcap hsz (by rw[hvb];exact hvis) hc fun i j hi hj=> ?_;have h1:=hr i j hi hj;have h3:j=0:=oG;subst h3;obtain⟨x,_,hx⟩:=hes i hi;rw[hx] at h1⊢;rw[show cf i 0=x from Rep.sc_inv h1];exact .sc _
theorem Low.mk {p:PV}(h:Low 0 p){w:Lw}{g:Gh}{v:Value}(vis:Nat->Nat)(hv: ∀b,g.vis b<=vis b)(hr:Rep w g v p):Rep w ⟨0,fun _=>0,vis⟩ v p:=
 Rep.mono (w:=w) (g:= { g with n:=0 }) (w':=w) (g':=⟨0,fun _=>0,vis⟩) ⟨BD 0,fun i hi=>absurd hi (CD _),hv,fun _ _ _ _ hc=>hc⟩ (h w g v hr (CX _))
section
variable {P:Program} {E:Ent} {a:Act} {w:World} {g:Gh} {F:Fr} {s:PFS} {e:List Nat}
theorem Wordy.res {B:Nat}{w:Lw}{g:Gh}{v:Value}{R:PV}(hw:Wordy R):RepRes B w g v R=Rep w g v R:=by cases hw<;>rfl
end
section
variable {P:Program} {E:Ent} {a:Act} {w:World} {g:Gh} {F:Fr} {s:PFS} {e:List Nat}
end
section
variable {P:Program} {s:PFS} {K:PFS->Prop} {d:Option Tmp} {ty:TypeId} {pos:String} {af:Array Edge} {e:List Nat}
end
section
variable {P:Program} {E:Ent} {a:Act} {w:World} {g:Gh} {F:Fr} {s:PFS}
theorem w1w {t:Lt}{v:Value}{es:Lp}{x1:Bool}{x2:Nat}{x4:Pr}{e:EI}(h:FSRep E a w g F s)(hT:ti P t=some ⟨x1,x2,.slice e,x4⟩)(c1:e.sz=1)(c3:e.zok=true)
 (hv:RepF w g F s.T v (.sl .full es)):X9 P E a w (do pure (.value (<-Instr.buildSlice t 1 [(0,v)].toArray))) (.sl .full [.sl .full es]) s:=by
 obtain⟨i',u,hi',hu,hT'⟩:=QU hT;obtain⟨rfl,hei⟩:=ZH (B4 TI.ud hT').symm;have hrep:Rep w g v (.sl .full es):=by cases hv with | base _ _ h=>exact h
 have hcv:v.cells= #[v]:=by cases hrep<;>rfl
 obtain⟨i2,u2,hi2,hu2,e2⟩:=JW hei;have hsz2:i2.size=e.sz:=(by rw[e2]);obtain⟨z,hz,hzs⟩: ∃z,i2.zero=some z/\z.cells.size=i2.size:=by have:=B4 EI.zok e2;rw[c3] at this;simp only at this;split at this;rename_i z hz;exact⟨z,hz,by simpa using this.symm⟩;cases this
 have hfill:=xy e.sz [(0,v)] 0 ((Array.range (1*e.sz)).map (fun i=>(if 1*e.sz=0 then #[] else z.cells)[i % (if 1*e.sz=0 then #[] else z.cells).size]!)) (by rfl) (fun j hj=>by have:j=0:=(by simpa using hj);subst this;show v.cells.size=e.sz;rw[hcv,c1];rfl) (by simp);obtain⟨cells',f1,f2,f3,f4⟩:=hfill;have hrun:(Instr.buildSlice t 1 [(0,v)].toArray).run P w= .ok (.slice (some ⟨w.heap.size,0,none⟩) 1 1) (w.alloc (.cells cells' e.id)):=(by unfold Instr.buildSlice;simp only[Sem.run_bind,run_underlying hu,Result.andThen_ok,Wf hei];rw[BA oG];have h0: ¬(e.sz=0):=oG;have h0': ¬(1*e.sz=0):=oG;simp only[h0,h0',DT,Sem.run_bind,zeroValue,typeInfo,hi2,hz,Sem.run_pure,Result.andThen_ok,CY] at f1⊢;simp[hi2,hz,f1,newRow,newObj,Sem.run]);obtain⟨g',_,_,_,r1,r2,r3,_⟩:=h.slice_new e.id cells' [.sl .full es] e.sz 1 (fun i hi=>by
  have:i=0:=(by simpa using hi);subst this;rw[c1];rfl) (by simp) (by rw[f2,Array.size_map,Array.size_range]) (fun m hm=>by
  have hm0:m=0:=by have:m<1*e.sz:=hm;omega
  subst hm0;have hc:=f4 0 0 (by simp) oG;simp only[CU,DC] at hc;rw[hc,c1];show Rep w g (v.cells.getD 0 undef) (.sl .full es);rw[hcv];exact hrep)
 exact⟨_,_,g',F,by simp only[Sem.run_bind,hrun,Result.andThen_ok,Sem.run_pure];rfl,r1,.inl ⟨_,rfl,.base _ _ (r3 .full rfl (fun _=>rfl))⟩⟩
end
def YS (P:Program)(o:Oper)(K:PFS->Prop)(s:PFS):Prop:=
 match o.op with
 | .buildSlice t 1 parts=>
  match parts.toList with
  | [(0,x)]=>match ti P t,s.ev x with
   | some ⟨_,_,.slice e,_⟩,.sl .full es=>(e.sz=1/\e.zok=true)/\K (s.put o.dst (.sl .full [.sl .full es]))
   | _,_=>False
  | _=>False
 | _=>False
section
variable {P:Program} {E:Ent} {a:Act} {w:World} {g:Gh} {F:Fr} {s:PFS}
theorem X2b {o:Oper}{K:Pf}(h:FSRep E a w g F s)(hp:YS P o K s){next:Act->World->Prop}{Q:Pt}
 (hn: ∀a' w' g' F' s',FSRep E a' w' g' F' s'->K s'->next a' w'):o.wp P a w next Q:=by
 unfold YS at hp;split at hp;rotate_left;exact hp.elim;rename_i t parts heq;split at hp;rotate_left;exact hp.elim;rename_i x hx;split at hp;rotate_left;exact hp.elim;rename_i e _ es hT hs;obtain⟨⟨c1,c2⟩,hK⟩:=hp;have hv:=h.ev x;rw[hs] at hv;have ep:parts= #[(0,x)]:=(by rw[<-hx]);subst ep;obtain⟨nx,w',g',F',r1,r2,r3⟩:=w1w h hT c1 c2 hv;have hex:(execOp a.eval o).run P w= .ok nx w':=by unfold execOp;simp only[heq];have e:(#[(0,x)]:Array (Nat×Operand)).map (fun x=>(x.1,a.eval x.2))= [(0,a.eval x)].toArray:=(by simp);rw[e];exact r1
 unfold Oper.wp;rw[hex];rcases r3 with ⟨v,rfl,hv⟩ | ⟨rfl,hj⟩;exact hn _ _ _ _ _ (r2.put o.dst hv) hK;cases hj
theorem X2d {o:Oper}{K:Pf}(hp:YS P o K s): ∀c,o.op≠ .defer c:=by intro c hc;unfold YS at hp;rw[hc] at hp;exact hp
theorem X2c {o:Oper}{K:Pf}(h:FSRep E a w g F s)(hp:YS P o K s){next:Act->World->Prop}{Q:Pt}
 (hn: ∀a' w' g' F' s',FSRep E a' w' g' F' s'->K s'->next a' w'):o.wpIn (fen E.rd) 0 P a w next Q:=
 Gp E.rd (X2d hp) (X2b h hp hn)
end
inductive Mk where
 | no | room | keep
def HD (P:Program)(ops:List Oper):List Mk->List Oper->(PFS->Prop)->PFS->Prop
 | _,[],K,s=>K s
 | [],rest,K,s=>OL0 P ops rest K s
 | .room::bs,o::rest,K,s=>o.guard=none/\YR P o (HD P ops bs rest K) s
 | .keep::bs,o::rest,K,s=>o.guard=none/\YS P o (HD P ops bs rest K) s
 | .no::bs,o::rest,K,s=>o.guard=none/\OC0 P o (HD P ops bs rest K) s
theorem xY {P:Pg}{E:Ent}{ops:La}{Q:Pt}{K:Pf}(hK: ∀a' w' g' F' s',FSRep E a' w' g' F' s'->K s'->Q .normal a' w'):
 ∀(bs:List Mk) (rest:Lo) (a:Act) (w:Lw) (g:Gh) (F:Fr) (s:PFS),FSRep E a w g F s->HD P ops.toList bs rest K s->wpListIn (fen E.rd) 0 P ops Q rest a w
 | bs,[],a,w,g,F,s,h,hp=>hK a w g F s h (by unfold HD at hp;exact hp)
 | [],o::rest,a,w,g,F,s,h,hp=>YT hK (o::rest) a w g F s h (YZ hp)
 | .room::bs,o::rest,a,w,g,F,s,h,hp=>by obtain⟨hg,hp⟩:=hp;have ih:=xY (P:=P) (ops:=ops) hK bs rest;unfold wpListIn;rw[BC (by simp[Region.wanted,hg])];exact U0y h hp fun a' w' g' F' s' hr hk=>ih a' w' g' F' s' hr hk
 | .keep::bs,o::rest,a,w,g,F,s,h,hp=>by obtain⟨hg,hp⟩:=hp;have ih:=xY (P:=P) (ops:=ops) hK bs rest;unfold wpListIn;rw[BC (by simp[Region.wanted,hg])];exact X2c h hp fun a' w' g' F' s' hr hk=>ih a' w' g' F' s' hr hk
 | .no::bs,o::rest,a,w,g,F,s,h,hp=>by obtain⟨hg,hp⟩:=hp;have ih:=xY (P:=P) (ops:=ops) hK bs rest;unfold wpListIn;rw[BC (by simp[Region.wanted,hg])];exact Jt h (Vs hp) fun a' w' g' F' s' hr hk=>ih a' w' g' F' s' hr hk
def OLk (P:Program)(ops:List Oper)(bs:List Mk)(rest:List Oper)(K:PFS->Prop)[Stop ops][Stop rest][Stop K](s:PFS):Prop:=HD P ops bs rest K s
theorem Z1c {P:Pg}{E:Ent}{id:Nat}{l:Lo}{Q:Pe}{s:PFS}(bs:List Mk)(h:OLk P l bs l (Q .normal) s):PWP P E (.region id l.toArray false) Q s:=fun a w g F hr=>
 wpIn_region_list (xY (fun a' w' g' F' s' hr' hk=>⟨g',F',s',hr',hk⟩) bs l a w g F s hr h)
def vK (T:Option TI)(x:PV)(K:PV->Prop)[Stop K]:Prop:=
 match T,x with
 | some ⟨_,_,.slice e,_⟩,.sl .full es=>(e.sz=1/\e.zok=true)/\K (.sl .full [.sl .full es])
 | _,_=>False
section
variable {P:Program} {s:PFS} {K:PFS->Prop} {d:Option Tmp} {ty:TypeId} {pos:String} {af:Array Edge}
@[go_sem] theorem k2c {ops:Lo}{bs:List Mk} :OLk P ops bs [] K s=K s:=by
 cases bs with
 | nil=>rfl
 | cons b bs=>cases b<;>rfl
@[go_sem] theorem k2b {ops rest:Lo}{bs:List Mk}{op:Op} :OLk P ops (.no::bs) (⟨d,op,ty,pos,af,none⟩::rest) K s=OC P ⟨d,op,ty,pos,af,none⟩ (OLk P ops bs rest K) s:=by show((none:Option (Nat×Bool))=none/\_)=_;simp only[F7];rfl
@[go_sem] theorem k2a {ops rest:Lo}{bs:List Mk}{op:Op} :OLk P ops (.room::bs) (⟨d,op,ty,pos,af,none⟩::rest) K s=POr P ⟨d,op,ty,pos,af,none⟩ (OLk P ops bs rest K) s:=by show((none:Option (Nat×Bool))=none/\_)=_;simp only[F7];rfl
@[go_sem] theorem k2d {ops rest:Lo}{bs:List Mk}{t:Lt}{x:Operand} :OLk P ops (.keep::bs) (⟨d,.buildSlice t 1 [(0,x)].toArray,ty,pos,af,none⟩::rest) K s=vK (ti P t) (s.ev x) (fun p=>OLk P ops bs rest K (s.put d p)):=by show((none:Option (Nat×Bool))=none/\YS P _ _ s)=_;simp only[F7];unfold YS vK;simp only;rfl
@[go_sem] theorem W2l {e:EI}{x1:Bool}{x2:Nat}{x4:Pr}{es:Lp}{K:PV->Prop} :vK (some ⟨x1,x2,.slice e,x4⟩) (.sl .full es) K=((e.sz=1/\e.zok=true)/\K (.sl .full [.sl .full es])):=(rfl)
end
theorem Bk {E:Ent}(s:PFS)(i j:Nat)(q:PV)(hj:j<(s.L.getD i []).length)(hpq: ∀w g F v,F.nl=s.L.length->RepF w g F s.T v ((s.L.getD i []).getD j .junk)->RepF w g F s.T v q):Weak E s { s with L:=s.L.set i ((s.L.getD i []).set j q) } :=by
 intro a w g F h;have hne0:s.L.getD i []≠ []:=fun e=>(by rw[e] at hj;simp at hj);have hil:i<s.L.length:=by refine ES fun hn=>hne0 ?_;rw[q_a,C2 hn];rfl
 have hne: ∀m,(s.L.set i ((s.L.getD i []).set j q)).getD m []≠ []->s.L.getD m []≠ []:=fun m hm=>by by_cases e:i=m;subst e;exact hne0;rwa [Z3 _ _ _ _ _ e] at hm
 refine⟨g,F,h.ext,h.store,⟨by simpa using h.frame.nl,fun m hm=>h.frame.lo m (hne m hm),fun m hm=>h.frame.apart m (hne m hm),fun m l hm hl=>h.frame.inj m l (hne m hm) (hne l hl),fun m hm=> ?_,h.frame.tlo,fun m b h1 h2=>⟨(h.frame.tapart m b h1 h2).1,fun l hl=>(h.frame.tapart m b h1 h2).2 l (hne l hl)⟩,h.frame.tinj⟩,h.defers,h.len,h.tmps⟩;have hh:=h.frame.holds m (hne m hm);by_cases e:i=m;subst e;simp only at hm⊢;rw[Z0 _ _ _ _ hil];intro o ho;rw[BL] at ho;obtain⟨q1,c,q2,q3⟩:=hh o ho;refine⟨q1,c,q2,?_⟩;by_cases e2:j=o;subst e2;rw[Z0 _ _ _ _ ho];exact hpq w g F c h.frame.nl q3;rw[Z3 _ _ _ _ _ e2];exact q3;simp only at hm⊢;rw[Z3 _ _ _ _ _ e] at hm⊢;exact hh
theorem H0g {E:Ent}(s:PFS)(i j k:Nat)(hk:k<s.L.length)(he:(s.L.getD i []).getD j .junk= .sl .full []):Weak E s { s with L:=s.L.set i ((s.L.getD i []).set j (.mr k 0 0)) } :=by refine Bk s i j _ ?_ fun w g F v hn h=> ?_;refine ES fun hn=> ?_;rw[q_a,C2 hn] at he;cases he;rw[he] at h;obtain⟨ad,hv⟩:=xp h;rw[hv];exact .lmr0 k ad (by rw[hn];exact hk)
theorem H0b {E:Ent}(s:PFS)(i j k len cap:Nat)(he:(s.L.getD i []).getD j .junk= .mr k len cap)(hl:0<len):Weak E s { s with L:=s.L.set i ((s.L.getD i []).set j (.ms false k 0 len)) } :=by
 refine Bk s i j _ ?_ fun w g F v hn h=> ?_;refine ES fun hn=> ?_;rw[q_a,C2 hn] at he;cases he;rw[he] at h;cases h with
 | base _ _ h'=>cases h'
 | lmr _ _ _ hi hcap=>exact .lms k 0 len cap hi hcap
 | lmr0 _ _ _=>omega
theorem Q1x {P:Pg}{E:Ent}{c:Code}{Q:Pe}{s:PFS}(i j k len cap:Nat)(he:(s.L.getD i []).getD j .junk= .mr k len cap)(hl:0<len)(h:PWP P E c Q { s with L:=s.L.set i ((s.L.getD i []).set j (.ms false k 0 len)) }):PWP P E c Q s:=
 J0 (H0b s i j k len cap he hl) h
theorem Z1g {P:Pg}{E:Ent}{c:Code}{Q:Pe}{s:PFS}(i j k:Nat)(hk:k<s.L.length)(he:(s.L.getD i []).getD j .junk= .sl .full [])(h:PWP P E c Q { s with L:=s.L.set i ((s.L.getD i []).set j (.mr k 0 0)) }):PWP P E c Q s:=
 J0 (H0g s i j k hk he) h
inductive Tame :PV->Prop
 | sc (v:Value):Tame (.sc v)
 | agg {cs:List PV} (h: ∀c∈cs,Tame c):Tame (.agg cs)
 | sl {t:Tag} {es:List PV} (h: ∀e∈es,Tame e):Tame (.sl t es)
theorem Tame.low {p:PV}(h:Tame p)(n:Nat):Low n p/\ ∀c∈p.cells,Low n c:=by
 induction h with
 | sc v=>exact⟨UI n v,fun c hc=>by rw[C0.1 hc];exact UI n v⟩
 | agg h ih=>exact⟨X0l fun c hc=>(ih c hc).1,fun c hc=>(ih c hc).1⟩
 | @sl t es h ih=>
  have:=vD (n:=n) (t:=t) fun e he c hc=>(ih e he).2 c hc;exact⟨this,fun c hc=>by rw[C0.1 hc];exact this⟩
theorem zb (t:Tag)(w:Lu):Tame (.sl t (Qo w)):= .sl fun e he=>by simp only[Qo,CF] at he;obtain⟨x,_,rfl⟩:=he;exact .sc _
theorem z0r (t:Tag)(l:Pq):Tame (.sl t (QX l)):= .sl fun e he=>by simp only[QX,CF] at he;obtain⟨x,_,rfl⟩:=he;exact .sc _
theorem HT (x:Nm): ∀c∈Qf x,Tame c:=fun c hc=>by simp only[Qf,D8,List.not_mem_nil,or_false] at hc;rcases hc with rfl | rfl | rfl;exact .sc _;exact .sc _;exact zb _ _
theorem j4 (x:Ivl): ∀c∈Qm x,Tame c:=fun c hc=>by have hc:c∈Qf x.lo++Qf x.hi:=hc;rcases DN.1 hc with hc | hc;exact HT _ _ hc;exact HT _ _ hc
theorem zc (t:Tag)(l:Li):Tame (.sl t (Qj l)):= .sl fun e he=>by simp only[Qj,CF] at he;obtain⟨x,_,rfl⟩:=he;exact .agg (j4 x)
theorem Dg (t:Tag)(l:Lj):Tame (.sl t (Qt l)):= .sl fun e he=>by simp only[Qt,CF] at he;obtain⟨x,_,rfl⟩:=he;exact zc _ x
theorem Dd (m:Mn): ∀c∈Kk m,Tame c:=fun c hc=>by have hc:c∈Qf m.c++ [.sl .no (QX m.ks)]:=hc;rcases DN.1 hc with hc | hc;exact HT _ _ hc;rw[C0.1 hc];exact z0r _ _
theorem z0s (t:Tag)(l:Lm):Tame (.sl t (Zp l)):= .sl fun e he=>by simp only[Zp,CF] at he;obtain⟨x,_,rfl⟩:=he;exact .agg (Dd x)
theorem z0t (t:Tag)(l:Lk):Tame (.sl t (QL l)):= .sl fun e he=>by simp only[QL,CF] at he;obtain⟨x,_,rfl⟩:=he;exact z0s _ x
theorem G0s (w:Lu):Wordy (.sl .no (Qo w)):= .sl _ fun j hj=>by have hj':j<w.length:=(by simpa[Qo] using hj);exact⟨_,⟨_,.inl rfl⟩,by simp only[Qo,q_a,B8,BB hj'];rfl⟩
theorem qD (x:Nm): ∀c∈Qf x,Wordy c:=fun c hc=>by simp only[Qf,D8,List.not_mem_nil,or_false] at hc;rcases hc with rfl | rfl | rfl;exact .sc _;exact .sc _;exact G0s _
theorem G0r (x:Ivl)(v:Value):Wordy (.tup [.agg (Qm x),.sc v]):= .tup _ fun c hc=>by simp only[D8,List.not_mem_nil,or_false] at hc;rcases hc with rfl | rfl;refine .agg _ fun c hc=> ?_;have hc:c∈Qf x.lo++Qf x.hi:=hc;rcases DN.1 hc with hc | hc;exact qD _ _ hc;exact qD _ _ hc;exact .sc _
theorem FSRep.store_new {E:Ent}{a:Act}{w:Lw}{g:Gh}{F:Fr}{s:PFS}(h:FSRep E a w g F s)(ty:Lt)(vs:Lb)(X:Lp)(hl:X.length<=vs.size)
 (hr: ∀j,j<X.length->Rep w g (vs.getD j undef) (X.getD j .junk)):
 ∃g',FSRep E a (w.alloc (.cells vs ty)) g' F { s with st:=s.st++ [X] } /\g'.mu s.st.length=w.heap.size/\s.st.length<g'.n:=by
 obtain⟨k,hz⟩:=qb w g (.cells vs ty) 0 h.store.none;obtain⟨h1,hm1⟩:=h.still k rfl hz
 let g1:Gh:= { g with vis:=fun b=>if b=w.heap.size then 0 else g.vis b }
 let g':Gh:= { g1 with n:=g.n+1,mu:=fun k=>if k=g.n then w.heap.size else g.mu k }
 have hmu: ∀k,k<g.n->g'.mu k=g.mu k:=fun k hk=>BA oG;have hmun:g'.mu g.n=w.heap.size:=BC rfl;have hLe:Le (w.alloc (.cells vs ty)) g1 (w.alloc (.cells vs ty)) g':=⟨Nat.le_succ _,hmu,fun _=>BD _,fun _ _ _ _ hc=>hc⟩;have htok:K6 (w.alloc (.cells vs ty)) g1 F s.T (w.alloc (.cells vs ty)) g' F s.T:=⟨BD _,fun k hk=>⟨BD _,fun _ v es hR=>hR.mono fun b hb=>⟨rfl,rfl⟩⟩⟩;have hm: ∀v p,RepF (w.alloc (.cells vs ty)) g1 F s.T v p->RepF (w.alloc (.cells vs ty)) g' F s.T v p:=fun v p hr=>hr.mono hLe (BD _) (fun _ _=>rfl) htok;have en:s.st.length=g.n:=h.store.n.symm;have hst0: ∀j,j<g.n->(s.st++ [X]).getD j []=s.st.getD j []:=fun j hj=>(by rw[q_a,B6 oG,<-q_a]);have hst1:(s.st++ [X]).getD g.n []=X:=(by rw[q_a,CA oG,<-en];simp);have hsz:(w.alloc (.cells vs ty)).heap.size=w.heap.size+1:=(by simp);have hlt: ∀j,j<g.n->g.mu j<w.heap.size:=fun j hj=>h.store.lt j hj;have hst:StoreOK (w.alloc (.cells vs ty)) g' (s.st++ [X]):=(by refine⟨by simp[g',h.store.n],fun j k hj hk e=> ?_,fun j hj=> ?_,fun j hj hj0=> ?_,fun j hj=> ?_,hz,h1.store.tab⟩;have hj:j<g.n+1:=hj;have hk:k<g.n+1:=hk;by_cases e1:j=g.n;by_cases e2:k=g.n;omega;rw[e1,hmun,hmu k oG] at e;have:=hlt k oG;omega;by_cases e2:k=g.n;rw[e2,hmun,hmu j oG] at e;have:=hlt j oG;omega;rw[hmu j oG,hmu k oG] at e;exact h.store.inj j k oG oG e;have hj:j<g.n+1:=hj;by_cases e1:j=g.n;rw[e1,hmun,hsz];omega;rw[hmu j oG,hsz];have:=hlt j oG;omega;have hj:j<g.n+1:=hj;by_cases e1:j=g.n;rw[e1,hmun];exact BC rfl;rw[hmu j oG];rw[hst0 j oG] at hj0;exact h1.store.vis j (show j<g.n by omega) hj0;have hj:j<g.n+1:=hj;by_cases e1:j=g.n;subst e1;rw[hmun,hst1];intro k2 hk2;refine⟨World.frozen?_alloc_new w vs ty k2,vs.getD k2 undef,?_,?_⟩;rw[World.cell?_alloc_new,q_f,CW oG];rfl;exact((hr k2 hk2).mono k.le).mono hLe;rw[hmu j oG,hst0 j oG];exact(h1.store.holds j (show j<g.n by omega)).mono rfl fun v p hr=>hr.mono hLe);have hext:Ext E.w E.g (w.alloc (.cells vs ty)) g':=(by refine⟨h1.ext.le.trans hLe,h1.ext.os,h1.ext.tape,h1.ext.output,h1.ext.size,h1.ext.old,fun j q1 q2=> ?_⟩;have q2:j<g.n+1:=q2;by_cases e1:j=g.n;rw[e1,hmun];exact h.ext.size;rw[hmu j oG];exact h.ext.new j q1 oG);refine⟨g',⟨hext,hst,⟨h.frame.nl,fun k hk=>h1.frame.lo k hk,fun k hk j hj=> ?_,fun k j hk hj=>h.frame.inj k j hk hj,fun k hk=>(h1.frame.holds k hk).mono rfl hm,h1.frame.tlo,fun k b hk hb=>⟨fun j hj=> ?_,fun j hj=>(h.frame.tapart k b hk hb).2 j hj⟩,h.frame.tinj⟩,h.defers,h.len,fun t ht=>hm _ _ (h1.tmps t ht)⟩,by rw[en];exact hmun,by rw[en];exact Nat.lt_succ_self _⟩;have hj:j<g.n+1:=hj;by_cases e1:j=g.n;rw[e1,hmun];have:=(h.frame.lo k hk).2.1;omega;rw[hmu j oG];exact h.frame.apart k hk j oG;have hj:j<g.n+1:=hj;by_cases e1:j=g.n;rw[e1,hmun];have:=(h.frame.tlo k b hk hb).2.1;omega;rw[hmu j oG];exact(h.frame.tapart k b hk hb).1 j oG
def GrowOK (cs:List PV)(len cap:Nat)(ys:List PV)(e:EI):Prop:=
 e.zok=true/\0<e.sz/\cs.length=cap*e.sz/\len+ys.length<=1152921504606846976/\(len+ys.length)*e.by_<=140737488355328/\
  ys.all (fun x=>(x.cells.length==e.sz)&&x.cells.all PV.cellOK)=true/\0<ys.length
def GrowTo (st:Qc)(j len cap:Nat)(ys:List PV)(sz j' cap':Nat)(st':Qc):Prop:=
 (len+ys.length<=cap/\j'=j/\cap'=cap/\st'=st.set j (Q4 (st.getD j []) (len*sz) (flat ys)))\/
 (cap<len+ys.length/\len+ys.length<=cap'/\j'=st.length/\ ∃R,R.length=(cap'-(len+ys.length))*sz/\st'=st++ [(st.getD j []).take (len*sz)++(flat ys++R)])
section
variable {P:Program} {E:Ent} {a:Act} {w:World} {g:Gh} {F:Fr} {s:PFS} {t tx e':TypeId} {e:EI}
theorem J0t (hu:P.underlying t=some (.slice e.id))(hei:ei P e.id=some e)(hu2:P.underlying tx=some (.slice e')){ys cs:Lp}{x:Value}{ty:Lt}{len cap:Nat}{base:Option Addr}{olds:Ps}
 (h:FSRep E a w g F s) (hx:Rep w g x (.sl .no ys)) (c1:e.zok=true) (c2:len+ys.length<=1152921504606846976) (c3:(len+ys.length)*e.by_<=140737488355328)
 (c5:ys.all (fun x=>(x.cells.length==e.sz)&&x.cells.all PV.cellOK)=true) (hcap:cap<len+ys.length) (hol:olds.length=len*e.sz) (hcl:len*e.sz<=cs.length)
 (hold:(Builtin.firstCells e.sz len (.slice base len cap)).run P w.drew= .ok olds.toArray w.drew) (hr: ∀m,m<len*e.sz->Rep w g (olds.getD m undef) (cs.getD m .junk)):
 ∃cap' R,len+ys.length<=cap'/\R.length=(cap'-(len+ys.length))*e.sz/\
  X9 P E a w (do pure (.value (<-Builtin.append_ #[t,tx] ty #[.slice base len cap,x]))) (.gr s.st.length (len+ys.length) cap') { s with st:=s.st++ [cs.take (len*e.sz)++(flat ys++R)] } :=by
 obtain⟨news,hs⟩:=G8 (P:=P) hu2 hx c5;obtain⟨ti,u,hi,hu',he⟩:=JW hei;have e1:ti.size=e.sz:=(by rw[he]);have e2:ti.bytes=e.by_:=(by rw[he]);obtain⟨z,hz,hzs⟩: ∃z,ti.zero=some z/\z.cells.size=ti.size:=by have:=B4 EI.zok he;rw[c1] at this;simp only at this;split at this;rename_i z hz;exact⟨z,hz,by simpa using this.symm⟩;cases this
 have hfl:=Kj hs.each;have hnl:news.length=ys.length*e.sz:=hs.src.newsLen;have hs0:=hs;rw[<-e1] at hs hold;have hrun:=run_append_grow_src (P:=P) w t tx ty e.id ti z hu hi hz base len cap olds hold x ys.length news hs.src hcap oG (growslice_fits hcap (by rw[e2];exact c3));generalize hvs:(olds++news).toArray++Builtin.zeroCells z.cells (grownCap w (len+ys.length) cap e.id-(len+ys.length))=vs at hrun;have hge:=grownCap_ge w (len+ys.length) cap e.id;generalize grownCap w (len+ys.length) cap e.id=C at*
 obtain⟨d1,d2⟩:=h.drew;have dle:=(qa w g).le;have hvsz:vs.size=C*e.sz:=by rw[<-hvs,Array.size_append,size_zeroCells,hzs,e1];simp only[EY,BH,hol,hnl,<-BQ];congr 1;omega
 let R:=List.replicate ((C-(len+ys.length))*e.sz) PV.junk
 have hlenX:(cs.take (len*e.sz)).length=len*e.sz:=by rw[BX];omega
 have hX:(cs.take (len*e.sz)++(flat ys++R)).length=C*e.sz:=by rw[BH,BH,hlenX,hfl,EP,<-BQ,<-BQ];congr 1;omega
 obtain⟨g',f1,f2,f3⟩:=d1.store_new e.id vs (cs.take (len*e.sz)++(flat ys++R)) oG (fun m hm=>by by_cases h1:m<len*e.sz;have hlo:m<(olds++news).toArray.size:=(by simp only[EY,BH,hol];omega);rw[<-hvs,Array.getD_append_left' _ _ _ _ hlo,Vh,QV _ _ _ _ oG,QV _ _ _ _ oG,WB _ _ _ _ h1];exact(hr m h1).mono dle;rw[Zi _ _ _ _ oG,hlenX];by_cases h2:m-len*e.sz<(flat ys).length;have h3:m-len*e.sz<ys.length*e.sz:=oG;have hlo:m<(olds++news).toArray.size:=(by simp only[EY,BH,hol];omega);rw[<-hvs,Array.getD_append_left' _ _ _ _ hlo,Vh,Zi _ _ _ _ oG,hol,QV _ _ _ _ h2,Vk hs0.each _ h3];exact(hs0.rep _ h3).mono dle;rw[Zi _ _ _ _ oG,J0y];exact .junk _);refine⟨C,R,hge,by simp[R],_,_,g',F,by simp only[Sem.run_bind,hrun,Result.andThen_ok,Sem.run_pure];rfl,f1,.inl ⟨_,rfl,?_⟩⟩;have:=Rep.gr (w:=w.drew.alloc (.cells vs e.id)) (g:=g') s.st.length (len+ys.length) C f3 hge;rw[f2] at this;exact .base _ _ this
theorem Z2a (hu:P.underlying t=some (.slice e.id))(hei:ei P e.id=some e)(hu2:P.underlying tx=some (.slice e')){ys:Lp}{v x:Value}{ty:Lt}{j len cap:Nat}
 (h:FSRep E a w g F s) (hv:RepF w g F s.T v (.gr j len cap)) (hx:Rep w g x (.sl .no ys)) (hok:GrowOK (s.st.getD j []) len cap ys e):
 ∃j' cap' st',GrowTo s.st j len cap ys e.sz j' cap' st'/\X9 P E a w (do pure (.value (<-Builtin.append_ #[t,tx] ty #[v,x]))) (.gr j' (len+ys.length) cap') { s with st:=st' } :=by
 obtain⟨c1,c0,cl,c2,c3,c5,c6⟩:=hok;obtain⟨news,hs⟩:=G8 (P:=P) hu2 hx c5;obtain⟨ti,u,hi,hu',he⟩:=JW hei;have e1:ti.size=e.sz:=(by rw[he]);have hfl:=Kj hs.each;have hnl:news.length=ys.length*e.sz:=hs.src.newsLen;have hs0:=hs;rw[<-e1] at hs;obtain⟨hjn,hle,rfl⟩:j<g.n/\len<=cap/\v= .slice (some ⟨g.mu j,0,none⟩) len cap:=by
  cases hv with
  | base _ _ h=>cases h with | gr i len cap hi hcap=>exact⟨hi,hcap,rfl⟩
 have hh:=h.store.holds j hjn;by_cases hroom:len+ys.length<=cap;have hne:s.st.getD j []≠ []:=fun e0=>by rw[e0] at cl;have:=Nat.mul_pos (show 0<cap by omega) c0;simp at cl;omega
 have hfit:len*e.sz+(flat ys).length<=(s.st.getD j []).length:=by rw[hfl,cl,<-BQ];exact BG _ hroom
 have hrun:=run_append_room_src (P:=P) w t tx ty e.id ti hu hi (g.mu j) 0 len cap x ys.length news hs.src hroom (fun k hk=>by obtain⟨_,c,q2,_⟩:=hh (0+len*ti.size+k) (by rw[e1];omega);rw[q2];rfl) (fun k hk=>(hh (0+len*ti.size+k) (by rw[e1];omega)).1);rw[e1,CU] at hrun;have f1:=h.storeG h.ext.le.n j (len*e.sz) news (flat ys) (by rw[hnl,hfl]) hjn hne hfit (fun k hk=>by have hk':k<ys.length*e.sz:=oG;rw[Vk hs0.each k hk'];exact hs0.rep k hk');exact⟨j,cap,_,.inl ⟨hroom,rfl,rfl,rfl⟩,_,_,g,F,by simp only[Sem.run_bind,hrun,Result.andThen_ok,Sem.run_pure],f1,.inl ⟨_,rfl,.base _ _ (.gr j _ cap hjn hroom)⟩⟩;obtain⟨cf,hcf⟩:=hh.pick;have hle2:len*e.sz<=(s.st.getD j []).length:=(by rw[cl];exact BG _ hle);obtain⟨cap',R,q1,q2,q3⟩:=J0t (ty:=ty) (cs:=s.st.getD j []) (base:=some ⟨g.mu j,0,none⟩) (olds:=(List.range (len*e.sz)).map cf) hu hei hu2 h hx c1 c2 c3 c5 oG (by simp) hle2
  (run_firstCells_some w.drew e.sz len ⟨g.mu j,0,none⟩ len cap _ (by simp) (fun k u hk=>by
   rw[Addr.add_mid,World.cell?_drew,CU];have hk':k<len*e.sz:=by have:=(E7.1 hk).1;simpa using this
   rw[(hcf k oG).1];simp[EB hk'] at hk;rw[hk]))
  (fun m hm=>by have e0:((List.range (len*e.sz)).map cf).getD m undef=cf m:=(by simp[q_a,hm]);rw[e0];exact(hcf m oG).2)
 exact⟨s.st.length,cap',_,.inr ⟨oG,q1,rfl,R,q2,rfl⟩,q3⟩
theorem Z2c (hu:P.underlying t=some (.slice e.id))(hei:ei P e.id=some e)(hu2:P.underlying tx=some (.slice e')){es ys:Lp}{v x:Value}{ty:Lt}
 (h:FSRep E a w g F s) (hv:RepF w g F s.T v (.sl .full es)) (hx:Rep w g x (.sl .no ys)) (hok:GrowOK (flat es) es.length es.length ys e):
 ∃cap' R,es.length+ys.length<=cap'/\R.length=(cap'-(es.length+ys.length))*e.sz/\X9 P E a w (do pure (.value (<-Builtin.append_ #[t,tx] ty #[v,x]))) (.gr s.st.length (es.length+ys.length) cap') { s with st:=s.st++ [flat es++(flat ys++R)] } :=by
 obtain⟨c1,c0,cl,c2,c3,c5,c6⟩:=hok;have fin: ∀(base:Option Addr) (olds:Ps),v= .slice base es.length es.length->olds.length=es.length*e.sz->(Builtin.firstCells e.sz es.length (.slice base es.length es.length)).run P w.drew= .ok olds.toArray w.drew->
  (∀m,m<es.length*e.sz->Rep w g (olds.getD m undef) ((flat es).getD m .junk))-> ∃cap' R,es.length+ys.length<=cap'/\R.length=(cap'-(es.length+ys.length))*e.sz/\X9 P E a w (do pure (.value (<-Builtin.append_ #[t,tx] ty #[v,x]))) (.gr s.st.length (es.length+ys.length) cap') { s with st:=s.st++ [flat es++(flat ys++R)] } :=fun base olds hv1 h1 h2 h3=>by
  subst hv1;have:=J0t (ty:=ty) (cs:=flat es) (base:=base) (len:=es.length) (cap:=es.length) (olds:=olds) hu hei hu2 h hx c1 c2 c3 c5 oG h1 oG h2 h3;rwa [BF oG] at this
 rcases Nat.eq_zero_or_pos es.length with h0 | h0;have he:es= []:=BY h0;subst he;obtain⟨ad,rfl⟩:=xp hv;exact fin ad [] rfl (by simp) (by cases ad with
  | none=>exact run_firstCells_none _ _ _ _ _
  | some a=>simp[Builtin.firstCells,loadCells,loadCellsFrom]) fun m hm=>by simp at hm
 have h':Rep w g v (.sl .full es):=by cases hv with | base _ _ h=>exact h
 cases h' with
 | nil t ad ht=>simp at h0
 | sl _ _ b off sz cap cf ht hf hcap hsz hvis hc hr=>
  have e0:=hf rfl;subst e0;have hfl:=Kj hsz;have es0:sz=e.sz:=Nat.eq_of_mul_eq_mul_left h0 (by rw[<-hfl,cl]);subst es0;refine fin (some ⟨b,off,none⟩) ((List.range (es.length*e.sz)).map fun m=>cf (m/e.sz) (m % e.sz)) rfl (by simp) (run_firstCells_some w.drew e.sz es.length ⟨b,off,none⟩ es.length es.length _ (by simp) (fun k u hk=> ?_)) (fun m hm=> ?_);rw[Addr.add_mid,World.cell?_drew];have hk':k<es.length*e.sz:=by have:=(E7.1 hk).1;simpa using this
  have q1:=DE (show k<e.sz*es.length by rw[BM];exact hk');have q2:=hc (k/e.sz) (k % e.sz) q1 (CG _ c0);have q3:=D5 k e.sz;rw[BM] at q3;rw[show off+k/e.sz*e.sz+k % e.sz=off+k by omega] at q2;rw[q2];simp[EB hk'] at hk;rw[hk];have q1:=DE (show m<e.sz*es.length by rw[BM];exact hm);have q0:((List.range (es.length*e.sz)).map fun m=>cf (m/e.sz) (m % e.sz)).getD m undef=cf (m/e.sz) (m % e.sz):=(by simp[q_a,hm]);rw[q0,Vk hsz m hm];exact hr _ _ q1 (CG _ c0)
end
def Ye (P:Program)(T:Option TI)(x y:PV)(s:PFS)(K:PV->PFS->Prop):Prop:=
 match T,x,y with
 | some ⟨_,_,.slice e,_⟩,.sc (.int .i64 n),.sc (.int .i64 c)=>
  match ti P e.id with
  | some ⟨_,_,_,some (.slice none 0 0)⟩=>(0<=n/\n=c/\n.toNat*e.by_<=140737488355328/\n<=9223372036854775807/\e.sz=1)/\K (.ms true s.st.length 0 n.toNat) { s with st:=s.st++ [List.replicate n.toNat (.sl .full [])] }
  | _=>False
 | _,_,_=>False
theorem W1h {P:Pg}{E:Ent}{a:Act}{w:Lw}{g:Gh}{F:Fr}{s:PFS}{t:Lt}{x y:PV}{v u:Value}{K:Pw}(h:FSRep E a w g F s)(hq:Ye P (ti P t) x y s K)(hx:RepF w g F s.T v x)(hy:RepF w g F s.T u y):
 ∃p s',K p s'/\X9 P E a w (do pure (.value (<-Instr.makeSlice t v u))) p s':=by
 unfold Ye at hq;split at hq;rotate_left;exact hq.elim;rename_i e _ n c hT;obtain⟨_,_,_,hu,hT'⟩:=QU hT;obtain⟨rfl,hei⟩:=ZH (B4 TI.ud hT').symm;split at hq;rotate_left;exact hq.elim;rename_i T3 hTe;obtain⟨⟨c1,rfl,c3,c4,c6⟩,hk⟩:=hq;have:=hx.sc_inv;subst this;have:=hy.sc_inv;subst this;obtain⟨i,u2,hi,hu2,he⟩:=JW hei;have e1:i.size=1:=(by rw[<-c6,he]);have e2:i.bytes=e.by_:=(by rw[he]);have hzi:i.zero=some (.slice none 0 0):=by obtain⟨i',_,hi',_,hT2⟩:=QU hTe;rw[hi] at hi';cases hi';exact(B4 TI.zero hT2).symm
 have hby:(i.bytes:Int)*n<=281474976710656:=by obtain⟨m,rfl⟩:=EE c1;simp only[FN] at c3;have h2:((m*e.by_:Nat):Int)<=((140737488355328:Nat):Int):=Int.ofNat_le.2 c3;rw[CN,Int.mul_comm] at h2;rw[e2];omega
 have hrun:=run_make (P:=P) w t e.id i (.slice none 0 0) hu hi hzi .i64 .i64 n n c1 (Int.le_refl _) hby c4;have hzc:Value.cells (.slice none 0 0)= #[.slice none 0 0]:=rfl;have hsz:(madeCells (Value.cells (.slice none 0 0)) (n.toNat*i.size)).size=n.toNat:=(by rw[size_madeCells,e1,EH]);have hget: ∀j,j<n.toNat->(madeCells (Value.cells (.slice none 0 0)) (n.toNat*i.size)).getD j undef= .slice none 0 0:=fun j hj=>by rw[hzc,e1,EH,q_f];unfold madeCells;rw[Array.getElem?_map,Array.getElem?_range,BC hj];simp[FQ]
 obtain⟨g',f1,f2,f3⟩:=h.store_new e.id (madeCells (Value.cells (.slice none 0 0)) (n.toNat*i.size)) (List.replicate n.toNat (.sl .full [])) (by rw[hsz];simp) (fun j hj=>by have hj':j<n.toNat:=(by simpa using hj);rw[hget j hj'];have e3:(List.replicate n.toNat (PV.sl .full [])).getD j .junk= .sl .full []:=(by simp[q_a,hj']);rw[e3];exact .nil _ _ rfl);refine⟨_,_,hk,_,_,g',F,by simp only[Sem.run_bind,hrun,Result.andThen_ok,Sem.run_pure];rfl,f1,.inl ⟨_,rfl,?_⟩⟩;rw[<-f2];exact .base _ _ (.gms _ _ _ _ f3 (BD _))
def xO (T:Option TI)(x:PV)(s:PFS)(K:PV->PFS->Prop):Prop:=
 match T,x with
 | some ⟨_,_,.slice e,_⟩,.sl _ es=>(e.sz=1/\e.zok=true)/\K (.gr s.st.length 1 1) { s with st:=s.st++ [[.sl .no es]] }
 | _,_=>False
theorem w1x {P:Pg}{E:Ent}{a:Act}{w:Lw}{g:Gh}{F:Fr}{s:PFS}{t:Lt}{x:PV}{v:Value}{K:Pw}(h:FSRep E a w g F s)(hq:xO (ti P t) x s K)(hv:RepF w g F s.T v x):
 ∃p s',K p s'/\X9 P E a w (do pure (.value (<-Instr.buildSlice t 1 [(0,v)].toArray))) p s':=by
 unfold xO at hq;split at hq;rotate_left;exact hq.elim;rename_i e _ tg es hT;obtain⟨⟨c1,c3⟩,hk⟩:=hq;obtain⟨i',u,hi',hu,hT'⟩:=QU hT;obtain⟨rfl,hei⟩:=ZH (B4 TI.ud hT').symm;have hrep:Rep w g v (.sl .no es):=hv.slNo;have hcv:v.cells= #[v]:=(by cases hrep<;>rfl);obtain⟨i2,u2,hi2,hu2,e2⟩:=JW hei;have hsz2:i2.size=e.sz:=(by rw[e2]);obtain⟨z,hz,hzs⟩: ∃z,i2.zero=some z/\z.cells.size=i2.size:=by have:=B4 EI.zok e2;rw[c3] at this;simp only at this;split at this;rename_i z hz;exact⟨z,hz,by simpa using this.symm⟩;cases this
 have hfill:=xy e.sz [(0,v)] 0 ((Array.range (1*e.sz)).map (fun i=>(if 1*e.sz=0 then #[] else z.cells)[i % (if 1*e.sz=0 then #[] else z.cells).size]!)) (by rfl) (fun j hj=>by have:j=0:=(by simpa using hj);subst this;show v.cells.size=e.sz;rw[hcv,c1];rfl) (by simp);obtain⟨cells',f1,f2,f3,f4⟩:=hfill;have hrun:(Instr.buildSlice t 1 [(0,v)].toArray).run P w= .ok (.slice (some ⟨w.heap.size,0,none⟩) 1 1) (w.alloc (.cells cells' e.id)):=(by unfold Instr.buildSlice;simp only[Sem.run_bind,run_underlying hu,Result.andThen_ok,Wf hei];rw[BA oG];have h0: ¬(e.sz=0):=oG;have h0': ¬(1*e.sz=0):=oG;simp only[h0,h0',DT,Sem.run_bind,zeroValue,typeInfo,hi2,hz,Sem.run_pure,Result.andThen_ok,CY] at f1⊢;simp[hi2,hz,f1,newRow,newObj,Sem.run]);obtain⟨g',r1,r2,r3⟩:=h.store_new e.id cells' [.sl .no es] (by rw[f2,Array.size_map,Array.size_range,c1];exact BD _) (fun m hm=>by have hm0:m=0:=(by simpa using hm);subst hm0;have hc:=f4 0 0 (by simp) oG;simp only[CU,DC] at hc;rw[hc];show Rep w g (v.cells.getD 0 undef) (.sl .no es);rw[hcv];exact hrep);refine⟨_,_,hk,_,_,g',F,by simp only[Sem.run_bind,hrun,Result.andThen_ok,Sem.run_pure];rfl,r1,.inl ⟨_,rfl,?_⟩⟩;rw[<-r2];exact .base _ _ (.gr _ _ _ r3 (BD _))
def H9 (T U:Option TI)(x y:PV)(s:PFS)(K:PV->PFS->Prop):Prop:=
 match T,U,x,y with
 | some ⟨_,_,.slice e,_⟩,some ⟨_,_,.slice _,_⟩,.gr j len cap,.sl _ ys=>GrowOK (s.st.getD j []) len cap ys e/\ ∀j' cap' st',GrowTo s.st j len cap ys e.sz j' cap' st'->K (.gr j' (len+ys.length) cap') { s with st:=st' }
 | some ⟨_,_,.slice e,_⟩,some ⟨_,_,.slice _,_⟩,.sl .full es,.sl _ ys=>GrowOK (flat es) es.length es.length ys e/\ ∀cap' R,es.length+ys.length<=cap'->R.length=(cap'-(es.length+ys.length))*e.sz->K (.gr s.st.length (es.length+ys.length) cap') { s with st:=s.st++ [flat es++(flat ys++R)] }
 | _,_,_,_=>False
def Ju (P:Program)(o:Oper)(K:PFS->Prop)(s:PFS):Prop:=
 match o.op with
 | .call { callee:= .builtin .append,args,argTypes } =>
  match argTypes.toList,args.toList with
  | [t,u],[x,y]=>H9 (ti P t) (ti P u) (s.ev x) (s.ev y) s (fun p s'=>K (s'.put o.dst p))
  | _,_=>False
 | .makeSlice t l c=>Ye P (ti P t) (s.ev l) (s.ev c) s (fun p s'=>K (s'.put o.dst p))
 | _=>False
def xW (P:Program)(o:Oper)(K:PFS->Prop)(s:PFS):Prop:=
 match o.op with
 | .buildSlice t 1 parts=>
  match parts.toList with
  | [(0,x)]=>xO (ti P t) (s.ev x) s (fun p s'=>K (s'.put o.dst p))
  | _=>False
 | _=>Ju P o K s
theorem X2j {P:Pg}{E:Ent}{a:Act}{w:Lw}{g:Gh}{F:Fr}{s:PFS}{o:Oper}{K:Pf}(h:FSRep E a w g F s)(hp:Ju P o K s){next:Act->World->Prop}{Q:Pt}
 (hn: ∀a' w' g' F' s',FSRep E a' w' g' F' s'->K s'->next a' w'):o.wp P a w next Q:=by
 unfold Ju at hp;split at hp;rotate_left;rename_i t l c heq;obtain⟨p,s',hk,nx,w',g',F',r1,r2,r3⟩:=W1h h hp (h.ev l) (h.ev c);unfold Oper.wp;have hex:(execOp a.eval o).run P w= .ok nx w':=by rw[<-r1];unfold execOp;simp only[heq]
 rw[hex];rcases r3 with ⟨v,rfl,hv⟩ | ⟨rfl,hj⟩;exact hn _ _ _ _ _ (r2.put o.dst hv) hk;subst hj;exact hn _ _ _ _ _ (r2.put o.dst (.base _ _ (.junk _))) hk;exact hp.elim;rename_i args ts heq;split at hp;rotate_left;exact hp.elim;rename_i t u o1 o2 hts hargs;have ha:args= #[o1,o2]:=(by rw[<-hargs]);have ht:ts= #[t,u]:=(by rw[<-hts]);have hex: ∀nx w',(do pure (Next.value (<-Builtin.append_ #[t,u] o.type (Array.map a.eval #[o1,o2]))):Sem Next).run P w= .ok nx w'->(execOp a.eval o).run P w= .ok nx w':=fun nx w' r1=>by subst ha ht;unfold execOp;simp only[heq,resolve,invoke,Sem.run_bind,Sem.run_pure,Result.andThen_ok];show(do pure (Next.value (<-Builtin.append_ #[t,u] o.type (Array.map a.eval #[o1,o2]))):Sem Next).run P w=_;exact r1
 unfold H9 at hp;split at hp;rename_i e _ _ _ e2 _ j len cap tg ys hT hU h1 h2;obtain⟨c1,hk⟩:=hp;obtain⟨_,_,_,hu,hT'⟩:=QU hT;obtain⟨rfl,hei⟩:=ZH (B4 TI.ud hT').symm;obtain⟨_,_,_,hu2,hU'⟩:=QU hU;obtain⟨rfl,_⟩:=ZH (B4 TI.ud hU').symm;have hv:=h.ev o1;rw[h1] at hv;have hx:=h.ev o2;rw[h2] at hx;obtain⟨j',cap',st',hg,nx,w',g',F',r1,r2,r3⟩:=Z2a (P:=P) (ty:=o.type) hu hei hu2 h hv hx.slNo c1;unfold Oper.wp;rw[hex nx w' (by rw[<-r1];simp)];rcases r3 with ⟨v,rfl,hv⟩ | ⟨rfl,hj⟩;exact hn _ _ _ _ _ (r2.put o.dst hv) (hk j' cap' st' hg);cases hj;rename_i e _ _ _ e2 _ es tg ys hT hU h1 h2;obtain⟨c1,hk⟩:=hp;obtain⟨_,_,_,hu,hT'⟩:=QU hT;obtain⟨rfl,hei⟩:=ZH (B4 TI.ud hT').symm;obtain⟨_,_,_,hu2,hU'⟩:=QU hU;obtain⟨rfl,_⟩:=ZH (B4 TI.ud hU').symm;have hv:=h.ev o1;rw[h1] at hv;have hx:=h.ev o2;rw[h2] at hx;obtain⟨cap',R,hc1,hc2,nx,w',g',F',r1,r2,r3⟩:=Z2c (P:=P) (ty:=o.type) hu hei hu2 h hv hx.slNo c1;unfold Oper.wp;rw[hex nx w' (by rw[<-r1];simp)];rcases r3 with ⟨v,rfl,hv⟩ | ⟨rfl,hj⟩;exact hn _ _ _ _ _ (r2.put o.dst hv) (hk cap' R hc1 hc2);cases hj;exact hp.elim
theorem X2m {P:Pg}{o:Oper}{K:Pf}{s:PFS}(hp:Ju P o K s): ∀c,o.op≠ .defer c:=by intro c hc;unfold Ju at hp;rw[hc] at hp;exact hp
theorem G0g {P:Pg}{E:Ent}{a:Act}{w:Lw}{g:Gh}{F:Fr}{s:PFS}{o:Oper}{K:Pf}(h:FSRep E a w g F s)(hp:Ju P o K s){next:Act->World->Prop}{Q:Pt}
 (hn: ∀a' w' g' F' s',FSRep E a' w' g' F' s'->K s'->next a' w'):o.wpIn (fen E.rd) 0 P a w next Q:=
 Gp E.rd (X2m hp) (X2j h hp hn)
theorem X2i {P:Pg}{E:Ent}{a:Act}{w:Lw}{g:Gh}{F:Fr}{s:PFS}{o:Oper}{K:Pf}(h:FSRep E a w g F s)(hp:xW P o K s){next:Act->World->Prop}{Q:Pt}
 (hn: ∀a' w' g' F' s',FSRep E a' w' g' F' s'->K s'->next a' w'):o.wpIn (fen E.rd) 0 P a w next Q:=by
 unfold xW at hp;split at hp
 . rename_i t parts heq;refine Gp E.rd (fun c hc=>by rw[heq] at hc;cases hc) ?_;split at hp;rotate_left;exact hp.elim;rename_i _ x hps;have hpa:parts= #[(0,x)]:=(by rw[<-hps]);obtain⟨p,s',hk,nx,w',g',F',r1,r2,r3⟩:=w1x h hp (h.ev x);unfold Oper.wp;have hex:(execOp a.eval o).run P w= .ok nx w':=by rw[<-r1];subst hpa;unfold execOp;simp only[heq];simp
   rw[hex];rcases r3 with ⟨v,rfl,hv⟩ | ⟨rfl,hj⟩;exact hn _ _ _ _ _ (r2.put o.dst hv) hk;subst hj;exact hn _ _ _ _ _ (r2.put o.dst (.base _ _ (.junk _))) hk
 exact G0g h hp hn
def YY (P:Program)(ops:List Oper):List Bool->List Oper->(PFS->Prop)->PFS->Prop
 | _,[],K,s=>K s
 | [],rest,K,s=>OL0 P ops rest K s
 | true::bs,o::rest,K,s=>o.guard=none/\xW P o (YY P ops bs rest K) s
 | false::bs,o::rest,K,s=>
  match o.guard with
  | none=>OC0 P o (YY P ops bs rest K) s
  | some (j,want)=>GK0 (ZA ops s j want) want (OC0 P o (YY P ops bs rest K) s) (YY P ops bs rest K (s.put o.dst (.tup [])))
theorem yS {P:Pg}{E:Ent}{ops:La}{Q:Pt}{K:Pf}(hK: ∀a' w' g' F' s',FSRep E a' w' g' F' s'->K s'->Q .normal a' w'):
 ∀(bs:Ld) (rest:Lo) (a:Act) (w:Lw) (g:Gh) (F:Fr) (s:PFS),FSRep E a w g F s->YY P ops.toList bs rest K s->wpListIn (fen E.rd) 0 P ops Q rest a w
 | bs,[],a,w,g,F,s,h,hp=>hK a w g F s h (by unfold YY at hp;exact hp)
 | [],o::rest,a,w,g,F,s,h,hp=>YT hK (o::rest) a w g F s h (YZ hp)
 | true::bs,o::rest,a,w,g,F,s,h,hp=>by obtain⟨hg,hp⟩:=hp;have ih:=yS (P:=P) (ops:=ops) hK bs rest;unfold wpListIn;rw[BC (by simp[Region.wanted,hg])];exact X2i h hp fun a' w' g' F' s' hr hk=>ih a' w' g' F' s' hr hk
 | false::bs,o::rest,a,w,g,F,s,h,hp=>by
  have ih:=yS (P:=P) (ops:=ops) hK bs rest;unfold YY at hp;unfold wpListIn;cases hg:o.guard with
  | none=>
   rw[hg] at hp;rw[BC (by simp[Region.wanted,hg])];exact Jt h (Vs hp) fun a' w' g' F' s' hr hk=>ih a' w' g' F' s' hr hk
  | some x=>
   obtain⟨j,want⟩:=x;rw[hg] at hp;simp only at hp;cases hb:ZA ops.toList s j want with
   | none=>rw[hb] at hp;exact hp.elim
   | some b=>
    rw[hb] at hp;obtain⟨h1,h2⟩:=hp;have hy:=W9 h hb;by_cases e:b=want;have hx:=h1 e;subst e;rw[BC (by unfold Region.wanted;rw[hg];simp only;rw[hy];simp)];exact Jt h (Vs hx) fun a' w' g' F' s' hr hk=>ih a' w' g' F' s' hr hk;rw[BA (by unfold Region.wanted;rw[hg];simp only;rw[hy];simp[e])];exact⟨V7,ih _ w g F _ (h.put o.dst (.base _ _ (Wz _ _))) (h2 e)⟩
def OLg (P:Program)(ops:List Oper)(bs:List Bool)(rest:List Oper)(K:PFS->Prop)[Stop ops][Stop rest][Stop K](s:PFS):Prop:=YY P ops bs rest K s
def PGr (P:Program)(o:Oper)(K:PFS->Prop)[Stop o][Stop K](s:PFS):Prop:=xW P o K s
theorem Y0 {P:Pg}{E:Ent}{id:Nat}{l:Lo}{Q:Pe}{s:PFS}(bs:Ld)(h:OLg P l bs l (Q .normal) s):PWP P E (.region id l.toArray false) Q s:=fun a w g F hr=>
 wpIn_region_list (yS (fun a' w' g' F' s' hr' hk=>⟨g',F',s',hr',hk⟩) bs l a w g F s hr h)
section
variable {P:Program} {s:PFS} {K:PFS->Prop} {d:Option Tmp} {ty:TypeId} {pos:String} {af:Array Edge} {pa:List PV} {L st:Qc} {T:List (Nat×Nat)}
@[go_sem] theorem k2f {ops:Lo}{bs:Ld} :OLg P ops bs [] K s=K s:=by cases bs<;>rfl
@[go_sem] theorem k2i {ops rest:Lo} :OLg P ops [] rest K s=OL P ops rest K s:=by cases rest<;>rfl
@[go_sem] theorem k2e {ops rest:Lo}{bs:Ld}{op:Op} :OLg P ops (true::bs) (⟨d,op,ty,pos,af,none⟩::rest) K s=PGr P ⟨d,op,ty,pos,af,none⟩ (OLg P ops bs rest K) s:=by show((none:Option (Nat×Bool))=none/\_)=_;simp only[F7];rfl
@[go_sem] theorem k2h {ops rest:Lo}{bs:Ld}{op:Op} :OLg P ops (false::bs) (⟨d,op,ty,pos,af,none⟩::rest) K s=OC P ⟨d,op,ty,pos,af,none⟩ (OLg P ops bs rest K) s:=(rfl)
@[go_sem] theorem k2g {ops rest:Lo}{bs:Ld}{op:Op}{j:Nat}{want:Bool} :OLg P ops (false::bs) (⟨d,op,ty,pos,af,some (j,want)⟩::rest) K s=
 GK (ZA ops s j want) want (OC P ⟨d,op,ty,pos,af,some (j,want)⟩ (OLg P ops bs rest K) s) (OLg P ops bs rest K (s.put d (.tup []))):=rfl
def qw (T U:Option TI)(x y:PV)(s:PFS)(K:PV->PFS->Prop)[Stop K]:Prop:=H9 T U x y s K
@[go_sem] theorem j2c {x y:Operand}{t u:Lt} :PGr P ⟨d,.call ⟨.builtin .append,[x,y].toArray,[t,u].toArray⟩,ty,pos,af,none⟩ K s=qw (ti P t) (ti P u) (s.ev x) (s.ev y) s (fun p s'=>K (s'.put d p)):=(rfl)
@[go_sem] theorem x2c {e e':EI}{x1 y1:Bool}{x2 y2:Nat}{x4 y4:Pr}{t:Tag}{j len cap:Nat}{ys:Lp}{K:Pw} :qw (some ⟨x1,x2,.slice e,x4⟩) (some ⟨y1,y2,.slice e',y4⟩) (.gr j len cap) (.sl t ys) (PFS.mk pa L T st) K=
 (GrowOK (st.getD j []) len cap ys e/\ ∀j' cap' st',GrowTo st j len cap ys e.sz j' cap' st'->K (.gr j' (len+ys.length) cap') (PFS.mk pa L T st')):=(rfl)
@[go_sem] theorem x2b {e e':EI}{x1 y1:Bool}{x2 y2:Nat}{x4 y4:Pr}{t:Tag}{ys:Lp}{K:Pw} :qw (some ⟨x1,x2,.slice e,x4⟩) (some ⟨y1,y2,.slice e',y4⟩) (.sl .full []) (.sl t ys) (PFS.mk pa L T st) K=
 (GrowOK [] 0 0 ys e/\ ∀cap' R,ys.length<=cap'->R.length=(cap'-ys.length)*e.sz->K (.gr st.length ys.length cap') (PFS.mk pa L T (st++ [flat ys++R]))):=by
 show(GrowOK (flat []) ([]:Lp).length ([]:Lp).length ys e/\ ∀cap' R,([]:Lp).length+ys.length<=cap'->R.length=(cap'-(([]:Lp).length+ys.length))*e.sz->K (.gr st.length (([]:Lp).length+ys.length) cap') (PFS.mk pa L T (st++ [flat []++(flat ys++R)])))=_;rw[show([]:Lp).length+ys.length=ys.length from CU _];rfl
theorem Z2b {e e':EI}{x1 y1:Bool}{x2 y2:Nat}{x4 y4:Pr}{t:Tag}{es ys:Lp}{K:Pw} :qw (some ⟨x1,x2,.slice e,x4⟩) (some ⟨y1,y2,.slice e',y4⟩) (.sl .full es) (.sl t ys) (PFS.mk pa L T st) K=
 (GrowOK (flat es) es.length es.length ys e/\ ∀cap' R,es.length+ys.length<=cap'->R.length=(cap'-(es.length+ys.length))*e.sz->K (.gr st.length (es.length+ys.length) cap') (PFS.mk pa L T (st++ [flat es++(flat ys++R)]))):=(rfl)
def vp (P:Program)(T:Option TI)(x y:PV)(s:PFS)(K:PV->PFS->Prop)[Stop K]:Prop:=Ye P T x y s K
def Z0p (T:Option TI)(e:EI)(n c:Int)(s:PFS)(K:PV->PFS->Prop)[Stop K]:Prop:=
 match T with
 | some ⟨_,_,_,some (.slice none 0 0)⟩=>(0<=n/\n=c/\n.toNat*e.by_<=140737488355328/\n<=9223372036854775807/\e.sz=1)/\K (.ms true s.st.length 0 n.toNat) { s with st:=s.st++ [List.replicate n.toNat (.sl .full [])] }
 | _=>False
@[go_sem] theorem j2a {x y:Operand}{t:Lt} :PGr P ⟨d,.makeSlice t x y,ty,pos,af,none⟩ K s=vp P (ti P t) (s.ev x) (s.ev y) s (fun p s'=>K (s'.put d p)):=(rfl)
@[go_sem] theorem V2q {e:EI}{x1:Bool}{x2:Nat}{x4:Pr}{n c:Int}{K:Pw} :vp P (some ⟨x1,x2,.slice e,x4⟩) (.sc (.int .i64 n)) (.sc (.int .i64 c)) s K=Z0p (ti P e.id) e n c s K:=(rfl)
@[go_sem] theorem V2r {e:EI}{y1:Bool}{y2:Nat}{y3:UD}{n c:Int}{K:Pw} :Z0p (some ⟨y1,y2,y3,some (.slice none 0 0)⟩) e n c (PFS.mk pa L T st) K=
 ((0<=n/\n=c/\n.toNat*e.by_<=140737488355328/\n<=9223372036854775807/\e.sz=1)/\K (.ms true st.length 0 n.toNat) (PFS.mk pa L T (st++ [List.replicate n.toNat (.sl .full [])]))):=(rfl)
def Y0n (T:Option TI)(x:PV)(s:PFS)(K:PV->PFS->Prop)[Stop K]:Prop:=xO T x s K
@[go_sem] theorem j2b {x:Operand}{t:Lt} :PGr P ⟨d,.buildSlice t 1 [(0,x)].toArray,ty,pos,af,none⟩ K s=Y0n (ti P t) (s.ev x) s (fun p s'=>K (s'.put d p)):=(rfl)
@[go_sem] theorem q2s {e:EI}{x1:Bool}{x2:Nat}{x4:Pr}{t:Tag}{es:Lp}{K:Pw} :Y0n (some ⟨x1,x2,.slice e,x4⟩) (.sl t es) (PFS.mk pa L T st) K=
 ((e.sz=1/\e.zok=true)/\K (.gr st.length 1 1) (PFS.mk pa L T (st++ [[.sl .no es]]))):=(rfl)
@[go_sem] theorem q2n {i n c:Nat} :(PV.gr i n c).cells= [.gr i n c]:=(rfl)
@[go_sem] theorem K2j {i n c:Nat}{st':Qc} :(PFS.mk pa L T st).recv d (.gr i n c) st'=(PFS.mk pa L T st').put d (.gr i n c):=(rfl)
@[go_sem] theorem Y2g {i n c:Nat}{l:Lp} :Zj (.gr i n c::l)=Zj l:=by simp[Zj,PV.closed2,PV.closed1]
end
section
variable {P:Program} {ops:Array Oper} {o:Oper} {K K':PFS->Prop} {s:PFS} {m:Bool} {M:List Bool}
theorem X2o (h:Ju P o K s):Xv o.op=false:=by unfold Ju at h;split at h;rename_i args ts heq;rw[heq];rfl;rename_i t l c heq;rw[heq];rfl;exact h.elim
theorem W1g {T:Pu}{x y:PV}{J J':Pw}(h:Ye P T x y s J)(hk: ∀p s',J p s'->J' p s'):Ye P T x y s J':=by unfold Ye at h⊢;split at h;rotate_left;exact h.elim;split at h;rotate_left;exact h.elim;exact⟨h.1,hk _ _ h.2⟩
theorem X2n (h:Ju P o K s)(hk: ∀s,K s->K' s):Ju P o K' s:=by unfold Ju at h⊢;split at h;rotate_left;exact W1g h fun p s' hp=>hk _ hp;exact h.elim;split at h;rotate_left;exact h.elim;unfold H9 at h⊢;split at h;exact⟨h.1,fun j' cap' st' hg=>hk _ (h.2 j' cap' st' hg)⟩;exact⟨h.1,fun cap' R h1 h2=>hk _ (h.2 cap' R h1 h2)⟩;exact h.elim
theorem X2k {dst:Po}{v:PV}(h1: ∀d,dst=some d->d∉o.looksAt ops)(h2: ∀d,dst=some d->o.dst≠some d)(h:Ju P o K (s.put dst v)):Ju P o (fun s'=>K (s'.put dst v)) s:=by
 have he: ∀x∈o.op.operands,(s.put dst v).ev x=s.ev x:=x9 (ops:=ops) fun d hd=>Vz fun e=>h1 d e hd;have est:(s.put dst v).st=s.st:=(J2 s dst v).2.2.1;have eput: ∀(st:Qc) (p:PV),(({ s.put dst v with st:=st } :PFS).put o.dst p)=((({ s with st:=st } :PFS).put o.dst p).put dst v):=fun st p=>by
  have:({ s.put dst v with st:=st } :PFS)=({ s with st:=st } :PFS).put dst v:=by cases dst<;>rfl
  rw[this];exact GT _ _ h2
 unfold Ju at h⊢;split at h;rotate_left
 . rename_i t l c heq;have hx:(s.put dst v).ev l=s.ev l:=he l (by rw[heq];simp[Op.operands]);have hy:(s.put dst v).ev c=s.ev c:=he c (by rw[heq];simp[Op.operands]);rw[hx,hy] at h;unfold Ye at h⊢;split at h;rotate_left;exact h.elim;split at h;rotate_left;exact h.elim;rw[est] at h;have q:K _:=h.2;rw[eput] at q;exact⟨h.1,q⟩
 exact h.elim;rename_i args ts heq;split at h;rotate_left;exact h.elim;rename_i t u x y hts hargs;have hx:(s.put dst v).ev x=s.ev x:=he x (by rw[heq];simp[Op.operands,Call.operands,Array.mem_def,hargs]);have hy:(s.put dst v).ev y=s.ev y:=he y (by rw[heq];simp[Op.operands,Call.operands,Array.mem_def,hargs]);rw[hx,hy] at h;unfold H9 at h⊢;split at h;rw[est] at h;exact⟨h.1,fun j' cap' st' hg=>by have q:K _:=h.2 j' cap' st' hg;rw[eput] at q;exact q⟩;rw[est] at h;exact⟨h.1,fun cap' R q1 q2=>by have q:K _:=h.2 cap' R q1 q2;rw[eput] at q;exact q⟩;exact h.elim
theorem X2l (h:Ju P o K s):Ju P o (fun s'=>K s'/\ ∃u,s'.pa=(s.put o.dst u).pa) s:=by
 unfold Ju at h⊢;split at h;rotate_left
 . unfold Ye at h⊢;split at h;rotate_left;exact h.elim;split at h;rotate_left;exact h.elim;exact⟨h.1,h.2,_,by cases o.dst<;>rfl⟩
 exact h.elim;split at h;rotate_left;exact h.elim;unfold H9 at h⊢;split at h;exact⟨h.1,fun j' cap' st' hg=>⟨h.2 j' cap' st' hg,_,by cases o.dst<;>rfl⟩⟩;exact⟨h.1,fun cap' R q1 q2=>⟨h.2 cap' R q1 q2,_,by cases o.dst<;>rfl⟩⟩;exact h.elim
def PDm (P:Program)(ops:Array Oper)(m:Bool)(o:Oper)(K:PFS->Prop)(s:PFS):Prop:=if m=true then(o.guard=none/\Ju P o K s) else POg P ops o K s
theorem yP (h:PDm P ops m o K s)(hk: ∀s,K s->K' s):PDm P ops m o K' s:=by
 unfold PDm at h⊢;cases m with
 | true=>exact⟨h.1,X2n h.2 hk⟩
 | false=>exact HC h hk
theorem X2p {dst:Po}{v:PV}(h1: ∀d,dst=some d->d∉o.looksAt ops)(h2: ∀d,dst=some d->o.dst≠some d)(h:PDm P ops m o K (s.put dst v)):PDm P ops m o (fun s'=>K (s'.put dst v)) s:=by
 unfold PDm at h⊢;cases m with
 | true=>exact⟨h.1,X2k h1 h2 h.2⟩
 | false=>exact U0z h1 h2 h
theorem G0i (h:PDm P ops m o K s):PDm P ops m o (fun s'=>K s'/\ ∃u,s'.pa=(s.put o.dst u).pa) s:=by
 unfold PDm at h⊢;cases m with
 | true=>exact⟨h.1,X2l h.2⟩
 | false=>exact yM h
theorem yO (hq:Xv o.op=true)(h:PDm P ops m o K s):m=false:=by
 unfold PDm at h;cases m with
 | true=>have:=X2o h.2;rw[hq] at this;cases this
 | false=>rfl
theorem G0h (hq:Xv o.op=true)(h:PDm P ops m o K s): ∃u,QY P ops o u s/\K (s.put o.dst u):=by have:=yO hq h;subst this;exact yL hq h
theorem Rg (hm:m=false)(hq:Xv o.op=true){u:PV}(h1:QY P ops o u s)(h2:K (s.put o.dst u)):PDm P ops m o K s:=by subst hm;exact kf hq h1 h2
def POx (P:Program)(ops:Array Oper)(M:List Bool)(i:Nat)(K:PFS->Prop)(s:PFS):Prop:=
 match ops[i]? with
 | none=>False
 | some o=>PDm P ops (M.getD i false) o K s
def PAx (P:Program)(ops:Array Oper)(M:List Bool)(K:PFS->Prop):Nat->Array Bool->PFS->Prop
 | 0,listed,s=>Region.ready .any ops listed= []/\K s
 | fuel+1,listed,s=>
  (Region.ready .any ops listed= []->K s)/\
  ∀i∈Region.ready .any ops listed,POx P ops M i (fun s'=>(Xq ops i=true->Js P ops listed i s')/\PAx P ops M K fuel (listed.setIfInBounds i true) s') s
def xX (P:Program)(ops:List Oper)(m:Bool)(o:Option Oper)(K:PFS->Prop)(s:PFS):Prop:=match o with | some o=>(match m with | true=>o.guard=none/\Ju P o K s | false=>OG P ops o K s) | none=>False
def OWx (P:Program)(ops:List Oper)(M:List Bool):Plan->(PFS->Prop)->PFS->Prop
 | .done,K,s=>K s
 | .step i ws rest,K,s=>xX P ops (M.getD i false) (ops[i]?) (fun s'=>WL0 P ops ws s'/\OWx P ops M rest K s') s
 | .alt a b,K,s=>OWx P ops M a K s/\OWx P ops M b K s
theorem X2r {i:Nat}{K:Pf}{s:PFS}(h:xX P ops.toList (M.getD i false) (ops.toList[i]?) K s):POx P ops M i K s:=by
 unfold xX at h;unfold POx;have e:ops.toList[i]?=ops[i]?:=(by simp);rw[e] at h;split at h;rename_i o ho;rw[ho];show PDm P ops (M.getD i false) o K s;unfold PDm;generalize M.getD i false=m at h;cases m with
 | true=>exact h
 | false=>exact G0l h
 exact h.elim
theorem Z2t {i:Nat}{K K':Pf}{s:PFS}(h:POx P ops M i K s)(hk: ∀s,K s->K' s):POx P ops M i K' s:=by unfold POx at h⊢;split;rename_i ho;rw[ho] at h;exact h;rename_i o ho;rw[ho] at h;exact yP h hk
theorem Z2u {i:Nat}{K:Pf}{s:PFS}(h:POx P ops M i K s):POx P ops M i (fun s'=>K s'/\s'.pa.length=s.pa.length) s:=by unfold POx at h⊢;split;rename_i ho;rw[ho] at h;exact h;rename_i o ho;rw[ho] at h;refine yP (G0i h) fun s' ⟨h1,u,h2⟩=>⟨h1,by rw[h2];exact(J2 s o.dst u).2.2.2⟩
theorem X1w {N i:Nat}{oi:Oper}{di:Tmp}{v:PV}(hi:ops[i]?=some oi)(hq:Xv oi.op=true)(hdi:oi.dst=some di)(hown:di∉oi.looksAt ops)(hN:di<N)(hMi:M.getD i false=false):
 ∀(fuel:Nat) (listed:Lc) (s:PFS),N<=s.pa.length->XN ops listed->
  (∀j oj,ops[j]?=some oj->j≠i->listed.getD j true=false->U3 ops i j=false->oi.apart ops oj=true)->
  (∀k ok,ops[k]?=some ok->listed.getD k false=true->VZ ok.op=true->di∉ok.looksAt ops/\ok.dst≠some di)->
  i∈Region.ready .any ops listed->QY P ops oi v s->
  PAx P ops M K fuel (listed.setIfInBounds i true) (s.put oi.dst v)->PAx P ops M K (fuel+1) listed s:=by
 have self: ∀(fuel:Nat) (listed:Lc) (s:PFS),QY P ops oi v s->PAx P ops M K fuel (listed.setIfInBounds i true) (s.put oi.dst v)->
  POx P ops M i (fun s'=>(Xq ops i=true->Js P ops listed i s')/\PAx P ops M K fuel (listed.setIfInBounds i true) s') s:=by
  intro fuel listed s hy H;unfold POx;rw[hi];exact Rg hMi hq hy ⟨fun he=>by simp[Xq,hi,hq] at he,H⟩
 intro fuel
 induction fuel with
 | zero=>
  intro listed s hl hc h1 h2 hr hy H;refine⟨fun h=>(by rw[h] at hr;cases hr),fun j hj=> ?_⟩;by_cases hji:j=i;subst hji;exact self 0 listed s hy H;have:=ready_mono hj hji;rw[H.1] at this;cases this
 | succ fuel ih=>
  intro listed s hl hc h1 h2 hr hy H;refine⟨fun h=>(by rw[h] at hr;cases hr),fun j hj=> ?_⟩;by_cases hji:j=i;subst hji;exact self _ listed s hy H;have hp:=H.2 j (ready_mono hj hji);obtain⟨hjun,oj,hoj,hall⟩:=mem_ready.1 hj;have hiun:=(mem_ready.1 hr).1;have hnr:=Ox hc hj hiun;obtain⟨a1,a2,a3⟩:=Oper.apart_spec (h1 j oj hoj hji hjun hnr);unfold POx at hp⊢;rw[hoj] at hp⊢;simp only at hp⊢;have hp':=G0i (X2p a1 a2 hp);have key: ∀s'':PFS,(∃u,s''.pa=(s.put oj.dst u).pa)->(Xv oj.op=true->s''.L=s.L/\s''.st=s.st)->
   ((Xq ops j=true->Js P ops (listed.setIfInBounds i true) j (s''.put oi.dst v))/\PAx P ops M K fuel ((listed.setIfInBounds i true).setIfInBounds j true) (s''.put oi.dst v))->
   (Xq ops j=true->Js P ops listed j s'')/\PAx P ops M K (fuel+1) (listed.setIfInBounds j true) s'':=by
   rintro s'' ⟨u,hpa⟩ hqs ⟨hw,hrest⟩;have hlen:s''.pa.length=s.pa.length:=(by rw[hpa];exact(J2 s oj.dst u).2.2.2);have hsame: ∀d∈oi.looksAt ops,s.pa.getD d .junk=s''.pa.getD d .junk:=fun d hd=>by rw[hpa];exact(Vz fun e=>a3 d e hd).symm
   have hown': ∀d∈oi.looksAt ops,(s''.put oi.dst v).pa.getD d .junk=s''.pa.getD d .junk:=fun d hd=>Vz fun e=>by rw[hdi] at e;cases e;exact hown hd
   have hil:(listed.setIfInBounds i true).getD i false=true:=by
    have hlt:i<listed.size:=by rcases Nat.lt_or_ge i listed.size with h' | h';exact h';simp[FX h'] at hiun
    simp[hlt]
   have hy':QY P ops oi v s'':=by
    cases hlo:VZ oi.op with
    | false=>exact YQ hq hsame (.inl hlo) hy
    | true=>
     cases hqj:Xv oj.op with
     | true=>obtain⟨e1,e2⟩:=hqs hqj;exact YQ hq hsame (.inr ⟨e1.symm,e2.symm⟩) hy
     | false=>
      have heff:Xq ops j=true:=(by simp[Xq,hoj,hqj]);have:=hw heff i oi hil hi hq hlo hnr di hdi;have e:(s''.put oi.dst v).pa.getD di .junk=v:=by rw[hdi];exact Sc (by rw[hlen];exact q_e hN hl)
      rw[e] at this;exact YQ hq hown' (.inr ⟨(J2 s'' oi.dst v).1,(J2 s'' oi.dst v).2.2.1⟩) this
   refine⟨fun heff k ok hk hok hkq hkl hkr d hd=> ?_,?_⟩;obtain⟨b1,b2⟩:=h2 k ok hok hk hkl;have:=hw heff k ok (getD_set_true hk) hok hkq hkl hkr d hd;have e:(s''.put oi.dst v).pa.getD d .junk=s''.pa.getD d .junk:=Vz fun e=>by rw[hdi] at e;cases e;exact b2 hd
   rw[e] at this;exact YQ hkq (fun x hx=>Vz fun e=>by rw[hdi] at e;cases e;exact b1 hx) (.inr ⟨(J2 s'' oi.dst v).1,(J2 s'' oi.dst v).2.2.1⟩) this;refine ih (listed.setIfInBounds j true) s'' oG (Ge hc hj) (fun k ok hk hki hun hno=> ?_) (fun k ok hk hkl hlo=> ?_) (ready_mono hr (Ne.symm hji)) hy' ?_;refine h1 k ok hk hki ?_ hno;by_cases hjk:j=k;subst hjk;exact hjun;rw[getD_set_ne true hjk] at hun;exact hun;by_cases hjk:j=k;subst hjk;rw[hoj] at hk;cases hk;exact⟨a1 di hdi,fun e=>a2 di hdi e⟩;rw[getD_set_ne false hjk] at hkl;exact h2 k ok hk hkl hlo;rw[Array.setIfInBounds_comm _ _ hji];exact hrest
  cases hqj:Xv oj.op with
  | true=>
   have hmj:=yO hqj hp';obtain⟨u,q1,q2,q3⟩:=G0h hqj hp';exact Rg hmj hqj q1 (key _ ⟨u,rfl⟩ (fun _=>⟨(J2 s oj.dst u).1,(J2 s oj.dst u).2.2.1⟩) q2)
  | false=>exact yP hp' fun s'' ⟨q2,q3⟩=>key s'' q3 (fun h=>by rw[hqj] at h;cases h) q2
theorem H1n {p:Plan}{s:PFS}(h:p.heads= []):OWx P ops.toList M p K s->K s:=by
 induction p with
 | done=>exact id
 | step i ws rest=>cases h
 | alt a b iha ihb=>exact fun hw=>iha (by simp only[Plan.heads,List.append_eq_nil_iff] at h;exact h.1) hw.1
theorem X1m {N:Nat} : ∀(p:Plan) (f:Nat) (listed:Lc),X3 ops N p f listed=true->XN ops listed->
 (∀s,N<=s.pa.length->OWx P ops.toList M p K s-> ∀i∈p.heads,POx P ops M i (fun s'=>(Xq ops i=true->Js P ops listed i s')/\PAx P ops M K (f-1) (listed.setIfInBounds i true) s') s)/\
 (V4 ops N listed p=true-> ∀s,N<=s.pa.length->OWx P ops.toList M p K s->PAx P ops M K f listed s):=by
 have full: ∀(p:Plan) (f:Nat) (listed:Lc),X3 ops N p f listed=true->XN ops listed->
  (∀s,N<=s.pa.length->OWx P ops.toList M p K s-> ∀i∈p.heads,POx P ops M i (fun s'=>(Xq ops i=true->Js P ops listed i s')/\PAx P ops M K (f-1) (listed.setIfInBounds i true) s') s)->
  V4 ops N listed p=true-> ∀s,N<=s.pa.length->OWx P ops.toList M p K s->PAx P ops M K f listed s:=by
  intro p f listed hB hcl hh hf s hl hw;simp only[V4,DF] at hf;rcases hf with hf | hf;cases p with
  | step i ws rest=>
   simp only[ww] at hf;cases hoi:ops[i]? with
   | none=>rw[hoi] at hf;cases hf
   | some oi=>
    rw[hoi] at hf;simp only at hf;cases hdi:oi.dst with
    | none=>rw[hdi] at hf;cases hf
    | some di=>
     rw[hdi] at hf;simp only[q_i,EK,BN,q_d,EX] at hf;obtain⟨⟨⟨hq,hown⟩,hN⟩,hall⟩:=hf;have hready:=YD hB i (by simp[Plan.heads]);have hp:=hh s hl hw i (by simp[Plan.heads]);cases f with
     | zero=>exact absurd rfl hready.2
     | succ f=>
      unfold POx at hp;rw[hoi] at hp;have hMi:=yO hq hp;obtain⟨u,hy,_,hrest⟩:=G0h hq hp;refine X1w (di:=di) hoi hq hdi (by simpa using hown) hN hMi f listed s hl hcl (fun j oj hj hji hun hnr=> ?_) (fun k ok hk hkl hlo=> ?_) hready.1 hy (by simpa using hrest);have hlt:=(C3.1 hj).1;have:=hall j hlt;simp only[hj,FL,hji,DF,q_i,hun,hnr,B3,false_or] at this;exact this.1;by_cases hki:k=i;subst hki;have:=(mem_ready.1 hready.1).1;rw[Hn this] at hkl;cases hkl;have hlt:=(C3.1 hk).1;have:=hall k hlt;simp only[hk,FL,hki,DF,q_i,hkl,hlo,FM,B3,false_or] at this;have h2:=this.2;simp only[EK,BV,ne_eq] at h2;exact⟨by simpa using h2.1,h2.2⟩
  | done=>cases hf
  | alt a b=>cases hf
  have hcov: ∀i∈Region.ready .any ops listed,i∈p.heads:=fun i hi=>by have:=List.all_eq_true.1 hf i hi;simpa using this
  have hnil:Region.ready .any ops listed= []->K s:=fun h0=>H1n (by
   cases hp:p.heads with
   | nil=>rfl
   | cons i l=>
    have:=(YD hB i (by rw[hp];simp)).1;rw[h0] at this;cases this) hw
  cases f with
  | zero=>
   have h0:Region.ready .any ops listed= []:=by
    cases hr:Region.ready .any ops listed with
    | nil=>rfl
    | cons i l=>exact absurd rfl (YD hB i (hcov i (by rw[hr];simp))).2
   exact⟨h0,hnil h0⟩
  | succ f=>exact⟨hnil,fun i hi=>hh s hl hw i (hcov i hi)⟩
 intro p
 induction p with
 | done=>
  intro f listed hB hcl;have h1: ∀s,N<=s.pa.length->OWx P ops.toList M .done K s-> ∀i∈Plan.done.heads,POx P ops M i (fun s'=>(Xq ops i=true->Js P ops listed i s')/\PAx P ops M K (f-1) (listed.setIfInBounds i true) s') s:=fun s hl hw i hi=>(by cases hi);exact⟨h1,full .done f listed hB hcl h1⟩
 | step k ws rest ih=>
  intro f listed hB hcl;have h1: ∀s,N<=s.pa.length->OWx P ops.toList M (.step k ws rest) K s-> ∀i∈(Plan.step k ws rest).heads,POx P ops M i (fun s'=>(Xq ops i=true->Js P ops listed i s')/\PAx P ops M K (f-1) (listed.setIfInBounds i true) s') s:=by
   intro s hl hw i hi;have hready:=YD hB i hi;simp only[Plan.heads,C0] at hi;subst hi;cases f with
   | zero=>exact absurd rfl hready.2
   | succ f=>
    simp only[X3,zh,q_i,DF,q_d,EX] at hB;obtain⟨⟨_,hws⟩,hrB,hrF⟩:=hB;obtain⟨_,ih2⟩:=ih f (listed.setIfInBounds i true) hrB (Ge hcl hready.1);refine Z2t (Z2u (X2r hw)) ?_;rintro s' ⟨⟨hW,hO⟩,hlen⟩;refine⟨fun heff k ok hkl hok hkq hkl' hkr=> ?_,ih2 hrF s' oG hO⟩;rcases hws with hws | hws;rw[heff] at hws;cases hws;have:=hws k (C3.1 hok).1;simp only[hkl,hkr,hok,hkl',FM,B3,false_or,or_false] at this;exact yJ hW k (by simpa using this) ok hok hkq
  exact⟨h1,full _ f listed hB hcl h1⟩
 | alt a b iha ihb=>
  intro f listed hB hcl;have hab:X3 ops N a f listed=true/\X3 ops N b f listed=true:=(by cases f<;>simpa[X3] using hB);have h1: ∀s,N<=s.pa.length->OWx P ops.toList M (.alt a b) K s-> ∀i∈(Plan.alt a b).heads,POx P ops M i (fun s'=>(Xq ops i=true->Js P ops listed i s')/\PAx P ops M K (f-1) (listed.setIfInBounds i true) s') s:=by intro s hl hw i hi;simp only[Plan.heads,DN] at hi;exact hi.elim ((iha f listed hab.1 hcl).1 s hl hw.1 i) ((ihb f listed hab.2 hcl).1 s hl hw.2 i)
  exact⟨h1,full _ f listed hB hcl h1⟩
theorem G0q {E:Ent}{Q:Pt}(hK: ∀a' w' g' F' s',FSRep E a' w' g' F' s'->K s'->Q .normal a' w'): ∀(f:Nat) (listed:Lc) (a:Act) (w:Lw) (g:Gh) (F:Fr) (s:PFS),
 FSRep E a w g F s->PAx P ops M K f listed s->wpAnyIn (fen E.rd) 0 P .any ops Q f listed a w:=by
 intro f
 induction f with
 | zero=>exact fun listed a w g F s hr h=>⟨h.1,hK a w g F s hr h.2⟩
 | succ f ih=>
  intro listed a w g F s hr h;refine⟨fun h0=>hK a w g F s hr (h.1 h0),fun i hi=> ?_⟩;have hp:=h.2 i hi;unfold POx at hp;unfold wpOpIn;cases hoi:ops[i]? with
  | none=>rw[hoi] at hp;exact hp.elim
  | some o=>
   rw[hoi] at hp;simp only at hp⊢;unfold PDm at hp;split at hp;obtain⟨hg,hp⟩:=hp;rw[BC (by simp[Region.wanted,hg])];exact G0g hr hp fun a' w' g' F' s' hr' hk=>ih _ a' w' g' F' s' hr' hk.2;unfold POg at hp;split at hp;rename_i hg;rw[BC (by simp[Region.wanted,hg])];exact Jt hr hp fun a' w' g' F' s' hr' hk=>ih _ a' w' g' F' s' hr' hk.2;rename_i j want hg;split at hp;rename_i b hb;have hy:=W9 hr hb;split at hp;rename_i he;subst he;rw[BC (by unfold Region.wanted;rw[hg];simp only;rw[hy];simp)];exact Jt hr hp fun a' w' g' F' s' hr' hk=>ih _ a' w' g' F' s' hr' hk.2;rename_i he;rw[BA (by unfold Region.wanted;rw[hg];simp only;rw[hy];simp[he])];exact⟨V7,ih _ _ w g F _ (hr.put o.dst (.base _ _ (Wz _ _))) hp.2⟩;exact hp.elim
end
theorem Z1e {P:Pg}{E:Ent}{id:Nat}{l:Lo}{Q:Pe}{s:PFS}(hm:P.follows .mixedOrders=true)(N:Nat)(M:Ld)(p:Plan)(hB:UZ l.toArray N p=true)(hl:N<=s.pa.length)
 (h:OWx P l M p (Q .normal) s):PWP P E (.region id l.toArray true) Q s:=by
 intro a w g F hr;simp only[UZ,q_i] at hB;have hcl:XN l.toArray (Array.replicate l.toArray.size false):=fun k ok e hk hkl he hb=>by by_cases hkk:k<l.length<;>simp[hkk,q_f,E9] at hkl
 have:=(X1m (P:=P) (M:=M) (K:=Q .normal) p _ _ hB.1 hcl).2 hB.2 s hl (by simpa using h);exact wpIn_region_any hm (G0q (fun a' w' g' F' s' hr' hk=>⟨g',F',s',hr',hk⟩) _ _ _ _ g F s hr.drew.1 this)
section
variable {P:Program} {s:PFS} {K:PFS->Prop} {d:Option Tmp} {ty:TypeId} {pos:String} {af:Array Edge} {M:List Bool}
def PGq (P:Program)(o:Oper)(K:PFS->Prop)[Stop o][Stop K](s:PFS):Prop:=Ju P o K s
@[go_sem] theorem j2e {x y:Operand}{t u:Lt} :PGq P ⟨d,.call ⟨.builtin .append,[x,y].toArray,[t,u].toArray⟩,ty,pos,af,none⟩ K s=qw (ti P t) (ti P u) (s.ev x) (s.ev y) s (fun p s'=>K (s'.put d p)):=(rfl)
@[go_sem] theorem j2d {x y:Operand}{t:Lt} :PGq P ⟨d,.makeSlice t x y,ty,pos,af,none⟩ K s=vp P (ti P t) (s.ev x) (s.ev y) s (fun p s'=>K (s'.put d p)):=(rfl)
def OX (P:Program)(ops:List Oper)(M:List Bool)(p:Plan)(K:PFS->Prop)[Stop ops][Stop p][Stop K](s:PFS):Prop:=OWx P ops M p K s
def OSX (P:Program)(ops:List Oper)(m:Bool)(o:Option Oper)(K:PFS->Prop)[Stop ops][Stop K](s:PFS):Prop:=xX P ops m o K s
@[go_sem] theorem j2h {ops:Lo} :OX P ops M .done K s=K s:=(rfl)
@[go_sem] theorem j2g {ops:Lo}{i:Nat}{rest:Plan} :OX P ops M (.step i [] rest) K s=OSX P ops (M.getD i false) (ops[i]?) (OX P ops M rest K) s:=by simp only[OX,OWx,OSX,WL0,F7];rfl
@[go_sem] theorem j2f {ops:Lo}{i k:Nat}{ws:Ln}{rest:Plan} :OX P ops M (.step i (k::ws) rest) K s=OSX P ops (M.getD i false) (ops[i]?) (fun s'=>WL P ops (k::ws) s'/\OX P ops M rest K s') s:=(rfl)
@[go_sem] theorem j2n {ops:Lo}{op:Op} :OSX P ops false (some ⟨d,op,ty,pos,af,none⟩) K s=OC P ⟨d,op,ty,pos,af,none⟩ K s:=(rfl)
@[go_sem] theorem j2o {ops:Lo}{op:Op} :OSX P ops true (some ⟨d,op,ty,pos,af,none⟩) K s=PGq P ⟨d,op,ty,pos,af,none⟩ K s:=by show((none:Option (Nat×Bool))=none/\_)=_;simp only[F7];rfl
end
theorem GR {P:Pg}{E:Ent}{id:Nat}{l:Lo}{Q:Pe}{s:PFS}(M:Ld)(hm:P.follows .mixedOrders=true)(N:Nat)(p:Plan)(hB:UZ l.toArray N p=true)(hl:N<=s.pa.length)
 (h:OX P l M p (Q .normal) s):PWP P E (.region id l.toArray true) Q s:=Z1e hm N M p hB hl h
theorem GrowTo.facts {st st':Qc}{j len cap sz j' cap':Nat}{es ys R:Lp}(h:GrowTo st j len cap ys sz j' cap' st')(hj:j<st.length)(hc:st.getD j []=flat es++R)(he:(flat es).length=len*sz)(hy:(flat ys).length=ys.length*sz)
 (hR:R.length=(cap-len)*sz) (hle:len<=cap):
 ∃R',st'.getD j' []=flat es++(flat ys++R')/\R'.length=(cap'-(len+ys.length))*sz/\len+ys.length<=cap'/\j'<st'.length/\(j'=j\/j'=st.length)/\st.length<=st'.length/\ ∀p,p<st.length->p≠j->st'.getD p []=st.getD p []:=by
 rcases h with ⟨h1,rfl,rfl,rfl⟩ | ⟨h1,h2,rfl,R',h3,rfl⟩;refine⟨R.drop (ys.length*sz),?_,?_,h1,by simpa using hj,.inl rfl,by simp,fun p hp hne=>Z3 _ _ _ _ _ (fun e=>hne e.symm)⟩;rw[Z0 _ _ _ _ hj,hc];unfold Q4;rw[<-he,List.take_left,List.drop_append,E4 oG,CQ,hy,show(flat es).length+ys.length*sz-(flat es).length=ys.length*sz from oG,BP];rw[DM,hR,<-Nat.sub_mul];congr 1;omega;refine⟨R',?_,h3,h2,by simp,.inr rfl,by simp,fun p hp hne=>QV _ _ _ _ hp⟩;rw[Zi _ _ _ _ (BD _),DD,LB,hc,<-he,List.take_left]
theorem GrowOK.mk_one {cs:Lp}{len cap:Nat}{y:PV}{id:Lt}{sz by_:Nat}{x y' z:Bool}(hz:(⟨id,sz,by_,x,y',z⟩:EI).zok=true)(h0:0<sz)(hc:cs.length=cap*sz)(hl:len<=100000)(hb:by_<=100000)(hy:y.cells.length=sz)(hok:y.cells.all PV.cellOK=true):
 GrowOK cs len cap [y] ⟨id,sz,by_,x,y',z⟩:=by
 refine⟨hz,h0,hc,by simp;omega,?_,by simp[hy,hok],by simp⟩;show(len+ [y].length)*by_<=_;have:(len+ [y].length)*by_<=100001*100000:=DW (by simp;omega) hb;omega
end Go.Pv
end
