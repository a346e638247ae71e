/- Parts of the walk: N66, N67, N68, N69, N70, N71, N72, N73, N74, N75. -/
import Derived.Test.YtldalepagmhnmaaGreatDoorZBQ
import Derived.Test.YtldalepagmhnmaaGreatDoorZBH
set_option linter.unusedVariables false
set_option linter.unusedSimpArgs false
section
set_option maxRecDepth 100000
namespace Go.Pv
open Go.Proofs
theorem J2z (a b:List Ivl)(k:Int)(st:Q0f):PCalls Tryz.prog 318 [.sl .no (Q0v a),.sl .no (Q0v b),.sc (.int .i64 k)] st
 (fun r st'=>r= .fn (.func 323) [] [.gp (st.length+2) 0,.gp st.length 0,.gp (st.length+1) 0]/\st'=st++ [[.sl .no (Q0v a)],[.sl .no (Q0v b)],[.sc (.int .i64 k)]]):=by
 refine Q0b none Tryz.func318 rfl fun E=>Q0h (Q0a ?_);simp-dsimp only[go_sem];refine Q0h (j0k 0 (by simp[go_sem]) (by simp) (j0k 1 (by simp[go_sem]) (by simp[go_sem,PFS.give]) (j0k 2 (by simp[go_sem]) (by simp[go_sem,PFS.give]) (Q0a ?_))));simp-dsimp only[go_sem];refine Q0a ?_;simp-dsimp only[go_sem];simp
theorem G2t (a b:List Ivl)(k ka kb kk l:Nat)(r:Loop)(w:World)(g:Gh)(J:Nat->Q0f->Prop)(Jx:Code->Q0f->Prop)(hk:k<=10)(hka:k<a.length)(hkb:k<b.length)
 (la:a.length<=1000000) (lb:b.length<=1000000)
 (hJ: ∀i st,J i st->st.getD kk []= [.sc (.int .i64 k)]/\st.getD ka []= [.sl .no (Q0v a)]/\st.getD kb []= [.sl .no (Q0v b)])
 (hy: ∀i,i<k+1-> ∀st,J i st->PYields Tryz.prog l r w g [.agg (encI (a.getD i default)),.agg (encI (b.getD (k-i) default))] st (J (i+1)) Jx) (st:Q0f) (h0:J 0 st):
 q3n Tryz.prog 323 l r w g [.fn (.yield l) [] [],.gp kk 0,.gp ka 0,.gp kb 0] st (J (k+1)) Jx:=by
 refine v1v Tryz.func323 rfl rfl fun E hrd hw hg hl=> ?_;subst hw hg;obtain⟨q1,q2,q3⟩:=hJ 0 st h0;have wk:IntKind.i64.wrap ((k:Int)+1)=k+1:=Q0l _ (by omega) (by omega);refine Q1b (W1z (Q0a ?_));simp-dsimp only[go_sem,q1,wk];refine z1c ?_;refine G1a [true,true,true,true,false,false,false,true,true] 0 0 (fun n s=> ∃i st,i<=k+1/\n=k+1-i/\J i st/\s=⟨[.fn (.yield l) [] [],.gp kk 0,.gp ka 0,.gp kb 0,.junk,.junk,.junk,.sc (.int .i64 ((k:Int)+1)),.sc (.int .i64 (i:Nat))]++List.replicate 16 .junk,[],[],st⟩) (k+1) ?_ ?_;simp-dsimp only[go_sem];exact⟨0,st,by omega,by omega,h0,rfl⟩;rintro n s ⟨i,st,hi,rfl,hj,rfl⟩;obtain⟨q1,q2,q3⟩:=hJ i st hj;refine Q1b (W1z (Q0a ?_));simp-dsimp only[go_sem];refine Q1b (W1z (Q0a ?_));simp-dsimp only[go_sem];refine ck (fun h=> ?_) (fun h=> ?_);have hik:i<k+1:=(by simp at h;omega);simp-dsimp only[go_sem];refine Q1b (z1c ?_);refine Q1b (W1z (Q0a ?_));simp-dsimp only[go_sem];refine Q1b (G2n hl hrd Z0m 25 [0,1,2,3,4,5,6,7,8,9,10] 11 [12] (.step 0 [] (.step 1 [] (.step 2 [] (.step 3 [] (.step 4 [] (.step 5 [] (.step 6 [] (.step 7 [] (.step 8 [] (.step 9 [] (.step 10 [] (.done)))))))))))) (.step 11 [6] (.step 12 [] (.done))) (.step 12 [] (.done)) (by decide+kernel) (by simp) ?_);have e3:IntKind.i64.wrap ((k:Int)-(i:Nat))=((k-i:Nat):Int):=(by rw[Q0l _ (by omega) (by omega)];omega);have g1:=X0r a i (by omega);have g2:=X0r b (k-i) (by omega);simp-dsimp only[go_sem,q1,q2,q3,e3,g1,g2];have e4:IntKind.i64.wrap ((i:Int)+1)=((i+1:Nat):Int):=(by rw[Q0l _ (by omega) (by omega)];omega);refine⟨by omega,by omega,ylds (hy i hik st hj) (fun st' hj'=> ?_) (fun c st' hx=> ?_)⟩;simp-dsimp only[go_sem];refine W1z (Q0a ?_);simp-dsimp only[go_sem];refine W1z (Q0a ?_);simp-dsimp only[go_sem,e4];exact⟨k+1-(i+1),by omega,i+1,st',by omega,rfl,hj',rfl⟩;simp-dsimp only[go_sem];refine Q0a ?_;simp-dsimp only[go_sem];exact hx;simp-dsimp only[go_sem];have:i=k+1:=(by simp at h;omega);subst this;simp only[eblk,if_true,G3b];exact hj
theorem W1t (k p:Int)(st:Q0f):PCalls Tryz.prog 212 [.sc (.int .i64 k),.sc (.int .i64 p)] st
 (fun r st'=>r= .sc (.bool (decide (0<=k)&&decide (k<=10)&&Z0p p))/\st'=st):=by
 refine Q0b none Tryz.func212 rfl fun E=>Q0a ?_;by_cases h0:0<=k;by_cases h1:k<=10;simp-dsimp only[go_sem,ge_iff_le,h0,h1,decide_true];refine(U0p p st).mono ?_;rintro r st ⟨rfl,rfl⟩;simp-dsimp only[go_sem];simp[h0,h1];simp-dsimp only[go_sem,ge_iff_le,h0,h1,decide_true,decide_false];simp[h1];simp-dsimp only[go_sem,ge_iff_le,h0,decide_false];simp[h0]
theorem y0x (a:List Ivl)(k:Nat)(st:Q0f)(hk:k<=10)(la:a.length<=1000000)(wa: ∀x∈a,wI x):PCalls Tryz.prog 213 [.sl .no (Q0v a),.sc (.int .i64 k)] st
 (fun r st'=>r= .sc (.bool (decide (k<a.length)&&(a.take (k+1)).all Q0p))/\st'=st):=by
 refine Q0b none Tryz.func213 rfl fun E=>Q0a ?_;simp-dsimp only[go_sem];refine ck (fun h=> ?_) (fun h=> ?_);have: ¬k<a.length:=(by simp at h;omega);simp-dsimp only[go_sem];simp[this];have hka:k<a.length:=(by simp at h;omega);have wk:IntKind.i64.wrap ((k:Int)+1)=((k+1:Nat):Int):=(by rw[Q0l _ (by omega) (by omega)];omega);simp-dsimp only[go_sem,wk];have lt':(a.take (k+1)).length=k+1:=(by simp;omega);refine⟨by omega,?_⟩;refine Q0d [false,false,false,false,false,false,false,false,false,false,false,false,false,false,true,true,true] 0 0 (fun n s=> ∃i,n=k+1-i/\i<=k+1/\(∀j,j<i->Q0p (a.getD j default)=true)/\
  s=⟨[.junk,.junk,.junk,.junk,.junk,.junk,.junk,.junk,.junk,.junk,.junk,.junk,.junk,.junk,.sl .no (Q0v (a.take (k+1))),.sc (.int .i64 ((k+1:Nat):Int)),.sc (.int .i64 (i:Nat))]++List.replicate 7 .junk,[],[],st⟩) (k+1) ?_ ?_
 simp-dsimp only[go_sem,lt'];exact⟨0,by omega,by omega,fun j hj=>by omega,rfl⟩;rintro n s ⟨i,rfl,hi,hr,rfl⟩;have hall:(a.take (k+1)).all Q0p=true<-> ∀j,j<k+1->Q0p (a.getD j default)=true:=by rw[q_d];constructor;intro h j hj;have:=h ((a.take (k+1)).getD j default) (Q0t _ _ _ (by omega));rwa [V0g _ _ _ _ hj] at this;intro h x hx;obtain⟨j,hj,rfl⟩:=List.getElem_of_mem hx;have:=h j (by omega);rw[List.getElem_take];rwa [q_a,List.getElem?_eq_getElem (by omega)] at this
 simp-dsimp only[go_sem,lt'];refine ck (fun h'=> ?_) (fun h'=> ?_);have hlt:i<k+1:=(by have:=q_b h';omega);have e1:(Q0v (a.take (k+1))).getD i .junk= .agg (encI (a.getD i default)):=(by rw[X0r _ i (by omega),V0g _ _ _ _ hlt]);have e3:IntKind.i64.wrap ((i:Int)+1)=((i+1:Nat):Int):=(by rw[Q0l _ (by omega) (by omega)];omega);have hm:a.getD i default∈a:=(by rw[q_a,List.getElem?_eq_getElem (by omega)];simp);simp-dsimp only[go_sem,e1,lt'];refine⟨by omega,?_⟩;refine(Y0v (a.getD i default) st (wa _ hm)).mono ?_;rintro r st ⟨rfl,rfl⟩;simp-dsimp only[go_sem];refine ck (fun h2=> ?_) (fun h2=> ?_);have hf:Q0p (a.getD i default)=false:=(by simpa using h2);simp-dsimp only[go_sem];have:(a.take (k+1)).all Q0p=false:=by
  cases hb:(a.take (k+1)).all Q0p with
  | false=>rfl
  | true=>have:=hall.1 hb i hlt;rw[hf] at this;cases this
 simp[this];have ht:Q0p (a.getD i default)=true:=(by simpa using h2);simp-dsimp only[go_sem,e3];exact⟨k+1-(i+1),by omega,i+1,rfl,by omega,fun j hj=>(by by_cases e:j=i;rw[e];exact ht;exact hr j (by omega)),rfl⟩;have:i=k+1:=(by have:=q_c h';omega);subst this;simp-dsimp only[go_sem];refine Q0a ?_;simp-dsimp only[go_sem];simp[hka,hall.2 hr]
def z0t (p:Int):List (Ivl×Ivl)->Bool->Ivl->Ivl×Int
 | [],_,s=>(s,0)
 | x::l,sm,s=>
  if (opI 2 x.1 x.2 p).2=0 then
   if sm=true then
    if (opI 0 s (opI 2 x.1 x.2 p).1 p).2=0 then z0t p l true (opI 0 s (opI 2 x.1 x.2 p).1 p).1 else(default,(opI 0 s (opI 2 x.1 x.2 p).1 p).2)
   else z0t p l true (opI 2 x.1 x.2 p).1
  else(default,(opI 2 x.1 x.2 p).2)
theorem U0v (p:Int)(x:Ivl×Ivl)(l:List (Ivl×Ivl))(sm:Bool)(s:Ivl):z0t p (x::l) sm s=
 if (opI 2 x.1 x.2 p).2=0 then
  if sm=true then
   if (opI 0 s (opI 2 x.1 x.2 p).1 p).2=0 then z0t p l true (opI 0 s (opI 2 x.1 x.2 p).1 p).1 else(default,(opI 0 s (opI 2 x.1 x.2 p).1 p).2)
  else z0t p l true (opI 2 x.1 x.2 p).1
 else(default,(opI 2 x.1 x.2 p).2):=rfl
def z0s (a b:List Ivl)(k:Nat):List (Ivl×Ivl):=(List.range (k+1)).map fun i=>(a.getD i default,b.getD (k-i) default)
def K0k (a:List Ivl)(k:Nat):Bool:=decide (k<a.length)&&(a.take (k+1)).all Q0p
def V0p (a b:List Ivl)(k:Nat)(p:Int):Ivl×Int:=if Z0p p=true/\K0k a k=true/\K0k b k=true then z0t p (z0s a b k) false default else(default,1)
theorem K2v (a b:List Ivl)(k i:Nat)(h:i<k+1):(z0s a b k).drop i=(a.getD i default,b.getD (k-i) default)::(z0s a b k).drop (i+1):=by rw[List.drop_eq_getElem_cons (by simpa[z0s] using h)];simp[z0s]
def K2w (a b:List Ivl)(k:Nat):List (List PV):=(List.range (k+1)).map fun i=> [.agg (encI (a.getD i default)),.agg (encI (b.getD (k-i) default))]
theorem x0g (a b:List Ivl)(k:Nat):(K2w a b k).length=k+1:=by simp[K2w]
theorem J1x (a b:List Ivl)(k i:Nat)(h:i<k+1):(K2w a b k).getD i []= [.agg (encI (a.getD i default)),.agg (encI (b.getD (k-i) default))]:=by simp[K2w,q_a,h]
theorem H0s (st X:Q0f)(i:Nat):(st++X).getD (st.length+i) []=X.getD i []:=by rw[q_a,List.getElem?_append_right (by omega),Nat.add_sub_cancel_left,<-q_a]
theorem H0i (st X:Q0f):(st++X).getD st.length []=X.getD 0 []:=H0s st X 0
theorem v0j (st X:Q0f)(i:Nat)(v:List PV):(st++X).set (st.length+i) v=st++X.set i v:=by simp[List.set_append]
theorem j0r (st X:Q0f)(v:List PV):(st++X).set st.length v=st++X.set 0 v:=v0j st X 0 v
theorem U0w :wI (default:Ivl):=by refine⟨?_,?_⟩<;>(show wN ⟨false,0,[]⟩;simp[wN])
theorem Q3j (n:Nat)(l:List UInt64):Low n (.sl .no (encW l)):=K3v fun e he c hc=>by obtain⟨x,_,rfl⟩:=List.mem_map.1 he;simp only[PV.cells,List.mem_singleton] at hc;subst hc;exact w0u _ _
theorem Q3k (n:Nat)(x:Ivl):Low n (.agg (encI x)):=q2g fun c hc=>by simp only[encI,encN,List.cons_append,List.nil_append,List.mem_cons,List.not_mem_nil,or_false] at hc;rcases hc with rfl | rfl | rfl | rfl | rfl | rfl<;>first | exact w0u _ _ | exact Q3j _ _
theorem K1i (n:Nat)(x:Ivl)(e:Value):LowR n (.tup [.agg (encI x),.sc e]):=U3v fun c hc=>by simp only[List.mem_cons,List.not_mem_nil,or_false] at hc;rcases hc with rfl | rfl;exact Q3k n x;exact w0u _ _
def Q4c (a b:List Ivl)(k:Nat)(p:Int)(st:Q0f)(i:Nat)(st':Q0f):Prop:= ∃sm s,wI s/\z0t p ((z0s a b k).drop i) sm s=z0t p (z0s a b k) false default/\st'=st++ [[.sc (.int .i64 p)],encI default,[.sc (.int .i64 0)],encI s,[.sc (.bool sm)],[.sl .no (Q0v a)],[.sl .no (Q0v b)],[.sc (.int .i64 k)]]
def Q4b (a b:List Ivl)(k:Nat)(p:Int)(st:Q0f)(c:Code)(st':Q0f):Prop:=c= .ret/\ ∃e X,z0t p (z0s a b k) false default=(default,e)/\st'=st++([.sc (.int .i64 p)]::encI default:: [.sc (.int .i64 e)]::X)
theorem Q4a (a b:List Ivl)(k:Nat)(p:Int)(st:Q0f)(hk:k<=10)(la:a.length<=1000000)(lb:b.length<=1000000)(wa: ∀x∈a,wI x)(wb: ∀x∈b,wI x):
 PCalls Tryz.prog 296 [.sl .no (Q0v a),.sl .no (Q0v b),.sc (.int .i64 k),.sc (.int .i64 p)] st
 (fun r st'=>r= .tup [.agg (encI (V0p a b k p).1),.sc (.int .i64 (V0p a b k p).2)]/\st'=st):=by
 refine v1x (Q:=fun r _=>r= .tup [.agg (encI (V0p a b k p).1),.sc (.int .i64 (V0p a b k p).2)]) ?_;have v1:decide (0<=(k:Int))=true:=(by simp);have v2:decide ((k:Int)<=10)=true:=(by simp;omega);refine G1d none Tryz.func296 rfl fun E=> ?_;refine J1p (Q0a ?_);simp-dsimp only[go_sem];refine J1p (Q0a ?_);simp-dsimp only[go_sem];refine(W1t k p st).mono ?_;rintro r st ⟨rfl,rfl⟩;rw[v1,v2];cases hp:Z0p p with
 | false=>
  simp-dsimp only[go_sem,Bool.and_self,Bool.and_false,Bool.true_and];have e:V0p a b k p=(default,1):=(by unfold V0p;rw[hp];simp);rw[e];exact⟨⟨[],by simp⟩,K1i _ default _,rfl⟩
 | true=>
  simp-dsimp only[go_sem,Bool.and_self];refine(y0x a k st hk la wa).mono ?_;rintro r st ⟨rfl,rfl⟩;rw[show(decide (k<a.length)&&(a.take (k+1)).all Q0p)=K0k a k from rfl];cases ha:K0k a k with
  | false=>
   simp-dsimp only[go_sem];have e:V0p a b k p=(default,1):=(by unfold V0p;rw[ha];simp);rw[e];exact⟨⟨[],by simp⟩,K1i _ default _,rfl⟩
  | true=>
   simp-dsimp only[go_sem];refine(y0x b k st hk lb wb).mono ?_;rintro r st ⟨rfl,rfl⟩;rw[show(decide (k<b.length)&&(b.take (k+1)).all Q0p)=K0k b k from rfl];cases hb:K0k b k with
   | false=>
    simp-dsimp only[go_sem];have e:V0p a b k p=(default,1):=(by unfold V0p;rw[hb];simp);rw[e];exact⟨⟨[],by simp⟩,K1i _ default _,rfl⟩
   | true=>
    simp-dsimp only[go_sem];have e:V0p a b k p=z0t p (z0s a b k) false default:=(by unfold V0p;rw[hp,ha,hb];simp);rw[e];refine J1p (Q0a ?_);simp-dsimp only[go_sem];refine J1p (Q0a ?_);simp-dsimp only[go_sem];refine H0d (q0s 1) (H0d (q0s 3) ?_);simp-dsimp only[go_sem];refine H0d (H0v 0 (by simp[go_sem]) (by simp)) ?_;simp-dsimp only[go_sem];refine H0d (H0v 1 (by simp[go_sem]) (by simp)) ?_;simp-dsimp only[go_sem];refine H0d (H0v 2 (by simp[go_sem]) (by simp)) ?_;simp-dsimp only[go_sem];refine H0d (H0v 3 (by simp[go_sem]) (by simp)) ?_;simp-dsimp only[go_sem];refine H0d (H0v 4 (by simp[go_sem]) (by simp)) ?_;simp-dsimp only[go_sem];refine w2t (J1p (Q0a ?_));simp-dsimp only[go_sem];refine(J2z a b k _).mono ?_;rintro r st' ⟨rfl,rfl⟩;simp-dsimp only[go_sem];refine G2m ?_;refine H0d (z0v (bs:= [false,false,false,false,false,false,false,true,true,true,true,true,false,false,false,false,false,false,false,false,false,false,false,false,false,false,false,false,false,false,false,false,false,false,false,false,true]) (nL:=0) (nT:=0) (by simp[go_sem])) ?_;simp-dsimp only[go_sem,List.append_assoc,List.cons_append,List.nil_append,Nat.add_assoc,Nat.reduceAdd];obtain⟨hka,_⟩:=Bool.and_eq_true_iff.1 ha;obtain⟨hkb,_⟩:=Bool.and_eq_true_iff.1 hb;have hka:=q_b hka;have hkb:=q_b hkb;refine G2l rfl rfl rfl (by simp only[go_sem]) (K2w a b k) (fun i hi=> ?_)
     (Q4c a b k p st)
     (Q4b a b k p st) ?_ ?_ ?_ ?_ ?_
    rw[J1x _ _ _ _ (by rw[x0g] at hi;exact hi)];rfl;exact⟨false,default,U0w,rfl,rfl⟩;intro l r w g hy;rw[x0g];refine G2t a b k (st.length+5) (st.length+6) (st.length+7) l r w g (Q4c a b k p st) (Q4b a b k p st) hk hka hkb la lb (fun i st' ⟨sm,s,_,_,e⟩=> ?_) (fun i hi st' hj=> ?_) _ ⟨false,default,U0w,rfl,rfl⟩;subst e;simp only[H0s];exact⟨rfl,rfl,rfl⟩;have:=hy i (by rw[x0g];exact hi) st' hj;rw[J1x _ _ _ _ hi] at this;exact this;rintro i st' hi ⟨sm,s,ws,hc,rfl⟩ E;have hi:i<k+1:=(by rw[x0g] at hi;exact hi);rw[J1x _ _ _ _ hi];refine Q0a ?_;simp-dsimp only[go_sem,List.zip_cons_cons,List.zip_nil_right,List.foldl_cons,List.foldl_nil];intro E;refine Q0a ?_;simp-dsimp only[go_sem,H0s,H0i];have m1:a.getD i default∈a:=Q0t _ _ _ (by omega);have m2:b.getD (k-i) default∈b:=Q0t _ _ _ (by omega);rw[K2v a b k i hi] at hc;rw[U0v] at hc;refine(w1m _ _ p _ (wa _ m1) (wb _ m2)).mono ?_;rintro r st2 ⟨rfl,rfl⟩;have wz:=W3h 2 (a.getD i default) (b.getD (k-i) default) p;simp only at hc;generalize opI 2 (a.getD i default) (b.getD (k-i) default) p=z at hc wz⊢;by_cases hz:z.2=0;have b0:(z.2==0)=true:=(by simp[hz]);have b1:(z.2 !=0)=false:=(by simp[hz]);rw[if_pos hz] at hc;cases sm with
    | false=>
     simp-dsimp only[go_sem,H0s,H0i,v0j,j0r,b0,b1];rw[if_neg (by simp)] at hc;exact⟨true,z.1,wz,hc,rfl⟩
    | true=>
     simp-dsimp only[go_sem,H0s,H0i,v0j,j0r,b0,b1];refine(G1q _ _ p _ ws wz).mono ?_;rintro r st2 ⟨rfl,rfl⟩;have wu:=W3h 0 s z.1 p;rw[if_pos rfl] at hc;generalize opI 0 s z.1 p=u at hc wu⊢;by_cases hu:u.2=0;have c1:(u.2 !=0)=false:=(by simp[hu]);simp-dsimp only[go_sem,H0s,H0i,v0j,j0r,c1];rw[if_pos hu] at hc;exact⟨true,u.1,wu,hc,rfl⟩;have c1:(u.2 !=0)=true:=(by simp[hu]);simp-dsimp only[go_sem,H0s,H0i,v0j,j0r,c1];rw[if_neg hu] at hc;exact⟨rfl,u.2,_,hc.symm,rfl⟩
    have b0:(z.2==0)=false:=(by simp[hz]);have b1:(z.2 !=0)=true:=(by simp[hz]);rw[if_neg hz] at hc;simp-dsimp only[go_sem,H0s,H0i,v0j,j0r,b0,b1];exact⟨rfl,z.2,_,hc.symm,rfl⟩;rintro st' ⟨sm,s,ws,hc,rfl⟩;show∀E',PWP _ E' _ _ _;intro E';refine Q0a ?_;simp-dsimp only[go_sem,H0s,H0i,v0j,j0r];have e0:(z0s a b k).drop (K2w a b k).length= []:=(by rw[x0g];simp[z0s]);rw[e0] at hc;rw[<-hc];exact⟨⟨_,rfl⟩,K1i _ s _,rfl⟩;rintro c st' ⟨rfl,e,X,hc,rfl⟩;simp-dsimp only[go_sem,v3k,eblk,W0y,W2l,H0s,H0i];rw[hc];exact⟨⟨_,rfl⟩,K1i _ default _,rfl⟩
def y2n (f:List (List Mn))(x a:List Ivl)(h:Nm)(p:Int):List Ivl×Int:=
 if K0m f=true/\rightB x=true/\rightB a=true/\x.length=f.length/\a.length=f.length/\Q0q h=true/\ ¬sgnN (ownN h)<=0/\Z0p p=true then
  if (Y0c f a p).2=0 then
   if (k0a ⟨default,h⟩ (Y0c f a p).1 p).2=0 then opB 0 x (k0a ⟨default,h⟩ (Y0c f a p).1 p).1 p else([],(k0a ⟨default,h⟩ (Y0c f a p).1 p).2)
  else([],(Y0c f a p).2)
 else([],1)
end Go.Pv
end
