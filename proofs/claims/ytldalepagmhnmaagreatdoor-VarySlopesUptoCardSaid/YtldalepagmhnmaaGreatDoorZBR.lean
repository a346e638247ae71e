/- Parts of the walk: N66, N67, N68, N69, N70, N71, N72, N73, N74, N75. -/
import Derived.Test.YtldalepagmhnmaaGreatDoorZBQ
import Derived.Test.YtldalepagmhnmaaGreatDoorZBE
set_option linter.unusedVariables false
set_option linter.unusedSimpArgs false
section
set_option maxRecDepth 100000
namespace Go.Pv
open Go.Proofs
theorem K2j (a b:List Ivl)(k:Int)(st:Q0e):PCalls Tryz.prog 318 [.sl .no (Q0t a),.sl .no (Q0t b),.sc (.int .i64 k)] st
 (fun r st'=>r= .fn (.func 323) [] [.gp (st.length+2) 0,.gp st.length 0,.gp (st.length+1) 0]/\st'=st++ [[.sl .no (Q0t a)],[.sl .no (Q0t b)],[.sc (.int .i64 k)]]):=by
 refine Q0b none Tryz.func318 rfl fun E=>Q0g (Q0a ?_);simp-dsimp only[go_sem];refine Q0g (j0e 0 (by simp[go_sem]) (by simp) (j0e 1 (by simp[go_sem]) (by simp[go_sem,PFS.give]) (j0e 2 (by simp[go_sem]) (by simp[go_sem,PFS.give]) (Q0a ?_))));simp-dsimp only[go_sem];refine Q0a ?_;simp-dsimp only[go_sem];simp
theorem H2d (a b:List Ivl)(k ka kb kk l:Nat)(r:Loop)(w:World)(g:Gh)(J:Nat->Q0e->Prop)(Jx:Code->Q0e->Prop)(hk:k<=10)(hka:k<a.length)(hkb:k<b.length)
 (la:a.length<=1000000) (lb:b.length<=1000000)
 (hJ: ∀i st,J i st->st.getD kk []= [.sc (.int .i64 k)]/\st.getD ka []= [.sl .no (Q0t a)]/\st.getD kb []= [.sl .no (Q0t b)])
 (hy: ∀i,i<k+1-> ∀st,J i st->PYields Tryz.prog l r w g [.agg (encI (a.getD i default)),.agg (encI (b.getD (k-i) default))] st (J (i+1)) Jx) (st:Q0e) (h0:J 0 st):
 z3a Tryz.prog 323 l r w g [.fn (.yield l) [] [],.gp kk 0,.gp ka 0,.gp kb 0] st (J (k+1)) Jx:=by
 refine w1a Tryz.func323 rfl rfl fun E hrd hw hg hl=> ?_;subst hw hg;obtain⟨q1,q2,q3⟩:=hJ 0 st h0;have wk:IntKind.i64.wrap ((k:Int)+1)=k+1:=Q0j _ (by omega) (by omega);refine y0v (W1y (Q0a ?_));simp-dsimp only[go_sem,q1,wk];refine z1h ?_;refine G1a [true,true,true,true,false,false,false,true,true] 0 0 (fun n s=> ∃i st,i<=k+1/\n=k+1-i/\J i st/\s=⟨[.fn (.yield l) [] [],.gp kk 0,.gp ka 0,.gp kb 0,.junk,.junk,.junk,.sc (.int .i64 ((k:Int)+1)),.sc (.int .i64 (i:Nat))]++List.replicate 16 .junk,[],[],st⟩) (k+1) ?_ ?_;simp-dsimp only[go_sem];exact⟨0,st,by omega,by omega,h0,rfl⟩;rintro n s ⟨i,st,hi,rfl,hj,rfl⟩;obtain⟨q1,q2,q3⟩:=hJ i st hj;refine y0v (W1y (Q0a ?_));simp-dsimp only[go_sem];refine y0v (W1y (Q0a ?_));simp-dsimp only[go_sem];refine ck (fun h=> ?_) (fun h=> ?_);have hik:i<k+1:=(by simp at h;omega);simp-dsimp only[go_sem];refine y0v (z1h ?_);refine y0v (W1y (Q0a ?_));simp-dsimp only[go_sem];refine y0v (G2x hl hrd Z0n 25 [0,1,2,3,4,5,6,7,8,9,10] 11 [12] (.step 0 [] (.step 1 [] (.step 2 [] (.step 3 [] (.step 4 [] (.step 5 [] (.step 6 [] (.step 7 [] (.step 8 [] (.step 9 [] (.step 10 [] (.done)))))))))))) (.step 11 [6] (.step 12 [] (.done))) (.step 12 [] (.done)) (by decide+kernel) (by simp) ?_);have e3:IntKind.i64.wrap ((k:Int)-(i:Nat))=((k-i:Nat):Int):=(by rw[Q0j _ (by omega) (by omega)];omega);have g1:=X0b a i (by omega);have g2:=X0b b (k-i) (by omega);simp-dsimp only[go_sem,q1,q2,q3,e3,g1,g2];have e4:IntKind.i64.wrap ((i:Int)+1)=((i+1:Nat):Int):=(by rw[Q0j _ (by omega) (by omega)];omega);refine⟨by omega,by omega,ylds (hy i hik st hj) (fun st' hj'=> ?_) (fun c st' hx=> ?_)⟩;simp-dsimp only[go_sem];refine W1y (Q0a ?_);simp-dsimp only[go_sem];refine W1y (Q0a ?_);simp-dsimp only[go_sem,e4];exact⟨k+1-(i+1),by omega,i+1,st',by omega,rfl,hj',rfl⟩;simp-dsimp only[go_sem];refine Q0a ?_;simp-dsimp only[go_sem];exact hx;simp-dsimp only[go_sem];have:i=k+1:=(by simp at h;omega);subst this;simp only[eblk,if_true,G3o];exact hj
theorem W1r (k p:Int)(st:Q0e):PCalls Tryz.prog 212 [.sc (.int .i64 k),.sc (.int .i64 p)] st
 (fun r st'=>r= .sc (.bool (decide (0<=k)&&decide (k<=10)&&Z0m p))/\st'=st):=by
 refine Q0b none Tryz.func212 rfl fun E=>Q0a ?_;by_cases h0:0<=k;by_cases h1:k<=10;simp-dsimp only[go_sem,ge_iff_le,h0,h1,decide_true];refine(U0f p st).mono ?_;rintro r st ⟨rfl,rfl⟩;simp-dsimp only[go_sem];simp[h0,h1];simp-dsimp only[go_sem,ge_iff_le,h0,h1,decide_true,decide_false];simp[h1];simp-dsimp only[go_sem,ge_iff_le,h0,decide_false];simp[h0]
theorem y0r (a:List Ivl)(k:Nat)(st:Q0e)(hk:k<=10)(la:a.length<=1000000)(wa: ∀x∈a,wI x):PCalls Tryz.prog 213 [.sl .no (Q0t a),.sc (.int .i64 k)] st
 (fun r st'=>r= .sc (.bool (decide (k<a.length)&&(a.take (k+1)).all Q0o))/\st'=st):=by
 refine Q0b none Tryz.func213 rfl fun E=>Q0a ?_;simp-dsimp only[go_sem];refine ck (fun h=> ?_) (fun h=> ?_);have: ¬k<a.length:=(by simp at h;omega);simp-dsimp only[go_sem];simp[this];have hka:k<a.length:=(by simp at h;omega);have wk:IntKind.i64.wrap ((k:Int)+1)=((k+1:Nat):Int):=(by rw[Q0j _ (by omega) (by omega)];omega);simp-dsimp only[go_sem,wk];have lt':(a.take (k+1)).length=k+1:=(by simp;omega);refine⟨by omega,?_⟩;refine Q0d [false,false,false,false,false,false,false,false,false,false,false,false,false,false,true,true,true] 0 0 (fun n s=> ∃i,n=k+1-i/\i<=k+1/\(∀j,j<i->Q0o (a.getD j default)=true)/\
  s=⟨[.junk,.junk,.junk,.junk,.junk,.junk,.junk,.junk,.junk,.junk,.junk,.junk,.junk,.junk,.sl .no (Q0t (a.take (k+1))),.sc (.int .i64 ((k+1:Nat):Int)),.sc (.int .i64 (i:Nat))]++List.replicate 7 .junk,[],[],st⟩) (k+1) ?_ ?_
 simp-dsimp only[go_sem,lt'];exact⟨0,by omega,by omega,fun j hj=>by omega,rfl⟩;rintro n s ⟨i,rfl,hi,hr,rfl⟩;have hall:(a.take (k+1)).all Q0o=true<-> ∀j,j<k+1->Q0o (a.getD j default)=true:=by rw[q_d];constructor;intro h j hj;have:=h ((a.take (k+1)).getD j default) (Q0s _ _ _ (by omega));rwa [V0a _ _ _ _ hj] at this;intro h x hx;obtain⟨j,hj,rfl⟩:=List.getElem_of_mem hx;have:=h j (by omega);rw[List.getElem_take];rwa [q_a,List.getElem?_eq_getElem (by omega)] at this
 simp-dsimp only[go_sem,lt'];refine ck (fun h'=> ?_) (fun h'=> ?_);have hlt:i<k+1:=(by have:=q_b h';omega);have e1:(Q0t (a.take (k+1))).getD i .junk= .agg (encI (a.getD i default)):=(by rw[X0b _ i (by omega),V0a _ _ _ _ hlt]);have e3:IntKind.i64.wrap ((i:Int)+1)=((i+1:Nat):Int):=(by rw[Q0j _ (by omega) (by omega)];omega);have hm:a.getD i default∈a:=(by rw[q_a,List.getElem?_eq_getElem (by omega)];simp);simp-dsimp only[go_sem,e1,lt'];refine⟨by omega,?_⟩;refine(U0y (a.getD i default) st (wa _ hm)).mono ?_;rintro r st ⟨rfl,rfl⟩;simp-dsimp only[go_sem];refine ck (fun h2=> ?_) (fun h2=> ?_);have hf:Q0o (a.getD i default)=false:=(by simpa using h2);simp-dsimp only[go_sem];have:(a.take (k+1)).all Q0o=false:=by
  cases hb:(a.take (k+1)).all Q0o with
  | false=>rfl
  | true=>have:=hall.1 hb i hlt;rw[hf] at this;cases this
 simp[this];have ht:Q0o (a.getD i default)=true:=(by simpa using h2);simp-dsimp only[go_sem,e3];exact⟨k+1-(i+1),by omega,i+1,rfl,by omega,fun j hj=>(by by_cases e:j=i;rw[e];exact ht;exact hr j (by omega)),rfl⟩;have:i=k+1:=(by have:=q_c h';omega);subst this;simp-dsimp only[go_sem];refine Q0a ?_;simp-dsimp only[go_sem];simp[hka,hall.2 hr]
def z0l (p:Int):List (Ivl×Ivl)->Bool->Ivl->Ivl×Int
 | [],_,s=>(s,0)
 | x::l,sm,s=>
  if (opI 2 x.1 x.2 p).2=0 then
   if sm=true then
    if (opI 0 s (opI 2 x.1 x.2 p).1 p).2=0 then z0l p l true (opI 0 s (opI 2 x.1 x.2 p).1 p).1 else(default,(opI 0 s (opI 2 x.1 x.2 p).1 p).2)
   else z0l p l true (opI 2 x.1 x.2 p).1
  else(default,(opI 2 x.1 x.2 p).2)
theorem U0k (p:Int)(x:Ivl×Ivl)(l:List (Ivl×Ivl))(sm:Bool)(s:Ivl):z0l p (x::l) sm s=
 if (opI 2 x.1 x.2 p).2=0 then
  if sm=true then
   if (opI 0 s (opI 2 x.1 x.2 p).1 p).2=0 then z0l p l true (opI 0 s (opI 2 x.1 x.2 p).1 p).1 else(default,(opI 0 s (opI 2 x.1 x.2 p).1 p).2)
  else z0l p l true (opI 2 x.1 x.2 p).1
 else(default,(opI 2 x.1 x.2 p).2):=rfl
def z0k (a b:List Ivl)(k:Nat):List (Ivl×Ivl):=(List.range (k+1)).map fun i=>(a.getD i default,b.getD (k-i) default)
def K0h (a:List Ivl)(k:Nat):Bool:=decide (k<a.length)&&(a.take (k+1)).all Q0o
def V0i (a b:List Ivl)(k:Nat)(p:Int):Ivl×Int:=if Z0m p=true/\K0h a k=true/\K0h b k=true then z0l p (z0k a b k) false default else(default,1)
theorem V2f (a b:List Ivl)(k i:Nat)(h:i<k+1):(z0k a b k).drop i=(a.getD i default,b.getD (k-i) default)::(z0k a b k).drop (i+1):=by rw[List.drop_eq_getElem_cons (by simpa[z0k] using h)];simp[z0k]
def V2g (a b:List Ivl)(k:Nat):List (List PV):=(List.range (k+1)).map fun i=> [.agg (encI (a.getD i default)),.agg (encI (b.getD (k-i) default))]
theorem x0b (a b:List Ivl)(k:Nat):(V2g a b k).length=k+1:=by simp[V2g]
theorem J1v (a b:List Ivl)(k i:Nat)(h:i<k+1):(V2g a b k).getD i []= [.agg (encI (a.getD i default)),.agg (encI (b.getD (k-i) default))]:=by simp[V2g,q_a,h]
theorem H0q (st X:Q0e)(i:Nat):(st++X).getD (st.length+i) []=X.getD i []:=by rw[q_a,List.getElem?_append_right (by omega),Nat.add_sub_cancel_left,<-q_a]
theorem H0i (st X:Q0e):(st++X).getD st.length []=X.getD 0 []:=H0q st X 0
theorem v0c (st X:Q0e)(i:Nat)(v:List PV):(st++X).set (st.length+i) v=st++X.set i v:=by simp[List.set_append]
theorem j0o (st X:Q0e)(v:List PV):(st++X).set st.length v=st++X.set 0 v:=v0c st X 0 v
theorem U0l :wI (default:Ivl):=by refine⟨?_,?_⟩<;>(show wN ⟨false,0,[]⟩;simp[wN])
theorem Q3q (n:Nat)(l:List UInt64):Low n (.sl .no (encW l)):=V3h fun e he c hc=>by obtain⟨x,_,rfl⟩:=List.mem_map.1 he;simp only[PV.cells,List.mem_singleton] at hc;subst hc;exact w0j _ _
theorem Q3r (n:Nat)(x:Ivl):Low n (.agg (encI x)):=q2p fun c hc=>by simp only[encI,encN,List.cons_append,List.nil_append,List.mem_cons,List.not_mem_nil,or_false] at hc;rcases hc with rfl | rfl | rfl | rfl | rfl | rfl<;>first | exact w0j _ _ | exact Q3q _ _
theorem K1f (n:Nat)(x:Ivl)(e:Value):LowR n (.tup [.agg (encI x),.sc e]):=G3i fun c hc=>by simp only[List.mem_cons,List.not_mem_nil,or_false] at hc;rcases hc with rfl | rfl;exact Q3r n x;exact w0j _ _
def Q4n (a b:List Ivl)(k:Nat)(p:Int)(st:Q0e)(i:Nat)(st':Q0e):Prop:= ∃sm s,wI s/\z0l p ((z0k a b k).drop i) sm s=z0l p (z0k a b k) false default/\st'=st++ [[.sc (.int .i64 p)],encI default,[.sc (.int .i64 0)],encI s,[.sc (.bool sm)],[.sl .no (Q0t a)],[.sl .no (Q0t b)],[.sc (.int .i64 k)]]
def Q4m (a b:List Ivl)(k:Nat)(p:Int)(st:Q0e)(c:Code)(st':Q0e):Prop:=c= .ret/\ ∃e X,z0l p (z0k a b k) false default=(default,e)/\st'=st++([.sc (.int .i64 p)]::encI default:: [.sc (.int .i64 e)]::X)
theorem Q4l (a b:List Ivl)(k:Nat)(p:Int)(st:Q0e)(hk:k<=10)(la:a.length<=1000000)(lb:b.length<=1000000)(wa: ∀x∈a,wI x)(wb: ∀x∈b,wI x):
 PCalls Tryz.prog 296 [.sl .no (Q0t a),.sl .no (Q0t b),.sc (.int .i64 k),.sc (.int .i64 p)] st
 (fun r st'=>r= .tup [.agg (encI (V0i a b k p).1),.sc (.int .i64 (V0i a b k p).2)]/\st'=st):=by
 refine w1c (Q:=fun r _=>r= .tup [.agg (encI (V0i a b k p).1),.sc (.int .i64 (V0i a b k p).2)]) ?_;have v1:decide (0<=(k:Int))=true:=(by simp);have v2:decide ((k:Int)<=10)=true:=(by simp;omega);refine G1e none Tryz.func296 rfl fun E=> ?_;refine J1o (Q0a ?_);simp-dsimp only[go_sem];refine J1o (Q0a ?_);simp-dsimp only[go_sem];refine(W1r k p st).mono ?_;rintro r st ⟨rfl,rfl⟩;rw[v1,v2];cases hp:Z0m p with
 | false=>
  simp-dsimp only[go_sem,Bool.and_self,Bool.and_false,Bool.true_and];have e:V0i a b k p=(default,1):=(by unfold V0i;rw[hp];simp);rw[e];exact⟨⟨[],by simp⟩,K1f _ default _,rfl⟩
 | true=>
  simp-dsimp only[go_sem,Bool.and_self];refine(y0r a k st hk la wa).mono ?_;rintro r st ⟨rfl,rfl⟩;rw[show(decide (k<a.length)&&(a.take (k+1)).all Q0o)=K0h a k from rfl];cases ha:K0h a k with
  | false=>
   simp-dsimp only[go_sem];have e:V0i a b k p=(default,1):=(by unfold V0i;rw[ha];simp);rw[e];exact⟨⟨[],by simp⟩,K1f _ default _,rfl⟩
  | true=>
   simp-dsimp only[go_sem];refine(y0r b k st hk lb wb).mono ?_;rintro r st ⟨rfl,rfl⟩;rw[show(decide (k<b.length)&&(b.take (k+1)).all Q0o)=K0h b k from rfl];cases hb:K0h b k with
   | false=>
    simp-dsimp only[go_sem];have e:V0i a b k p=(default,1):=(by unfold V0i;rw[hb];simp);rw[e];exact⟨⟨[],by simp⟩,K1f _ default _,rfl⟩
   | true=>
    simp-dsimp only[go_sem];have e:V0i a b k p=z0l p (z0k a b k) false default:=(by unfold V0i;rw[hp,ha,hb];simp);rw[e];refine J1o (Q0a ?_);simp-dsimp only[go_sem];refine J1o (Q0a ?_);simp-dsimp only[go_sem];refine H0b (q0n 1) (H0b (q0n 3) ?_);simp-dsimp only[go_sem];refine H0b (H0s 0 (by simp[go_sem]) (by simp)) ?_;simp-dsimp only[go_sem];refine H0b (H0s 1 (by simp[go_sem]) (by simp)) ?_;simp-dsimp only[go_sem];refine H0b (H0s 2 (by simp[go_sem]) (by simp)) ?_;simp-dsimp only[go_sem];refine H0b (H0s 3 (by simp[go_sem]) (by simp)) ?_;simp-dsimp only[go_sem];refine H0b (H0s 4 (by simp[go_sem]) (by simp)) ?_;simp-dsimp only[go_sem];refine w2w (J1o (Q0a ?_));simp-dsimp only[go_sem];refine(K2j a b k _).mono ?_;rintro r st' ⟨rfl,rfl⟩;simp-dsimp only[go_sem];refine G2w ?_;refine H0b (z0o (bs:= [false,false,false,false,false,false,false,true,true,true,true,true,false,false,false,false,false,false,false,false,false,false,false,false,false,false,false,false,false,false,false,false,false,false,false,false,true]) (nL:=0) (nT:=0) (by simp[go_sem])) ?_;simp-dsimp only[go_sem,List.append_assoc,List.cons_append,List.nil_append,Nat.add_assoc,Nat.reduceAdd];obtain⟨hka,_⟩:=Bool.and_eq_true_iff.1 ha;obtain⟨hkb,_⟩:=Bool.and_eq_true_iff.1 hb;have hka:=q_b hka;have hkb:=q_b hkb;refine G2v rfl rfl rfl (by simp only[go_sem]) (V2g a b k) (fun i hi=> ?_)
     (Q4n a b k p st)
     (Q4m a b k p st) ?_ ?_ ?_ ?_ ?_
    rw[J1v _ _ _ _ (by rw[x0b] at hi;exact hi)];rfl;exact⟨false,default,U0l,rfl,rfl⟩;intro l r w g hy;rw[x0b];refine H2d a b k (st.length+5) (st.length+6) (st.length+7) l r w g (Q4n a b k p st) (Q4m a b k p st) hk hka hkb la lb (fun i st' ⟨sm,s,_,_,e⟩=> ?_) (fun i hi st' hj=> ?_) _ ⟨false,default,U0l,rfl,rfl⟩;subst e;simp only[H0q];exact⟨rfl,rfl,rfl⟩;have:=hy i (by rw[x0b];exact hi) st' hj;rw[J1v _ _ _ _ hi] at this;exact this;rintro i st' hi ⟨sm,s,ws,hc,rfl⟩ E;have hi:i<k+1:=(by rw[x0b] at hi;exact hi);rw[J1v _ _ _ _ hi];refine Q0a ?_;simp-dsimp only[go_sem,List.zip_cons_cons,List.zip_nil_right,List.foldl_cons,List.foldl_nil];intro E;refine Q0a ?_;simp-dsimp only[go_sem,H0q,H0i];have m1:a.getD i default∈a:=Q0s _ _ _ (by omega);have m2:b.getD (k-i) default∈b:=Q0s _ _ _ (by omega);rw[V2f a b k i hi] at hc;rw[U0k] at hc;refine(G1r _ _ p _ (wa _ m1) (wb _ m2)).mono ?_;rintro r st2 ⟨rfl,rfl⟩;have wz:=W3u 2 (a.getD i default) (b.getD (k-i) default) p;simp only at hc;generalize opI 2 (a.getD i default) (b.getD (k-i) default) p=z at hc wz⊢;by_cases hz:z.2=0;have b0:(z.2==0)=true:=(by simp[hz]);have b1:(z.2 !=0)=false:=(by simp[hz]);rw[if_pos hz] at hc;cases sm with
    | false=>
     simp-dsimp only[go_sem,H0q,H0i,v0c,j0o,b0,b1];rw[if_neg (by simp)] at hc;exact⟨true,z.1,wz,hc,rfl⟩
    | true=>
     simp-dsimp only[go_sem,H0q,H0i,v0c,j0o,b0,b1];refine(K1l _ _ p _ ws wz).mono ?_;rintro r st2 ⟨rfl,rfl⟩;have wu:=W3u 0 s z.1 p;rw[if_pos rfl] at hc;generalize opI 0 s z.1 p=u at hc wu⊢;by_cases hu:u.2=0;have c1:(u.2 !=0)=false:=(by simp[hu]);simp-dsimp only[go_sem,H0q,H0i,v0c,j0o,c1];rw[if_pos hu] at hc;exact⟨true,u.1,wu,hc,rfl⟩;have c1:(u.2 !=0)=true:=(by simp[hu]);simp-dsimp only[go_sem,H0q,H0i,v0c,j0o,c1];rw[if_neg hu] at hc;exact⟨rfl,u.2,_,hc.symm,rfl⟩
    have b0:(z.2==0)=false:=(by simp[hz]);have b1:(z.2 !=0)=true:=(by simp[hz]);rw[if_neg hz] at hc;simp-dsimp only[go_sem,H0q,H0i,v0c,j0o,b0,b1];exact⟨rfl,z.2,_,hc.symm,rfl⟩;rintro st' ⟨sm,s,ws,hc,rfl⟩;show∀E',PWP _ E' _ _ _;intro E';refine Q0a ?_;simp-dsimp only[go_sem,H0q,H0i,v0c,j0o];have e0:(z0k a b k).drop (V2g a b k).length= []:=(by rw[x0b];simp[z0k]);rw[e0] at hc;rw[<-hc];exact⟨⟨_,rfl⟩,K1f _ s _,rfl⟩;rintro c st' ⟨rfl,e,X,hc,rfl⟩;simp-dsimp only[go_sem,v3u,eblk,W0r,W2x,H0q,H0i];rw[hc];exact⟨⟨_,rfl⟩,K1f _ default _,rfl⟩
def y2s (f:List (List Mn))(x a:List Ivl)(h:Nm)(p:Int):List Ivl×Int:=
 if W0c f=true/\rightB x=true/\rightB a=true/\x.length=f.length/\a.length=f.length/\Q0n h=true/\ ¬sgnN (ownN h)<=0/\Z0m p=true then
  if (W0w f a p).2=0 then
   if (j0y ⟨default,h⟩ (W0w f a p).1 p).2=0 then opB 0 x (j0y ⟨default,h⟩ (W0w f a p).1 p).1 p else([],(j0y ⟨default,h⟩ (W0w f a p).1 p).2)
  else([],(W0w f a p).2)
 else([],1)
end Go.Pv
end
