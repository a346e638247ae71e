/- Parts of the walk: N34, N35, N36, N37, N38, N39, N40, N41, N42, N43. -/
import Derived.Test.YtldalepagmhnmaaGreatDoorZAQ
import Derived.Test.YtldalepagmhnmaaGreatDoorZAM
set_option linter.unusedVariables false
set_option linter.unusedSimpArgs false
section
set_option maxRecDepth 100000
namespace Go.Pv
open Go.Proofs
theorem Z3f (n:Nat)(st:Q0f)(hn:n<9223372036854775808):PR 124 [.sc (.int .i64 n)] st (.agg (encN (mkX false [UInt64.ofNat n] 0).1)):=by
 have g1:decide ((n:Int)<0)=false:=q_g oG;have g2:IntKind.u64.wrap (n:Int)=n:=U0q n oG;have g3: [PV.sc (.int .u64 n)]=encW [UInt64.ofNat n]:=by simp only[encW,List.map_cons,List.map_nil];rw[UInt64.toNat_ofNat_of_lt' (show n<UInt64.size by unfold UInt64.size;omega)]
 refine Q0b none Tryz.func124 rfl fun E=>Q0a ?_;simp-dsimp only[go_sem,g1,g2];rw[g3];refine(y0u false _ 0 _ (by simp) oG oG).Q0
theorem Z3a :(mkX false [1] 0).1=oneN:=by decide+kernel
theorem z0b (st:Q0f):PR 124 [.sc (.int .i64 1)] st (.agg (encN oneN)):=by have:=Z3f 1 st oG;rw[show UInt64.ofNat 1=1 from rfl,Z3a] at this;exact this
theorem Z2a (x:Nm)(st:Q0f):PR 322 [.agg (encN x)] st (.agg (encN (magN x))):=by
 refine Q0b none Tryz.func322 rfl fun E=>Q0a ?_;simp-dsimp only[go_sem]
 try rfl
theorem W3k {x:Nm}(h:sm x):sm (magN x):=h
theorem x2p (a:Ivl)(st:Q0f)(ha:wI a):PR 317 [.agg (encI a)] st (.agg (encN (magI a))):=by
 refine Q0b none Tryz.func317 rfl fun E=>Q0a ?_;unfold magI;refine Y4w ?_;refine(H0f a _ ha).q ?_;cases h:Q0w a with
 | false=>simp-dsimp only[go_sem];rfl
 | true=>
  obtain⟨r1,r2,_⟩:=Q0x h;rw[if_pos rfl];refine Y4w ?_;refine Q0k Z0b 15 (X2p [0,1,3,4] (.step 2 [4] (X2p [5,6,7,8] .done))) (by decide+kernel) (by simp) ?_;refine Y4w ?_;refine(Z2a a.lo _).Q ?_;refine(Z2a a.hi _).Q ?_;refine(X1c _ _ _ (W3k (Z0n r1)) (W3k (Z0n r2))).Q ?_;refine(z1j _ _ (Q1g (P:=wN) (x0q (Z0n (k0p r1))) (x0q (Z0n (k0p r2))))).Q0
theorem V2i {x:Nm}(h:Q0h x=true):absN x=magN x:=if_pos h
theorem X2z (a:Ivl)(st:Q0f)(ha:wI a):PR 305 [.agg (encI a)] st (.agg (encN (magI a))):=by
 refine Q0b none Tryz.func305 rfl fun E=>Q0a ?_;unfold magI;refine Y4w ?_;refine(J0p a _ ha).q ?_;cases h:Q0w a with
 | false=>simp-dsimp only[go_sem];rfl
 | true=>
  obtain⟨r1,r2,_⟩:=Q0x h;rw[if_pos rfl,<-V2i r1,<-V2i r2];refine Y4w ?_;refine Q0k Z0b 14 (X2p [0,1,3,4] (.step 2 [4] (X2p [5,6,7] .done))) (by decide+kernel) (by simp) ?_;refine Y4w ?_;refine(U2m a.lo _ ha.1).Q ?_;refine(U2m a.hi _ ha.2).Q ?_;refine(U3r _ _ _ (J0a _) (J0a _)).Q0
theorem X3h (i j:Nat)(st:Q0f):PR 123 ([.sc (.int .i64 i),.sc (.int .i64 j)]++ []) st (.tup [.agg (encI (if i=j then⟨oneN,oneN⟩ else default)),.sc (.int .i64 0)]):=by refine Q0b none Tryz.func123 rfl fun E=>Q0a ?_;by_cases h:i=j;have f1:((i:Int)==(j:Int))=true:=(by rw[h];simp);rw[if_pos h];simp-dsimp only[go_sem,f1];refine(z0b _).Q ?_;refine(G1i oneN _ (by unfold wN;decide)).Q0;have f1:((i:Int)==(j:Int))=false:=(by rw[beq_eq_false_iff_ne];omega);rw[if_neg h];simp-dsimp only[go_sem,f1];rfl
theorem J3e {n:Nat}(h1:1<=n)(h4:n<=4):U0h (fun i j=>((if i=j then⟨oneN,oneN⟩ else default:Ivl),0)) n=(idM (n:Int),0):=by have:n=1\/n=2\/n=3\/n=4:=oG;rcases this with rfl | rfl | rfl | rfl<;>decide+kernel
theorem z2y (n:Int)(st:Q0f):PR 54 [.sc (.int .i64 n)] st (.sl .no (encM (idM n))):=by refine Q0b none Tryz.func54 rfl fun E=>Q0a ?_;by_cases h1:n<1;have f1:decide (n<1)=true:=q_h h1;simp-dsimp only[go_sem,f1];rw[idM,if_neg oG];rfl;have f1:decide (n<1)=false:=q_g h1;by_cases h4:n>4;have f2:decide (n>4)=true:=q_h h4;simp-dsimp only[go_sem,f1,f2];rw[idM,if_neg oG];rfl;have f2:decide (n>4)=false:=q_g h4;obtain⟨k,rfl⟩:=Int.eq_ofNat_of_zero_le (show 0<=n by omega);simp-dsimp only[go_sem,f1,f2];refine(w0a _ [] (fun i j=>((if i=j then⟨oneN,oneN⟩ else default:Ivl),0)) k st rfl oG rfl rfl rfl rfl (fun _=>rfl) fun i j hi hj=>X3h i j st).q ?_;rw[J3e oG oG];exact Y4v
set_option maxHeartbeats 16000000 in
theorem k1m (m:Mx)(p:Int)(st:Q0f)(hm:wM m):PR 289 [.sl .no (encM m),.sc (.int .i64 p)] st (.tup [.agg (encN (X0n m p).1),.sc (.int .i64 (X0n m p).2)]):=by
 refine W4y Tryz.func289 fun E=> ?_;refine(z0c m m p _ hm hm).q ?_;cases hv:w0p m m p with
 | false=>
  refine Y4w ?_;rw[X0n,if_neg (fun hh=>by rw[validM_iff.2 ⟨hh.1,hh.1,rfl,hh.2⟩] at hv;cases hv)];rfl
 | true=>
  obtain⟨v1,v2,v3,v4⟩:=validM_iff.1 hv;have hl:=Z0u v1;have hM:X0n m p=W0b m p m.length:=if_pos ⟨v1,v4⟩;rw[hM];refine Y4w ?_;refine J0q 1 ?_;refine Y4w ?_;refine Q0e ([false,true,false,false,true,false,true]++rF 13++ [true,true,true]) 2 0
   (fun k s=> ∃i,k=m.length-i/\i<=m.length/\(W0b m p i).2=0/\
    s=⟨[.junk,.sc (.int .i64 p),.junk,.junk,.lp 0 0,.junk,.lp 1 0]++jk 13++ [.sl .no (encM m),.sc (.int .i64 m.length),.sc (.int .i64 (i:Nat))]++jk 35,
     [[.sc (.bool false),.sc (.int .i64 0),.sl .full []],encN (W0b m p i).1],[],st⟩) m.length ?_ ?_
  refine Y4w ?_;exact⟨0,oG,oG,rfl,rfl⟩
  . rintro k s ⟨i,rfl,hi,hz,rfl⟩;refine W4z (fun h'=> ?_) (fun h'=> ?_)
    . have hlt:i<m.length:=by have:=q_b h';omega
      have e1:=K0f m i hlt;have e3:=Z0x i oG;obtain⟨q1,q2⟩:=Z0y v1 hlt;have hrl:=Y0b q2;have e2:=Z0q (m.getD i []) 0 oG;simp-dsimp only[go_sem,e1,e2];refine⟨oG,oG,?_⟩;refine(x2p _ _ ((hm.2 i hlt).2 0 oG)).Q ?_;have t1:(m.getD i []).take (m.getD i []).length=m.getD i []:=List.take_length;have t2:((m.getD i []).drop 1).length=m.length-1:=(by rw[List.length_drop,q1]);have hs0:sumF (atM m i) p 0=(magI ((m.getD i []).getD 0 default),0):=rfl;generalize hR:(m.getD i []).drop 1=R at*
      have hget: ∀j,j<R.length->R.getD j default=atM m i (j+1):=fun j hj=>by rw[<-hR];unfold atM;simp only[q_a,List.getElem?_drop];rw[Nat.add_comm 1 j]
      simp-dsimp only[go_sem,t1,hR];refine⟨oG,?_⟩;refine Q0e ([false,true,false,false,true,false,true,false,false,true]++rF 10++ [true,true,true]++rF 8++ [true,true,true]) 3 0
       (fun k s=> ∃j,k=R.length-j/\j<=R.length/\(sumF (atM m i) p j).2=0/\
        s=⟨[.junk,.sc (.int .i64 p),.junk,.junk,.lp 0 0,.junk,.lp 1 0,.junk,.junk,.lp 2 0]++jk 10++ [.sl .no (encM m),.sc (.int .i64 m.length),.sc (.int .i64 (i:Nat)),.junk,.junk,.junk,.junk,.junk,.junk,.junk,.junk,.sl .no (Q0z R),.sc (.int .i64 R.length),.sc (.int .i64 (j:Nat))]++jk 24,
         [[.sc (.bool false),.sc (.int .i64 0),.sl .full []],encN (W0b m p i).1,encN (sumF (atM m i) p j).1],[],st⟩) R.length ?_ ?_
      refine Y4w ?_;exact⟨0,oG,oG,by rw[hs0],by rw[hs0];rfl⟩
      . rintro k s ⟨j,rfl,hj,hsz,rfl⟩;refine W4z (fun h2=> ?_) (fun h2=> ?_)
        . have hlt2:j<R.length:=oT h2
          have f1:=Z0q R j hlt2;have f3:=Z0x j oG;have f4:=K1m hsz;have f5:=hget j hlt2;have wx:wI (atM m i (j+1)):=(hm.2 i hlt).2 (j+1) oG;simp-dsimp only[go_sem,f1];refine⟨oG,?_⟩;refine Q0k Z0b 58 (X2p [0,1,3] (.alt (.step 2 [0] (.alt (X2p [4,5,6,7] (.step 8 [0,1] (.step 9 [] (.step 10 [] (.done))))) (.step 8 [0,1] (X2p [4,5,6,7,9,10] .done)))) (.step 8 [0,1] (.step 2 [0] (X2p [4,5,6,7,9,10] .done))))) (by decide+kernel) (by simp) ?_;refine Y4w ?_;have wm:=x0q (Z0n (X1a (atM m i (j+1))));have ws:=x0q (Z0n (G0l (atM m i) p j));rw[<-f5] at wx;refine And.intro ?_ ?_
          all_goals
           refine(x2p _ _ wx).q ?_;rw[f5];simp-dsimp only[go_sem]
          refine And.intro ?_ ?_
          all_goals
           refine(H1v _ _ p true _ ws wm).q ?_;refine W4z (fun h3=> ?_) (fun h3=> ?_);have hne:=W0k h3;refine Y4w ?_;rw[k1f (j:=j+1) hne hlt oG hz (by rw[f4])];rfl;have he:=W0y h3;simp-dsimp only[go_sem,f3];exact⟨R.length-(j+1),oG,j+1,rfl,oG,by rw[f4];exact he,by rw[f4]⟩
        have hge:j=R.length:=oF h2
        subst hge;have hnx:=Z1t hz (by rw[<-t2];exact hsz);rw[<-t2] at hnx;have w1:=x0q (Z0n (G0l (atM m i) p R.length));have w2:=x0q (Z0n (H0a m p i));refine Y4w ?_;refine W4u ?_;refine(J1y _ _ _ (by unfold wN at w1;omega) (by unfold wN at w2;omega)).Q ?_;refine ck (fun h3=> ?_) (fun h3=> ?_);have hc:=q_b h3;rw[if_pos hc] at hnx;refine Y4w ?_;refine Q0a ?_;simp-dsimp only[go_sem,e3];exact⟨m.length-(i+1),oG,i+1,rfl,oG,by rw[hnx],by rw[hnx]⟩;have hc:=q_c h3;rw[if_neg hc] at hnx;refine Y4w ?_;refine Q0a ?_;simp-dsimp only[go_sem,e3];exact⟨m.length-(i+1),oG,i+1,rfl,oG,by rw[hnx],by rw[hnx]⟩
    have hge:i=m.length:=by have:=q_c h';omega
    subst hge;refine Y4w ?_;refine W4u ?_;rw[hz]
theorem Y0a (m:Mx)(st:Q0f)(hm:wM m):PR 144 [.sl .no (encM m)] st (.sc (.bool (rightM m))):=by
 have hl:=hm.1;refine W4y Tryz.func144 fun E=> ?_;refine Q0e [true,false,false,true] 0 0 (fun n s=> ∃i,n=m.length-i/\i<=m.length/\(∀j,j<i->(m.getD j []).length=m.length/\rightB (m.getD j [])=true)/\s=⟨[.sl .no (encM m),.junk,.junk,.sc (.int .i64 (i:Nat))]++jk 34,[],[],st⟩) m.length ?_ ?_;refine Y4w ?_;exact⟨0,oG,oG,fun j hj=>oG,rfl⟩;rintro n s ⟨i,rfl,hi,hr,rfl⟩;have fin:i=m.length\/ ¬(i:Int)<4->decide ((m.length:Int)>0)=true->decide ((m.length:Int)<=4)=rightM m:=fun h h1=>by have h1:=q_b h1;rw[Bool.eq_iff_iff,rightM_iff,decide_eq_true_iff];exact⟨fun h4=>⟨fun j hj=>hr j oG,oG,oG⟩,fun hh=>oG⟩
 have fin0:decide ((m.length:Int)>0)=false->rightM m=false:=fun h=>Bool.eq_false_iff.2 fun e=>by have:=q_c h;have:=(rightM_iff.1 e).2.1;omega
 refine Y4w ?_;refine gkT (fun h=> ?_) (fun h=> ?_);have hlt:i<m.length:=(oT h);simp-dsimp only[go_sem,h];refine ck (fun h4=> ?_) (fun h4=> ?_);have e1:=K0f m i hlt;have e3:=Z0x i oG;simp-dsimp only[go_sem,e1];refine⟨oG,?_⟩;refine gkF (fun h2=> ?_) (fun h2=> ?_);have hn:=H0b h2;simp-dsimp only[go_sem,h2,e1];refine⟨oG,?_⟩;refine(V0z _ _ (hm.2 i hlt)).q ?_;simp-dsimp only[go_sem,h2];refine ck (fun h3=> ?_) (fun h3=> ?_);have hf:rightB (m.getD i [])=false:=(by simpa using h3);refine Y4w ?_;have:rightM m=false:=Bool.eq_false_iff.2 fun e=>by have:=((rightM_iff.1 e).1 i hlt).2;rw[hf] at this;cases this
 rw[this];have ht:rightB (m.getD i [])=true:=(by simpa using h3);simp-dsimp only[go_sem,e3];refine⟨m.length-(i+1),oG,i+1,rfl,oG,fun j hj=> ?_,rfl⟩;by_cases e:j=i;subst e;exact⟨hn,ht⟩;exact hr j oG;have hn:=x0m h2;simp-dsimp only[go_sem,h2];have:rightM m=false:=Bool.eq_false_iff.2 fun e=>hn ((rightM_iff.1 e).1 i hlt).1;rw[this];have h4':=q_c h4;refine Y4w ?_;refine W4u ?_;refine gkT (fun h=> ?_) (fun h=> ?_);simp-dsimp only[go_sem,h];rw[fin (.inr h4') h];simp-dsimp only[go_sem,h];rw[fin0 h];have hge:i=m.length:=(oF h);simp-dsimp only[go_sem,h];refine W4u ?_;refine gkT (fun h=> ?_) (fun h=> ?_);simp-dsimp only[go_sem,h];rw[fin (.inl hge) h];simp-dsimp only[go_sem,h];rw[fin0 h]
theorem U0b (q:List (List Nm))(st:Q0f)(hq:wQ q):PR 137 [.sl .no (encQ q)] st (.sl (.fresh 1) (encM (ofM q))):=by
 obtain⟨hl,hw⟩:=hq;refine W4y Tryz.func137 fun E=> ?_;refine Z0d 3 1 ?_;refine Y4w ?_;refine Q0e [true,false,false,true,true] 0 1
  (fun n s=> ∃i,n=q.length-i/\i<=q.length/\s=⟨[.sl .no (encQ q),.junk,.junk,.sl (.own 0) (encM (ofM (q.take i))),.sc (.int .i64 (i:Nat))]++jk 15,[],[((ofM (q.take i)).length,1)],st⟩) q.length ?_ ?_
 refine Y4w ?_;exact⟨0,oG,oG,rfl⟩;rintro n s ⟨i,rfl,hi,rfl⟩;refine W4z (fun h'=> ?_) (fun h'=> ?_);have hlt:i<q.length:=(by have:=q_b h';omega);have e1:=J0d q i hlt;have e3:=Z0x i oG;have ll:(ofM (q.take i)).length=i:=(by simp[ofM];omega);simp-dsimp only[go_sem,e1];refine⟨oG,?_⟩;refine(J1t _ _ (hw i hlt)).plain.q ?_;simp-dsimp only[go_sem,e3];refine⟨⟨oG,oG⟩,q.length-(i+1),oG,i+1,rfl,oG,?_⟩;rw[J2q q i hlt];simp;have hge:i=q.length:=(by have:=q_c h';omega);refine Y4w ?_;refine W4u ?_;rw[hge,List.take_length]
theorem H3h {k:Nat}{a b:List Ivl}{p:Int}(h1:rightB a=true)(h2:rightB b=true)(h3:a.length=b.length)(h4:Z0c p=true):opB k a b p=tabF (fun j=>opI k (a.getD j default) (b.getD j default) p) 0 a.length []:=by rw[opB,if_pos ⟨h1,h2,h3,h4⟩,W0c]
theorem Q3y (k:Nat){a b:Mx}{p:Int}(r1:rightM a=true)(r2:rightM b=true)(hn:a.length=b.length)(r3:Z0c p=true):opM k a b p=tabF (fun i=>opB k (a.getD i []) (b.getD i []) p) 0 a.length []:=by rw[opM,if_pos ⟨r1,r2,hn,r3⟩];refine U1j _ _ _ fun i _ hi=> ?_;obtain⟨a1,a2⟩:=Z0y r1 (show i<a.length by omega);obtain⟨b1,b2⟩:=Z0y r2 (show i<b.length by omega);rw[H3h a2 b2 oG r3,a1];rfl
theorem Q3x (a b:Mx)(p:Int)(st:Q0f)(ha:wM a)(hb:wM b):PR 146 [.sc (.int .i64 1),.sl .no (encM a),.sl .no (encM b),.sc (.int .i64 p)] st (.tup [.sl .no (encM (opM 1 a b p).1),.sc (.int .i64 (opM 1 a b p).2)]):=by
 have hal:=ha.1;refine W4y Tryz.func146 fun E=> ?_;refine(Y0a a _ ha).q ?_;cases r1:rightM a with
 | false=>
  refine Y4w ?_;rw[opM,if_neg (by simp[r1])];rfl
 | true=>
  refine Y4w ?_;refine(Y0a b _ hb).q ?_;cases r2:rightM b with
  | false=>
   refine Y4w ?_;rw[opM,if_neg (by simp[r2])];rfl
  | true=>
   by_cases hn:a.length=b.length;have f1:((a.length:Int) !=(b.length:Int))=false:=(by rw[hn];simp);simp-dsimp only[go_sem,f1];refine(U0n p _).q ?_;cases r3:Z0c p with
   | false=>
    refine Y4w ?_;rw[opM,if_neg (by simp[r3])];rfl
   | true=>
    rw[Q3y 1 r1 r2 hn r3];refine Y4w ?_;refine Z0d 10 1 ?_;refine Y4w ?_;refine Q0e [true,true,true,true,false,false,false,false,false,false,true,true] 0 1
     (fun k s=> ∃(i:Nat) (o:Mx),k=a.length-i/\i<=a.length/\o.length=i/\tabF (fun i=>opB 1 (a.getD i []) (b.getD i []) p) 0 a.length []=tabF (fun i=>opB 1 (a.getD i []) (b.getD i []) p) i (a.length-i) o/\
      s=⟨[.sc (.int .i64 1),.sl .no (encM a),.sl .no (encM b),.sc (.int .i64 p),.junk,.junk,.junk,.junk,.junk,.junk,.sl (.own 0) (encM o),.sc (.int .i64 (i:Nat))]++jk 50,[],[(o.length,1)],st⟩) a.length ?_ ?_
    refine Y4w ?_;exact⟨0,[],oG,oG,rfl,rfl,rfl⟩;rintro k s ⟨i,o,rfl,hi,ho,hr,rfl⟩;refine W4z (fun h'=> ?_) (fun h'=> ?_);have hlt:i<a.length:=(by have:=q_b h';omega);have e3:=Z0x i oG;have e4:=J0t (fun i=>opB 1 (a.getD i []) (b.getD i []) p) hlt o;have e1:=K0f a i hlt;have e2:=K0f b i oG;simp-dsimp only[go_sem,e1];refine Q0k Z0b 62 (X2p [0,1,2,3,4,5,6,7,8,9,10,11,12,13,14,15] .done) (by decide+kernel) (by simp) ?_;simp-dsimp only[go_sem,e1,e2];refine⟨oG,oG,?_⟩;refine(q1j (a.getD i []) (b.getD i []) p _ (ha.2 i hlt) (hb.2 i oG)).Q ?_;refine ck (fun h2=> ?_) (fun h2=> ?_);have hne:=W0k h2;refine Y4w ?_;rw[hr,e4,if_pos hne];rfl;have he:=W0y h2;simp-dsimp only[go_sem,e3];refine⟨⟨oG,oG⟩,a.length-(i+1),oG,i+1,o++ [(opB 1 (a.getD i []) (b.getD i []) p).1],rfl,oG,by simp[ho],?_,?_⟩;rw[hr,e4,if_neg (fun hh=>hh he)];simp;have hge:i=a.length:=(by have:=q_c h';omega);refine Y4w ?_;refine W4u ?_;rw[hr,hge,K0s]
   have f1:((a.length:Int) !=(b.length:Int))=true:=by rw[bne_iff_ne];omega
   simp-dsimp only[go_sem,f1];rw[opM,if_neg (fun hh=>hn hh.2.2.1)];rfl
theorem Z3z (a:Mx)(p:Int)(st:Q0f)(ha:wM a):PR 238 [.sl .no (encM a),.sc (.int .i64 p)] st (.tup [.sl .no (encQ (midM a p).1),.sc (.int .i64 (midM a p).2)]):=by
 have hal:=ha.1;refine W4y Tryz.func238 fun E=> ?_;refine(Y0a a _ ha).q ?_;cases r1:rightM a with
 | false=>
  refine Y4w ?_;rw[midM,if_neg (by simp[r1])];rfl
 | true=>
  refine Y4w ?_;refine(U0n p _).q ?_;cases r3:Z0c p with
  | false=>
   refine Y4w ?_;rw[midM,if_neg (by simp[r3])];rfl
  | true=>
   rw[midM,if_pos ⟨r1,r3⟩];refine Y4w ?_;refine Z0d 6 1 ?_;refine Y4w ?_;refine Q0e [true,true,false,false,false,false,true,true] 0 1
    (fun k s=> ∃(i:Nat) (o:List (List Nm)),k=a.length-i/\i<=a.length/\o.length=i/\tabF (fun i=>midB (a.getD i []) p) 0 a.length []=tabF (fun i=>midB (a.getD i []) p) i (a.length-i) o/\
     s=⟨[.sl .no (encM a),.sc (.int .i64 p),.junk,.junk,.junk,.junk,.sl (.own 0) (encQ o),.sc (.int .i64 (i:Nat))]++jk 33,[],[(o.length,1)],st⟩) a.length ?_ ?_
   refine Y4w ?_;exact⟨0,[],oG,oG,rfl,rfl,rfl⟩;rintro k s ⟨i,o,rfl,hi,ho,hr,rfl⟩;refine W4z (fun h'=> ?_) (fun h'=> ?_);have hlt:i<a.length:=(by have:=q_b h';omega);have e3:=Z0x i oG;have e4:=J0t (fun i=>midB (a.getD i []) p) hlt o;have e1:=K0f a i hlt;simp-dsimp only[go_sem,e1];refine⟨oG,?_⟩;refine(q1q (a.getD i []) p _ (ha.2 i hlt)).Q ?_;refine ck (fun h2=> ?_) (fun h2=> ?_);have hne:=W0k h2;refine Y4w ?_;rw[hr,e4,if_pos hne];rfl;have he:=W0y h2;simp-dsimp only[go_sem,e3];refine⟨⟨oG,oG⟩,a.length-(i+1),oG,i+1,o++ [(midB (a.getD i []) p).1],rfl,oG,by simp[ho],?_,?_⟩;rw[hr,e4,if_neg (fun hh=>hh he)];simp;have hge:i=a.length:=(by have:=q_c h';omega);refine Y4w ?_;refine W4u ?_;rw[hr,hge,K0s]
set_option maxHeartbeats 16000000 in
theorem V4b (a b:List Ivl)(p:Int)(st:Q0f)(ha:wB a)(hb:wB b)(hl:a.length=b.length):PCalls Tryz.prog 235 [.sl .no (Q0z a),.sl .no (Q0z b),.sc (.int .i64 p)] st
 (fun r st'=>r= .tup [.agg (encI (dotF (fun k=>a.getD k default) (fun k=>b.getD k default) p a.length).1),.sc (.int .i64 (dotF (fun k=>a.getD k default) (fun k=>b.getD k default) p a.length).2)]/\st'=st):=by
 have hal:=ha.1;generalize hx:(fun k=>a.getD k default)=x;generalize hy:(fun k=>b.getD k default)=y;have gx: ∀k,x k=a.getD k default:=fun k=>(by rw[<-hx]);have gy: ∀k,y k=b.getD k default:=fun k=>(by rw[<-hy]);refine W4y Tryz.func235 fun E=> ?_;refine J0q 1 ?_;refine Y4w ?_;refine Q0e [true,true,true,false,false,false,true,false,true,true] 2 0
  (fun m s=> ∃k,m=a.length-k/\k<=a.length/\(dotF x y p k).2=0/\s=⟨[.sl .no (Q0z a),.sl .no (Q0z b),.sc (.int .i64 p),.junk,.junk,.junk,.lp 0 0,.junk,.lp 1 0,.sc (.int .i64 (k:Nat))]++jk 40,
   [[.sc (.bool false),.sc (.int .i64 0),.sl .full [],.sc (.bool false),.sc (.int .i64 0),.sl .full []],encI (dotF x y p k).1],[],st⟩) a.length ?_ ?_
 refine Y4w ?_;exact⟨0,oG,oG,rfl,rfl⟩
 . rintro m s ⟨k,rfl,hk,hz,rfl⟩;refine W4z (fun h'=> ?_) (fun h'=> ?_)
   . have hlt:k<a.length:=by have:=q_b h';omega
     have e1:=Z0q a k hlt;have e2:=Z0q b k oG;have e3:=Z0x k oG;have hdk:wI (dotF x y p k).1:=H0o (Y0i _ _ _ _);have hmw:wI (opI 2 (x k) (y k) p).1:=H0o (G0y _ _ _ _);have hstep:dotF x y p (k+1)=if (opI 2 (x k) (y k) p).2≠0 then(default,(opI 2 (x k) (y k) p).2) else
      if k=0 then opI 2 (x k) (y k) p else
      if (opI 0 (dotF x y p k).1 (opI 2 (x k) (y k) p).1 p).2≠0 then(default,(opI 0 (dotF x y p k).1 (opI 2 (x k) (y k) p).1 p).2) else
      opI 0 (dotF x y p k).1 (opI 2 (x k) (y k) p).1 p:=by
      rw[dotF,if_neg (by rw[hz];decide)]
     have hend: ∀e,e≠0->dotF x y p (k+1)=(default,e)->dotF x y p a.length=(default,e):=fun e he h0=>by
      have key: ∀d,dotF x y p (k+1+d)=(default,e):=by
       intro d
       induction d with
       | zero=>exact h0
       | succ d ih=>rw[show k+1+(d+1)=(k+1+d)+1 from oG,dotF,ih,if_pos he]
      have:=key (a.length-(k+1));rwa [show k+1+(a.length-(k+1))=a.length from oG] at this
     have wx:wI (x k):=by rw[gx];exact ha.2 k hlt
     have wy:wI (y k):=by rw[gy];exact hb.2 k oG
     rw[<-gx] at e1;rw[<-gy] at e2;refine Y4w ?_;refine Q0k Z0b 50 (X2p [0,1,2,3,4,5,6,7,8] (.alt (X2p [9,10,11,12] (.step 13 [3,7] (.step 14 [] (.step 15 [] (.done))))) (.step 13 [3,7] (X2p [9,10,11,12,14,15] .done)))) (by decide+kernel) (by simp) ?_;simp-dsimp only[go_sem,e1,e2];refine⟨oG,oG,?_⟩;refine And.intro ?_ ?_
     all_goals
      refine(Q3a _ _ p _ wx wy).q ?_;refine Y4w ?_;by_cases hm:(opI 2 (x k) (y k) p).2=0;rw[if_neg (fun hh=>hh hm)] at hstep;have z1:((opI 2 (x k) (y k) p).2==0)=true:=(by simpa using hm);have z3:((opI 2 (x k) (y k) p).2 !=0)=false:=(by simpa using hm);have z2:((0:Int) !=0)=false:=rfl;by_cases h0:k=0;rw[if_pos h0] at hstep;have g1:decide ((k:Int)>0)=false:=q_g oG;simp-dsimp only[go_sem,z1,z3,g1,e3];refine⟨a.length-(k+1),oG,k+1,rfl,oG,by rw[hstep];exact hm,?_⟩;rw[hstep];rw[if_neg h0] at hstep;have g1:decide ((k:Int)>0)=true:=q_h oG;simp-dsimp only[go_sem,z1,g1];refine(X2y _ _ p _ hdk hmw).q ?_;by_cases hs:(opI 0 (dotF x y p k).1 (opI 2 (x k) (y k) p).1 p).2=0;rw[if_neg (fun hh=>hh hs)] at hstep;have z4:((opI 0 (dotF x y p k).1 (opI 2 (x k) (y k) p).1 p).2 !=0)=false:=(by simpa using hs);simp-dsimp only[go_sem,z4,e3];refine⟨a.length-(k+1),oG,k+1,rfl,oG,by rw[hstep];exact hs,?_⟩;rw[hstep];rw[if_pos hs] at hstep;have hq:=hend _ hs hstep;have g2:((opI 0 (dotF x y p k).1 (opI 2 (x k) (y k) p).1 p).2 !=0)=true:=(by simpa using hs);rw[hq];simp-dsimp only[go_sem,g2];rfl;rw[if_pos hm] at hstep;have hq:=hend _ hm hstep;have g1:((opI 2 (x k) (y k) p).2==0)=false:=(by simpa using hm);have g2:((opI 2 (x k) (y k) p).2 !=0)=true:=(by simpa using hm);rw[hq];simp-dsimp only[go_sem,g1,g2];rfl
   have hge:k=a.length:=by have:=q_c h';omega
   subst hge;refine Y4w ?_;refine W4u ?_;rw[hz]
theorem k2d (a:Mx)(i:Nat)(b:List Ivl)(p:Int)(st:Q0f)(ha:wB (a.getD i []))(hb:wB b)(hl:(a.getD i []).length=b.length):PCalls Tryz.prog 235 [.sl .no (Q0z (a.getD i [])),.sl .no (Q0z b),.sc (.int .i64 p)] st
 (fun r st'=>r= .tup [.agg (encI (dotF (atM a i) (fun k=>b.getD k default) p b.length).1),.sc (.int .i64 (dotF (atM a i) (fun k=>b.getD k default) p b.length).2)]/\st'=st):=by
 have:=V4b (a.getD i []) b p st ha hb hl;rw[hl] at this;exact this
def colM (m:Mx)(j:Nat):List Ivl:=(List.range m.length).map fun i=>atM m i j
theorem U0j (m:Mx)(j:Nat):(colM m j).length=m.length:=by simp[colM]
theorem K2y (m:Mx)(j i:Nat)(h:i<m.length):(colM m j).getD i default=atM m i j:=by simp[colM,q_a,h]
theorem G0t {α:Type}(f:Nat->α)(n i:Nat)(h:i<n):((List.range n).map f).take (i+1)=((List.range n).map f).take i++ [f i]:=by rw[<-List.map_take,<-List.map_take,List.take_range,List.take_range,Nat.min_eq_left oG,Nat.min_eq_left oG,List.range_succ,List.map_append];rfl
theorem K3w (m:Mx)(j:Nat)(st:Q0f)(hm:m.length<=100000000000)(hj: ∀i,i<m.length->j<(m.getD i []).length):PR 237 [.sl .no (encM m),.sc (.int .i64 j)] st (.sl (.fresh 6) (Q0z (colM m j))):=by
 refine W4y Tryz.func237 fun E=> ?_;refine Z0d 5 6 ?_;refine Y4w ?_;refine Q0e [true,true,false,false,false,true,true] 0 1
  (fun n s=> ∃i,n=m.length-i/\i<=m.length/\s=⟨[.sl .no (encM m),.sc (.int .i64 (j:Nat)),.junk,.junk,.junk,.sl (.own 0) (Q0z ((colM m j).take i)),.sc (.int .i64 (i:Nat))]++jk 17,[],[(((colM m j).take i).length,6)],st⟩) m.length ?_ ?_
 refine Y4w ?_;exact⟨0,oG,oG,rfl⟩;rintro n s ⟨i,rfl,hi,rfl⟩;refine W4z (fun h'=> ?_) (fun h'=> ?_);have hlt:i<m.length:=(by have:=q_b h';omega);have e1:=K0f m i hlt;have e2:=Z0q (m.getD i []) j (hj i hlt);have e3:=Z0x i oG;have hji:=hj i hlt;have ll:((colM m j).take i).length=i:=(by rw[List.length_take,U0j];omega);have e5:(colM m j).take (i+1)=(colM m j).take i++ [atM m i j]:=G0t _ _ _ hlt;simp-dsimp only[go_sem,e1,e2,e3];refine⟨oG,oG,⟨oG,oG⟩,m.length-(i+1),oG,i+1,rfl,oG,?_⟩;rw[e5];simp[Q0z,encI,atM];have hge:i=m.length:=(by have:=q_c h';omega);have ht:(colM m j).take i=colM m j:=List.take_of_length_le (by rw[U0j];omega);rw[ht];refine Y4w ?_;refine Q0a ?_;exact Y4v
theorem G2d (a:Mx)(b:List Ivl)(p:Int)(st:Q0f)(ha:wM a)(hb:wB b):PR 168 [.sl .no (encM a),.sl .no (Q0z b),.sc (.int .i64 p)] st (.tup [.sl .no (Q0z (vecM a b p).1),.sc (.int .i64 (vecM a b p).2)]):=by
 have hal:=ha.1;refine W4y Tryz.func168 fun E=> ?_;refine(Y0a a _ ha).q ?_;cases r1:rightM a with
 | false=>
  refine Y4w ?_;rw[vecM,if_neg (by simp[r1])];rfl
 | true=>
  refine Y4w ?_;refine(V0z b _ hb).q ?_;cases r2:rightB b with
  | false=>
   refine Y4w ?_;rw[vecM,if_neg (by simp[r2])];rfl
  | true=>
   by_cases hn:a.length=b.length;have f1:((a.length:Int) !=(b.length:Int))=false:=(by rw[hn];simp);simp-dsimp only[go_sem,f1];refine(U0n p _).q ?_;cases r3:Z0c p with
   | false=>
    refine Y4w ?_;rw[vecM,if_neg (by simp[r3])];rfl
   | true=>
    rw[vecM,if_pos ⟨r1,r2,hn,r3⟩];refine Y4w ?_;refine Z0d 8 6 ?_;refine Y4w ?_;refine Q0e [true,true,true,false,false,false,false,false,true,true] 0 1
     (fun k s=> ∃(i:Nat) (o:List Ivl),k=a.length-i/\i<=a.length/\o.length=i/\tabF (fun i=>dotF (atM a i) (fun k=>b.getD k default) p b.length) 0 a.length []=tabF (fun i=>dotF (atM a i) (fun k=>b.getD k default) p b.length) i (a.length-i) o/\
      s=⟨[.sl .no (encM a),.sl .no (Q0z b),.sc (.int .i64 p),.junk,.junk,.junk,.junk,.junk,.sl (.own 0) (Q0z o),.sc (.int .i64 (i:Nat))]++jk 46,[],[(o.length,6)],st⟩) a.length ?_ ?_
    refine Y4w ?_;exact⟨0,[],oG,oG,rfl,rfl,rfl⟩;rintro k s ⟨i,o,rfl,hi,ho,hr,rfl⟩;refine W4z (fun h'=> ?_) (fun h'=> ?_);have hlt:i<a.length:=(by have:=q_b h';omega);have e3:=Z0x i oG;have e4:=J0t (fun i=>dotF (atM a i) (fun k=>b.getD k default) p b.length) hlt o;have e1:=K0f a i hlt;obtain⟨q1,q2⟩:=Z0y r1 hlt;have q3:(a.getD i []).length=b.length:=oG;simp-dsimp only[go_sem,e1];refine⟨oG,?_⟩;refine(k2d a i b p _ (ha.2 i hlt) hb q3).Q ?_;refine ck (fun h2=> ?_) (fun h2=> ?_);have hne:=W0k h2;refine Y4w ?_;rw[hr,e4,if_pos hne];rfl;have he:=W0y h2;simp-dsimp only[go_sem,e3];refine⟨⟨oG,oG⟩,a.length-(i+1),oG,i+1,o++ [(dotF (atM a i) (fun k=>b.getD k default) p b.length).1],rfl,oG,by simp[ho],?_,?_⟩;rw[hr,e4,if_neg (fun hh=>hh he)];simp[Q0z,encI];have hge:i=a.length:=(by have:=q_c h';omega);refine Y4w ?_;refine W4u ?_;rw[hr,hge,K0s]
   have f1:((a.length:Int) !=(b.length:Int))=true:=by rw[bne_iff_ne];omega
   simp-dsimp only[go_sem,f1];rw[vecM,if_neg (fun hh=>hn hh.2.2.1)];rfl
theorem J1u (f:PV->PV)(l:List PV)(o:Nat)(r:List PV):(over l o r).map f=over (l.map f) o (r.map f):=by simp[over,List.map_take,List.map_drop]
theorem y0n (f:PV->PV)(n:Nat)(z:List PV):(repC n z).map f=repC n (z.map f):=by unfold repC;rw[List.map_flatten,List.map_replicate]
theorem q1z {l r:List PV}{o:Nat}(h1:fzOK l=true)(h2:fzOK r=true):fzOK (over l o r)=true:=by
 unfold fzOK at*
 rw[q_d] at*
 intro p hp;simp only[over,List.mem_append] at hp;rcases hp with (hp | hp) | hp;exact h1 p (List.mem_of_mem_take hp);exact h2 p hp;exact h1 p (List.mem_of_mem_drop hp)
theorem q1y {n:Nat}{z:List PV}(h:fzOK z=true):fzOK (repC n z)=true:=by
 unfold fzOK at*
 rw[q_d] at*
 intro p hp;simp only[repC,List.mem_flatten,List.mem_replicate] at hp;obtain⟨l,⟨_,rfl⟩,hp⟩:=hp;exact h p hp
theorem X2x (n:Nat):repC n (encN default)=flat (Q0u (List.replicate n default)):=by simp[repC,flat,Q0u,PV.cells]
def rowQ (n i:Nat):List Nm:=(List.replicate n default).set i oneN
def oneL (k:Nat):List (List Nm):=(List.range k).map (rowQ k)
theorem X0y (k:Nat):(oneL k).length=k:=by simp[oneL]
def oneQ (n:Int):List (List Nm):=if 1<=n/\n<=4 then oneL n.toNat else []
theorem q1k (n:Int):ofM (oneQ n)=idM n:=by unfold oneQ idM;split;rename_i h;have:n=1\/n=2\/n=3\/n=4:=oG;rcases this with rfl | rfl | rfl | rfl<;>decide+kernel;rfl
theorem Y0z (n i:Nat):(rowQ n i).length=n:=by simp[rowQ]
set_option maxHeartbeats 4000000 in
theorem H3i (n:Int)(st:Q0f):PR 138 [.sc (.int .i64 n)] st (.sl .no (encQ (oneQ n))):=by
 refine Q0b none Tryz.func138 rfl fun E=>Q0a ?_;by_cases h1:n<1;have f1:decide (n<1)=true:=q_h h1;simp-dsimp only[go_sem,f1];rw[oneQ,if_neg oG];rfl;have f1:decide (n<1)=false:=q_g h1;by_cases h4:n>4;have f2:decide (n>4)=true:=q_h h4;simp-dsimp only[go_sem,f1,f2];rw[oneQ,if_neg oG];rfl;have f2:decide (n>4)=false:=q_g h4;obtain⟨k,rfl⟩:=Int.eq_ofNat_of_zero_le (show 0<=n by omega);have hq:oneQ (k:Int)=oneL k:=(by rw[oneQ,if_pos oG];rfl);rw[hq];simp-dsimp only[go_sem,f1,f2];refine Z0d 3 1 ?_;refine Y4w ?_;refine Z0e [true,false,false,true,true] 0 1
  (fun m s=> ∃i,m=k-i/\i<=k/\s=⟨[.sc (.int .i64 k),.junk,.junk,.sl (.own 0) (encQ ((oneL k).take i)),.sc (.int .i64 (i:Nat))]++jk 24,[],[(((oneL k).take i).length,1)],st⟩) k ?_ ?_
 refine Y4w ?_;exact⟨0,oG,oG,rfl⟩;rintro m s ⟨i,rfl,hi,rfl⟩;refine W4t ?_;refine ck (fun h'=> ?_) (fun h'=> ?_);have hlt:i<k:=(by have:=q_b h';omega);have e3:=Z0x i oG;have ll:((oneL k).take i).length=i:=(by rw[List.length_take,X0y];omega);have e5:(oneL k).take (i+1)=(oneL k).take i++ [rowQ k i]:=G0t _ _ _ hlt;have e6:flat (Q0u (rowQ k i))=over (flat (Q0u (List.replicate k default))) (i*3) (encN oneN):=(W1s _ i oneN (by simpa using hlt)).symm;refine Y4w ?_;refine Q0d (X0b (Q0d (Q0a ?_)));refine Y4w ?_;refine⟨⟨oG,oG⟩,?_⟩;refine Q0d (Q0a ?_);simp-dsimp only[go_sem,G0w];refine⟨⟨oG,hlt⟩,⟨oG,oG⟩,?_⟩;have r0:repC k [.sc (.bool false),.sc (.int .i64 0),.sl .no []]=flat (Q0u (List.replicate k default)):=X2x k;have r1:over (flat (Q0u (List.replicate k default))) (i*3) [.sc (.bool false),.sc (.int .i64 0),.sl .no [.sc (.int .u64 1)]]=flat (Q0u (rowQ k i)):=e6.symm;have r2:=z1n (rowQ k i) k (Y0z k i).symm;have r3:=Y0z k i;refine v0u 0 3 ?_ ?_;refine Y4w ?_;exact q1z (q1y rfl) rfl;simp-dsimp only[go_sem,J1u,y0n,r0,r1,r2,r3];refine W4u ?_;refine⟨⟨oG,oG⟩,Q0a ?_⟩;simp-dsimp only[go_sem,e3];refine⟨k-(i+1),oG,i+1,rfl,oG,?_⟩;rw[e5];simp;have hge:i=k:=(by have:=q_c h';omega);have ht:(oneL k).take i=oneL k:=List.take_of_length_le (by rw[X0y];omega);rw[ht];refine Y4w ?_;refine K0w [false,false,false,true] (Q0a ?_);exact Y4v
theorem z3t {m:Mx}{j:Nat}(hm:wM m)(r:rightM m=true)(hj:j<m.length):wB (colM m j):=by refine⟨by rw[U0j];exact hm.1,fun i hi=> ?_⟩;rw[U0j] at hi;rw[K2y _ _ _ hi];exact(hm.2 i hi).2 j (by rw[(Z0y r hi).1];exact hj)
theorem K3n (a b:Mx)(i j:Nat)(p:Int)(st:Q0f)(ha:wM a)(hb:wM b)(r1:rightM a=true)(r2:rightM b=true)(hn:a.length=b.length)(hi:i<a.length)(hj:j<a.length):
 PCalls Tryz.prog 235 [.sl .no (Q0z (a.getD i [])),.sl .no (Q0z (colM b j)),.sc (.int .i64 p)] st
 (fun r st'=>r= .tup [.agg (encI (dotF (atM a i) (fun k=>atM b k j) p a.length).1),.sc (.int .i64 (dotF (atM a i) (fun k=>atM b k j) p a.length).2)]/\st'=st):=by
 have:=k2d a i (colM b j) p st (ha.2 i hi) (z3t hb r2 oG) (by rw[(Z0y r1 hi).1,U0j];exact hn);rw[U0j,<-hn,G1z (x':=atM a i) (y':=fun k=>atM b k j) a.length (fun k hk=>⟨rfl,K2y _ _ _ oG⟩)] at this;exact this
set_option maxHeartbeats 16000000 in
theorem q1o (a b:Mx)(p:Int)(st:Q0f)(ha:wM a)(hb:wM b):PR 172 [.sl .no (encM a),.sl .no (encM b),.sc (.int .i64 p)] st (.tup [.sl .no (encM (mulM a b p).1),.sc (.int .i64 (mulM a b p).2)]):=by
 have hal:=ha.1;refine W4y Tryz.func172 fun E=> ?_;refine(Y0a a _ ha).q ?_;cases r1:rightM a with
 | false=>
  refine Y4w ?_;rw[mulM,if_neg (by simp[r1])];rfl
 | true=>
  refine Y4w ?_;refine(Y0a b _ hb).q ?_;cases r2:rightM b with
  | false=>
   refine Y4w ?_;rw[mulM,if_neg (by simp[r2])];rfl
  | true=>
   by_cases hn:a.length=b.length
   . have f1:((a.length:Int) !=(b.length:Int))=false:=by rw[hn];simp
     simp-dsimp only[go_sem,f1];refine(U0n p _).q ?_;cases r3:Z0c p with
     | false=>
      refine Y4w ?_;rw[mulM,if_neg (by simp[r3])];rfl
     | true=>
      rw[mulM,if_pos ⟨r1,r2,hn,r3⟩];have hl:=Z0u r1;generalize hG:(fun i j=>dotF (atM a i) (fun k=>atM b k j) p a.length)=G;have hg: ∀i j,G i j=dotF (atM a i) (fun k=>atM b k j) p a.length:=fun i j=>(by rw[<-hG]);refine Y4w ?_;refine Z0d 8 1 ?_;refine Y4w ?_;refine Q0e [true,true,true,false,false,false,false,false,true,true] 0 1
       (fun k s=> ∃(i:Nat) (o:Mx),k=a.length-i/\i<=a.length/\o.length=i/\U0h G a.length=tabF (fun i=>tabF (fun j=>G i j) 0 a.length []) i (a.length-i) o/\
        s=⟨[.sl .no (encM a),.sl .no (encM b),.sc (.int .i64 p),.junk,.junk,.junk,.junk,.junk,.sl (.own 0) (encM o),.sc (.int .i64 (i:Nat))]++jk 60,[],[(o.length,1)],st⟩) a.length ?_ ?_
      refine Y4w ?_;exact⟨0,[],oG,oG,rfl,rfl,rfl⟩
      . rintro k s ⟨i,o,rfl,hi,ho,hr,rfl⟩;refine W4z (fun h'=> ?_) (fun h'=> ?_)
        . have hlt:i<a.length:=by have:=q_b h';omega
          have e1:=K0f a i hlt;have e3:=Z0x i oG;have e4:=J0t (fun i=>tabF (fun j=>G i j) 0 a.length []) hlt o;refine Y4w ?_;refine Z0d 10 6 ?_;refine Y4w ?_;refine Q0e [true,true,true,false,false,false,false,false,true,true,true,true] 0 2
           (fun k s=> ∃(j:Nat) (r:List Ivl),k=a.length-j/\j<=a.length/\r.length=j/\tabF (fun j=>G i j) 0 a.length []=tabF (fun j=>G i j) j (a.length-j) r/\
            s=⟨[.sl .no (encM a),.sl .no (encM b),.sc (.int .i64 p),.junk,.junk,.junk,.junk,.junk,.sl (.own 0) (encM o),.sc (.int .i64 (i:Nat)),.sl (.own 1) (Q0z r),.sc (.int .i64 (j:Nat))]++jk 58,[],[(o.length,1),(r.length,6)],st⟩) a.length ?_ ?_
          refine Y4w ?_;exact⟨0,[],oG,oG,rfl,rfl,rfl⟩
          . rintro k s ⟨j,r,rfl,hj,hrl,hrr,rfl⟩;refine W4z (fun h''=> ?_) (fun h''=> ?_)
            . have hlt2:j<a.length:=by have:=q_b h'';omega
              have f3:=Z0x j oG;have f4:=J0t (fun j=>G i j) hlt2 r;have hcol:=(K3w b j st hb.1 (fun m hm=>by rw[(Z0y r2 hm).1];omega)).plain;have hdot:=K3n a b i j p st ha hb r1 r2 hn hlt hlt2;rw[<-hg] at hdot;refine Y4w ?_;refine Q0k Z0b 70 (X2p [0,1,2,3,4,5,7] (.alt (.step 6 [3] (.alt (X2p [8,9,10,11] (.step 12 [3] (.step 13 [] (.step 14 [] (.done))))) (.step 12 [3] (X2p [8,9,10,11,13,14] .done)))) (.step 12 [3] (.step 6 [3] (X2p [8,9,10,11,13,14] .done))))) (by decide+kernel) (by simp) ?_;simp-dsimp only[go_sem,e1];refine⟨oG,?_⟩;refine And.intro ?_ ?_
              all_goals
               refine hcol.q ?_;simp-dsimp only[go_sem]
              refine And.intro ?_ ?_
              all_goals
               refine hdot.q ?_;refine W4z (fun h5=> ?_) (fun h5=> ?_);have hne:=W0k h5;refine Y4w ?_;have q1:tabF (fun j=>G i j) 0 a.length []=([],(G i j).2):=(by rw[hrr,f4,if_pos hne]);rw[hr,e4,if_pos (by rw[q1];exact hne),q1];rfl;have he:=W0y h5;simp-dsimp only[go_sem,f3];refine⟨⟨oG,oG⟩,a.length-(j+1),oG,j+1,r++ [(G i j).1],rfl,oG,by simp[hrl],?_,?_⟩;rw[hrr,f4,if_neg (fun hh=>hh he)];simp[Q0z,encI]
            have hge:j=a.length:=by have:=q_c h'';omega
            have q1:tabF (fun j=>G i j) 0 a.length []=(r,0):=by rw[hrr,hge];exact K0s _ _ r
            refine Y4w ?_;refine W4u ?_;refine⟨⟨oG,oG⟩,Q0a ?_⟩;simp-dsimp only[go_sem,e3];refine⟨a.length-(i+1),oG,i+1,o++ [r],rfl,oG,by simp[ho],?_,?_⟩;rw[hr,e4,q1,if_neg (by simp)];simp
        have hge:i=a.length:=by have:=q_c h';omega
        refine Y4w ?_;refine W4u ?_;rw[hr,hge,K0s]
   have f1:((a.length:Int) !=(b.length:Int))=true:=by rw[bne_iff_ne];omega
   simp-dsimp only[go_sem,f1];rw[mulM,if_neg (fun hh=>hn hh.2.2.1)];rfl
set_option maxHeartbeats 16000000 in
theorem j1o (m:Mx)(p:Int)(st:Q0f)(hm:wM m):PR 278 [.sl .no (encM m),.sc (.int .i64 p)] st (.tup [.agg (encN (X0n m p).1),.sc (.int .i64 (X0n m p).2)]):=by
 have hal:=hm.1;refine W4y Tryz.func278 fun E=> ?_;refine(Y0a m _ hm).q ?_;cases v1:rightM m with
 | false=>
  refine Y4w ?_;rw[X0n,if_neg (by simp[v1])];rfl
 | true=>
  refine Y4w ?_;refine(U0n p _).q ?_;cases v4:Z0c p with
  | false=>
   refine Y4w ?_;rw[X0n,if_neg (by simp[v4])];rfl
  | true=>
   have hl:=Z0u v1;have hM:X0n m p=W0b m p m.length:=if_pos ⟨v1,v4⟩;rw[hM];refine Y4w ?_;refine J0q 1 ?_;refine Y4w ?_;refine Q0e [true,true,false,false,true,false,true,true] 2 0
    (fun k s=> ∃i,k=m.length-i/\i<=m.length/\(W0b m p i).2=0/\
     s=⟨[.sl .no (encM m),.sc (.int .i64 p),.junk,.junk,.lp 0 0,.junk,.lp 1 0,.sc (.int .i64 (i:Nat))]++jk 58,
      [[.sc (.bool false),.sc (.int .i64 0),.sl .full []],encN (W0b m p i).1],[],st⟩) m.length ?_ ?_
   refine Y4w ?_;exact⟨0,oG,oG,rfl,rfl⟩
   . rintro k s ⟨i,rfl,hi,hz,rfl⟩;refine W4z (fun h'=> ?_) (fun h'=> ?_)
     . have hlt:i<m.length:=by have:=q_b h';omega
       have e1:=K0f m i hlt;have e3:=Z0x i oG;obtain⟨q1,q2⟩:=Z0y v1 hlt;have hrl:=Y0b q2;have e2:=Z0q (m.getD i []) 0 oG;simp-dsimp only[go_sem,e1,e2];refine⟨oG,oG,?_⟩;refine(X2z _ _ ((hm.2 i hlt).2 0 oG)).q ?_;have hs0:sumF (atM m i) p 0=(magI ((m.getD i []).getD 0 default),0):=rfl;refine Y4w ?_;refine Q0e [true,true,false,false,true,false,true,true,true,true] 3 0
        (fun k s=> ∃j,k=m.length-1-j/\j<=m.length-1/\(sumF (atM m i) p j).2=0/\
         s=⟨[.sl .no (encM m),.sc (.int .i64 p),.junk,.junk,.lp 0 0,.junk,.lp 1 0,.sc (.int .i64 (i:Nat)),.lp 2 0,.sc (.int .i64 ((j+1:Nat):Int))]++jk 56,
          [[.sc (.bool false),.sc (.int .i64 0),.sl .full []],encN (W0b m p i).1,encN (sumF (atM m i) p j).1],[],st⟩) (m.length-1) ?_ ?_
       refine Y4w ?_;exact⟨0,oG,oG,by rw[hs0],by rw[hs0];rfl⟩
       . rintro k s ⟨j,rfl,hj,hsz,rfl⟩;refine W4z (fun h2=> ?_) (fun h2=> ?_)
         . have hlt2:j+1<m.length:=oT h2
           have f1:=Z0q (m.getD i []) (j+1) oG;have f3:=Z0x (j+1) oG;have f4:=K1m hsz;have wx:wI ((m.getD i []).getD (j+1) default):=(hm.2 i hlt).2 (j+1) oG;have wm:=x0q (Z0n (X1a ((m.getD i []).getD (j+1) default)));have ws:=x0q (Z0n (G0l (atM m i) p j));have f5:atM m i (j+1)=(m.getD i []).getD (j+1) default:=rfl;rw[f5] at f4;refine Y4w ?_;refine Q0k Z0b 66 (X2p [0,1,2,3,4,5,6,7,9] (.alt (.step 8 [0] (.alt (.step 10 [4] (X2p [11,12,13] (.step 14 [0,4,7] (.step 15 [] (.step 16 [] (.done)))))) (.step 14 [0,4,7] (.step 10 [4] (X2p [11,12,13,15,16] .done))))) (.step 14 [0,4,7] (.step 8 [0] (.step 10 [4] (X2p [11,12,13,15,16] .done)))))) (by decide+kernel) (by simp) ?_;simp-dsimp only[go_sem,e1,f1];refine⟨oG,oG,?_⟩;refine And.intro ?_ ?_
           all_goals
            refine(X2z _ _ wx).q ?_;simp-dsimp only[go_sem]
           refine And.intro ?_ ?_
           all_goals
            refine(j0h _ _ p true _ ws wm).q ?_;refine W4z (fun h3=> ?_) (fun h3=> ?_);have hne:=W0k h3;refine Y4w ?_;rw[k1f (j:=j+1) hne hlt oG hz (by rw[f4])];rfl;have he:=W0y h3;simp-dsimp only[go_sem,f3];exact⟨m.length-1-(j+1),oG,j+1,rfl,oG,by rw[f4];exact he,by rw[f4]⟩
         have hge:j=m.length-1:=oF h2
         have hnx:=Z1t hz (by rw[<-hge];exact hsz);rw[<-hge] at hnx;have w1:=x0q (Z0n (G0l (atM m i) p j));have w2:=x0q (Z0n (H0a m p i));refine Y4w ?_;refine W4u ?_;refine(q0g _ _ _ (by unfold wN at w1;omega) (by unfold wN at w2;omega)).Q ?_;refine ck (fun h3=> ?_) (fun h3=> ?_);have hc:=q_b h3;rw[if_pos hc] at hnx;refine Y4w ?_;refine Q0a ?_;simp-dsimp only[go_sem,e3];exact⟨m.length-(i+1),oG,i+1,rfl,oG,by rw[hnx],by rw[hnx]⟩;have hc:=q_c h3;rw[if_neg hc] at hnx;refine Y4w ?_;refine Q0a ?_;simp-dsimp only[go_sem,e3];exact⟨m.length-(i+1),oG,i+1,rfl,oG,by rw[hnx],by rw[hnx]⟩
     have hge:i=m.length:=by have:=q_c h';omega
     subst hge;refine Y4w ?_;refine W4u ?_;rw[hz]
def smM (m:Mx):Prop:=1<=m.length/\m.length<=4/\ ∀i,i<m.length->(m.getD i []).length=m.length/\ ∀j,j<m.length->smI (atM m i j)
theorem smM.right {m:Mx}(h:smM m):rightM m=true:=rightM_iff.2 ⟨fun i hi=>⟨(h.2.2 i hi).1,U0v (fun j hj=>by have:=(h.2.2 i hi).2 j (by rw[<-(h.2.2 i hi).1];exact hj);exact this.1) (by rw[(h.2.2 i hi).1];exact h.1) (by rw[(h.2.2 i hi).1];exact h.2.1)⟩,h.1,h.2.1⟩
theorem y0k {m:Mx}(h:rightM m=true):wM m:=⟨by have:=Z0u h;omega,fun i hi=>G0v (Z0y h hi).2⟩
theorem k2i (l:List UInt64)(i k n:Nat)(st:Q0f)(h:atD st k l i)(hi:i<=800000000)(hn:n<=1000):PCalls Tryz.prog 37 [.gp k 0,.sc (.int .i64 n)] st
 (fun r st'=> ∃m j,m.length=n/\(∀q,q<n->(m.getD q []).length=n/\ ∀j,j<n->smI (atM m q j))/\i<=j/\j<=i+3*n*n/\r= .sl .no (encM m)/\st'=st.set k (dk l j)):=by
 refine Q0b none Tryz.func37 rfl fun E=>Q0a ?_;have hnn:3*n*n<=3000000:=by have:n*n<=1000*1000:=Nat.mul_le_mul hn hn;rw[Nat.mul_assoc];omega
 refine Y4w ?_;refine Z0d 5 1 ?_;refine Y4w ?_;refine Q0e [true,true,false,false,false,true,true] 0 1 (fun c s=> ∃(m:Mx) (j:Nat),c=n-m.length/\m.length<=n/\(∀q,q<m.length->(m.getD q []).length=n/\ ∀j,j<n->smI (atM m q j))/\i<=j/\j<=i+3*n*m.length/\
  s=⟨[.gp k 0,.sc (.int .i64 n),.junk,.junk,.junk,.sl (.own 0) (encM m),.sc (.int .i64 (m.length:Nat))]++jk 12,[],[(m.length,1)],st.set k (dk l j)⟩) n ?_ ?_
 refine Y4w ?_;refine⟨[],i,by simp,by simp,fun m hm=>by simp at hm,oG,oG,?_⟩;rw[h.same];rfl;rintro c s ⟨m,j,rfl,hb,hr,hj,hj2,rfl⟩;refine W4z (fun h1=> ?_) (fun h1=> ?_);have hlt:m.length<n:=(oT h1);have x1:=Z0x m.length oG;have hjb:3*n*m.length+3*n<=3*n*n:=by have:3*n*(m.length+1)<=3*n*n:=Nat.mul_le_mul_left _ hlt;rw[Nat.mul_add,Nat.mul_one] at this;exact this
 refine Y4w ?_;refine(K1n l j k n _ (h.set j) oG oG).mono ?_;rintro r st' ⟨x,j',hx1,hx2,hj3,hj4,rfl,rfl⟩;simp-dsimp only[go_sem,q0w,x1];refine⟨⟨oG,oG⟩,n-(m.length+1),oG,m++ [x],j',by simp,by simp;omega,fun q hq=> ?_,oG,?_,by simp⟩;by_cases hm2:q<m.length;unfold atM;rw[x1t _ _ _ _ hm2];exact hr q hm2;have e:q=m.length:=(by simp at hq;omega);unfold atM;rw[e,X1s];exact⟨hx1,fun j hj=>hx2 j oG⟩;rw[List.length_append,List.length_singleton,Nat.mul_add,Nat.mul_one];omega;have hge:m.length=n:=(oF h1);refine Y4w ?_;refine K0w [false,false,false,false,false,true] (Q0a ?_);refine Y4w ?_;exact⟨m,j,hge,fun q hq=>hr q oG,hj,by rw[hge] at hj2;exact hj2,rfl,rfl⟩
def inQ (m:Mx)(q:List (List Nm)):Prop:=q.length=m.length/\ ∀i,i<m.length->(q.getD i []).length=m.length/\ ∀j,j<m.length-> ∃n,n<=8/\(q.getD i []).getD j default=inN (atM m i j) n
theorem Z2h (l:List UInt64)(i k:Nat)(m:Mx)(st:Q0f)(h:atD st k l i)(hi:i<=10000000)(hm:rightM m=true):PCalls Tryz.prog 40 [.gp k 0,.sl .no (encM m)] st
 (fun r st'=> ∃q,inQ m q/\r= .sl .no (encQ q)/\st'=st.set k (dk l (i+m.length*m.length))):=by
 have hl:=Z0u hm;have hb: ∀i,i<m.length-> ∀j,j<(m.getD i []).length->Q0w ((m.getD i []).getD j default)=true:=fun i hi j hj=>q0y (Z0y hm hi).2 hj;refine W4y Tryz.func40 fun E=> ?_;refine Z0d 5 1 ?_;refine Y4w ?_;refine Q0e [true,true,false,false,false,true,true] 0 1 (fun c s=> ∃(q:List (List Nm)),c=m.length-q.length/\q.length<=m.length/\(∀i,i<q.length->(q.getD i []).length=m.length/\ ∀j,j<m.length-> ∃n,n<=8/\(q.getD i []).getD j default=inN (atM m i j) n)/\
  s=⟨[.gp k 0,.sl .no (encM m),.junk,.junk,.junk,.sl (.own 0) (encQ q),.sc (.int .i64 (q.length:Nat))]++jk 16,[],[(q.length,1)],st.set k (dk l (i+q.length*m.length))⟩) m.length ?_ ?_
 refine Y4w ?_;refine⟨[],by simp,by simp,(fun j hj=>by simp at hj),?_⟩;rw[show i+([]:List (List Nm)).length*m.length=i from by simp,h.same];rfl;rintro c s ⟨q,rfl,hq,hr,rfl⟩;refine W4z (fun h1=> ?_) (fun h1=> ?_);have hlt:q.length<m.length:=(oT h1);have e1:=K0f m q.length hlt;have x1:=Z0x q.length oG;obtain⟨q1,q2⟩:=Z0y hm hlt;have hb1:q.length*m.length<=4*4:=Nat.mul_le_mul oG oG;simp-dsimp only[go_sem,e1];refine⟨⟨oG,hlt⟩,?_⟩;refine(J3d l (i+q.length*m.length) k _ _ (h.set _) oG oG (hb _ hlt)).mono ?_;rintro r st' ⟨x,hx1,hx2,rfl,rfl⟩;have e5:i+q.length*m.length+(m.getD q.length []).length=i+(q++ [x]).length*m.length:=by rw[q1,List.length_append,List.length_singleton,Nat.add_mul,Nat.one_mul];omega
 rw[e5];simp-dsimp only[go_sem,q0w,x1];refine⟨⟨oG,oG⟩,m.length-(q.length+1),oG,q++ [x],by simp,by simp;omega,fun j hj=> ?_,by simp⟩;by_cases hj2:j<q.length;rw[x1t _ _ _ _ hj2];exact hr j hj2;have e:j=q.length:=(by simp at hj;omega);rw[e,X1s];exact⟨by rw[hx1,q1],fun p hp=>hx2 p (by rw[q1];exact hp)⟩;have hge:q.length=m.length:=(oF h1);refine Y4w ?_;refine K0w [false,false,false,false,false,true] (Q0a ?_);refine Y4w ?_;exact⟨q,⟨hge,fun i hi=>hr i oG⟩,rfl,by rw[hge]⟩
theorem j3q {m:Mx}(h1:m.length<=100000000000)(h2: ∀r∈m,wB r):wM m:=⟨h1,fun i hi=>h2 _ (Q0r _ _ _ hi)⟩
theorem j3s {b:List Ivl}(h1:b.length<=100000000000)(h2: ∀x∈b,wI x):wB b:=⟨h1,fun i hi=>h2 _ (Q0r _ _ _ hi)⟩
theorem G2k {G:Nat->Ivl×Int}{n:Nat}(hn:n<=100000)(h: ∀i,wI (G i).1):wB (tabF G 0 n []).1:=by refine j3s ?_ (z0q wI n 0 [] (fun i _ _=>h i) (fun x hx=>by cases hx));have:=w0x (G:=G) n 0 [];simp at this;omega
theorem K2p {G:Nat->Nat->Ivl×Int}{n:Nat}(hn:n<=100000)(h: ∀i j,wI (G i j).1):wM (U0h G n).1:=by refine j3q ?_ (z0q wB n 0 [] (fun i _ _=>G2k hn (h i)) (fun x hx=>by cases hx));have:=w0x (G:=fun i=>tabF (fun j=>G i j) 0 n []) n 0 [];simp at this;unfold U0h;omega
theorem W3b :wM []:=⟨by simp,fun i hi=>by simp at hi⟩
theorem W3v (k:Nat)(a b:Mx)(p:Int):wM (opM k a b p).1:=by unfold opM;split;rename_i h;have:=Z0u h.1;exact K2p oG fun i j=>H0o (G0y _ _ _ _);exact W3b
theorem Z1v (a b:Mx)(p:Int):wM (mulM a b p).1:=by unfold mulM;split;rename_i h;have:=Z0u h.1;exact K2p oG fun i j=>H0o (Y0i _ _ _ _);exact W3b
theorem Q1z (a:Mx)(b:List Ivl)(p:Int):wB (vecM a b p).1:=by unfold vecM;split;rename_i h;have:=Z0u h.1;exact G2k oG fun i=>H0o (Y0i _ _ _ _);exact j3r
theorem X3c (b:List Ivl)(p:Int):wNs (midB b p).1:=by unfold midB;split;rename_i h;have hl:=Y0b h.1;rw[W0c];have h1:=w0x (G:=fun j=>midI (b.getD j default) p) b.length 0 [];have h2:=z0q wN (G:=fun j=>midI (b.getD j default) p) b.length 0 [] (fun i _ _=>x0q (Z0n (Z1w _ _))) (fun x hx=>by cases hx);rw[List.length_nil,Nat.zero_add] at h1;exact⟨oG,fun i hi=>h2 _ (Q0r _ _ _ hi)⟩;exact⟨by simp,fun i hi=>by simp at hi⟩
theorem z2t (a:Mx)(p:Int):wQ (midM a p).1:=by unfold midM;split;rename_i h;have hl:=Z0u h.1;have h1:=w0x (G:=fun j=>midB (a.getD j []) p) a.length 0 [];have h2:=z0q wNs (G:=fun j=>midB (a.getD j []) p) a.length 0 [] (fun i _ _=>X3c _ _) (fun x hx=>by cases hx);rw[List.length_nil,Nat.zero_add] at h1;exact⟨oG,fun i hi=>h2 _ (Q0r _ _ _ hi)⟩;exact⟨by simp,fun i hi=>by simp at hi⟩
theorem v3g {q:List Nm}(h:wNs q):wB (ofB q):=by refine⟨by unfold ofB;rw[List.length_map];exact h.1,fun i hi=> ?_⟩;have hi':i<q.length:=(by simpa[ofB] using hi);have e:(ofB q).getD i default=⟨q.getD i default,q.getD i default⟩:=(by simp[ofB,q_a,hi']);rw[e];exact⟨h.2 i hi',h.2 i hi'⟩
theorem H3l (q:List (List Nm))(i:Nat)(h:i<q.length):(ofM q).getD i []=ofB (q.getD i []):=by simp[ofM,q_a,h]
theorem J1a {q:List (List Nm)}(h:wQ q):wM (ofM q):=by refine⟨by unfold ofM;rw[List.length_map];exact h.1,fun i hi=> ?_⟩;have hi':i<q.length:=(by simpa[ofM] using hi);rw[H3l q i hi'];exact v3g (h.2 i hi')
theorem W2n :Q0h oneN=true:=by decide
theorem y2u (n i j:Nat)(h:j<n):(rowQ n i).getD j default=if i=j then oneN else default:=by unfold rowQ;rw[J3n _ _ _ _ _ (by simpa using h)];split;rfl;simp[q_a,h]
theorem Z1s (n:Int):wQ (oneQ n):=by unfold oneQ;split;rename_i h;refine⟨by rw[X0y];omega,fun i hi=> ?_⟩;rw[X0y] at hi;have e:(oneL n.toNat).getD i []=rowQ n.toNat i:=(by simp[oneL,q_a,hi]);rw[e];refine⟨by rw[Y0z];omega,fun j hj=> ?_⟩;rw[Y0z] at hj;rw[y2u _ _ _ hj];split;exact x0q (Z0n W2n);exact x0q (Z0n V0p);exact⟨by simp,fun i hi=>by simp at hi⟩
theorem x2x {m:Mx}{q:List (List Nm)}(hm:rightM m=true)(h:inQ m q): ∀i j,i<m.length->j<m.length->Q0h ((q.getD i []).getD j default)=true/\memI (qN ((q.getD i []).getD j default)) (atM m i j):=fun i j hi hj=>by obtain⟨n,hn,e⟩:=(h.2 i hi).2 j hj;have hr:=U0u hm hi hj;rw[e];exact⟨x2y n hr,q3l hr hn⟩
theorem v3w {m:Mx}{q:List (List Nm)}(hm:rightM m=true)(h:inQ m q):wQ q:=by have hl:=Z0u hm;refine⟨by rw[h.1];omega,fun i hi=> ?_⟩;rw[h.1] at hi;have h2:=(h.2 i hi).1;refine⟨by rw[h2];omega,fun j hj=> ?_⟩;rw[h2] at hj;exact x0q (Z0n (x2x hm h i j hi hj).1)
end Go.Pv
end
