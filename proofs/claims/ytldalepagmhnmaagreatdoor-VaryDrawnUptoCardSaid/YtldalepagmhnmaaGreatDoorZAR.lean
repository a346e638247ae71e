/- Parts of the walk: N34, N35, N36, N37, N38, N39, N40, N41, N42, N43, M39, M40, M41. -/
import Derived.Test.YtldalepagmhnmaaGreatDoorZAQ
import Derived.Test.YtldalepagmhnmaaGreatDoorZAM
set_option linter.unusedVariables false
set_option linter.unusedSimpArgs false
section
set_option maxRecDepth 100000
namespace Go.Pv
open Go.Proofs
theorem w0m (n:Nat)(st:Q0f)(hn:n<9223372036854775808):PCalls Tryz.prog 124 [.sc (.int .i64 n)] st (fun r st'=>r= .agg (encN (mkX false [UInt64.ofNat n] 0).1)/\st'=st):=by
 have g1:decide ((n:Int)<0)=false:=q_g (by omega);have g2:IntKind.u64.wrap (n:Int)=n:=Y0x n (by omega);have g3: [PV.sc (.int .u64 n)]=encW [UInt64.ofNat n]:=by simp only[encW,List.map_cons,List.map_nil];rw[UInt64.toNat_ofNat_of_lt' (show n<UInt64.size by unfold UInt64.size;omega)]
 refine Q0b none Tryz.func124 rfl fun E=>Q0a ?_;simp-dsimp only[go_sem,g1,g2];rw[g3];refine(J1r false _ 0 _ (by simp) (by omega) (by omega)).mono ?_;rintro r st ⟨rfl,rfl⟩;simp-dsimp only[go_sem]
theorem k2n :(mkX false [1] 0).1=oneN:=by decide+kernel
theorem Y2y (st:Q0f):PCalls Tryz.prog 124 [.sc (.int .i64 1)] st (fun r st'=>r= .agg (encN oneN)/\st'=st):=by have:=w0m 1 st (by omega);rw[show UInt64.ofNat 1=1 from rfl,k2n] at this;exact this
theorem v2j (i j:Nat)(st:Q0f):PCalls Tryz.prog 123 ([.sc (.int .i64 i),.sc (.int .i64 j)]++ []) st (fun r st'=>r= .tup [.agg (encI (if i=j then⟨oneN,oneN⟩ else default)),.sc (.int .i64 0)]/\st'=st):=by refine Q0b none Tryz.func123 rfl fun E=>Q0a ?_;by_cases h:i=j;have f1:((i:Int)==(j:Int))=true:=(by rw[h];simp);rw[if_pos h];simp-dsimp only[go_sem,f1];refine(Y2y _).mono ?_;rintro r st ⟨rfl,rfl⟩;simp-dsimp only[go_sem];refine(W1u oneN _ (by unfold wN;decide)).mono ?_;rintro r st ⟨rfl,rfl⟩;simp-dsimp only[go_sem];have f1:((i:Int)==(j:Int))=false:=(by rw[beq_eq_false_iff_ne];omega);rw[if_neg h];simp-dsimp only[go_sem,f1];rfl
theorem w2f {n:Nat}(h1:1<=n)(h4:n<=4):q0f (fun i j=>((if i=j then⟨oneN,oneN⟩ else default:Ivl),0)) n=(idM (n:Int),0):=by have:n=1\/n=2\/n=3\/n=4:=(by omega);rcases this with rfl | rfl | rfl | rfl<;>decide+kernel
theorem V3g (n:Int)(st:Q0f):PCalls Tryz.prog 54 [.sc (.int .i64 n)] st (fun r st'=>r= .sl .no (encM (idM n))/\st'=st):=by refine Q0b none Tryz.func54 rfl fun E=>Q0a ?_;by_cases h1:n<1;have f1:decide (n<1)=true:=q_h h1;simp-dsimp only[go_sem,f1];rw[idM,if_neg (by omega)];rfl;have f1:decide (n<1)=false:=q_g h1;by_cases h4:n>4;have f2:decide (n>4)=true:=q_h h4;simp-dsimp only[go_sem,f1,f2];rw[idM,if_neg (by omega)];rfl;have f2:decide (n>4)=false:=q_g h4;obtain⟨k,rfl⟩:=Int.eq_ofNat_of_zero_le (show 0<=n by omega);simp-dsimp only[go_sem,f1,f2];refine(k0w _ [] (fun i j=>((if i=j then⟨oneN,oneN⟩ else default:Ivl),0)) k st rfl (by omega) rfl rfl rfl rfl (fun _=>rfl) fun i j hi hj=>v2j i j st).mono ?_;rintro r st ⟨rfl,rfl⟩;rw[w2f (by omega) (by omega)];simp-dsimp only[go_sem]
theorem j0d (m:Mx)(st:Q0f)(hm:wM m):PCalls Tryz.prog 144 [.sl .no (encM m)] st (fun r st'=>r= .sc (.bool (X0f m))/\st'=st):=by
 have hl:=hm.1;refine Q0b none Tryz.func144 rfl fun E=>Q0a ?_;simp-dsimp only[go_sem];refine Q0e [true,false,false,true] 0 0 (fun n s=> ∃i,n=m.length-i/\i<=m.length/\(∀j,j<i->(m.getD j []).length=m.length/\rightB (m.getD j [])=true)/\s=⟨[.sl .no (encM m),.junk,.junk,.sc (.int .i64 (i:Nat))]++List.replicate 34 .junk,[],[],st⟩) m.length ?_ ?_;simp-dsimp only[go_sem];exact⟨0,by omega,by omega,fun j hj=>by omega,rfl⟩;rintro n s ⟨i,rfl,hi,hr,rfl⟩;have fin:i=m.length\/ ¬(i:Int)<4->decide ((m.length:Int)>0)=true->decide ((m.length:Int)<=4)=X0f m:=fun h h1=>by have h1:=q_b h1;rw[Bool.eq_iff_iff,rightM_iff,decide_eq_true_iff];exact⟨fun h4=>⟨fun j hj=>hr j (by omega),by omega,by omega⟩,fun hh=>by omega⟩
 have fin0:decide ((m.length:Int)>0)=false->X0f m=false:=fun h=>Bool.eq_false_iff.2 fun e=>by have:=q_c h;have:=(rightM_iff.1 e).2.1;omega
 simp-dsimp only[go_sem];refine gkT (fun h=> ?_) (fun h=> ?_);have hlt:i<m.length:=(by have:=q_b h;omega);simp-dsimp only[go_sem,h];refine ck (fun h4=> ?_) (fun h4=> ?_);have e1:=J0h m i hlt;have e3:=X0q i (by omega);simp-dsimp only[go_sem,e1];refine⟨by omega,?_⟩;refine gkF (fun h2=> ?_) (fun h2=> ?_);have hn:=x0a h2;simp-dsimp only[go_sem,h2,e1];refine⟨by omega,?_⟩;refine(H0z _ _ (hm.2 i hlt)).mono ?_;rintro r st ⟨rfl,rfl⟩;simp-dsimp only[go_sem,h2];refine ck (fun h3=> ?_) (fun h3=> ?_);have hf:rightB (m.getD i [])=false:=(by simpa using h3);simp-dsimp only[go_sem];have:X0f m=false:=Bool.eq_false_iff.2 fun e=>by have:=((rightM_iff.1 e).1 i hlt).2;rw[hf] at this;cases this
 rw[this];have ht:rightB (m.getD i [])=true:=(by simpa using h3);simp-dsimp only[go_sem,e3];refine⟨m.length-(i+1),by omega,i+1,rfl,by omega,fun j hj=> ?_,rfl⟩;by_cases e:j=i;subst e;exact⟨hn,ht⟩;exact hr j (by omega);have hn:=w0n h2;simp-dsimp only[go_sem,h2];have:X0f m=false:=Bool.eq_false_iff.2 fun e=>hn ((rightM_iff.1 e).1 i hlt).1;rw[this];have h4':=q_c h4;simp-dsimp only[go_sem];refine Q0a ?_;simp-dsimp only[go_sem];refine gkT (fun h=> ?_) (fun h=> ?_);simp-dsimp only[go_sem,h];rw[fin (.inr h4') h];simp-dsimp only[go_sem,h];rw[fin0 h];have hge:i=m.length:=(by have:=q_c h;omega);simp-dsimp only[go_sem,h];refine Q0a ?_;simp-dsimp only[go_sem];refine gkT (fun h=> ?_) (fun h=> ?_);simp-dsimp only[go_sem,h];rw[fin (.inl hge) h];simp-dsimp only[go_sem,h];rw[fin0 h]
theorem H1s (a b:Mx)(st:Q0f)(ha:wM a)(hb:wM b):PCalls Tryz.prog 70 [.sl .no (encM a),.sl .no (encM b)] st (fun r st'=>r= .sc (.bool (decide (a=b)))/\st'=st):=by
 have hla:=ha.1;have hlb:=hb.1;refine Q0b none Tryz.func70 rfl fun E=>Q0a ?_;simp-dsimp only[go_sem];refine ck (fun h0=> ?_) (fun h0=> ?_);have hne:=w0n h0;simp-dsimp only[go_sem];rw[q_g (fun e=>hne (by rw[e]))];have hl:=x0a h0;simp-dsimp only[go_sem];refine Q0e [true,true,false,false,false,true] 0 0 (fun n s=> ∃i,n=a.length-i/\i<=a.length/\(∀j,j<i->a.getD j []=b.getD j [])/\s=⟨[.sl .no (encM a),.sl .no (encM b),.junk,.junk,.junk,.sc (.int .i64 (i:Nat))]++List.replicate 21 .junk,[],[],st⟩) a.length ?_ ?_;simp-dsimp only[go_sem];exact⟨0,by omega,by omega,fun j hj=>by omega,rfl⟩;rintro n s ⟨i,rfl,hi,hr,rfl⟩;simp-dsimp only[go_sem];refine ck (fun h'=> ?_) (fun h'=> ?_);have hlt:i<a.length:=(by have:=q_b h';omega);have e1:=J0h a i hlt;have e2:=J0h b i (by omega);have e3:=X0q i (by omega);simp-dsimp only[go_sem];refine Q0j Z0a 27 (.step 0 [] (.step 1 [] (.step 2 [] (.step 3 [] (.step 4 [] (.step 5 [] (.step 6 [] (.step 7 [] (.step 8 [] (.step 9 [] (.done))))))))))) (by decide+kernel) (by simp) ?_;simp-dsimp only[go_sem,e1,e2];refine⟨by omega,by omega,?_⟩;refine(W2c _ _ st (ha.2 i hlt) (hb.2 i (by omega))).mono ?_;rintro r st ⟨rfl,rfl⟩;simp-dsimp only[go_sem];refine ck (fun h2=> ?_) (fun h2=> ?_);have hf:a.getD i []≠b.getD i []:=by intro e;rw[e] at h2;simp at h2
 simp-dsimp only[go_sem];rw[q_g (fun e=>hf (by rw[e]))];have ht:a.getD i []=b.getD i []:=by apply Decidable.byContradiction;intro e;rw[q_g e] at h2;cases h2
 simp-dsimp only[go_sem,e3];refine⟨a.length-(i+1),by omega,i+1,rfl,by omega,fun j hj=> ?_,rfl⟩;by_cases e:j=i;subst e;exact ht;exact hr j (by omega);have hge:i=a.length:=(by have:=q_c h';omega);simp-dsimp only[go_sem];refine Q0a ?_;simp-dsimp only[go_sem];rw[q_h (U0y [] hl fun j hj=>hr j (by omega))]
theorem k1v (a b:List UInt64)(st:Q0f)(ha:a.length<=100000000000)(hb:b.length<=100000000000):PCalls Tryz.prog 61 [.sl .no (encW a),.sl .no (encW b)] st (fun r st'=>r= .sc (.bool (decide (a=b)))/\st'=st):=by
 refine Q0b none Tryz.func61 rfl fun E=>Q0a ?_;simp-dsimp only[go_sem];refine ck (fun h0=> ?_) (fun h0=> ?_);have hne:=w0n h0;simp-dsimp only[go_sem];rw[q_g (fun e=>hne (by rw[e]))];have hl:=x0a h0;simp-dsimp only[go_sem];refine Q0e [true,true,false,false,false,true] 0 0 (fun n s=> ∃i,n=a.length-i/\i<=a.length/\(∀j,j<i->a.getD j 0=b.getD j 0)/\s=⟨[.sl .no (encW a),.sl .no (encW b),.junk,.junk,.junk,.sc (.int .i64 (i:Nat))]++List.replicate 20 .junk,[],[],st⟩) a.length ?_ ?_;simp-dsimp only[go_sem];exact⟨0,by omega,by omega,fun j hj=>by omega,rfl⟩;rintro n s ⟨i,rfl,hi,hr,rfl⟩;simp-dsimp only[go_sem];refine ck (fun h'=> ?_) (fun h'=> ?_);have hlt:i<a.length:=(by have:=q_b h';omega);have e1:=Z0f a i hlt;have e2:=Z0f b i (by omega);have e3:=X0q i (by omega);simp-dsimp only[go_sem];refine Q0j Z0a 26 (.step 0 [] (.step 1 [] (.step 2 [] (.step 3 [] (.step 4 [] (.step 5 [] (.step 6 [] (.step 7 [] (.step 8 [] (.done)))))))))) (by decide+kernel) (by simp) ?_;simp-dsimp only[go_sem,e1,e2];refine⟨by omega,by omega,?_⟩;refine ck (fun h2=> ?_) (fun h2=> ?_);have hf:a.getD i 0≠b.getD i 0:=(by intro e;rw[e] at h2;simp at h2);simp-dsimp only[go_sem];rw[q_g (fun e=>hf (by rw[e]))];have ht:a.getD i 0=b.getD i 0:=by have:=x0a h2;exact UInt64.toNat_inj.1 this
 simp-dsimp only[go_sem,e3];refine⟨a.length-(i+1),by omega,i+1,rfl,by omega,fun j hj=> ?_,rfl⟩;by_cases e:j=i;subst e;exact ht;exact hr j (by omega);have hge:i=a.length:=(by have:=q_c h';omega);simp-dsimp only[go_sem];refine Q0a ?_;simp-dsimp only[go_sem];rw[q_h (U0y 0 hl fun j hj=>hr j (by omega))]
theorem X2r (q:List (List Nm))(st:Q0f)(hq:wQ q):PCalls Tryz.prog 137 [.sl .no (encQ q)] st (fun r st'=>r= .sl (.fresh 1) (encM (ofM q))/\st'=st):=by
 obtain⟨hl,hw⟩:=hq;refine Q0b none Tryz.func137 rfl fun E=>Q0a ?_;simp-dsimp only[go_sem];refine Q0v 3 1 ?_;simp-dsimp only[go_sem];refine Q0e [true,false,false,true,true] 0 1
  (fun n s=> ∃i,n=q.length-i/\i<=q.length/\s=⟨[.sl .no (encQ q),.junk,.junk,.sl (.own 0) (encM (ofM (q.take i))),.sc (.int .i64 (i:Nat))]++List.replicate 15 .junk,[],[((ofM (q.take i)).length,1)],st⟩) q.length ?_ ?_
 simp-dsimp only[go_sem];exact⟨0,by omega,by omega,rfl⟩;rintro n s ⟨i,rfl,hi,rfl⟩;simp-dsimp only[go_sem];refine ck (fun h'=> ?_) (fun h'=> ?_);have hlt:i<q.length:=(by have:=q_b h';omega);have e1:=y2f q i hlt;have e3:=X0q i (by omega);have ll:(ofM (q.take i)).length=i:=(by simp[ofM];omega);simp-dsimp only[go_sem,e1];refine⟨by omega,?_⟩;refine(k2g _ _ (hw i hlt)).plain.mono ?_;rintro r st ⟨rfl,rfl⟩;simp-dsimp only[go_sem,e3];refine⟨⟨by omega,by omega⟩,q.length-(i+1),by omega,i+1,rfl,by omega,?_⟩;rw[k2q q i hlt];simp;have hge:i=q.length:=(by have:=q_c h';omega);simp-dsimp only[go_sem];refine Q0a ?_;simp-dsimp only[go_sem];rw[hge,List.take_length]
theorem K3j {k:Nat}{a b:List Ivl}{p:Int}(h1:rightB a=true)(h2:rightB b=true)(h3:a.length=b.length)(h4:Z0q p=true):opB k a b p=tabF (fun j=>opI k (a.getD j default) (b.getD j default) p) 0 a.length []:=by rw[opB,if_pos ⟨h1,h2,h3,h4⟩,U0z]
theorem Z2k {x:Ivl}{b:List Ivl}{p:Int}(h1:rightB b=true)(h2:Q0m x=true)(h4:Z0q p=true):V0h x b p=tabF (fun j=>opI 2 x (b.getD j default) p) 0 b.length []:=by rw[V0h,if_pos ⟨h1,h2,h4⟩,U0z]
theorem k2l (k:Nat){a b:Mx}{p:Int}(r1:X0f a=true)(r2:X0f b=true)(hn:a.length=b.length)(r3:Z0q p=true):opM k a b p=tabF (fun i=>opB k (a.getD i []) (b.getD i []) p) 0 a.length []:=by rw[opM,if_pos ⟨r1,r2,hn,r3⟩];refine y0r _ _ _ fun i _ hi=> ?_;obtain⟨a1,a2⟩:=W0r r1 (show i<a.length by omega);obtain⟨b1,b2⟩:=W0r r2 (show i<b.length by omega);rw[K3j a2 b2 (by omega) r3,a1];rfl
theorem j1l {x:Ivl}{a:Mx}{p:Int}(r1:X0f a=true)(r2:Q0m x=true)(r3:Z0q p=true):K0w x a p=tabF (fun i=>V0h x (a.getD i []) p) 0 a.length []:=by rw[K0w,if_pos ⟨r1,r2,r3⟩];refine y0r _ _ _ fun i _ hi=> ?_;obtain⟨a1,a2⟩:=W0r r1 (show i<a.length by omega);rw[Z2k a2 r2 r3,a1];rfl
theorem k2k (a b:Mx)(p:Int)(st:Q0f)(ha:wM a)(hb:wM b):PCalls Tryz.prog 146 [.sc (.int .i64 0),.sl .no (encM a),.sl .no (encM b),.sc (.int .i64 p)] st (fun r st'=>r= .tup [.sl .no (encM (opM 0 a b p).1),.sc (.int .i64 (opM 0 a b p).2)]/\st'=st):=by
 have hal:=ha.1;refine Q0b none Tryz.func146 rfl fun E=>Q0a ?_;simp-dsimp only[go_sem];refine(j0d a _ ha).mono ?_;rintro r st ⟨rfl,rfl⟩;cases r1:X0f a with
 | false=>
  simp-dsimp only[go_sem];rw[opM,if_neg (by simp[r1])];rfl
 | true=>
  simp-dsimp only[go_sem];refine(j0d b _ hb).mono ?_;rintro r st ⟨rfl,rfl⟩;cases r2:X0f b with
  | false=>
   simp-dsimp only[go_sem];rw[opM,if_neg (by simp[r2])];rfl
  | true=>
   by_cases hn:a.length=b.length;have f1:((a.length:Int) !=(b.length:Int))=false:=(by rw[hn];simp);simp-dsimp only[go_sem,f1];refine(Z1x p _).mono ?_;rintro r st ⟨rfl,rfl⟩;cases r3:Z0q p with
   | false=>
    simp-dsimp only[go_sem];rw[opM,if_neg (by simp[r3])];rfl
   | true=>
    rw[k2l 0 r1 r2 hn r3];simp-dsimp only[go_sem];refine Q0v 10 1 ?_;simp-dsimp only[go_sem];refine Q0e [true,true,true,true,false,false,false,false,false,false,true,true] 0 1
     (fun k s=> ∃(i:Nat) (o:Mx),k=a.length-i/\i<=a.length/\o.length=i/\tabF (fun i=>opB 0 (a.getD i []) (b.getD i []) p) 0 a.length []=tabF (fun i=>opB 0 (a.getD i []) (b.getD i []) p) i (a.length-i) o/\
      s=⟨[.sc (.int .i64 0),.sl .no (encM a),.sl .no (encM b),.sc (.int .i64 p),.junk,.junk,.junk,.junk,.junk,.junk,.sl (.own 0) (encM o),.sc (.int .i64 (i:Nat))]++List.replicate 50 .junk,[],[(o.length,1)],st⟩) a.length ?_ ?_
    simp-dsimp only[go_sem];exact⟨0,[],by omega,by omega,rfl,rfl,rfl⟩;rintro k s ⟨i,o,rfl,hi,ho,hr,rfl⟩;simp-dsimp only[go_sem];refine ck (fun h'=> ?_) (fun h'=> ?_);have hlt:i<a.length:=(by have:=q_b h';omega);have e3:=X0q i (by omega);have e4:=X0c (fun i=>opB 0 (a.getD i []) (b.getD i []) p) hlt o;have e1:=J0h a i hlt;have e2:=J0h b i (by omega);simp-dsimp only[go_sem,e1];refine Q0j Z0a 62 (.step 0 [] (.step 1 [] (.step 2 [] (.step 3 [] (.step 4 [] (.step 5 [] (.step 6 [] (.step 7 [] (.step 8 [] (.step 9 [] (.step 10 [] (.step 11 [] (.step 12 [] (.step 13 [] (.step 14 [] (.step 15 [] (.done))))))))))))))))) (by decide+kernel) (by simp) ?_;simp-dsimp only[go_sem,e1,e2];refine⟨by omega,by omega,?_⟩;refine(k2m (a.getD i []) (b.getD i []) p _ (ha.2 i hlt) (hb.2 i (by omega))).mono ?_;rintro r st ⟨rfl,rfl⟩;simp-dsimp only[go_sem];refine ck (fun h2=> ?_) (fun h2=> ?_);have hne:=U0l h2;simp-dsimp only[go_sem];rw[hr,e4,if_pos hne];rfl;have he:=G0c h2;simp-dsimp only[go_sem,e3];refine⟨⟨by omega,by omega⟩,a.length-(i+1),by omega,i+1,o++ [(opB 0 (a.getD i []) (b.getD i []) p).1],rfl,by omega,by simp[ho],?_,?_⟩;rw[hr,e4,if_neg (fun hh=>hh he)];simp;have hge:i=a.length:=(by have:=q_c h';omega);simp-dsimp only[go_sem];refine Q0a ?_;simp-dsimp only[go_sem];rw[hr,hge,J0f]
   have f1:((a.length:Int) !=(b.length:Int))=true:=by rw[bne_iff_ne];omega
   simp-dsimp only[go_sem,f1];rw[opM,if_neg (fun hh=>hn hh.2.2.1)];rfl
theorem Z2i (x:Ivl)(a:Mx)(p:Int)(st:Q0f)(hx:wI x)(ha:wM a):PCalls Tryz.prog 145 [.agg (encI x),.sl .no (encM a),.sc (.int .i64 p)] st (fun r st'=>r= .tup [.sl .no (encM (K0w x a p).1),.sc (.int .i64 (K0w x a p).2)]/\st'=st):=by
 have hal:=ha.1;refine Q0b none Tryz.func145 rfl fun E=>Q0a ?_;simp-dsimp only[go_sem];refine(j0d a _ ha).mono ?_;rintro r st ⟨rfl,rfl⟩;cases r1:X0f a with
 | false=>
  simp-dsimp only[go_sem];rw[K0w,if_neg (by simp[r1])];rfl
 | true=>
  simp-dsimp only[go_sem];refine(X0g x _ hx).mono ?_;rintro r st ⟨rfl,rfl⟩;cases r2:Q0m x with
  | false=>
   simp-dsimp only[go_sem];rw[K0w,if_neg (by simp[r2])];rfl
  | true=>
   simp-dsimp only[go_sem];refine(Z1x p _).mono ?_;rintro r st ⟨rfl,rfl⟩;cases r3:Z0q p with
   | false=>
    simp-dsimp only[go_sem];rw[K0w,if_neg (by simp[r3])];rfl
   | true=>
    rw[j1l r1 r2 r3];simp-dsimp only[go_sem];refine Q0v 8 1 ?_;simp-dsimp only[go_sem];refine Q0e [false,true,true,true,false,false,false,false,true,true] 1 1
     (fun k s=> ∃(i:Nat) (o:Mx),k=a.length-i/\i<=a.length/\o.length=i/\tabF (fun i=>V0h x (a.getD i []) p) 0 a.length []=tabF (fun i=>V0h x (a.getD i []) p) i (a.length-i) o/\
      s=⟨[.junk,.sl .no (encM a),.sc (.int .i64 p),.lp 0 0,.junk,.junk,.junk,.junk,.sl (.own 0) (encM o),.sc (.int .i64 (i:Nat))]++List.replicate 39 .junk,[encI x],[(o.length,1)],st⟩) a.length ?_ ?_
    simp-dsimp only[go_sem];exact⟨0,[],by omega,by omega,rfl,rfl,rfl⟩;rintro k s ⟨i,o,rfl,hi,ho,hr,rfl⟩;simp-dsimp only[go_sem];refine ck (fun h'=> ?_) (fun h'=> ?_);have hlt:i<a.length:=(by have:=q_b h';omega);have e3:=X0q i (by omega);have e4:=X0c (fun i=>V0h x (a.getD i []) p) hlt o;have e1:=J0h a i hlt;simp-dsimp only[go_sem,e1];refine Q0j Z0a 49 (.step 0 [] (.step 1 [] (.step 2 [] (.step 3 [] (.step 4 [] (.step 5 [] (.step 6 [] (.step 7 [] (.step 8 [] (.step 9 [] (.step 10 [] (.step 11 [] (.done))))))))))))) (by decide+kernel) (by simp) ?_;simp-dsimp only[go_sem,e1];refine⟨by omega,?_⟩;refine(x2l x (a.getD i []) p _ hx (ha.2 i hlt)).mono ?_;rintro r st ⟨rfl,rfl⟩;simp-dsimp only[go_sem];refine ck (fun h2=> ?_) (fun h2=> ?_);have hne:=U0l h2;simp-dsimp only[go_sem];rw[hr,e4,if_pos hne];rfl;have he:=G0c h2;simp-dsimp only[go_sem,e3];refine⟨⟨by omega,by omega⟩,a.length-(i+1),by omega,i+1,o++ [(V0h x (a.getD i []) p).1],rfl,by omega,by simp[ho],?_,?_⟩;rw[hr,e4,if_neg (fun hh=>hh he)];simp;have hge:i=a.length:=(by have:=q_c h';omega);simp-dsimp only[go_sem];refine Q0a ?_;simp-dsimp only[go_sem];rw[hr,hge,J0f]
theorem X1r {α:Type}(f:Nat->α)(n i:Nat)(h:i<n):((List.range n).map f).take (i+1)=((List.range n).map f).take i++ [f i]:=by rw[<-List.map_take,<-List.map_take,List.take_range,List.take_range,Nat.min_eq_left (by omega),Nat.min_eq_left (by omega),List.range_succ,List.map_append];rfl
theorem U1x (f:PV->PV)(l:List PV)(o:Nat)(r:List PV):(over l o r).map f=over (l.map f) o (r.map f):=by simp[over,List.map_take,List.map_drop]
theorem U1n (f:PV->PV)(n:Nat)(z:List PV):(repC n z).map f=repC n (z.map f):=by unfold repC;rw[List.map_flatten,List.map_replicate]
theorem v1a {l r:List PV}{o:Nat}(h1:fzOK l=true)(h2:fzOK r=true):fzOK (over l o r)=true:=by
 unfold fzOK at*
 rw[q_d] at*
 intro p hp;simp only[over,List.mem_append] at hp;rcases hp with (hp | hp) | hp;exact h1 p (List.mem_of_mem_take hp);exact h2 p hp;exact h1 p (List.mem_of_mem_drop hp)
theorem k1z {n:Nat}{z:List PV}(h:fzOK z=true):fzOK (repC n z)=true:=by
 unfold fzOK at*
 rw[q_d] at*
 intro p hp;simp only[repC,List.mem_flatten,List.mem_replicate] at hp;obtain⟨l,⟨_,rfl⟩,hp⟩:=hp;exact h p hp
theorem H3t (n:Nat):repC n (encN default)=flat (X0h (List.replicate n default)):=by simp[repC,flat,X0h,PV.cells]
def rowQ (n i:Nat):List Nm:=(List.replicate n default).set i oneN
def oneL (k:Nat):List (List Nm):=(List.range k).map (rowQ k)
theorem q0v (k:Nat):(oneL k).length=k:=by simp[oneL]
def oneQ (n:Int):List (List Nm):=if 1<=n/\n<=4 then oneL n.toNat else []
theorem K3l (n:Int):ofM (oneQ n)=idM n:=by unfold oneQ idM;split;rename_i h;have:n=1\/n=2\/n=3\/n=4:=(by omega);rcases this with rfl | rfl | rfl | rfl<;>decide+kernel;rfl
theorem q0s (n i:Nat):(rowQ n i).length=n:=by simp[rowQ]
set_option maxHeartbeats 1000000 in
theorem X4o (n:Int)(st:Q0f):PCalls Tryz.prog 138 [.sc (.int .i64 n)] st (fun r st'=>r= .sl .no (encQ (oneQ n))/\st'=st):=by
 refine Q0b none Tryz.func138 rfl fun E=>Q0a ?_;by_cases h1:n<1;have f1:decide (n<1)=true:=q_h h1;simp-dsimp only[go_sem,f1];rw[oneQ,if_neg (by omega)];rfl;have f1:decide (n<1)=false:=q_g h1;by_cases h4:n>4;have f2:decide (n>4)=true:=q_h h4;simp-dsimp only[go_sem,f1,f2];rw[oneQ,if_neg (by omega)];rfl;have f2:decide (n>4)=false:=q_g h4;obtain⟨k,rfl⟩:=Int.eq_ofNat_of_zero_le (show 0<=n by omega);have hq:oneQ (k:Int)=oneL k:=(by rw[oneQ,if_pos (by omega)];rfl);rw[hq];simp-dsimp only[go_sem,f1,f2];refine Q0v 3 1 ?_;simp-dsimp only[go_sem];refine Q0t [true,false,false,true,true] 0 1
  (fun m s=> ∃i,m=k-i/\i<=k/\s=⟨[.sc (.int .i64 k),.junk,.junk,.sl (.own 0) (encQ ((oneL k).take i)),.sc (.int .i64 (i:Nat))]++List.replicate 24 .junk,[],[(((oneL k).take i).length,1)],st⟩) k ?_ ?_
 simp-dsimp only[go_sem];exact⟨0,by omega,by omega,rfl⟩;rintro m s ⟨i,rfl,hi,rfl⟩;refine Q0h (Q0a ?_);simp-dsimp only[go_sem];refine ck (fun h'=> ?_) (fun h'=> ?_);have hlt:i<k:=(by have:=q_b h';omega);have e3:=X0q i (by omega);have ll:((oneL k).take i).length=i:=(by rw[List.length_take,q0v];omega);have e5:(oneL k).take (i+1)=(oneL k).take i++ [rowQ k i]:=X1r _ _ _ hlt;have e6:flat (X0h (rowQ k i))=over (flat (X0h (List.replicate k default))) (i*3) (encN oneN):=(G2s _ i oneN (by simpa using hlt)).symm;simp-dsimp only[go_sem];refine Q0h (Z0p (Q0h (Q0a ?_)));simp-dsimp only[go_sem];refine⟨⟨by omega,by omega⟩,?_⟩;refine Q0h (Q0a ?_);simp-dsimp only[go_sem,G0f];refine⟨⟨by omega,hlt⟩,⟨by omega,by omega⟩,?_⟩;have r0:repC k [.sc (.bool false),.sc (.int .i64 0),.sl .no []]=flat (X0h (List.replicate k default)):=H3t k;have r1:over (flat (X0h (List.replicate k default))) (i*3) [.sc (.bool false),.sc (.int .i64 0),.sl .no [.sc (.int .u64 1)]]=flat (X0h (rowQ k i)):=e6.symm;have r2:=y2z (rowQ k i) k (q0s k i).symm;have r3:=q0s k i;refine G0g 0 3 ?_ ?_;simp-dsimp only[go_sem];exact v1a (k1z rfl) rfl;simp-dsimp only[go_sem,U1x,U1n,r0,r1,r2,r3];refine Q0a ?_;simp-dsimp only[go_sem];refine⟨⟨by omega,by omega⟩,Q0a ?_⟩;simp-dsimp only[go_sem,e3];refine⟨k-(i+1),by omega,i+1,rfl,by omega,?_⟩;rw[e5];simp;have hge:i=k:=(by have:=q_c h';omega);have ht:(oneL k).take i=oneL k:=List.take_of_length_le (by rw[q0v];omega);rw[ht];simp-dsimp only[go_sem];refine X0j [false,false,false,true] (Q0a ?_);simp-dsimp only[go_sem]
theorem G3w {m:Mx}(h1:m.length<=100000000000)(h2: ∀r∈m,wB r):wM m:=⟨h1,fun i hi=>h2 _ (Q0u _ _ _ hi)⟩
theorem G3z {b:List Ivl}(h1:b.length<=100000000000)(h2: ∀x∈b,wI x):wB b:=⟨h1,fun i hi=>h2 _ (Q0u _ _ _ hi)⟩
theorem J3j {G:Nat->Ivl×Int}{n:Nat}(hn:n<=100000)(h: ∀i,wI (G i).1):wB (tabF G 0 n []).1:=by refine G3z ?_ (W0x wI n 0 [] (fun i _ _=>h i) (fun x hx=>by cases hx));have:=q0p (G:=G) n 0 [];simp at this;omega
theorem Q2a {G:Nat->Nat->Ivl×Int}{n:Nat}(hn:n<=100000)(h: ∀i j,wI (G i j).1):wM (q0f G n).1:=by refine G3w ?_ (W0x wB n 0 [] (fun i _ _=>J3j hn (h i)) (fun x hx=>by cases hx));have:=q0p (G:=fun i=>tabF (fun j=>G i j) 0 n []) n 0 [];simp at this;unfold q0f;omega
theorem H1f :wM []:=⟨by simp,fun i hi=>by simp at hi⟩
theorem q3j (k:Nat)(a b:Mx)(p:Int):wM (opM k a b p).1:=by unfold opM;split;rename_i h;have:=U0w h.1;exact Q2a (by omega) fun i j=>X0x (X0t _ _ _ _);exact H1f
theorem H1k (x:Ivl)(a:Mx)(p:Int):wM (K0w x a p).1:=by unfold K0w;split;rename_i h;have:=U0w h.1;exact Q2a (by omega) fun i j=>X0x (X0t _ _ _ _);exact H1f
theorem X2d :Q0r oneN=true:=by decide
theorem j2d (n i j:Nat)(h:j<n):(rowQ n i).getD j default=if i=j then oneN else default:=by unfold rowQ;rw[w2l _ _ _ _ _ (by simpa using h)];split;rfl;simp[q_a,h]
theorem K3k (n:Int):wQ (oneQ n):=by unfold oneQ;split;rename_i h;refine⟨by rw[q0v];omega,fun i hi=> ?_⟩;rw[q0v] at hi;have e:(oneL n.toNat).getD i []=rowQ n.toNat i:=(by simp[oneL,q_a,hi]);rw[e];refine⟨by rw[q0s];omega,fun j hj=> ?_⟩;rw[q0s] at hj;rw[j2d _ _ _ hj];split;exact U1j (J0p X2d);exact U1j (J0p j1r);exact⟨by simp,fun i hi=>by simp at hi⟩
def luQ (L U:Nat)(x:Rat):Prop:= ∃z:Int,x=qM z (-(L:Int))/\z.natAbs<=2^(L+U)
theorem luQ.up {L U U':Nat}{x:Rat}(h:luQ L U x)(hu:U<=U'):luQ L U' x:=by obtain⟨z,h1,h2⟩:=h;exact⟨z,h1,Nat.le_trans h2 (Nat.pow_le_pow_right (by omega) (by omega))⟩
theorem V3h {L U:Nat}{x y:Rat}(hx:luQ L U x)(hy:luQ L U y):luQ L (U+1) (x+y):=by obtain⟨z,h1,h2⟩:=hx;obtain⟨w,h3,h4⟩:=hy;refine⟨z+w,by rw[q1l,h1,h3],?_⟩;have:=Int.natAbs_add_le z w;rw[show L+(U+1)=(L+U)+1 from by omega,Nat.pow_succ];omega
theorem w0s (v:Vl):(X0u v).natAbs=v.m:=by unfold X0u;split<;>simp
theorem q3x {n k:Nat}{v:Vl}(h:bdV n k v):luQ k (n+k) (qV v):=by obtain⟨h1,h2,h3⟩:=h;have hm:=bitlen_le_iff.1 h1;refine⟨X0u v*2^(v.e+k).toNat,?_,?_⟩;rw[k0e];unfold qV;congr 1;omega;have e:(X0u v*2^(v.e+k).toNat).natAbs=v.m*2^(v.e+k).toNat:=(by rw[Int.natAbs_mul,Int.natAbs_pow,w0s];rfl);rw[e,show k+(n+k)=n+2*k from by omega,Nat.pow_add];exact Nat.mul_le_mul (Nat.le_of_lt hm) (Nat.pow_le_pow_right (by omega) (by omega))
theorem v2m {L U:Nat}{v:Vl}(hc:canV v)(h:luQ L U (qV v)):v.m=0\/(-(L:Int)<=v.e/\v.e+(Q0g v.m:Int)<=(U:Int)+1):=by
 rcases hc with hm | rfl;rotate_left;exact .inl rfl;refine .inr ?_;obtain⟨z,h1,h2⟩:=h;have hz:X0u v≠0:=fun e=>(by have:=w0s v;rw[e] at this;simp at this;omega);have hge: -(L:Int)<=v.e:=by
  apply Int.not_lt.1;intro hlt;obtain⟨d,hd⟩: ∃d:Nat, -(L:Int)=v.e+((d+1:Nat):Int):=⟨(-(L:Int)-v.e-1).toNat,by omega⟩;have e1:qM z (-(L:Int))=qM (z*2^(d+1)) v.e:=(by rw[k0e,hd]);have e2:X0u v=z*2^(d+1):=qM_eq.1 (h1.trans e1);have e3:v.m=z.natAbs*2^d*2:=by have:=w0s v;rw[e2,Int.natAbs_mul,Int.natAbs_pow,Nat.pow_succ] at this;rw[<-this,Nat.mul_assoc];rfl
  omega
 refine⟨hge,?_⟩;have e1:X0u v*2^(v.e+L).toNat=z:=by
  have:qM (X0u v*2^(v.e+L).toNat) (-(L:Int))=qM z (-(L:Int)):=by rw[k0e,<-h1];unfold qV;congr 1;omega
  exact qM_eq.1 this
 have e2:v.m*2^(v.e+L).toNat<=2^(L+U):=by
  have:(X0u v*2^(v.e+L).toNat).natAbs=v.m*2^(v.e+L).toNat:=by rw[Int.natAbs_mul,Int.natAbs_pow,w0s];rfl
  rw[<-this,e1];exact h2
 have e3:Q0g (v.m*2^(v.e+L).toNat)<=L+U+1:=bitlen_le_iff.2 (Nat.lt_of_le_of_lt e2 (Nat.pow_lt_pow_right (by omega) (by omega)));rw[W0d _ _ (by omega)] at e3;omega
theorem Z3p {L U:Nat}{v:Vl}(hc:canV v)(h:luQ L U (qV v)):bdV (L+U+1) (L+U+1) v:=by rcases v2m hc h with h0 | ⟨h1,h2⟩;rcases hc with hm | rfl;omega;refine⟨?_,?_,?_⟩;show Q0g 0<=_;rw[X0n];omega;show -((L+U+1:Nat):Int)<=0;omega;show(0:Int)<=((L+U+1:Nat):Int);omega;exact⟨by omega,by omega,by omega⟩
theorem y1o {L U:Nat}{v:Vl}(hc:canV v)(h:luQ L U (qV v))(hb:L+U+1<=4096):(numV v).2=0:=q1v (Z3p hc h) hb (by omega)
theorem U1u {m:Nat}(h:m≠0):2^(Q0g m-1)<=m:=by apply Nat.le_of_not_lt;intro hlt;have:=bitlen_le_iff.2 hlt;have:=q0k h;omega
theorem K3b :qN (default:Nm)=0:=W0j 0
theorem y1u {n i j:Nat}(h1:1<=n)(h4:n<=4)(hi:i<n)(hj:j<n):(idM (n:Int)).length=n/\((idM (n:Int)).getD i []).length=n/\atM (idM (n:Int)) i j=if i=j then⟨oneN,oneN⟩ else default:=by
 have e:idM (n:Int)=(List.range n).map fun i=>(List.range n).map fun j=>if i=j then⟨oneN,oneN⟩ else default:=by rw[idM,if_pos (by omega)];rfl
 rw[e];have e2:((List.range n).map fun i=>(List.range n).map fun j=>if i=j then(⟨oneN,oneN⟩:Ivl) else default).getD i []=(List.range n).map fun j=>if i=j then(⟨oneN,oneN⟩:Ivl) else default:=(by simp[q_a,hi]);refine⟨by simp,by rw[e2];simp,?_⟩;unfold atM;rw[e2];simp[q_a,hj]
end Go.Pv
end
