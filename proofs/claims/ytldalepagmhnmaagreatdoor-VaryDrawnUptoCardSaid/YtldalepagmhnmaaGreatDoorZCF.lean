/- Parts of the walk: N97. -/
import Derived.Test.YtldalepagmhnmaaGreatDoorZCD
import Derived.Test.YtldalepagmhnmaaGreatDoorZCE
set_option linter.unusedVariables false
set_option linter.unusedSimpArgs false
section
set_option maxRecDepth 100000
namespace Go.Pv
open Go.Proofs
theorem q0g (l:List (List Ivl)):(encM l).all PV.quiet=true:=by rw[q_d];intro p hp;simp only[encM,List.mem_map] at hp;obtain⟨x,_,rfl⟩:=hp;rfl
theorem G0u (l:List (List Ivl)):encM l=Z0c (fun _=> .no) l:=by unfold Z0c encM;apply List.ext_getElem;simp;intro j h1 h2;simp at h1;simp[q_a,h1]
theorem J2v (rows:List (List Ivl))(R:List PV)(i:Nat)(hi:i<rows.length)(t:Tag)(r:List Ivl):
 over (encM rows++R) i [.sl t (Q0p r)]=Z0c (fun j=>if j=i then t else .no) (rows.set i r)++R:=by
 rw[G0u,K1w _ _ _ _ hi]
theorem K1j (rows:List (List Ivl))(R:List PV)(j:Nat)(h:j<rows.length):(encM rows++R).getD j .junk= .sl .no (Q0p (rows.getD j [])):=by rw[Q0k _ _ _ _ (by rw[W0n];exact h),J0h _ _ h]
theorem V1t {tag:Nat->Tag}{rows:List (List Ivl)}{R:List PV}(ht: ∀j sz,tag j≠ .fresh sz)(hR:R.all PV.quiet=true):(Z0c tag rows++R).all PV.closed2=true:=by
 rw[List.all_append,q_i,q_d,q_d];refine⟨fun p hp=> ?_,fun p hp=>(Q1x (List.all_eq_true.1 hR p hp)).1⟩;simp only[Z0c,List.mem_map,List.mem_range] at hp;obtain⟨j,hj,rfl⟩:=hp;have:=ht j;cases h3:tag j with
 | fresh sz=>exact absurd h3 (this sz)
 | _=>rfl
theorem v1s (tag:Nat->Tag)(rows:List (List Ivl))(R:List PV):(Z0c tag rows++R).map PV.forget2=encM rows++R.map PV.forget2:=by rw[List.map_append,<-U0q tag];congr 1;unfold Z0c;simp[PV.forget1,PV.forget2]
theorem G1j {R:List PV}(h:R.all PV.quiet=true):(R.map PV.forget2).all PV.quiet=true:=by
 rw[q_d] at h⊢;intro p hp;obtain⟨x,hx,rfl⟩:=List.mem_map.1 hp;have:=h x hx;cases x with
 | agg l=>cases this
 | fn a b c=>cases this
 | _=>first | rfl | exact this
theorem j2g {O:List (List Ivl)}{R ys:List PV}{cap n by_:Nat}{id:TypeId}(hn:n=O.length)(hc:n<=cap)(hR:R.length=cap-n)(hq:R.all PV.quiet=true)(hl:n<=1000)(hby:by_<=1000):
 Y1y (encM O++R) n cap [.sl .no ys] ⟨id,1,by_,false,true,false⟩:=by
 have h1:=W0n O;refine⟨rfl,by show 0<1;decide,by show _=cap*1;rw[List.length_append,h1,hR];omega,by show n+1<=_;omega,?_,?_,by rw[List.all_append,q0g,hq];rfl,rfl⟩;show(n+1)*by_<=_;have:(n+1)*by_<=1001*1000:=Nat.mul_le_mul (by omega) hby;omega;rfl
theorem U2p (q:List Mn)(rows:List (List Ivl))(k p:Int)(cap:Nat)(R:List PV):
 LendOK [encM rows++R] [rows.length] ([]++ [.sl .no (Z0l q),.mr 0 rows.length cap,.sc (.int .i64 k),.sc (.int .i64 p)]++ [])/\
 ([]++ [PV.sl .no (Z0l q),.mr 0 rows.length cap,.sc (.int .i64 k),.sc (.int .i64 p)]++ []).map (PV.lend2 [encM rows++R])=
  [.sl .no (Z0l q),.sl .no (encM rows),.sc (.int .i64 k),.sc (.int .i64 p)]:=by
 have hcl: ∀o,o<rows.length->((encM rows++R).getD o .junk).closed1=true:=fun o ho=>by rw[K1j _ _ _ ho];rfl
 have hmap:((encM rows++R).take rows.length).map PV.forget1=encM rows:=by rw[List.take_append_of_le_length (by rw[W0n];omega),List.take_of_length_le (by rw[W0n];omega)];rw[G0u,U0q,<-G0u]
 have heq:([]++ [PV.sl .no (Z0l q),.mr 0 rows.length cap,.sc (.int .i64 k),.sc (.int .i64 p)]++ []).map (PV.lend2 [encM rows++R])=
  [.sl .no (Z0l q),.sl .no (encM rows),.sc (.int .i64 k),.sc (.int .i64 p)]:=by
  show [PV.sl .no (Z0l q),.sl .no (((encM rows++R).take rows.length).map PV.forget1),.sc (.int .i64 k),.sc (.int .i64 p)]=_;rw[hmap]
 refine⟨⟨fun j o ho=> ?_,fun a ha=> ?_,fun a ha=> ?_⟩,heq⟩
 match j,ho with
 | 0,ho=>
  have ho:o<rows.length:=ho;refine⟨?_,?_⟩;show o<(encM rows++R).length;rw[List.length_append,W0n];omega;show((encM rows++R).getD o .junk).notU=true;rw[K1j _ _ _ ho];rfl
 | j+1,ho=>exact absurd ho (Nat.not_lt_zero _)
 simp only[List.nil_append,List.cons_append,List.append_nil,List.mem_cons,List.not_mem_nil,or_false] at ha;rcases ha with rfl | rfl | rfl | rfl;exact rfl;exact⟨Nat.le_refl _,hcl⟩;exact rfl;exact rfl;have hm:=List.mem_map_of_mem (f:=PV.lend2 [encM rows++R]) ha;rw[heq] at hm;generalize a.lend2 _=z at hm;simp only[List.mem_cons,List.not_mem_nil,or_false] at hm;rcases hm with rfl | rfl | rfl | rfl;exact((V2g _ q).low 0).1;exact((w1k _ rows).low 0).1;exact k0g _ _;exact k0g _ _
theorem x2y (q:List Mn)(xs:List (List Ivl))(k p:Int):wI (W0i q xs k p).1:=by unfold W0i;split;exact y1e _;exact Y0y
set_option maxHeartbeats 4000000 in
theorem w2q (f:List (List Mn))(x:List Ivl)(order p:Int)(st:Q0f)(wf:wF f)(wx:wB x):
 PCalls Tryz.prog 135 [.sl .no (Z0t f),.sl .no (Q0p x),.sc (.int .i64 order),.sc (.int .i64 p)] st
 (fun r st'=>r= .tup [.sl .no (encM (V0y f x order p).1),.sc (.int .i64 (V0y f x order p).2)]/\st'=st):=by
 have bad: ¬(K0m f=true/\rightB x=true/\x.length=f.length/\0<=order/\order<=10/\Z0q p=true)->V0y f x order p=([],1):=fun h=>by unfold V0y;rw[if_neg h]
 refine Q0b none Tryz.func135 rfl fun E=>Q0a ?_;simp-dsimp only[go_sem];refine(J1b f st wf).mono ?_;rintro r st ⟨rfl,rfl⟩;cases hf:K0m f with
 | false=>
  rw[bad (fun h=>by rw[hf] at h;exact absurd h.1 (by decide))];simp-dsimp only[go_sem]
 | true=>
 simp-dsimp only[go_sem];refine(H0z x st wx).mono ?_;rintro r st ⟨rfl,rfl⟩;cases hx:rightB x with
 | false=>
  rw[bad (fun h=>by rw[hx] at h;exact absurd h.2.1 (by decide))];simp-dsimp only[go_sem]
 | true=>
 by_cases hl:x.length=f.length;rotate_left;have d1:((x.length:Int) !=(f.length:Int))=true:=(by simp;omega);rw[bad (fun h=>hl h.2.2.1)];simp-dsimp only[go_sem,d1];have d1:((f.length:Int) !=(f.length:Int))=false:=(by simp);by_cases h0:0<=order;rotate_left;have d2:decide (order<0)=true:=q_h (by omega);rw[bad (fun h=>h0 h.2.2.2.1)];simp-dsimp only[go_sem,d1,d2,hl];have d2:decide (order<0)=false:=q_g (by omega);by_cases h10:order<=10;rotate_left;have d3:decide (order>10)=true:=q_h (by omega);rw[bad (fun h=>h10 h.2.2.2.2.1)];simp-dsimp only[go_sem,d1,d2,d3,hl];have d3:decide (order>10)=false:=q_g (by omega);simp-dsimp only[go_sem,d1,d2,d3,hl];refine(w0k p st).mono ?_;rintro r st ⟨rfl,rfl⟩;cases hp:Z0q p with
 | false=>
  rw[bad (fun h=>by rw[hp] at h;exact absurd h.2.2.2.2.2 (by decide))];simp-dsimp only[go_sem]
 | true=>
 have hfl:V0y f x order p=Z0w f x p order.toNat:=by unfold V0y;rw[if_pos ⟨hf,hx,hl,h0,h10,hp⟩]
 rw[hfl];obtain⟨q,rfl⟩:=Int.eq_ofNat_of_zero_le h0;rw[Int.toNat_natCast];simp-dsimp only[go_sem];refine J1g ?_;refine Q1a 10 0 (by simp) (by rfl) ?_;simp-dsimp only[go_sem];have wx': ∀a∈x,wI a:=fun a ha=>by obtain⟨i,hi,rfl⟩:=List.mem_iff_getElem.1 ha;have:=wx.2 i hi;rwa [show x.getD i default=x[i] by simp[q_a,hi]] at this
 have hx':=hx;unfold rightB at hx';simp only[q_i,decide_eq_true_eq,q_d] at hx';obtain⟨⟨hxr,hx1⟩,hx4⟩:=hx';refine Q0t [true,true,true,true,false,false,false,false,false,false,true,true] 1 0
  (fun c s=> ∃(i cap:Nat) (R:List PV),c=f.length-i/\i<=f.length/\i<=cap/\R.length=cap-i/\R.all PV.quiet=true/\
   s=⟨[.sl .no (Z0t f),.sl .no (Q0p x),.sc (.int .i64 (q:Nat)),.sc (.int .i64 p),.junk,.junk,.junk,.junk,.junk,.junk,.mr 0 i cap,.sc (.int .i64 (i:Nat))]++List.replicate 110 .junk,
    [encM ((x.take i).map fun a=> [a])++R],[],st⟩) f.length ?_ ?_
 simp-dsimp only[go_sem];exact⟨0,0,[],by omega,by omega,by omega,rfl,rfl,rfl⟩;rintro c s ⟨i,cap,R,rfl,hi,r1,r2,r3,rfl⟩;have hall:(encM ((x.take i).map fun a=> [a])++R).all PV.quiet=true:=(by rw[List.all_append,q0g,r3];rfl);refine Q0h (Q0a ?_);simp-dsimp only[go_sem,hl];refine ck (fun h=> ?_) (fun h=> ?_);have hlt:i<f.length:=(by have:=q_b h;omega);have e3:IntKind.i64.wrap ((i:Int)+1)=((i+1:Nat):Int):=(by rw[Q0i _ (by omega) (by omega)];omega);have gI:=Z0h x i (by omega);simp-dsimp only[go_sem];refine Q0h (Z0p ?_);refine Z1u [false,false,false,false,false,false,false,true,false] ?_;have hxl:((x.take i).map fun a=> [a]).length=i:=(by simp;omega);have t1:(encM ((x.take i).map fun a=> [a])++R).take i=encM ((x.take i).map fun a=> [a]):=by have:=W0n ((x.take i).map fun a=> [a]);rw[hxl] at this;rw[List.take_append_of_le_length (by omega),List.take_of_length_le (by omega)]
 simp-dsimp only[go_sem,gI,Nat.mul_one,t1];refine⟨by omega,?_⟩;refine⟨j2g hxl.symm r1 r2 r3 (by omega) (by omega),?_⟩;intro c1 R1 g1 g2 g3;have hsn:encM ((x.take i).map fun a=> [a])++(flat [PV.sl .no [PV.agg [.sc (.bool (x.getD i default).lo.neg),.sc (.int .i64 (x.getD i default).lo.exp),.sl .no (encW (x.getD i default).lo.w),.sc (.bool (x.getD i default).hi.neg),.sc (.int .i64 (x.getD i default).hi.exp),.sl .no (encW (x.getD i default).hi.w)]]]++R1)=encM ((x.take (i+1)).map fun a=> [a])++R1:=by
  have e:(x.take (i+1)).map (fun a=> [a])=(x.take i).map (fun a=> [a])++ [[x.getD i default]]:=by rw[List.take_succ_eq_append_getElem (by omega),List.map_append];simp[q_a,(show i<x.length by omega)]
  rw[e];unfold encM;rw[List.map_append,List.append_assoc];rfl
 have hall2:(encM ((x.take (i+1)).map fun a=> [a])++R1).all PV.quiet=true:=by rw[List.all_append,q0g,g3];rfl
 have hlims:=K0n (a:=1) (b:=0) hall2;refine Q0a ?_;simp-dsimp only[go_sem,e3,hsn,hlims];exact⟨f.length-(i+1),by omega,i+1,c1,R1,rfl,by omega,g1,g2,g3,rfl⟩;have hge:i=f.length:=(by have:=q_c h;omega);subst hge;simp-dsimp only[go_sem];refine Q0a ?_;simp-dsimp only[go_sem];have hok:=j0o (p:=p) hl wx';have fin: ∀k,k<q->(Z0w f x p k).2=0->(Z0w f x p (k+1)).2≠0->Z0w f x p q=([],(Z0w f x p (k+1)).2):=fun k hk h0 he=>by by_cases e:k+1=q;rw[<-e];rw[Z0w,if_neg (by rw[h0];decide)] at he⊢;split;rfl;rename_i c;rw[if_neg c] at he;exact absurd rfl he;have:=j0n he (q-(k+1+1));rwa [show k+1+1+(q-(k+1+1))=q by omega] at this
 refine Q0t [true,false,true,true,false,false,false,false,false,false,true,false,true] 1 0
  (fun c s=> ∃(k cap:Nat) (R:List PV),c=q-k/\k<=q/\(Z0w f x p k).2=0/\f.length<=cap/\R.length=cap-f.length/\R.all PV.quiet=true/\
   s=⟨[.sl .no (Z0t f),.junk,.sc (.int .i64 (q:Nat)),.sc (.int .i64 p),.junk,.junk,.junk,.junk,.junk,.junk,.mr 0 f.length cap,.junk,.sc (.int .i64 (k:Nat))]++List.replicate 109 .junk,
    [encM (Z0w f x p k).1++R],[],st⟩) q ?_ ?_
 have hlims:(encM ((x.take f.length).map fun a=> [a])++R).all (PV.lim 1 0)=true:=K0n hall;simp-dsimp only[go_sem,hlims];refine⟨0,cap,R,by omega,by omega,rfl,r1,r2,r3,?_⟩;rw[List.take_of_length_le (show x.length<=f.length by omega)];rfl;rintro c s ⟨k,cap,R,rfl,hk,hz,r1,r2,r3,rfl⟩;obtain⟨hn1,hn2⟩:=hok k hz;generalize hrows:(Z0w f x p k).1=rows at*
 refine Q0h (Q0a ?_);simp-dsimp only[go_sem];refine ck (fun h=> ?_) (fun h=> ?_);have hlt:k<q:=(by have:=q_b h;omega);have e3:IntKind.i64.wrap ((k:Int)+1)=((k+1:Nat):Int):=(by rw[Q0i _ (by omega) (by omega)];omega);have wxs:wXs rows:=⟨by omega,fun i hi=>by obtain⟨a1,a2⟩:=hn2 i (by omega);exact⟨by omega,a2⟩⟩;have hq1:(encM rows++R).all PV.quiet=true:=(by rw[List.all_append,q0g,r3];rfl);have hlim1:(encM rows++R).all (PV.lim 1 1)=true:=K0n hq1;simp-dsimp only[go_sem];refine Q0h (Z0p (Q0h (Q0a ?_)));simp-dsimp only[go_sem];refine Q0v 13 6 ?_;simp-dsimp only[go_sem];refine Q0h (Q0a ?_);simp-dsimp only[go_sem];refine Q0t [true,false,true,true,false,false,false,false,false,false,true,false,true,true,true] 1 1
  (fun c s=> ∃(i:Nat) (o:List Ivl),c=f.length-i/\i<=f.length/\o.length=i/\tabF (z0i f rows k p) i (f.length-i) o=V1o f rows k p/\
   s=⟨[.sl .no (Z0t f),.junk,.sc (.int .i64 (q:Nat)),.sc (.int .i64 p),.junk,.junk,.junk,.junk,.junk,.junk,.mr 0 f.length cap,.junk,.sc (.int .i64 (k:Nat)),.sl (.own 0) (Q0p o),.sc (.int .i64 (i:Nat))]++List.replicate 107 .junk,
    [encM rows++R],[(i,6)],st⟩) f.length ?_ ?_
 simp-dsimp only[go_sem,hlim1];exact⟨0,[],by omega,by omega,rfl,rfl,rfl⟩;rintro c s ⟨i,o,rfl,hi,ho,ht,rfl⟩;refine Q0h (Q0a ?_);simp-dsimp only[go_sem];refine ck (fun h=> ?_) (fun h=> ?_);have hlt2:i<f.length:=(by have:=q_b h;omega);have e4:IntKind.i64.wrap ((i:Int)+1)=((i+1:Nat):Int):=(by rw[Q0i _ (by omega) (by omega)];omega);rw[X0c _ hlt2] at ht;have gF:=U0f f i hlt2;simp-dsimp only[go_sem];refine Q0h (Z0p (Q0h (w1y [f.length] [false,false,false,false,false,false,false,true] ?_)));simp-dsimp only[go_sem,gF];refine⟨by omega,?_⟩;have lfl:=U2p (f.getD i []) rows k p cap R;rw[hn1,hl] at lfl;refine k3s (.tup [.agg (encI (W0i (f.getD i []) rows k p).1),.sc (.int .i64 (W0i (f.getD i []) rows k p).2)]) (by simp only[go_sem]) ?_ ?_ ?_ ?_;exact lfl.1;exact Y1z _ _;have:=Z3n (f.getD i []) rows k p [] (by omega) (wf.2 i hlt2) wxs;rw[<-lfl.2] at this;exact this;simp-dsimp only[go_sem];have hsn:=K0b o (z0i f rows k p i).1;have hnx:z0i f rows k p i=if (W0i (f.getD i []) rows k p).2≠0 then(default,(W0i (f.getD i []) rows k p).2) else divI (W0i (f.getD i []) rows k p).1 (ptW (k+1)) p:=rfl;have wS:=x2y (f.getD i []) rows k p;obtain⟨pk1,pk2,_⟩:=W1n (k+1) (by omega) (by omega);generalize z0i f rows k p i=c at ht hsn hnx⊢;generalize W0i (f.getD i []) rows k p=S at hnx wS⊢;refine Q0a ?_;by_cases hS:S.2=0;have b0:(S.2==0)=true:=(by rw[hS];rfl);rw[if_neg (by rw[hS];decide)] at hnx;simp-dsimp only[go_sem,b0];refine Q0j Z0a 122 (.step 0 [] (.step 1 [] (.step 2 [] (.step 4 [] (.step 3 [0] (.step 5 [] (.step 6 [] (.step 7 [] (.step 8 [] (.step 9 [] (.step 10 [] (.done)))))))))))) (by decide+kernel) (by simp) ?_;simp-dsimp only[go_sem,e3];refine(H1a (k+1) _ (by omega)).mono ?_;rintro r st ⟨rfl,rfl⟩;simp-dsimp only[go_sem];have hop:=fun st=>w1r S.1 (ptW (k+1)) p st wS pk1 pk2;rw[<-hnx] at hop;refine(hop _).mono ?_;rintro r st ⟨rfl,rfl⟩;by_cases hc:c.2=0;have ec:(c.2 !=0)=false:=(by rw[hc];rfl);rw[if_neg (by rw[hc];decide)] at ht;simp-dsimp only[go_sem,ec,hsn];refine⟨by omega,by rw[ho],?_⟩;refine Q0a ?_;simp-dsimp only[go_sem,e4,hlim1];exact⟨f.length-(i+1),by omega,i+1,o++ [c.1],rfl,by omega,by simp[ho],ht,by rw[ho]⟩;have ec:(c.2 !=0)=true:=bne_iff_ne.2 hc;rw[if_pos hc] at ht;have hk1:(Z0w f x p (k+1)).2=c.2:=(by rw[Z0w,if_neg (by rw[hz];decide),hrows,<-ht,if_pos hc]);simp-dsimp only[go_sem,ec];rw[fin k hlt hz (by rw[hk1];exact hc),hk1];rfl;have b0:(S.2==0)=false:=beq_eq_false_iff_ne.2 hS;have b1:(S.2 !=0)=true:=bne_iff_ne.2 hS;rw[if_pos hS] at hnx;have hc:c.2≠0:=(by rw[hnx];exact hS);rw[if_pos hc] at ht;have hk1:(Z0w f x p (k+1)).2=S.2:=(by rw[Z0w,if_neg (by rw[hz];decide),hrows,<-ht,if_pos hc,hnx]);simp-dsimp only[go_sem,b0,b1];rw[fin k hlt hz (by rw[hk1];exact hS),hk1];rfl;have hge2:i=f.length:=(by have:=q_c h;omega);subst hge2;rw[J0f] at ht;have hrow:Z0w f x p (k+1)=(V0e rows o f.length,0):=(by rw[Z0w,if_neg (by rw[hz];decide),hrows,<-ht,if_neg (fun h=>h rfl)]);have hlimU: ∀(R:List PV) (i:Nat),R.all PV.quiet=true->(encM (V0e rows o i)++R).all (PV.lim 1 0)=true:=fun R i h=>K0n (by rw[List.all_append,q0g,h];rfl);simp-dsimp only[go_sem];refine X0j [false,false,false,false,false,false,false,false,false,false,false,false,false,true] (Q0a ?_);simp-dsimp only[go_sem];refine Q0t [true,false,true,true,false,false,false,false,false,false,true,false,true,true,false,false,false,true] 1 0
  (fun c s=> ∃(i:Nat) (R:List PV),c=f.length-i/\i<=f.length/\R.length=cap-f.length/\R.all PV.quiet=true/\
   s=⟨[.sl .no (Z0t f),.junk,.sc (.int .i64 (q:Nat)),.sc (.int .i64 p),.junk,.junk,.junk,.junk,.junk,.junk,.mr 0 f.length cap,.junk,.sc (.int .i64 (k:Nat)),.sl .no (Q0p o),.junk,.junk,.junk,.sc (.int .i64 (i:Nat))]++List.replicate 104 .junk,
    [encM (V0e rows o i)++R],[],st⟩) f.length ?_ ?_
 have hlim0:=hlimU R 0 r3;have hu0:V0e rows o 0=rows:=rfl;rw[hu0] at hlim0;simp-dsimp only[go_sem,hlim0];exact⟨0,R,by omega,by omega,r2,r3,rfl⟩;rintro c s ⟨i,R,rfl,hi,r2,r3,rfl⟩;refine Q0h (Q0a ?_);simp-dsimp only[go_sem];refine ck (fun h=> ?_) (fun h=> ?_);have hlt2:i<f.length:=(by have:=q_b h;omega);have e4:IntKind.i64.wrap ((i:Int)+1)=((i+1:Nat):Int):=(by rw[Q0i _ (by omega) (by omega)];omega);have gO:=Z0h o i (by omega);have hil:i<(V0e rows o i).length:=(by rw[K0q];omega);have gC:=K1j (V0e rows o i) R i hil;have gU:=z0p rows o i (by omega) i;rw[if_neg (by omega)] at gU;rw[gU] at gC;have gV:=J2v (V0e rows o i) R i hil (.own 0) (rows.getD i []++ [o.getD i default]);rw[show(V0e rows o i).set i (rows.getD i []++ [o.getD i default])=V0e rows o (i+1) from rfl] at gV;have gW:=V1t (tag:=fun j=>if j=i then Tag.own 0 else .no) (rows:=V0e rows o (i+1)) (fun j sz=>by show(if j=i then Tag.own 0 else Tag.no)≠_;split<;>simp) r3;have gX:=v1s (fun j=>if j=i then Tag.own 0 else .no) (V0e rows o (i+1)) R;have gY:=G1j r3;have gZ:(R.map PV.forget2).length=cap-f.length:=(by rw[List.length_map,r2]);have hsn:=K0b (rows.getD i []) (o.getD i default);have hrl:=(hn2 i (by omega)).1;have hlimV:=hlimU _ (i+1) gY;have hcl:i<(encM (V0e rows o i)).length+R.length:=(by rw[W0n];omega);simp-dsimp only[go_sem];refine Q0h (Z0p ?_);refine Q0j Z0a 122 (.step 0 [] (.step 1 [] (.step 2 [] (.step 3 [] (.step 4 [] (.step 5 [] (.step 6 [] (.step 8 [] (.step 9 [] (.step 10 [] (.step 11 [] (.step 12 [] (.step 7 [11] (.step 13 [] (.step 14 [] (.step 15 [] (.done))))))))))))))))) (by decide+kernel) (by simp) ?_;simp-dsimp only[go_sem,gC,gO];have hul:=K0q rows o i;refine⟨⟨by omega,hlt2⟩,by omega,⟨by omega,by omega⟩,⟨by omega,by omega⟩,⟨by omega,by omega⟩,⟨by omega,hlt2⟩,⟨by omega,by omega⟩,?_⟩;rw[hsn,gV];refine X0s 0 ?_;simp-dsimp only[go_sem,gW,gX];refine Q0a ?_;simp-dsimp only[go_sem,e4,hlimV];exact⟨f.length-(i+1),by omega,i+1,_,rfl,by omega,gZ,gY,rfl⟩;have hge2:i=f.length:=(by have:=q_c h;omega);subst hge2;have hC:V0e rows o f.length=(Z0w f x p (k+1)).1:=(by rw[hrow]);have hlimE:=hlimU R f.length r3;simp-dsimp only[go_sem];refine Q0a ?_;simp-dsimp only[go_sem,e3,hlimE];exact⟨q-(k+1),by omega,k+1,cap,R,rfl,by omega,by rw[hrow],r1,r2,r3,by rw[hC]⟩;have hge:k=q:=(by have:=q_c h;omega);subst hge;have hpos:0<f.length:=(by omega);simp-dsimp only[go_sem];refine Q0h (Q0a ?_);simp-dsimp only[go_sem];refine w1w 8 0 f.length cap (by rfl) hpos ?_;simp-dsimp only[go_sem];refine Z0r 0 ?_ (Q0a ?_);simp only[W0m];rw[G0u];exact x1k _ _ _ r3 (fun _ _=>by simp);have c1:=K1v (fun _=> .no) rows R;rw[<-G0u] at c1;rw[hn1,hl,List.drop_zero] at c1;have c0:f.length<=rows.length+R.length:=(by omega);simp-dsimp only[go_sem,c0,c1];rw[hrows,hz]
end Go.Pv
end
