/- Parts of the walk: PvBn, M96, M97, N161, N162, N163, N164, M98. -/
import Derived.Test.YtldalepagmhnmaaGreatDoorZCG
set_option linter.unusedVariables false
set_option linter.unusedSimpArgs false
section
namespace Go.Pv
def X0x (l:List (List (List Ivl))):List PV:=l.map fun c=>(.sl .no (encM c))
@[go_sem] theorem J0v (l:List (List (List Ivl))):(X0x l).length=l.length:=by simp[X0x]
@[go_sem] theorem y3n :X0x []= []:=(rfl)
@[go_sem] theorem K4q (l:List (List (List Ivl))):(X0x l).all (fun x=>x.cells.length==1)=true:=by simp[X0x,PV.cells]
@[go_sem] theorem K4r (l:List (List (List Ivl))):(X0x l).all (fun x=>(x.cells.length==1)&&x.cells.all PV.cellOK)=true:=by simp[X0x,PV.cells,PV.cellOK,Value.oneCell']
@[go_sem] theorem x3l (l:List (List (List Ivl)))(n:Nat):(X0x l).take n=X0x (l.take n):=by simp[X0x]
@[go_sem] theorem x3m (l:List (List (List Ivl)))(n:Nat):(X0x l).drop n=X0x (l.drop n):=by simp[X0x]
@[go_sem] theorem y3p (l m:List (List (List Ivl))):X0x l++X0x m=X0x (l++m):=by simp[X0x]
@[go_sem] theorem V2z (l:List (List (List Ivl)))(c:(List (List Ivl))):X0x l++ [.sl .no (encM c)]=X0x (l++ [c]):=by simp[X0x]
theorem Y0y (l:List (List (List Ivl)))(n:Nat)(h:n<l.length):(X0x l).getD n .junk= .sl .no (encM (l.getD n [])):=by simp[X0x,q_a,h]
@[go_sem] theorem y3o (l:List (List (List Ivl)))(i:Nat)(cs:List PV):(X0x l).map (PV.frz i cs)=X0x l:=by simp only[X0x,List.map_map];exact List.map_congr_left fun a _=>rfl
theorem j3o {α:Type}(d:α)(l:List α){i:Nat}(h:i<l.length):l.take (i+1)=l.take i++ [l.getD i d]:=by rw[List.take_succ_eq_append_getElem h];simp[q_a,h]
theorem Q1q (l:List (List (List Ivl))):flat (X0x l)=X0x l:=by
 unfold X0x flat
 induction l with
 | nil=>rfl
 | cons x l ih=>simp only[List.map_cons,List.flatten_cons,ih];rfl
theorem j1d (l:List (List (List Ivl))): ∀i,i<(X0x l).length->((X0x l).getD i .junk).cells.length=1:=fun i hi=>by rw[J0v] at hi;rw[Y0y l i hi];rfl
theorem Y3f {a b:Nm}(ha:Q0q a=true)(hb:Q0q b=true)(ha0:qN a≠0)(hb0:qN b≠0)(h:(strN 2 a b).2=0):Q0q (strN 2 a b).1=true/\(strN 2 a b).1.w.length≠0:=by unfold strN at h⊢;rw[if_pos ⟨ha,hb⟩] at h⊢;have hc:canV (exV 2 (ofN a) (ofN b)):=y1r 2 (W0u ha) (W0u hb);refine⟨J0i (H0r hc),fun e=> ?_⟩;have h1:=(K0z hc h).2;rw[K3l e,k3b,exQ2,K0n,K0n] at h1;rcases Rat.mul_eq_zero.1 h1.symm with h2 | h2;exact ha0 h2;exact hb0 h2
def v3n (n:Int)(m:Mn):Prop:=W0p m n=true/\m.c.w.length≠0
theorem V1d {n:Int}{i:Nat}(hi:(i:Int)<n): ∀(p acc:List Mn),(∀m∈p,v3n n m)->Y0w (p.map Mn.ks)->(G0o i p acc).2=0->
 ∃q,(G0o i p acc).1=acc++q/\q.length<=p.length/\(∀m∈q,v3n n m/\ ∃m'∈p,m.ks=decK m'.ks i)/\Y0w (q.map Mn.ks)
 | [],acc,_,_,_=>⟨[],by simp[G0o],Nat.le_refl _,(fun m hm=>by cases hm),List.Pairwise.nil⟩
 | m::r,acc,hg,hf,h=>by
  obtain⟨f1,f2⟩:=List.pairwise_cons.1 hf;have ih:=fun acc=>V1d hi r acc (fun m hm=>hg m (List.mem_cons_of_mem _ hm)) f2;rw[G0o] at h⊢;by_cases c:m.ks.getD i 0=0;rw[if_pos c] at h⊢;obtain⟨q,q1,q2,q3,q4⟩:=ih acc h;refine⟨q,q1,by simp only[List.length_cons];omega,fun x hx=> ?_,q4⟩;obtain⟨z1,m',z2,z3⟩:=q3 x hx;exact⟨z1,m',List.mem_cons_of_mem _ z2,z3⟩;rw[if_neg c] at h⊢;obtain⟨g1,g2⟩:=hg m (List.mem_cons_self ..);obtain⟨k1,k2,k3⟩:=(G0e _ _).1 g1;have hil:i<m.ks.length:=(by omega);have hat:=X0n k2 i hil;obtain⟨i1,i2⟩:=Z2u (k:=(m.ks.getD i 0).toNat) (by omega);have hi0:qN (intN (m.ks.getD i 0).toNat)≠0:=by rw[<-K0n,i2,z0n];simp only[Bool.false_eq_true,if_false];intro e;have e2:qM (((m.ks.getD i 0).toNat:Nat):Int) 0=(((m.ks.getD i 0).toNat:Nat):Rat):=(by unfold qM;rw[J1y,Rat.mul_one];rfl);rw[e2] at e;have:(m.ks.getD i 0).toNat=0:=(by exact_mod_cast e);omega
  by_cases d:(strN 2 m.c (intN (m.ks.getD i 0).toNat)).2=0;rw[if_neg (by rw[d];decide)] at h⊢;obtain⟨s1,s2⟩:=Y3f k3 i1 (k3c k3 g2) hi0 d;obtain⟨q,q1,q2,q3,q4⟩:=ih _ h;refine⟨⟨(strN 2 m.c (intN (m.ks.getD i 0).toNat)).1,decK m.ks i⟩::q,by rw[q1,List.append_assoc];rfl,by simp only[List.length_cons];omega,fun x hx=> ?_,?_⟩;rcases List.mem_cons.1 hx with rfl | hx;exact⟨⟨(G0e _ _).2 ⟨by show((decK m.ks i).length:Int)=n;rw[V0l];exact k1,W1x k2 hil c,s1⟩,s2⟩,m,List.mem_cons_self ..,rfl⟩;obtain⟨z1,m',z2,z3⟩:=q3 x hx;exact⟨z1,m',List.mem_cons_of_mem _ z2,z3⟩;refine List.pairwise_cons.2 ⟨fun ks hks=> ?_,q4⟩;obtain⟨x,hx,rfl⟩:=List.mem_map.1 hks;obtain⟨_,m',z2,z3⟩:=q3 x hx;rw[z3];show ordK (decK m.ks i) (decK m'.ks i)=1;rw[G1f];exact f1 _ (List.mem_map.2 ⟨m',z2,rfl⟩);rw[if_pos d] at h;exact absurd h d
theorem y1d {p:List Mn}{i n:Int}(h:(W0z p i n).2=0):X0a (W0z p i n).1 n=true:=by unfold W0z at h⊢;by_cases c:X0a p n=true/\0<=i/\i<n;rotate_left;rw[if_neg c] at h;cases h;rw[if_pos c] at h⊢;obtain⟨c1,c2,c3⟩:=c;obtain⟨l1,l2⟩:=(Z0v p n).1 c1;obtain⟨q,q1,q2,q3,q4⟩:=V1d (n:=n) (i:=i.toNat) (by omega) p [] (fun m hm=>by obtain⟨j,hj,e⟩:=List.mem_iff_getElem.1 hm;have:=(V0s _ _ _).1 (l2 j hj);rw[show p.getD j default=m by simp[q_a,hj,e]] at this;exact⟨this.1,this.2.1⟩) (x0a c1) h;rw[q1,List.nil_append];refine(Z0v _ _).2 ⟨⟨l1.1,l1.2.1,by omega⟩,fun j hj=> ?_⟩;have hm: ∀j,j<q.length->q.getD j default∈q:=fun j hj=>(by rw[show q.getD j default=q[j] by simp[q_a,hj]];exact List.getElem_mem hj);obtain⟨⟨g1,g2⟩,_⟩:=q3 _ (hm j hj);refine(V0s _ _ _).2 ⟨g1,g2,?_⟩;by_cases e:j=0;exact .inl e;refine .inr ?_;have:=List.pairwise_iff_getElem.1 q4 (j-1) j (by simp;omega) (by simpa using hj) (by omega);simpa[q_a,hj,(by omega:j-1<q.length)] using this
def okJ (n:Nat)(jac:List (List (List Mn))):Prop:=jac.length=n/\ ∀i,i<n->(jac.getD i []).length=n/\ ∀l,l<n->X0a ((jac.getD i []).getD l []) n=true
theorem w1l {f:List (List Mn)}(h:(jacF f).2=0):okJ f.length (jacF f).1:=by unfold jacF at h⊢;by_cases c:K0m f=true;rotate_left;rw[if_neg c] at h;cases h;rw[if_pos c] at h⊢;obtain⟨a1,a2,a3⟩:=J0t h;refine⟨a1,fun i hi=> ?_⟩;have e1:(tabF (fun i=>tabF (fun j=>jacG f i j) 0 f.length []) 0 f.length []).1.getD i []=(tabF (fun j=>jacG f i j) 0 f.length []).1:=a3 i hi;have h2:=a2 i hi;obtain⟨b1,b2,b3⟩:=J0t h2;rw[e1];refine⟨b1,fun l hl=> ?_⟩;have e2:(tabF (fun j=>jacG f i j) 0 f.length []).1.getD l []=(jacG f i l).1:=b3 l hl;rw[e2];exact y1d (b2 l hl)
def e02 (e:Int):Prop:=e=0\/e=2
theorem X2d (lo hi:Vl):e02 (U0j lo hi).2:=by unfold U0j e02;split<;>simp
theorem Y1x {k:Nat}{a b:Ivl}{p:Int}(ha:Q0p a=true)(hb:Q0p b=true)(hp:Z0p p=true):e02 (opI k a b p).2:=by unfold opI;rw[if_pos ⟨ha,hb,hp⟩];exact X2d _ _
theorem H3i {a:Ivl}{c:Nm}{p:Int}(ha:Q0p a=true)(hp:Z0p p=true):e02 (divI a c p).2:=by unfold divI;rw[if_pos ⟨ha,hp⟩];exact X2d _ _
theorem G1y {β:Type}{G:Nat->β×Int} : ∀(k i:Nat) (acc:List β),(∀j,i<=j->j<i+k->e02 (G j).2)->e02 (tabF G i k acc).2
 | 0,i,acc,_=> .inl rfl
 | k+1,i,acc,h=>by simp only[tabF];split;exact h i (by omega) (by omega);exact G1y k _ _ fun j h1 h2=>h j (by omega) (by omega)
theorem Q2m {β:Type}{G:Nat->β×Int} : ∀(k i:Nat) (acc:List β),(tabF G i k acc).2≠0->(tabF G i k acc).1= []
 | 0,i,acc,h=>absurd rfl h
 | k+1,i,acc,h=>by simp only[tabF] at h⊢;split;rfl;rename_i c;rw[if_neg c] at h;exact Q2m k _ _ h
theorem v0h {p:Int} : ∀(l:List (Ivl×Ivl)) (sm:Bool) (s:Ivl),Q0p s=true->Q0p (z0t p l sm s).1=true
 | [],sm,s,h=>h
 | x::l,sm,s,h=>by rw[U0v];split;split;split;exact v0h l _ _ (X0q _ _ _ _);rfl;exact v0h l _ _ (X0q _ _ _ _);rfl
theorem V1b {p:Int}(hp:Z0p p=true): ∀(l:List (Ivl×Ivl)) (sm:Bool) (s:Ivl),Q0p s=true->(∀x∈l,Q0p x.1=true/\Q0p x.2=true)->e02 (z0t p l sm s).2
 | [],sm,s,_,_=> .inl rfl
 | x::l,sm,s,h,hl=>by obtain⟨x1,x2⟩:=hl x (List.mem_cons_self ..);have hl':=fun y hy=>hl y (List.mem_cons_of_mem _ hy);rw[U0v];split;split;split;exact V1b hp l _ _ (X0q _ _ _ _) hl';exact Y1x h (X0q _ _ _ _) hp;exact V1b hp l _ _ (X0q _ _ _ _) hl';exact Y1x x1 x2 hp
theorem y1g (a b:List Ivl)(k:Nat)(p:Int):Q0p (V0p a b k p).1=true:=by unfold V0p;split;exact v0h _ _ _ rfl;rfl
theorem x2l {a b:List Ivl}{k:Nat}{p:Int}(hp:Z0p p=true)(ha:K0k a k=true)(hb:K0k b k=true):e02 (V0p a b k p).2:=by unfold V0p;rw[if_pos ⟨hp,ha,hb⟩];refine V1b hp _ _ _ rfl fun x hx=> ?_;unfold z0s at hx;obtain⟨i,hi,rfl⟩:=List.mem_map.1 hx;have hi:=List.mem_range.1 hi;exact⟨w0w ha (by omega),w0w hb (by omega)⟩
theorem K1o {a:List Ivl}{k j:Nat}(h:K0k a k=true)(hj:j<=k):K0k a j=true:=U0i (by have:=x1d h;omega) fun i hi=>w0w h (by omega)
theorem x2j {a b:List Ivl}{k:Nat}{p:Int}(hp:Z0p p=true)(ha:K0k a k=true)(hb:K0k b k=true):e02 (Y0p a b k p).2:=
 G1y _ _ _ fun j _ hj=>x2l hp (K1o ha (by omega)) (K1o hb (by omega))
theorem v2g {a b:List Ivl}{k:Nat}{p:Int}(h:(Y0p a b k p).2=0):K0k (Y0p a b k p).1 k=true:=by obtain⟨h1,h2,h3⟩:=J0t h;refine U0i (by show k<(tabF _ _ _ _).1.length;omega) fun j hj=> ?_;show Q0p ((tabF (fun j=>V0p a b j p) 0 (k+1) []).1.getD j default)=true;rw[h3 j (by omega)];exact y1g _ _ _ _
theorem z1k {s x:List Ivl}{k:Nat}{p:Int}(hp:Z0p p=true)(hs:K0k s k=true)(hx:K0k x k=true): ∀n,e02 (V0a s x k p n).2/\((V0a s x k p n).2=0->K0k (V0a s x k p n).1 k=true)
 | 0=>⟨.inl rfl,fun _=>hs⟩
 | n+1=>by obtain⟨h1,h2⟩:=z1k hp hs hx n;rw[V0a];by_cases c:(V0a s x k p n).2=0;rw[if_neg (by rw[c];decide)];exact⟨x2j hp (h2 c) hx,v2g⟩;rw[if_pos c];exact⟨h1,fun h=>absurd h c⟩
theorem U3j {c:Nm}(hc:Q0q c=true)(k:Nat):K0k (numS c k) k=true:=by
 refine U0i (by simp[numS]) fun j hj=> ?_;cases j with
 | zero=>exact q0z hc
 | succ j=>
  have:(numS c k).getD (j+1) default=default:=by show(List.replicate k (default:Ivl)).getD j default=default;simp[q_a,(by omega:j<k)]
  rw[this];rfl
theorem z1i {m:Mn}{xs:List (List Ivl)}{k:Nat}{p:Int}(hp:Z0p p=true)(hm:Q0q m.c=true)(hx: ∀i,i<xs.length->K0k (xs.getD i []) k=true): ∀i,i<=xs.length->e02 (X0v m xs k p i).2/\((X0v m xs k p i).2=0->K0k (X0v m xs k p i).1 k=true)
 | 0,_=>⟨.inl rfl,fun _=>U3j hm k⟩
 | i+1,hi=>by obtain⟨h1,h2⟩:=z1i hp hm hx i (by omega);rw[X0v];by_cases c:(X0v m xs k p i).2=0;rw[if_neg (by rw[c];decide)];exact z1k hp (h2 c) (hx i (by omega)) _;rw[if_pos c];exact⟨h1,fun h=>absurd h c⟩
theorem z1o (q:List Mn)(xs:List (List Ivl))(k:Nat)(p:Int): ∀i,Q0p (ofS q xs k p i).1=true
 | 0=>rfl
 | i+1=>by rw[ofS];split;rfl;split;rfl;exact X0q _ _ _ _
theorem J1c (q:List Mn)(xs:List (List Ivl))(k p:Int):Q0p (U0a q xs k p).1=true:=by unfold U0a;split;exact z1o _ _ _ _ _;rfl
theorem H2e {q:List Mn}{xs:List (List Ivl)}{k:Nat}{p:Int}(hp:Z0p p=true)(hq: ∀i,i<q.length->Q0q (q.getD i default).c=true)(hx: ∀i,i<xs.length->K0k (xs.getD i []) k=true): ∀i,i<=q.length->e02 (ofS q xs k p i).2
 | 0,_=> .inl rfl
 | i+1,hi=>by have ih:=H2e hp hq hx i (by omega);obtain⟨h1,h2⟩:=z1i hp (hq i (by omega)) hx xs.length (Nat.le_refl _);rw[ofS];by_cases c:(ofS q xs k p i).2=0;rw[if_neg (by rw[c];decide)];by_cases d:(X0v (q.getD i default) xs k p xs.length).2=0;rw[if_neg (by rw[d];decide)];exact Y1x (z1o _ _ _ _ _) (w0w (h2 d) (Nat.le_refl _)) hp;rw[if_pos d];exact h1;rw[if_pos c];exact ih
theorem U2m {q:List Mn}{xs:List (List Ivl)}{k:Nat}{p:Int}(hp:Z0p p=true)(hk:k<=10)(hq:X0a q xs.length=true)(hx: ∀i,i<xs.length->K0k (xs.getD i []) k=true):e02 (U0a q xs k p).2:=by unfold U0a;split;rw[Int.toNat_natCast];exact H2e hp (fun i hi=>(V0c hq hi).2.2) hx _ (Nat.le_refl _);rename_i c;refine absurd ⟨?_,hq,?_⟩ c;unfold Z1d;rw[hp];simp;omega;rw[Int.toNat_natCast];exact all_hasUp.2 hx
theorem U1c {a:Ivl}{c:Nm}{p:Int}(hc:c.neg=false)(h0:0<valW c.w)(hq:0<qN c):Q0p (divI a c p).1=true:=by by_cases h:(divI a c p).2=0;obtain⟨h1,h2⟩:=j1n h;have hle:=q0d h1;rw[K0n,K0n] at hle;have hm:=H1a hc h0 h (X:=qN a.lo/qN c) (by rw[Rat.div_mul_cancel (by grind)];exact⟨Rat.le_refl,hle⟩);have r:Q0q (divI a c p).1.lo=true/\Q0q (divI a c p).1.hi=true:=(by unfold divI U0j;split;split;exact⟨J0i (H0r (X0t (H0g _ _ _) _ _)),J0i (H0r (X0t (H0g _ _ _) _ _))⟩;exact⟨rfl,rfl⟩;exact⟨rfl,rfl⟩);exact x0c r.1 r.2 (cmpN_le.2 (Rat.le_trans hm.1 hm.2));have:(divI a c p).1=default:=(by unfold divI at h⊢;split;rename_i c1;rw[if_pos c1] at h;unfold U0j at h⊢;split;rename_i c2;rw[if_pos c2] at h;exact absurd rfl h;rfl;rfl);rw[this];rfl
def K0y (jac:List (List (List Mn)))(xs:List (List Ivl))(p:Int)(i l q:Nat):Ivl×Int:=U0a ((jac.getD i []).getD l []) xs q p
def slB (jac:List (List (List Mn)))(xs:List (List Ivl))(p:Int)(n q:Nat):Bool:=(List.range n).all fun i=>(List.range n).all fun l=>decide ((K0y jac xs p i l q).2=0)
theorem slB_iff {jac:List (List (List Mn))}{xs:List (List Ivl)}{p:Int}{n q:Nat} :slB jac xs p n q=true<-> ∀i,i<n-> ∀l,l<n->(K0y jac xs p i l q).2=0:=by unfold slB;simp only[q_d,List.mem_range,decide_eq_true_eq]
def varX (D:Nat->Nat->Ivl)(k t:Nat):Ivl:=D (t/(k+1)) (t % (k+1))
def varY (ms:List Mx)(j k t:Nat):Ivl:=atM (ms.getD (k-t % (k+1)) []) (t/(k+1)) j
def rowD (jac:List (List (List Mn)))(xs:List (List Ivl))(p:Int)(i:Nat)(l q:Nat):Ivl:=(K0y jac xs p i l q).1
def entV (D:Nat->Nat->Ivl)(p:Int)(n:Nat)(ms:List Mx)(j k:Nat):Ivl×Int:=
 if (dotF (varX D k) (varY ms j k) p (n*(k+1))).2≠0 then(default,(dotF (varX D k) (varY ms j k) p (n*(k+1))).2) else divI (dotF (varX D k) (varY ms j k) p (n*(k+1))).1 (ptW (k+1)) p
def matV (jac:List (List (List Mn)))(xs:List (List Ivl))(p:Int)(n:Nat)(ms:List Mx)(k:Nat):Mx×Int:=j0x (fun i j=>entV (rowD jac xs p i) p n ms j k) n
def varN (jac:List (List (List Mn)))(xs:List (List Ivl))(p:Int)(n:Nat):Nat->List Mx×Int
 | 0=>([idM n],0)
 | k+1=>if (varN jac xs p n k).2≠0 then([],(varN jac xs p n k).2) else if slB jac xs p n k=false then([],2) else
  if (matV jac xs p n (varN jac xs p n k).1 k).2≠0 then([],(matV jac xs p n (varN jac xs p n k).1 k).2) else((varN jac xs p n k).1++ [(matV jac xs p n (varN jac xs p n k).1 k).1],0)
def U0f (f:List (List Mn))(x:List Ivl)(order p:Int):List Mx×Int:=
 if (W0s f x order p).2≠0 then([],(W0s f x order p).2) else if (jacF f).2≠0 then([],(jacF f).2) else varN (jacF f).1 (W0s f x order p).1 p f.length order.toNat
theorem X1r {jac:List (List (List Mn))}{xs:List (List Ivl)}{p:Int}{n k:Nat}(h:(varN jac xs p n k).2≠0): ∀d,varN jac xs p n (k+1+d)=([],(varN jac xs p n k).2)
 | 0=>by rw[Nat.add_zero,varN,if_pos h]
 | d+1=>by rw[<-Nat.add_assoc,varN,if_pos (by rw[X1r h d];exact h),X1r h d]
theorem K1t {G:Nat->Nat->Ivl×Int}{n:Nat}(h:(j0x G n).2=0):(j0x G n).1.length=n/\ ∀i,i<n->((j0x G n).1.getD i []).length=n/\ ∀j,j<n->(G i j).2=0/\atM (j0x G n).1 i j=(G i j).1:=by obtain⟨a1,a2,a3⟩:=J0t h;refine⟨a1,fun i hi=> ?_⟩;have e:(j0x G n).1.getD i []=(tabF (fun j=>G i j) 0 n []).1:=a3 i hi;obtain⟨b1,b2,b3⟩:=J0t (a2 i hi);rw[e];refine⟨b1,fun j hj=>⟨b2 j hj,?_⟩⟩;unfold atM;rw[e];exact b3 j hj
def allI (ms:List Mx):Prop:= ∀m∈ms,∀r∈m,∀x∈r,Q0p x=true
theorem y1z {ms:List Mx}(h:allI ms)(m l j:Nat):Q0p (atM (ms.getD m []) l j)=true:=by unfold atM;by_cases h1:m<ms.length;rw[show ms.getD m []=ms[m] by simp[q_a,h1]];by_cases h2:l<ms[m].length;rw[show ms[m].getD l []=ms[m][l] by simp[q_a,h2]];by_cases h3:j<ms[m][l].length;rw[show ms[m][l].getD j default=ms[m][l][j] by simp[q_a,h3]];exact h _ (List.getElem_mem h1) _ (List.getElem_mem h2) _ (List.getElem_mem h3);rw[show ms[m][l].getD j default=default by simp[q_a,List.getElem?_eq_none (Nat.le_of_not_lt h3)]];rfl;rw[show ms[m].getD l []= [] by simp[q_a,List.getElem?_eq_none (Nat.le_of_not_lt h2)]];rfl;rw[show ms.getD m []= [] by simp[q_a,List.getElem?_eq_none (Nat.le_of_not_lt h1)]];rfl
theorem G1z (x y:Nat->Ivl)(p:Int): ∀n,Q0p (dotF x y p n).1=true
 | 0=>rfl
 | n+1=>by rw[dotF];split;rfl;split;rfl;split;exact X0q _ _ _ _;split;rfl;exact X0q _ _ _ _
theorem x2k {x y:Nat->Ivl}{p:Int}(hp:Z0p p=true)(hx: ∀t,Q0p (x t)=true)(hy: ∀t,Q0p (y t)=true): ∀n,e02 (dotF x y p n).2
 | 0=> .inl rfl
 | n+1=>by have ih:=x2k hp hx hy n;have h2:=Y1x (k:=2) (hx n) (hy n) hp;rw[dotF];split;exact ih;split;exact h2;split;exact h2;split;exact Y1x (G1z _ _ _ _) (X0q _ _ _ _) hp;exact Y1x (G1z _ _ _ _) (X0q _ _ _ _) hp
theorem V2x (D:Nat->Nat->Ivl)(p:Int)(n:Nat)(ms:List Mx)(j:Nat){k:Nat}(hk:k<=10):Q0p (entV D p n ms j k).1=true:=by unfold entV;split;rfl;obtain⟨p1,p2,p3,_⟩:=z1e (k+1) (by omega) (by omega);refine U1c ?_ p3 p2;have: ∀n,n<12->(ptW n).neg=false:=(by decide+kernel);exact this _ (by omega)
theorem X3d {D:Nat->Nat->Ivl}{p:Int}{n:Nat}{ms:List Mx}{j k:Nat}(hp:Z0p p=true)(hD: ∀l q,Q0p (D l q)=true)(hm:allI ms):e02 (entV D p n ms j k).2:=by unfold entV;split;exact x2k hp (fun t=>hD _ _) (fun t=>y1z hm _ _ _) _;exact H3i (G1z _ _ _ _) hp
theorem V2t {G:Nat->Nat->Ivl×Int}{n:Nat}(h: ∀i j,Q0p (G i j).1=true): ∀r∈(j0x G n).1,∀x∈r,Q0p x=true:=
 H0b (fun r:List Ivl=> ∀x∈r,Q0p x=true) n 0 [] (fun i _ _=>H0b (fun x=>Q0p x=true) n 0 [] (fun j _ _=>h i j) (fun x hx=>by cases hx)) (fun x hx=>by cases hx)
theorem X3c {G:Nat->Nat->Ivl×Int}{n:Nat}(h: ∀i j,e02 (G i j).2):e02 (j0x G n).2:=G1y _ _ _ fun i _ _=>G1y _ _ _ fun j _ _=>h i j
theorem Z3b (n:Int): ∀r∈idM n,∀x∈r,Q0p x=true:=fun r hr x hx=>by unfold idM at hr;split at hr;obtain⟨i,_,rfl⟩:=List.mem_map.1 hr;obtain⟨j,_,rfl⟩:=List.mem_map.1 hx;split<;>rfl;cases hr
theorem k1s {jac:List (List (List Mn))}{xs:List (List Ivl)}{p:Int}{n:Nat}(hp:Z0p p=true): ∀k,k<=10->e02 (varN jac xs p n k).2/\allI (varN jac xs p n k).1
 | 0,_=>⟨.inl rfl,fun m hm=>by rw[List.mem_singleton.1 hm];exact Z3b _⟩
 | k+1,hk=>by obtain⟨h1,h2⟩:=k1s (jac:=jac) (xs:=xs) (n:=n) hp k (by omega);have h3:e02 (matV jac xs p n (varN jac xs p n k).1 k).2:=X3c fun i j=>X3d hp (fun l q=>J1c _ _ _ _) h2;have nilI:allI []:=fun m hm=>(by cases hm);rw[varN];split;exact⟨h1,nilI⟩;split;exact⟨.inr rfl,nilI⟩;split;exact⟨h3,nilI⟩;refine⟨.inl rfl,fun m hm=> ?_⟩;rcases List.mem_append.1 hm with hm | hm;exact h2 m hm;rw[List.mem_singleton.1 hm];exact V2t fun i j=>V2x _ _ _ _ _ (by omega)
theorem v0q {jac:List (List (List Mn))}{xs:List (List Ivl)}{p:Int}{n:Nat} : ∀k,(varN jac xs p n k).2=0->(varN jac xs p n k).1.length=k+1/\ ∀m,m<=k->((varN jac xs p n k).1.getD m [])=if m=0 then idM n else(matV jac xs p n (varN jac xs p n (m-1)).1 (m-1)).1
 | 0,_=>⟨rfl,fun m hm=>by rw[Nat.le_zero.1 hm];rfl⟩
 | k+1,h=>by
  have c:(varN jac xs p n k).2=0:=Classical.byContradiction fun c=>by rw[varN,if_pos c] at h;exact c h
  obtain⟨h1,h2⟩:=v0q k c;rw[varN,if_neg (by rw[c];decide)] at h⊢;by_cases d:slB jac xs p n k=false;rw[if_pos d] at h;cases h;rw[if_neg d] at h⊢;by_cases e:(matV jac xs p n (varN jac xs p n k).1 k).2=0;rw[if_neg (by rw[e];decide)];refine⟨by simp[h1],fun m hm=> ?_⟩;by_cases hmk:m<=k;show((varN jac xs p n k).1++_).getD m []=_;rw[Q0g _ _ _ _ (by omega)];exact h2 m hmk;obtain rfl:m=k+1:=(by omega);show((varN jac xs p n k).1++_).getD (k+1) []=_;rw[Q0k _ _ _ _ (by omega),h1,Nat.sub_self,if_neg (by omega)];rfl;rw[if_pos e] at h;exact absurd h e
theorem j1l {x y:Nat->Ivl}{p:Int}{t:Nat}(h:(dotF x y p t).2=0):dotF x y p (t+1)=if (opI 2 (x t) (y t) p).2≠0 then(default,(opI 2 (x t) (y t) p).2) else if t=0 then opI 2 (x t) (y t) p else opI 0 (dotF x y p t).1 (opI 2 (x t) (y t) p).1 p:=by rw[dotF,if_neg (by rw[h];decide)];split;rfl;split;rfl;split;rename_i c;exact Prod.ext (G1g 0 _ _ _ c).symm rfl;rfl
theorem x2p {x y:Nat->Ivl}{p:Int} : ∀t,(dotF x y p t).2≠0->(dotF x y p t).1=default
 | 0,h=>absurd rfl h
 | t+1,h=>by by_cases c:(dotF x y p t).2=0;rw[j1l c] at h⊢;split;rfl;rename_i d;rw[if_neg d] at h;split;rename_i e;rw[if_pos e] at h;exact G1g _ _ _ _ h;rename_i e;rw[if_neg e] at h;exact G1g _ _ _ _ h;rw[dotF,if_pos c]
theorem Q1w {x y:Nat->Ivl}{p:Int}{t:Nat}(h:(dotF x y p t).2≠0): ∀d,dotF x y p (t+d)=(default,(dotF x y p t).2)
 | 0=>Prod.ext (x2p t h) rfl
 | d+1=>by rw[<-Nat.add_assoc,dotF,if_pos (by rw[Q1w h d];exact h),Q1w h d]
theorem W3q (D:Nat->Nat->Ivl)(k l:Nat){q:Nat}(hq:q<=k):varX D k (l*(k+1)+q)=D l q:=by unfold varX;rw[Nat.mul_comm l,Nat.mul_add_div (by omega),Nat.mul_add_mod,Nat.div_eq_of_lt (by omega),Nat.mod_eq_of_lt (by omega),Nat.add_zero]
theorem W3p (ms:List Mx)(j k l:Nat){q:Nat}(hq:q<=k):varY ms j k (l*(k+1)+q)=atM (ms.getD (k-q) []) l j:=by unfold varY;rw[Nat.mul_comm l,Nat.mul_add_div (by omega),Nat.mul_add_mod,Nat.div_eq_of_lt (by omega),Nat.mod_eq_of_lt (by omega),Nat.add_zero]
def okC (l:List Mx):Bool:=l.all fun m=>K0u m&&decide (m.length=(l.getD 0 []).length)
def V0v (l:List Mx)(h:Ivl)(p:Int):Nat->Mx×Int
 | 0=>(l.getD (l.length-1) [],0)
 | i+1=>if (V0v l h p i).2≠0 then([],(V0v l h p i).2) else
  if (H0a h (V0v l h p i).1 p).2≠0 then([],(H0a h (V0v l h p i).1 p).2) else opM 0 (H0a h (V0v l h p i).1 p).1 (l.getD (l.length-2-i) []) p
def v1a (l:List Mx)(h:Ivl)(p:Int):Mx×Int:=
 if 1<=l.length/\l.length<=11/\Q0p h=true/\Z0p p=true/\okC l=true then V0v l h p (l.length-1) else([],1)
theorem okC_iff {l:List Mx} :okC l=true<-> ∀i,i<l.length->K0u (l.getD i [])=true/\(l.getD i []).length=(l.getD 0 []).length:=by unfold okC;simp only[q_d,q_i,decide_eq_true_eq];constructor;intro h i hi;exact h _ (by rw[show l.getD i []=l[i] by simp[q_a,hi]];exact List.getElem_mem hi);intro h m hm;obtain⟨i,hi,e⟩:=List.mem_iff_getElem.1 hm;have:=h i hi;rw[show l.getD i []=m by simp[q_a,hi,e]] at this;exact this
theorem y0t {l:List Mx}{h:Ivl}{p:Int}{k:Nat}(he:(V0v l h p k).2≠0): ∀d,V0v l h p (k+1+d)=([],(V0v l h p k).2)
 | 0=>by rw[Nat.add_zero,V0v,if_pos he]
 | d+1=>by rw[<-Nat.add_assoc,V0v,if_pos (by rw[y0t he d];exact he),y0t he d]
set_option maxRecDepth 100000
open Go.Proofs
def wCs (l:List Mx):Prop:=l.length<=100000000000/\ ∀i,i<l.length->wM (l.getD i [])
theorem v2j {l:List Mx}{h:Ivl}{p:Int}(hl:wCs l)(h1:1<=l.length): ∀i,wM (V0v l h p i).1
 | 0=>hl.2 _ (by omega)
 | i+1=>by rw[V0v];split;exact Q2e;split;exact Q2e;exact k3n _ _ _ _
theorem H0y {l:List Mx}{h:Ivl}{p:Int}(hh: ¬(1<=l.length/\l.length<=11/\Q0p h=true/\Z0p p=true/\okC l=true)):v1a l h p=([],1):=by unfold v1a;rw[if_neg hh]
theorem K3s {l:List Mx}{i:Nat}(hi:i<l.length)(h: ¬(K0u (l.getD i [])=true/\(l.getD i []).length=(l.getD 0 []).length)):okC l=false:=Bool.eq_false_iff.2 fun e=>h (okC_iff.1 e i hi)
theorem Y2u {l:List Mx}{h:Ivl}{p:Int}{i:Nat}(hi:i<l.length-1)(h0:(V0v l h p i).2=0)(he:(V0v l h p (i+1)).2≠0)(hd:(V0v l h p (i+1)).1= []):V0v l h p (l.length-1)=([],(V0v l h p (i+1)).2):=by by_cases e:i+1=l.length-1;rw[<-e];exact Prod.ext hd rfl;have:=y0t he (l.length-1-(i+2));rwa [show i+1+1+(l.length-1-(i+2))=l.length-1 by omega] at this
theorem Y3z {k:Nat}{a b:Mx}{p:Int}(h:(opM k a b p).2≠0):(opM k a b p).1= []:=by unfold opM at h⊢;split;rename_i c;rw[if_pos c] at h;exact Q2m _ _ _ h;rfl
set_option maxHeartbeats 4000000 in
theorem j3s (l:List Mx)(h:Ivl)(p:Int)(st:Q0f)(wl:wCs l)(wh:wI h):
 PCalls Tryz.prog 60 [.sl .no (X0x l),.agg (encI h),.sc (.int .i64 p)] st
 (fun r st'=>r= .tup [.sl .no (encM (v1a l h p).1),.sc (.int .i64 (v1a l h p).2)]/\st'=st):=by
 refine Q0b none Tryz.func60 rfl fun E=>Q0a ?_;by_cases c1:1<=l.length;rotate_left;have d1:decide ((l.length:Int)<1)=true:=q_h (by omega);rw[H0y (fun hh=>c1 hh.1)];simp-dsimp only[go_sem,d1];have d1:decide ((l.length:Int)<1)=false:=q_g (by omega);by_cases c2:l.length<=11;rotate_left;have d2:decide ((l.length:Int)>11)=true:=q_h (by omega);rw[H0y (fun hh=>c2 hh.2.1)];simp-dsimp only[go_sem,d1,d2];have d2:decide ((l.length:Int)>11)=false:=q_g (by omega);simp-dsimp only[go_sem,d1,d2];refine(Y0v h _ wh).mono ?_;rintro r st ⟨rfl,rfl⟩;cases hr:Q0p h with
 | false=>
  rw[H0y (fun hh=>by rw[hr] at hh;exact absurd hh.2.2.1 (by decide))];simp-dsimp only[go_sem]
 | true=>
 simp-dsimp only[go_sem];refine(U0p p _).mono ?_;rintro r st ⟨rfl,rfl⟩;cases hp:Z0p p with
 | false=>
  rw[H0y (fun hh=>by rw[hp] at hh;exact absurd hh.2.2.2.1 (by decide))];simp-dsimp only[go_sem]
 | true=>
 simp-dsimp only[go_sem];refine Q0d [true,false,true,false,true,false,false,false,false,false,false,false,false,false,false,false,false,false,false,false,false,false,false,false,false,false,false,false,false,false,false,false,false,false,false,false,false,false,false,true,true,true] 1 0
  (fun c s'=> ∃i,c=l.length-i/\i<=l.length/\(∀j,j<i->K0u (l.getD j [])=true/\(l.getD j []).length=(l.getD 0 []).length)/\
   s'=⟨[.sl .no (X0x l),.junk,.sc (.int .i64 p),.junk,.lp 0 0]++List.replicate 34 .junk++ [.sl .no (X0x l),.sc (.int .i64 (l.length:Nat)),.sc (.int .i64 (i:Nat))]++List.replicate 82 .junk,[encI h],[],st⟩) l.length ?_ ?_
 simp-dsimp only[go_sem];exact⟨0,by omega,by omega,fun j hj=>absurd hj (by omega),rfl⟩;rintro c s' ⟨i,rfl,hi,hok,rfl⟩;simp-dsimp only[go_sem];refine ck (fun hk=> ?_) (fun hk=> ?_)
 . have hlt:i<l.length:=by have:=q_b hk;omega
   have e3:=J0n i (by omega);have g2:=Y0y l i hlt;have g0:=Y0y l 0 (by omega);have w1:=wl.2 i hlt;simp-dsimp only[go_sem,g2];refine⟨by omega,?_⟩;refine(Q1i (l.getD i []) _ w1).mono ?_;rintro r st ⟨rfl,rfl⟩;cases hm:K0u (l.getD i []) with
   | false=>
    rw[H0y (fun hh=>by rw[K3s hlt (fun q=>by rw[hm] at q;exact absurd q.1 (by decide))] at hh;exact absurd hh.2.2.2.2 (by decide))];simp-dsimp only[go_sem]
   | true=>
   simp-dsimp only[go_sem,g0];refine⟨by omega,?_⟩;by_cases hq:(l.getD i []).length=(l.getD 0 []).length;have q1:(((l.getD i []).length:Int) !=((l.getD 0 []).length:Int))=false:=(by rw[hq];simp);simp-dsimp only[go_sem,q1,e3];refine⟨l.length-(i+1),by omega,i+1,rfl,by omega,fun j hj=> ?_,rfl⟩;by_cases e:j=i;rw[e];exact⟨hm,hq⟩;exact hok j (by omega);have q1:(((l.getD i []).length:Int) !=((l.getD 0 []).length:Int))=true:=bne_iff_ne.2 fun e=>hq (by exact_mod_cast e);rw[H0y (fun hh=>by rw[K3s hlt (fun q=>hq q.2)] at hh;exact absurd hh.2.2.2.2 (by decide))];simp-dsimp only[go_sem,q1]
 have hge:i=l.length:=by have:=q_c hk;omega
 subst hge;have hall:okC l=true:=okC_iff.2 hok;have hS:v1a l h p=V0v l h p (l.length-1):=(by unfold v1a;rw[if_pos ⟨c1,c2,hr,hp,hall⟩]);rw[hS];have wi:=v2j (h:=h) (p:=p) wl c1;have wl1:=wl.1;have hfin:=fun i=>Y2u (l:=l) (h:=h) (p:=p) (i:=i);have hM:=hok (l.length-1) (by omega);have hMl:=U0q hM.1;have hMr:=fun i (hi:i<(l.getD (l.length-1) []).length)=>q0b hM.1 hi;have gM:=Y0y l (l.length-1) (by omega);have e1:IntKind.i64.wrap ((l.length:Int)-1)=((l.length-1:Nat):Int):=(by rw[Q0l _ (by omega) (by omega)];omega);have e2:IntKind.i64.wrap ((l.length:Int)-2)=(l.length:Int)-2:=(by rw[Q0l _ (by omega) (by omega)]);simp-dsimp only[go_sem];refine Q0a ?_;simp-dsimp only[go_sem,e1,gM];refine⟨by omega,?_⟩;refine Z0c 10 1 ?_;simp-dsimp only[go_sem];have h0:V0v l h p 0=(l.getD (l.length-1) [],0):=rfl;generalize hMM:l.getD (l.length-1) []=M at hM hMl hMr gM h0;refine Q0d [true,false,true,false,true,false,false,false,false,false,true,false,false,false,false,false,false,false,false,false,false,false,false,false,false,false,false,false,false,false,false,false,false,false,false,false,false,false,false,false,false,false,false,false,false,false,false,false,false,false,false,false,false,false,false,false,false,false,false,false,false,false,false,true,true,true] 1 1
  (fun c s'=> ∃i,c=M.length-i/\i<=M.length/\
   s'=⟨[.sl .no (X0x l),.junk,.sc (.int .i64 p),.junk,.lp 0 0,.junk,.junk,.junk,.junk,.junk,.sl (.own 0) (encM (M.take i))]++List.replicate 52 .junk++ [.sl .no (encM M),.sc (.int .i64 (M.length:Nat)),.sc (.int .i64 (i:Nat))]++List.replicate 58 .junk,[encI h],[(i,1)],st⟩) M.length ?_ ?_
 simp-dsimp only[go_sem];exact⟨0,by omega,by omega,rfl⟩;rintro c s' ⟨i,rfl,hi,rfl⟩;have hil:(M.take i).length=i:=(by rw[List.length_take];omega);simp-dsimp only[go_sem];refine ck (fun hk=> ?_) (fun hk=> ?_);have hlt:i<M.length:=(by have:=q_b hk;omega);have e3:=J0n i (by omega);have g2:=Y0l M i hlt;have hrow:=hMr i hlt;have hsn:=j3o [] M hlt;simp-dsimp only[go_sem,g2];refine⟨by omega,?_⟩;refine Z0c 13 6 ?_;simp-dsimp only[go_sem];refine Q0d [true,false,true,false,true,false,false,false,false,false,true,false,false,true,false,false,false,false,false,false,false,false,false,false,false,false,false,false,false,false,false,false,false,false,false,false,false,false,false,false,false,false,false,false,false,false,false,false,false,false,false,false,false,false,false,false,false,false,false,false,false,false,false,true,true,true,false,false,false,true,true,true] 1 2
  (fun c s'=> ∃j,c=M.length-j/\j<=M.length/\
   s'=⟨[.sl .no (X0x l),.junk,.sc (.int .i64 p),.junk,.lp 0 0,.junk,.junk,.junk,.junk,.junk,.sl (.own 0) (encM (M.take i)),.junk,.junk,.sl (.own 1) (Q0v ((M.getD i []).take j))]++List.replicate 49 .junk++ [.sl .no (encM M),.sc (.int .i64 (M.length:Nat)),.sc (.int .i64 (i:Nat)),.junk,.junk,.junk,.sl .no (Q0v (M.getD i [])),.sc (.int .i64 (M.length:Nat)),.sc (.int .i64 (j:Nat))]++List.replicate 52 .junk,[encI h],[(i,1),(j,6)],st⟩) M.length ?_ ?_
 simp-dsimp only[go_sem,hrow.1];exact⟨0,by omega,by omega,rfl⟩;rintro c s' ⟨j,rfl,hj,rfl⟩;simp-dsimp only[go_sem];refine ck (fun hk2=> ?_) (fun hk2=> ?_);have hlt2:j<M.length:=(by have:=q_b hk2;omega);have e4:=J0n j (by omega);have gI:=X0r (M.getD i []) j (by omega);have hx:=q1r hrow.2 (i:=j) (by omega);have hwx:=K0p hx;have hsn2:=j3o default (M.getD i []) (i:=j) (by omega);have hs2:=G0l ((M.getD i []).take j) ((M.getD i []).getD j default);have hl2:((M.getD i []).take j).length=j:=(by rw[List.length_take,hrow.1];omega);have mk:w1h ((M.getD i []).getD j default).lo ((M.getD i []).getD j default).hi=((M.getD i []).getD j default,0):=(by unfold w1h;rw[if_pos hx]);rw[<-hsn2] at hs2;simp-dsimp only[go_sem,gI];refine⟨by omega,?_⟩;refine(Z2t _ _ _ hwx.1 hwx.2).mono ?_;rintro r st ⟨rfl,rfl⟩;simp-dsimp only[go_sem,mk,hs2,hl2,e4];exact⟨by omega,M.length-(j+1),by omega,j+1,rfl,by omega,rfl⟩;have hge:j=M.length:=(by have:=q_c hk2;omega);subst hge;have hf:(M.getD i []).take M.length=M.getD i []:=List.take_of_length_le (by rw[hrow.1];exact Nat.le_refl _);have hs3:=x2h (M.take i) (M.getD i []);rw[<-hsn] at hs3;simp-dsimp only[go_sem];refine Q0a ?_;simp-dsimp only[go_sem,hf,hil];refine⟨by omega,?_⟩;refine Q0a ?_;simp-dsimp only[go_sem,e3];exact⟨M.length-(i+1),by omega,i+1,rfl,by omega,by rw[hsn]⟩;have hge:i=M.length:=(by have:=q_c hk;omega);subst hge;rw[List.take_length];simp-dsimp only[go_sem];refine X0p [false,false,false,false,false,false,false,false,false,false,true] (Q0a ?_);simp-dsimp only[go_sem,e2];rw[show M=(V0v l h p 0).1 by rw[h0]];refine Q0d [true,false,true,false,true,false,false,false,false,false,true,false,false,false,false,false,false,false,true] 1 0
  (fun c s'=> ∃i,c=l.length-1-i/\i<=l.length-1/\(V0v l h p i).2=0/\
   s'=⟨[.sl .no (X0x l),.junk,.sc (.int .i64 p),.junk,.lp 0 0,.junk,.junk,.junk,.junk,.junk,.sl .no (encM (V0v l h p i).1),.junk,.junk,.junk,.junk,.junk,.junk,.junk,.sc (.int .i64 ((l.length:Int)-2-(i:Nat)))]++List.replicate 105 .junk,[encI h],[],st⟩) (l.length-1) ?_ ?_
 simp-dsimp only[go_sem];exact⟨0,by omega,by omega,rfl,by simp⟩;rintro c s' ⟨i,rfl,hi,he,rfl⟩;by_cases hlt:i<l.length-1;have d3:decide ((l.length:Int)-2-(i:Nat)>=0)=true:=q_h (by omega);have e3:IntKind.i64.wrap ((l.length:Int)-2-(i:Nat)-1)=(l.length:Int)-2-((i+1:Nat):Int):=(by rw[Q0l _ (by omega) (by omega)];omega);have e4:(l.length:Int)-2-(i:Nat)=((l.length-2-i:Nat):Int):=(by omega);have gJ:=Y0y l (l.length-2-i) (by omega);have wj:=wl.2 (l.length-2-i) (by omega);have fi:=hfin i hlt he;have hst:V0v l h p (i+1)=if (H0a h (V0v l h p i).1 p).2≠0 then([],(H0a h (V0v l h p i).1 p).2) else opM 0 (H0a h (V0v l h p i).1 p).1 (l.getD (l.length-2-i) []) p:=(by rw[V0v,if_neg (by rw[he];decide)]);have b1:l.length-2-i<l.length:=(by omega);rw[e4] at d3 e3;have wv:=wi i;simp-dsimp only[go_sem,e4,d3];refine(V2d h (V0v l h p i).1 p _ wh wv).mono ?_;rintro r st2 ⟨rfl,rfl⟩;have wz:=Y2j h (V0v l h p i).1 p;generalize hZ:V0v l h p (i+1)=Z at hst fi;generalize H0a h (V0v l h p i).1 p=z at hst wz⊢;by_cases hz:z.2=0;have b0:(z.2 !=0)=false:=(by simp[hz]);rw[if_neg (by rw[hz];decide)] at hst;simp-dsimp only[go_sem,b0,gJ];refine⟨⟨Int.natCast_nonneg _,by exact_mod_cast b1⟩,?_⟩;refine(Q3d z.1 (l.getD (l.length-2-i) []) p _ wz wj).mono ?_;rintro r st2 ⟨rfl,rfl⟩;rw[<-hst];by_cases hu:Z.2=0;have c3:(Z.2 !=0)=false:=(by simp[hu]);simp-dsimp only[go_sem,c3,e3];exact⟨l.length-1-(i+1),by omega,i+1,rfl,by omega,by rw[hZ];exact hu,by rw[hZ]⟩;have c3:(Z.2 !=0)=true:=(by simp[hu]);simp-dsimp only[go_sem,c3];rw[fi hu (by rw[hst] at hu⊢;exact Y3z hu)];rfl;have b0:(z.2 !=0)=true:=(by simp[hz]);rw[if_pos hz] at hst;simp-dsimp only[go_sem,b0];rw[fi (by rw[hst];exact hz) (by rw[hst]),hst];rfl;have d3:decide ((l.length:Int)-2-(i:Nat)>=0)=false:=q_g (by omega);have hie:i=l.length-1:=(by omega);simp-dsimp only[go_sem,d3];refine Q0a ?_;simp-dsimp only[go_sem];rw[<-hie,he]
def wJac (jac:List (List (List Mn)))(n:Nat):Prop:=jac.length=n/\ ∀i,i<n->(jac.getD i []).length=n/\ ∀l,l<n->wP ((jac.getD i []).getD l [])
theorem H1z (g:Nat->Rat)(m:Nat): ∀n,sumR g (m+n)=sumR g m+sumR (fun i=>g (m+i)) n
 | 0=>by rw[Nat.add_zero];simp only[sumR];grind
 | n+1=>by rw[<-Nat.add_assoc,sumR,H1z g m n,sumR];grind
theorem H1y (G:Nat->Nat->Rat){K:Nat}(hK:0<K): ∀n,sumR (fun t=>G (t/K) (t % K)) (n*K)=sumR (fun l=>sumR (fun q=>G l q) K) n
 | 0=>by rw[Nat.zero_mul];rfl
 | n+1=>by rw[Nat.succ_mul,H1z,H1y G hK n,sumR];congr 1;refine U0o fun q hq=> ?_;rw[Nat.mul_comm n K,Nat.mul_add_div hK,Nat.mul_add_mod,Nat.div_eq_of_lt hq,Nat.mod_eq_of_lt hq,Nat.add_zero]
theorem X2e (X Y:Nat->Rat): ∀n,dotQ X Y n=sumR (fun t=>X t*Y t) n
 | 0=>rfl
 | n+1=>by rw[dotQ,sumR,X2e X Y n]
def polJ (jac:List (List (List Mn)))(n:Nat)(c:Nat->Nat->Rat)(i l:Nat):Nat->Rat:=fun q=>polR ((jac.getD i []).getD l []) n c q ((jac.getD i []).getD l []).length
def varR (jac:List (List (List Mn)))(n:Nat)(c:Nat->Nat->Rat)(W:Nat->Nat->Nat->Rat)(K:Nat):Prop:=
 (∀i j,i<n->j<n->W i j 0=y0e i j)/\ ∀k,k<K-> ∀i j,i<n->j<n->W i j (k+1)*((k+1:Nat):Rat)=sumR (fun l=>j1t (polJ jac n c i l) (W l j) k) n
theorem U2c {jac:List (List (List Mn))}{xs:List (List Ivl)}{p:Int}{n i l q:Nat}{c:Nat->Nat->Rat}(hx:memX q c xs)(hn:xs.length=n)(h:(K0y jac xs p i l q).2=0):memI (polJ jac n c i l q) (K0y jac xs p i l q).1:=by
 unfold K0y at h⊢;obtain⟨v,e⟩:=W1u h;rw[e] at h⊢;rw[Int.toNat_natCast] at*
 have:=w1a hx _ (Nat.le_refl _) h;rw[hn] at this;exact this
theorem Y2e {jac:List (List (List Mn))}{xs:List (List Ivl)}{p:Int}{n:Nat} : ∀k,(varN jac xs p n k).2=0-> ∀q,q<k->slB jac xs p n q=true
 | 0,_=>fun q hq=>by omega
 | k+1,h=>by
  have c:(varN jac xs p n k).2=0:=Classical.byContradiction fun c=>by rw[varN,if_pos c] at h;exact c h
  rw[varN,if_neg (by rw[c];decide)] at h;intro q hq;by_cases e:q=k;rw[e];cases d:slB jac xs p n k with
  | true=>rfl
  | false=>rw[if_pos d] at h;cases h
  exact Y2e k c q (by omega)
theorem Q2g {jac:List (List (List Mn))}{xs:List (List Ivl)}{p:Int}{n K:Nat}{c:Nat->Nat->Rat}{W:Nat->Nat->Nat->Rat}(h1:1<=n)(h4:n<=4)(hK:K<=10)(hx:memX K c xs)(hn:xs.length=n)(hW:varR jac n c W K):
 ∀k,k<=K->(varN jac xs p n k).2=0-> ∀m,m<=k-> ∀i j,i<n->j<n->memI (W i j m) (atM ((varN jac xs p n k).1.getD m []) i j)
 | 0,_,_=>fun m hm i j hi hj=>by obtain rfl:m=0:=(by omega);rw[hW.1 i j hi hj];exact H2x h1 h4 hi hj
 | k+1,hk,h=>by
  have hs:=Y2e (k+1) h;have c0:(varN jac xs p n k).2=0:=Classical.byContradiction fun c=>by rw[varN,if_pos c] at h;exact c h
  have ih:=Q2g (p:=p) h1 h4 hK hx hn hW k (by omega) c0;have hl:=(v0q (jac:=jac) (xs:=xs) (p:=p) (n:=n) k c0).1;rw[varN,if_neg (by rw[c0];decide),if_neg (by rw[hs k (by omega)];decide)] at h⊢;by_cases e:(matV jac xs p n (varN jac xs p n k).1 k).2=0;rotate_left;rw[if_pos e] at h;exact absurd h e;rw[if_neg (by rw[e];decide)];intro m hm i j hi hj;show memI _ (atM (((varN jac xs p n k).1++_).getD m []) i j);by_cases hmk:m<=k;rw[Q0g _ _ _ _ (by omega)];exact ih m hmk i j hi hj;obtain rfl:m=k+1:=(by omega);rw[Q0k _ _ _ _ (by omega),hl,Nat.sub_self];show memI _ (atM (matV jac xs p n (varN jac xs p n k).1 k).1 i j);obtain⟨_,g2⟩:=K1t e;obtain⟨g3,g4⟩:=(g2 i hi).2 j hj;rw[show atM (matV jac xs p n (varN jac xs p n k).1 k).1 i j=_ from g4];unfold entV at g3⊢;by_cases d:(dotF (varX (rowD jac xs p i) k) (varY (varN jac xs p n k).1 j k) p (n*(k+1))).2=0;rotate_left;rw[if_pos d] at g3;exact absurd g3 d;rw[if_neg (by rw[d];decide)] at g3⊢;obtain⟨c1,c2,_⟩:=Z2c (k+1) (by omega) (by omega);refine H1a c1 c2 g3 ?_;rw[k3i (k+1) (by omega) (by omega),hW.2 k (by omega) i j hi hj];have hm:=X2f (X:=fun t=>polJ jac n c i (t/(k+1)) (t % (k+1))) (Y:=fun t=>W (t/(k+1)) j (k-t % (k+1))) (n*(k+1)) d fun t ht=>by have hl':t/(k+1)<n:=(Nat.div_lt_iff_lt_mul (by omega)).2 ht;have hq:t % (k+1)<k+1:=Nat.mod_lt _ (by omega);exact⟨U2c (fun i hi j hj=>hx i hi j (by omega)) hn (slB_iff.1 (hs _ (by omega)) i hi _ hl'),ih _ (by omega) _ _ hl' hj⟩
  rw[X2e,H1y (fun l q=>polJ jac n c i l q*W l j (k-q)) (by omega)] at hm;exact hm
theorem X2g {L U:Nat}{x y:Nat->Ivl}{p:Int}(hp:Z0p p=true): ∀n,(∀k,k<n-> ∃L1 U1 L2 U2,luI L1 U1 (x k)/\luI L2 U2 (y k)/\L1+L2<=L/\U1+U2+1<=U)->L+U+2*n+4<=4096->(dotF x y p n).2=0/\luI L (U+2*n) (dotF x y p n).1
 | 0,_,_=>⟨rfl,w0s _ _⟩
 | n+1,h,hb=>by
  obtain⟨h1,h2⟩:=X2g hp n (fun k hk=>h k (by omega)) (by omega);obtain⟨L1,U1,L2,U2,a1,a2,a3,a4⟩:=h n (by omega);obtain⟨m1,m2⟩:=G2z a1 a2 hp (by omega);have m3:=m2.mono a3 a4;have e:dotF x y p (n+1)=if n=0 then opI 2 (x n) (y n) p else
   if (opI 0 (dotF x y p n).1 (opI 2 (x n) (y n) p).1 p).2≠0 then(default,(opI 0 (dotF x y p n).1 (opI 2 (x n) (y n) p).1 p).2) else opI 0 (dotF x y p n).1 (opI 2 (x n) (y n) p).1 p:=by
   rw[dotF,if_neg (by rw[h1];decide),if_neg (by rw[m1];decide)]
  rw[e];split;exact⟨m1,m3.mono (by omega) (by omega)⟩;obtain⟨s1,s2⟩:=H2a (k:=0) (by omega) h2 (m3.mono (Nat.le_refl _) (show U<=U+2*n by omega)) hp (by omega);rw[if_neg (by rw[s1];decide)];exact⟨s1,s2.mono (by omega) (by omega)⟩
theorem v2o {jac:List (List (List Mn))}{xs:List (List Ivl)}{p:Int}{n K q i l:Nat}(hp:Z0p p=true)(h1:1<=n)(hn:xs.length=n)(hj:okJ n jac)(hm: ∀i,i<n-> ∀l,l<n-> ∀m∈(jac.getD i []).getD l [],okMn n 12 24 3 m)(hK:K<=4)
 (hx: ∀i,i<n->grI 400 280 62 105 K (xs.getD i [])) (hq:q<=K) (hq3:q<=3) (hi:i<n) (hl:l<n):(K0y jac xs p i l q).2=0/\luI (400*q+198) (280*q+420) (K0y jac xs p i l q).1:=by
 have hr:=(hj.2 i hi).2 l hl;have hlen:=((Z0v _ _).1 hr).1.2.2;unfold K0y;generalize hP:(jac.getD i []).getD l []=P at*
 have hm':=hm i hi l hl;rw[hP] at hm';obtain⟨o1,o2⟩:=H2d (q:=P) (xs:=xs) (p:=p) (a:=400) (u:=280) (Lc:=12) (Uc:=24) (s1:=62) (r1:=105) (k:=q) (K:=4) (D:=3) hp
  (fun j hj=>by obtain⟨z1,z2,z3,z4,z5,z6⟩:=hm' _ (Q0t P j default hj);exact⟨z4,z6,z2,z3,by omega⟩)
  (fun j hj=>(hx j (by omega)).low hq) (by omega) (by omega) _ (Nat.le_refl _)
 have hser:U0a P xs q p=ofS P xs q p P.length:=by unfold U0a;rw[Int.toNat_natCast,if_pos];refine⟨?_,by rw[hn];exact hr,?_⟩;unfold Z1d;rw[hp];simp;omega;exact all_hasUp.2 fun j hj=>by have g:=(hx j (by omega)).low hq;exact U0i g.1 fun t ht=>(g.2 t ht).1
 rw[hser];exact⟨o1,o2.mono (by omega) (by omega)⟩
theorem v3m {n i j:Nat}(h1:1<=n)(h4:n<=4)(hi:i<n)(hj:j<n):luI 0 1 (atM (idM (n:Int)) i j):=by rw[(Z2v h1 h4 hi hj).2.2];split;have e:qN oneN=((1:Nat):Rat):=(by decide+kernel);have h:=k0w (m:=1) (n:=1) (by decide);rw[<-e] at h;exact⟨by decide,h,h⟩;exact w0s _ _
theorem Y2f {jac:List (List (List Mn))}{xs:List (List Ivl)}{p:Int}{n K:Nat}(hp:Z0p p=true)(h1:1<=n)(h2:n<=2)(hn:xs.length=n)(hj:okJ n jac)(hm: ∀i,i<n-> ∀l,l<n-> ∀m∈(jac.getD i []).getD l [],okMn n 12 24 3 m)(hK:K<=4)
 (hx: ∀i,i<n->grI 400 280 62 105 K (xs.getD i [])): ∀k,k<=K->(varN jac xs p n k).2=0/\ ∀m,m<=k-> ∀i j,i<n->j<n->luI (462*m) (440*m+1) (atM ((varN jac xs p n k).1.getD m []) i j)
 | 0,_=>⟨rfl,fun m hm i j hi hj=>by obtain rfl:m=0:=(by omega);exact v3m h1 (by omega) hi hj⟩
 | k+1,hk=>by
  obtain⟨c0,ih⟩:=Y2f hp h1 h2 hn hj hm hK hx k (by omega);have hl:=(v0q (jac:=jac) (xs:=xs) (p:=p) (n:=n) k c0).1;have hsl:=fun q (hq:q<=k) i l hi hl=>v2o (p:=p) (i:=i) (l:=l) hp h1 hn hj hm hK hx (q:=q) (by omega) (by omega) hi hl;have hs:slB jac xs p n k=true:=slB_iff.2 fun i hi l hl=>(hsl k (Nat.le_refl _) i l hi hl).1;have hpp:p.toNat<=256:=by unfold Z0p at hp;simp only[q_i,decide_eq_true_eq] at hp;omega
  have hnk:n*(k+1)<=8:=Nat.le_trans (Nat.mul_le_mul_right _ h2) (by omega);have key: ∀i j,i<n->j<n->(entV (rowD jac xs p i) p n (varN jac xs p n k).1 j k).2=0/\luI (462*(k+1)) (440*(k+1)+1) (entV (rowD jac xs p i) p n (varN jac xs p n k).1 j k).1:=fun i j hi hj=>by obtain⟨d1,d2⟩:=X2g (L:=462*k+198) (U:=440*k+422) (x:=varX (rowD jac xs p i) k) (y:=varY (varN jac xs p n k).1 j k) hp (n*(k+1)) (fun t ht=>by have hl':t/(k+1)<n:=(Nat.div_lt_iff_lt_mul (by omega)).2 ht;have hq:t % (k+1)<k+1:=Nat.mod_lt _ (by omega);refine⟨_,_,_,_,(hsl (t % (k+1)) (by omega) i (t/(k+1)) hi hl').2,ih (k-t % (k+1)) (by omega) (t/(k+1)) j hl' hj,?_,?_⟩;omega;omega) (by omega);unfold entV;rw[if_neg (by rw[d1];decide)];obtain⟨e1,e2⟩:=x2r (n:=k+1) d2 (by omega) (by omega) hp (by omega);exact⟨e1,e2.mono (by omega) (by omega)⟩
  have hM:(matV jac xs p n (varN jac xs p n k).1 k).2=0:=q0v _ _ _ fun i _ hi=>q0v _ _ _ fun j _ hj=>(key i j (by omega) (by omega)).1;rw[varN,if_neg (by rw[c0];decide),if_neg (by rw[hs];decide),if_neg (by rw[hM];decide)];refine⟨rfl,fun m hm i j hi hj=> ?_⟩;show luI _ _ (atM (((varN jac xs p n k).1++_).getD m []) i j);by_cases hmk:m<=k;rw[Q0g _ _ _ _ (by omega)];exact ih m hmk i j hi hj;obtain rfl:m=k+1:=(by omega);rw[Q0k _ _ _ _ (by omega),hl,Nat.sub_self];show luI _ _ (atM (matV jac xs p n (varN jac xs p n k).1 k).1 i j);rw[show atM (matV jac xs p n (varN jac xs p n k).1 k).1 i j=_ from(((K1t hM).2 i hi).2 j hj).2];exact(key i j hi hj).2
def polD (jac:List (List (List Mn)))(n:Nat)(X:Nat->Nat->Rat)(i l:Nat):Nat->Rat:=fun q=>polL ((jac.getD i []).getD l []) n X q ((jac.getD i []).getD l []).length
def varD (jac:List (List (List Mn)))(n:Nat)(X:Nat->Nat->Rat)(V:Nat->Nat->Nat->Rat)(K:Nat):Prop:=
 (∀i j,i<n->j<n->V i j 0=y0e i j)/\ ∀k,k<K-> ∀i j,i<n->j<n->V i j (k+1)=sumR (fun l=>k0y (polD jac n X i l) (V l j) k) n
theorem k2w {jac:List (List (List Mn))}{n K:Nat}{X:Nat->Nat->Rat}{V:Nat->Nat->Nat->Rat}(hK:K<=12)(h:varD jac n X V K):varR jac n (q0a X) (fun i j=>q0a (V i) j) K:=by
 refine⟨fun i j hi hj=>(W1s (V i) j).trans (h.1 i j hi hj),fun k hk i j hi hj=> ?_⟩;have e:=h.2 k hk i j hi hj;have hlt: ∀l,l<n->k0y (polD jac n X i l) (V l j) k=(fctN k:Rat)*j1t (polJ jac n (q0a X) i l) (q0a (V l) j) k:=fun l hl=>
  z1z (by omega) (fun q hq=>G1c (by omega) (fun i _=>y0v X i q) _) (y0v (V l) j k)
 rw[U0o hlt,X1z] at e;have n1:=x1u k;have n2:=x1u (k+1);have n3:(fctN (k+1):Rat)=((k+1:Nat):Rat)*(fctN k:Rat):=by show(((k+1)*fctN k:Nat):Rat)=_;rw[Rat.natCast_mul]
 show V i j (k+1)/(fctN (k+1):Rat)*_=_;rw[e,n3];rw[n3] at n2;generalize sumR _ _=P;generalize (fctN k:Rat)=F at*
 generalize ((k+1:Nat):Rat)=N at*
 grind
end Go.Pv
end
