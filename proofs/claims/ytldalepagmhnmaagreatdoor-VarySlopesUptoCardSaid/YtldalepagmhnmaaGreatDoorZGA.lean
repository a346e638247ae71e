/- Parts of the walk: PvBn, M96, M97, N161, N162, N163, N164. -/
import Derived.Test.YtldalepagmhnmaaGreatDoorZCG
set_option linter.unusedVariables false
set_option linter.unusedSimpArgs false
section
namespace Go.Pv
def X0u (l:List (List (List Ivl))):List PV:=l.map fun c=>(.sl .no (encM c))
@[go_sem] theorem J0r (l:List (List (List Ivl))):(X0u l).length=l.length:=by simp[X0u]
@[go_sem] theorem Q4a :X0u []= []:=(rfl)
@[go_sem] theorem K4z (l:List (List (List Ivl))):(X0u l).all (fun x=>x.cells.length==1)=true:=by simp[X0u,PV.cells]
@[go_sem] theorem V4a (l:List (List (List Ivl))):(X0u l).all (fun x=>(x.cells.length==1)&&x.cells.all PV.cellOK)=true:=by simp[X0u,PV.cells,PV.cellOK,Value.oneCell']
@[go_sem] theorem x3y (l:List (List (List Ivl)))(n:Nat):(X0u l).take n=X0u (l.take n):=by simp[X0u]
@[go_sem] theorem x3z (l:List (List (List Ivl)))(n:Nat):(X0u l).drop n=X0u (l.drop n):=by simp[X0u]
@[go_sem] theorem Q4c (l m:List (List (List Ivl))):X0u l++X0u m=X0u (l++m):=by simp[X0u]
@[go_sem] theorem W2j (l:List (List (List Ivl)))(c:(List (List Ivl))):X0u l++ [.sl .no (encM c)]=X0u (l++ [c]):=by simp[X0u]
theorem Y0q (l:List (List (List Ivl)))(n:Nat)(h:n<l.length):(X0u l).getD n .junk= .sl .no (encM (l.getD n [])):=by simp[X0u,q_a,h]
@[go_sem] theorem Q4b (l:List (List (List Ivl)))(i:Nat)(cs:List PV):(X0u l).map (PV.frz i cs)=X0u l:=by simp only[X0u,List.map_map];exact List.map_congr_left fun a _=>rfl
theorem k3a {α:Type}(d:α)(l:List α){i:Nat}(h:i<l.length):l.take (i+1)=l.take i++ [l.getD i d]:=by rw[List.take_succ_eq_append_getElem h];simp[q_a,h]
theorem Q1l (l:List (List (List Ivl))):flat (X0u l)=X0u l:=by
 unfold X0u flat
 induction l with
 | nil=>rfl
 | cons x l ih=>simp only[List.map_cons,List.flatten_cons,ih];rfl
theorem j1h (l:List (List (List Ivl))): ∀i,i<(X0u l).length->((X0u l).getD i .junk).cells.length=1:=fun i hi=>by rw[J0r] at hi;rw[Y0q l i hi];rfl
theorem Y3r {a b:Nm}(ha:Q0n a=true)(hb:Q0n b=true)(ha0:qN a≠0)(hb0:qN b≠0)(h:(strN 2 a b).2=0):Q0n (strN 2 a b).1=true/\(strN 2 a b).1.w.length≠0:=by unfold strN at h⊢;rw[if_pos ⟨ha,hb⟩] at h⊢;have hc:canV (exV 2 (ofN a) (ofN b)):=H1n 2 (V0j ha) (V0j hb);refine⟨X0p (G0p hc),fun e=> ?_⟩;have h1:=(K0k hc h).2;rw[K3q e,U3c,exQ2,K0i,K0i] at h1;rcases Rat.mul_eq_zero.1 h1.symm with h2 | h2;exact ha0 h2;exact hb0 h2
def v3y (n:Int)(m:Mn):Prop:=W0j m n=true/\m.c.w.length≠0
theorem V1f {n:Int}{i:Nat}(hi:(i:Int)<n): ∀(p acc:List Mn),(∀m∈p,v3y n m)->G0d (p.map Mn.ks)->(G0j i p acc).2=0->
 ∃q,(G0j i p acc).1=acc++q/\q.length<=p.length/\(∀m∈q,v3y n m/\ ∃m'∈p,m.ks=decK m'.ks i)/\G0d (q.map Mn.ks)
 | [],acc,_,_,_=>⟨[],by simp[G0j],Nat.le_refl _,(fun m hm=>by cases hm),List.Pairwise.nil⟩
 | m::r,acc,hg,hf,h=>by
  obtain⟨f1,f2⟩:=List.pairwise_cons.1 hf;have ih:=fun acc=>V1f hi r acc (fun m hm=>hg m (List.mem_cons_of_mem _ hm)) f2;rw[G0j] at h⊢;by_cases c:m.ks.getD i 0=0;rw[if_pos c] at h⊢;obtain⟨q,q1,q2,q3,q4⟩:=ih acc h;refine⟨q,q1,by simp only[List.length_cons];omega,fun x hx=> ?_,q4⟩;obtain⟨z1,m',z2,z3⟩:=q3 x hx;exact⟨z1,m',List.mem_cons_of_mem _ z2,z3⟩;rw[if_neg c] at h⊢;obtain⟨g1,g2⟩:=hg m (List.mem_cons_self ..);obtain⟨k1,k2,k3⟩:=(U0w _ _).1 g1;have hil:i<m.ks.length:=(by omega);have hat:=J0f k2 i hil;obtain⟨i1,i2⟩:=X2f (k:=(m.ks.getD i 0).toNat) (by omega);have hi0:qN (intN (m.ks.getD i 0).toNat)≠0:=by rw[<-K0i,i2,z0e];simp only[Bool.false_eq_true,if_false];intro e;have e2:qM (((m.ks.getD i 0).toNat:Nat):Int) 0=(((m.ks.getD i 0).toNat:Nat):Rat):=(by unfold qM;rw[J1w,Rat.mul_one];rfl);rw[e2] at e;have:(m.ks.getD i 0).toNat=0:=(by exact_mod_cast e);omega
  by_cases d:(strN 2 m.c (intN (m.ks.getD i 0).toNat)).2=0;rw[if_neg (by rw[d];decide)] at h⊢;obtain⟨s1,s2⟩:=Y3r k3 i1 (k3o k3 g2) hi0 d;obtain⟨q,q1,q2,q3,q4⟩:=ih _ h;refine⟨⟨(strN 2 m.c (intN (m.ks.getD i 0).toNat)).1,decK m.ks i⟩::q,by rw[q1,List.append_assoc];rfl,by simp only[List.length_cons];omega,fun x hx=> ?_,?_⟩;rcases List.mem_cons.1 hx with rfl | hx;exact⟨⟨(U0w _ _).2 ⟨by show((decK m.ks i).length:Int)=n;rw[G0k];exact k1,W1u k2 hil c,s1⟩,s2⟩,m,List.mem_cons_self ..,rfl⟩;obtain⟨z1,m',z2,z3⟩:=q3 x hx;exact⟨z1,m',List.mem_cons_of_mem _ z2,z3⟩;refine List.pairwise_cons.2 ⟨fun ks hks=> ?_,q4⟩;obtain⟨x,hx,rfl⟩:=List.mem_map.1 hks;obtain⟨_,m',z2,z3⟩:=q3 x hx;rw[z3];show ordK (decK m.ks i) (decK m'.ks i)=1;rw[G1g];exact f1 _ (List.mem_map.2 ⟨m',z2,rfl⟩);rw[if_pos d] at h;exact absurd h d
theorem y1h {p:List Mn}{i n:Int}(h:(G0i p i n).2=0):X0v (G0i p i n).1 n=true:=by unfold G0i at h⊢;by_cases c:X0v p n=true/\0<=i/\i<n;rotate_left;rw[if_neg c] at h;cases h;rw[if_pos c] at h⊢;obtain⟨c1,c2,c3⟩:=c;obtain⟨l1,l2⟩:=(X0g p n).1 c1;obtain⟨q,q1,q2,q3,q4⟩:=V1f (n:=n) (i:=i.toNat) (by omega) p [] (fun m hm=>by obtain⟨j,hj,e⟩:=List.mem_iff_getElem.1 hm;have:=(U0s _ _ _).1 (l2 j hj);rw[show p.getD j default=m by simp[q_a,hj,e]] at this;exact⟨this.1,this.2.1⟩) (Z1c c1) h;rw[q1,List.nil_append];refine(X0g _ _).2 ⟨⟨l1.1,l1.2.1,by omega⟩,fun j hj=> ?_⟩;have hm: ∀j,j<q.length->q.getD j default∈q:=fun j hj=>(by rw[show q.getD j default=q[j] by simp[q_a,hj]];exact List.getElem_mem hj);obtain⟨⟨g1,g2⟩,_⟩:=q3 _ (hm j hj);refine(U0s _ _ _).2 ⟨g1,g2,?_⟩;by_cases e:j=0;exact .inl e;refine .inr ?_;have:=List.pairwise_iff_getElem.1 q4 (j-1) j (by simp;omega) (by simpa using hj) (by omega);simpa[q_a,hj,(by omega:j-1<q.length)] using this
def okJ (n:Nat)(jac:List (List (List Mn))):Prop:=jac.length=n/\ ∀i,i<n->(jac.getD i []).length=n/\ ∀l,l<n->X0v ((jac.getD i []).getD l []) n=true
theorem w1r {f:List (List Mn)}(h:(jacF f).2=0):okJ f.length (jacF f).1:=by unfold jacF at h⊢;by_cases c:W0c f=true;rotate_left;rw[if_neg c] at h;cases h;rw[if_pos c] at h⊢;obtain⟨a1,a2,a3⟩:=J0j h;refine⟨a1,fun i hi=> ?_⟩;have e1:(tabF (fun i=>tabF (fun j=>jacG f i j) 0 f.length []) 0 f.length []).1.getD i []=(tabF (fun j=>jacG f i j) 0 f.length []).1:=a3 i hi;have h2:=a2 i hi;obtain⟨b1,b2,b3⟩:=J0j h2;rw[e1];refine⟨b1,fun l hl=> ?_⟩;have e2:(tabF (fun j=>jacG f i j) 0 f.length []).1.getD l []=(jacG f i l).1:=b3 l hl;rw[e2];exact y1h (b2 l hl)
def e02 (e:Int):Prop:=e=0\/e=2
theorem X2o (lo hi:Vl):e02 (U0a lo hi).2:=by unfold U0a e02;split<;>simp
theorem Y1w {k:Nat}{a b:Ivl}{p:Int}(ha:Q0o a=true)(hb:Q0o b=true)(hp:Z0m p=true):e02 (opI k a b p).2:=by unfold opI;rw[if_pos ⟨ha,hb,hp⟩];exact X2o _ _
theorem H3w {a:Ivl}{c:Nm}{p:Int}(ha:Q0o a=true)(hp:Z0m p=true):e02 (divI a c p).2:=by unfold divI;rw[if_pos ⟨ha,hp⟩];exact X2o _ _
theorem H1a {β:Type}{G:Nat->β×Int} : ∀(k i:Nat) (acc:List β),(∀j,i<=j->j<i+k->e02 (G j).2)->e02 (tabF G i k acc).2
 | 0,i,acc,_=> .inl rfl
 | k+1,i,acc,h=>by simp only[tabF];split;exact h i (by omega) (by omega);exact H1a k _ _ fun j h1 h2=>h j (by omega) (by omega)
theorem Q2s {β:Type}{G:Nat->β×Int} : ∀(k i:Nat) (acc:List β),(tabF G i k acc).2≠0->(tabF G i k acc).1= []
 | 0,i,acc,h=>absurd rfl h
 | k+1,i,acc,h=>by simp only[tabF] at h⊢;split;rfl;rename_i c;rw[if_neg c] at h;exact Q2s k _ _ h
theorem v0a {p:Int} : ∀(l:List (Ivl×Ivl)) (sm:Bool) (s:Ivl),Q0o s=true->Q0o (z0l p l sm s).1=true
 | [],sm,s,h=>h
 | x::l,sm,s,h=>by rw[U0k];split;split;split;exact v0a l _ _ (Z0y _ _ _ _);rfl;exact v0a l _ _ (Z0y _ _ _ _);rfl
theorem V1d {p:Int}(hp:Z0m p=true): ∀(l:List (Ivl×Ivl)) (sm:Bool) (s:Ivl),Q0o s=true->(∀x∈l,Q0o x.1=true/\Q0o x.2=true)->e02 (z0l p l sm s).2
 | [],sm,s,_,_=> .inl rfl
 | x::l,sm,s,h,hl=>by obtain⟨x1,x2⟩:=hl x (List.mem_cons_self ..);have hl':=fun y hy=>hl y (List.mem_cons_of_mem _ hy);rw[U0k];split;split;split;exact V1d hp l _ _ (Z0y _ _ _ _) hl';exact Y1w h (Z0y _ _ _ _) hp;exact V1d hp l _ _ (Z0y _ _ _ _) hl';exact Y1w x1 x2 hp
theorem y1k (a b:List Ivl)(k:Nat)(p:Int):Q0o (V0i a b k p).1=true:=by unfold V0i;split;exact v0a _ _ _ rfl;rfl
theorem x2t {a b:List Ivl}{k:Nat}{p:Int}(hp:Z0m p=true)(ha:K0h a k=true)(hb:K0h b k=true):e02 (V0i a b k p).2:=by unfold V0i;rw[if_pos ⟨hp,ha,hb⟩];refine V1d hp _ _ _ rfl fun x hx=> ?_;unfold z0k at hx;obtain⟨i,hi,rfl⟩:=List.mem_map.1 hx;have hi:=List.mem_range.1 hi;exact⟨w0l ha (by omega),w0l hb (by omega)⟩
theorem K1n {a:List Ivl}{k j:Nat}(h:K0h a k=true)(hj:j<=k):K0h a j=true:=Y0z (by have:=x1k h;omega) fun i hi=>w0l h (by omega)
theorem x2r {a b:List Ivl}{k:Nat}{p:Int}(hp:Z0m p=true)(ha:K0h a k=true)(hb:K0h b k=true):e02 (Y0j a b k p).2:=
 H1a _ _ _ fun j _ hj=>x2t hp (K1n ha (by omega)) (K1n hb (by omega))
theorem v2l {a b:List Ivl}{k:Nat}{p:Int}(h:(Y0j a b k p).2=0):K0h (Y0j a b k p).1 k=true:=by obtain⟨h1,h2,h3⟩:=J0j h;refine Y0z (by show k<(tabF _ _ _ _).1.length;omega) fun j hj=> ?_;show Q0o ((tabF (fun j=>V0i a b j p) 0 (k+1) []).1.getD j default)=true;rw[h3 j (by omega)];exact y1k _ _ _ _
theorem z1q {s x:List Ivl}{k:Nat}{p:Int}(hp:Z0m p=true)(hs:K0h s k=true)(hx:K0h x k=true): ∀n,e02 (K0v s x k p n).2/\((K0v s x k p n).2=0->K0h (K0v s x k p n).1 k=true)
 | 0=>⟨.inl rfl,fun _=>hs⟩
 | n+1=>by obtain⟨h1,h2⟩:=z1q hp hs hx n;rw[K0v];by_cases c:(K0v s x k p n).2=0;rw[if_neg (by rw[c];decide)];exact⟨x2r hp (h2 c) hx,v2l⟩;rw[if_pos c];exact⟨h1,fun h=>absurd h c⟩
theorem U3x {c:Nm}(hc:Q0n c=true)(k:Nat):K0h (numS c k) k=true:=by
 refine Y0z (by simp[numS]) fun j hj=> ?_;cases j with
 | zero=>exact U0r hc
 | succ j=>
  have:(numS c k).getD (j+1) default=default:=by show(List.replicate k (default:Ivl)).getD j default=default;simp[q_a,(by omega:j<k)]
  rw[this];rfl
theorem z1o {m:Mn}{xs:List (List Ivl)}{k:Nat}{p:Int}(hp:Z0m p=true)(hm:Q0n m.c=true)(hx: ∀i,i<xs.length->K0h (xs.getD i []) k=true): ∀i,i<=xs.length->e02 (X0r m xs k p i).2/\((X0r m xs k p i).2=0->K0h (X0r m xs k p i).1 k=true)
 | 0,_=>⟨.inl rfl,fun _=>U3x hm k⟩
 | i+1,hi=>by obtain⟨h1,h2⟩:=z1o hp hm hx i (by omega);rw[X0r];by_cases c:(X0r m xs k p i).2=0;rw[if_neg (by rw[c];decide)];exact z1q hp (h2 c) (hx i (by omega)) _;rw[if_pos c];exact⟨h1,fun h=>absurd h c⟩
theorem z1u (q:List Mn)(xs:List (List Ivl))(k:Nat)(p:Int): ∀i,Q0o (ofS q xs k p i).1=true
 | 0=>rfl
 | i+1=>by rw[ofS];split;rfl;split;rfl;exact Z0y _ _ _ _
theorem J1d (q:List Mn)(xs:List (List Ivl))(k p:Int):Q0o (Y0s q xs k p).1=true:=by unfold Y0s;split;exact z1u _ _ _ _ _;rfl
theorem H2o {q:List Mn}{xs:List (List Ivl)}{k:Nat}{p:Int}(hp:Z0m p=true)(hq: ∀i,i<q.length->Q0n (q.getD i default).c=true)(hx: ∀i,i<xs.length->K0h (xs.getD i []) k=true): ∀i,i<=q.length->e02 (ofS q xs k p i).2
 | 0,_=> .inl rfl
 | i+1,hi=>by have ih:=H2o hp hq hx i (by omega);obtain⟨h1,h2⟩:=z1o hp (hq i (by omega)) hx xs.length (Nat.le_refl _);rw[ofS];by_cases c:(ofS q xs k p i).2=0;rw[if_neg (by rw[c];decide)];by_cases d:(X0r (q.getD i default) xs k p xs.length).2=0;rw[if_neg (by rw[d];decide)];exact Y1w (z1u _ _ _ _ _) (w0l (h2 d) (Nat.le_refl _)) hp;rw[if_pos d];exact h1;rw[if_pos c];exact ih
theorem U2w {q:List Mn}{xs:List (List Ivl)}{k:Nat}{p:Int}(hp:Z0m p=true)(hk:k<=10)(hq:X0v q xs.length=true)(hx: ∀i,i<xs.length->K0h (xs.getD i []) k=true):e02 (Y0s q xs k p).2:=by unfold Y0s;split;rw[Int.toNat_natCast];exact H2o hp (fun i hi=>(U0o hq hi).2.2) hx _ (Nat.le_refl _);rename_i c;refine absurd ⟨?_,hq,?_⟩ c;unfold Q1y;rw[hp];simp;omega;rw[Int.toNat_natCast];exact all_hasUp.2 hx
theorem U1b {a:Ivl}{c:Nm}{p:Int}(hc:c.neg=false)(h0:0<valW c.w)(hq:0<qN c):Q0o (divI a c p).1=true:=by by_cases h:(divI a c p).2=0;obtain⟨h1,h2⟩:=j1q h;have hle:=H0x h1;rw[K0i,K0i] at hle;have hm:=H1f hc h0 h (X:=qN a.lo/qN c) (by rw[Rat.div_mul_cancel (by grind)];exact⟨Rat.le_refl,hle⟩);have r:Q0n (divI a c p).1.lo=true/\Q0n (divI a c p).1.hi=true:=(by unfold divI U0a;split;split;exact⟨X0p (G0p (X0o (H0g _ _ _) _ _)),X0p (G0p (X0o (H0g _ _ _) _ _))⟩;exact⟨rfl,rfl⟩;exact⟨rfl,rfl⟩);exact z0w r.1 r.2 (cmpN_le.2 (Rat.le_trans hm.1 hm.2));have:(divI a c p).1=default:=(by unfold divI at h⊢;split;rename_i c1;rw[if_pos c1] at h;unfold U0a at h⊢;split;rename_i c2;rw[if_pos c2] at h;exact absurd rfl h;rfl;rfl);rw[this];rfl
def K0u (jac:List (List (List Mn)))(xs:List (List Ivl))(p:Int)(i l q:Nat):Ivl×Int:=Y0s ((jac.getD i []).getD l []) xs q p
def slB (jac:List (List (List Mn)))(xs:List (List Ivl))(p:Int)(n q:Nat):Bool:=(List.range n).all fun i=>(List.range n).all fun l=>decide ((K0u jac xs p i l q).2=0)
theorem slB_iff {jac:List (List (List Mn))}{xs:List (List Ivl)}{p:Int}{n q:Nat} :slB jac xs p n q=true<-> ∀i,i<n-> ∀l,l<n->(K0u jac xs p i l q).2=0:=by unfold slB;simp only[q_d,List.mem_range,decide_eq_true_eq]
def varX (D:Nat->Nat->Ivl)(k t:Nat):Ivl:=D (t/(k+1)) (t % (k+1))
def varY (ms:List Mx)(j k t:Nat):Ivl:=atM (ms.getD (k-t % (k+1)) []) (t/(k+1)) j
def rowD (jac:List (List (List Mn)))(xs:List (List Ivl))(p:Int)(i:Nat)(l q:Nat):Ivl:=(K0u jac xs p i l q).1
def entV (D:Nat->Nat->Ivl)(p:Int)(n:Nat)(ms:List Mx)(j k:Nat):Ivl×Int:=
 if (dotF (varX D k) (varY ms j k) p (n*(k+1))).2≠0 then(default,(dotF (varX D k) (varY ms j k) p (n*(k+1))).2) else divI (dotF (varX D k) (varY ms j k) p (n*(k+1))).1 (ptW (k+1)) p
def matV (jac:List (List (List Mn)))(xs:List (List Ivl))(p:Int)(n:Nat)(ms:List Mx)(k:Nat):Mx×Int:=j0w (fun i j=>entV (rowD jac xs p i) p n ms j k) n
def varN (jac:List (List (List Mn)))(xs:List (List Ivl))(p:Int)(n:Nat):Nat->List Mx×Int
 | 0=>([idM n],0)
 | k+1=>if (varN jac xs p n k).2≠0 then([],(varN jac xs p n k).2) else if slB jac xs p n k=false then([],2) else
  if (matV jac xs p n (varN jac xs p n k).1 k).2≠0 then([],(matV jac xs p n (varN jac xs p n k).1 k).2) else((varN jac xs p n k).1++ [(matV jac xs p n (varN jac xs p n k).1 k).1],0)
def V0l (f:List (List Mn))(x:List Ivl)(order p:Int):List Mx×Int:=
 if (W0l f x order p).2≠0 then([],(W0l f x order p).2) else if (jacF f).2≠0 then([],(jacF f).2) else varN (jacF f).1 (W0l f x order p).1 p f.length order.toNat
theorem X1s {jac:List (List (List Mn))}{xs:List (List Ivl)}{p:Int}{n k:Nat}(h:(varN jac xs p n k).2≠0): ∀d,varN jac xs p n (k+1+d)=([],(varN jac xs p n k).2)
 | 0=>by rw[Nat.add_zero,varN,if_pos h]
 | d+1=>by rw[<-Nat.add_assoc,varN,if_pos (by rw[X1s h d];exact h),X1s h d]
theorem K1v {G:Nat->Nat->Ivl×Int}{n:Nat}(h:(j0w G n).2=0):(j0w G n).1.length=n/\ ∀i,i<n->((j0w G n).1.getD i []).length=n/\ ∀j,j<n->(G i j).2=0/\atM (j0w G n).1 i j=(G i j).1:=by obtain⟨a1,a2,a3⟩:=J0j h;refine⟨a1,fun i hi=> ?_⟩;have e:(j0w G n).1.getD i []=(tabF (fun j=>G i j) 0 n []).1:=a3 i hi;obtain⟨b1,b2,b3⟩:=J0j (a2 i hi);rw[e];refine⟨b1,fun j hj=>⟨b2 j hj,?_⟩⟩;unfold atM;rw[e];exact b3 j hj
def allI (ms:List Mx):Prop:= ∀m∈ms,∀r∈m,∀x∈r,Q0o x=true
theorem Q2d {ms:List Mx}(h:allI ms)(m l j:Nat):Q0o (atM (ms.getD m []) l j)=true:=by unfold atM;by_cases h1:m<ms.length;rw[show ms.getD m []=ms[m] by simp[q_a,h1]];by_cases h2:l<ms[m].length;rw[show ms[m].getD l []=ms[m][l] by simp[q_a,h2]];by_cases h3:j<ms[m][l].length;rw[show ms[m][l].getD j default=ms[m][l][j] by simp[q_a,h3]];exact h _ (List.getElem_mem h1) _ (List.getElem_mem h2) _ (List.getElem_mem h3);rw[show ms[m][l].getD j default=default by simp[q_a,List.getElem?_eq_none (Nat.le_of_not_lt h3)]];rfl;rw[show ms[m].getD l []= [] by simp[q_a,List.getElem?_eq_none (Nat.le_of_not_lt h2)]];rfl;rw[show ms.getD m []= [] by simp[q_a,List.getElem?_eq_none (Nat.le_of_not_lt h1)]];rfl
theorem H1c (x y:Nat->Ivl)(p:Int): ∀n,Q0o (dotF x y p n).1=true
 | 0=>rfl
 | n+1=>by rw[dotF];split;rfl;split;rfl;split;exact Z0y _ _ _ _;split;rfl;exact Z0y _ _ _ _
theorem x2s {x y:Nat->Ivl}{p:Int}(hp:Z0m p=true)(hx: ∀t,Q0o (x t)=true)(hy: ∀t,Q0o (y t)=true): ∀n,e02 (dotF x y p n).2
 | 0=> .inl rfl
 | n+1=>by have ih:=x2s hp hx hy n;have h2:=Y1w (k:=2) (hx n) (hy n) hp;rw[dotF];split;exact ih;split;exact h2;split;exact h2;split;exact Y1w (H1c _ _ _ _) (Z0y _ _ _ _) hp;exact Y1w (H1c _ _ _ _) (Z0y _ _ _ _) hp
theorem W2g (D:Nat->Nat->Ivl)(p:Int)(n:Nat)(ms:List Mx)(j:Nat){k:Nat}(hk:k<=10):Q0o (entV D p n ms j k).1=true:=by unfold entV;split;rfl;obtain⟨p1,p2,p3,_⟩:=z1j (k+1) (by omega) (by omega);refine U1b ?_ p3 p2;have: ∀n,n<12->(ptW n).neg=false:=(by decide+kernel);exact this _ (by omega)
theorem X3f {D:Nat->Nat->Ivl}{p:Int}{n:Nat}{ms:List Mx}{j k:Nat}(hp:Z0m p=true)(hD: ∀l q,Q0o (D l q)=true)(hm:allI ms):e02 (entV D p n ms j k).2:=by unfold entV;split;exact x2s hp (fun t=>hD _ _) (fun t=>Q2d hm _ _ _) _;exact H3w (H1c _ _ _ _) hp
theorem W2c {G:Nat->Nat->Ivl×Int}{n:Nat}(h: ∀i j,Q0o (G i j).1=true): ∀r∈(j0w G n).1,∀x∈r,Q0o x=true:=
 G0v (fun r:List Ivl=> ∀x∈r,Q0o x=true) n 0 [] (fun i _ _=>G0v (fun x=>Q0o x=true) n 0 [] (fun j _ _=>h i j) (fun x hx=>by cases hx)) (fun x hx=>by cases hx)
theorem X3e {G:Nat->Nat->Ivl×Int}{n:Nat}(h: ∀i j,e02 (G i j).2):e02 (j0w G n).2:=H1a _ _ _ fun i _ _=>H1a _ _ _ fun j _ _=>h i j
theorem Z3h (n:Int): ∀r∈idM n,∀x∈r,Q0o x=true:=fun r hr x hx=>by unfold idM at hr;split at hr;obtain⟨i,_,rfl⟩:=List.mem_map.1 hr;obtain⟨j,_,rfl⟩:=List.mem_map.1 hx;split<;>rfl;cases hr
theorem k1u {jac:List (List (List Mn))}{xs:List (List Ivl)}{p:Int}{n:Nat}(hp:Z0m p=true): ∀k,k<=10->e02 (varN jac xs p n k).2/\allI (varN jac xs p n k).1
 | 0,_=>⟨.inl rfl,fun m hm=>by rw[List.mem_singleton.1 hm];exact Z3h _⟩
 | k+1,hk=>by obtain⟨h1,h2⟩:=k1u (jac:=jac) (xs:=xs) (n:=n) hp k (by omega);have h3:e02 (matV jac xs p n (varN jac xs p n k).1 k).2:=X3e fun i j=>X3f hp (fun l q=>J1d _ _ _ _) h2;have nilI:allI []:=fun m hm=>(by cases hm);rw[varN];split;exact⟨h1,nilI⟩;split;exact⟨.inr rfl,nilI⟩;split;exact⟨h3,nilI⟩;refine⟨.inl rfl,fun m hm=> ?_⟩;rcases List.mem_append.1 hm with hm | hm;exact h2 m hm;rw[List.mem_singleton.1 hm];exact W2c fun i j=>W2g _ _ _ _ _ (by omega)
theorem v0i {jac:List (List (List Mn))}{xs:List (List Ivl)}{p:Int}{n:Nat} : ∀k,(varN jac xs p n k).2=0->(varN jac xs p n k).1.length=k+1/\ ∀m,m<=k->((varN jac xs p n k).1.getD m [])=if m=0 then idM n else(matV jac xs p n (varN jac xs p n (m-1)).1 (m-1)).1
 | 0,_=>⟨rfl,fun m hm=>by rw[Nat.le_zero.1 hm];rfl⟩
 | k+1,h=>by
  have c:(varN jac xs p n k).2=0:=Classical.byContradiction fun c=>by rw[varN,if_pos c] at h;exact c h
  obtain⟨h1,h2⟩:=v0i k c;rw[varN,if_neg (by rw[c];decide)] at h⊢;by_cases d:slB jac xs p n k=false;rw[if_pos d] at h;cases h;rw[if_neg d] at h⊢;by_cases e:(matV jac xs p n (varN jac xs p n k).1 k).2=0;rw[if_neg (by rw[e];decide)];refine⟨by simp[h1],fun m hm=> ?_⟩;by_cases hmk:m<=k;show((varN jac xs p n k).1++_).getD m []=_;rw[Q0i _ _ _ _ (by omega)];exact h2 m hmk;obtain rfl:m=k+1:=(by omega);show((varN jac xs p n k).1++_).getD (k+1) []=_;rw[Q0k _ _ _ _ (by omega),h1,Nat.sub_self,if_neg (by omega)];rfl;rw[if_pos e] at h;exact absurd h e
theorem j1o {x y:Nat->Ivl}{p:Int}{t:Nat}(h:(dotF x y p t).2=0):dotF x y p (t+1)=if (opI 2 (x t) (y t) p).2≠0 then(default,(opI 2 (x t) (y t) p).2) else if t=0 then opI 2 (x t) (y t) p else opI 0 (dotF x y p t).1 (opI 2 (x t) (y t) p).1 p:=by rw[dotF,if_neg (by rw[h];decide)];split;rfl;split;rfl;split;rename_i c;exact Prod.ext (G1h 0 _ _ _ c).symm rfl;rfl
theorem x2x {x y:Nat->Ivl}{p:Int} : ∀t,(dotF x y p t).2≠0->(dotF x y p t).1=default
 | 0,h=>absurd rfl h
 | t+1,h=>by by_cases c:(dotF x y p t).2=0;rw[j1o c] at h⊢;split;rfl;rename_i d;rw[if_neg d] at h;split;rename_i e;rw[if_pos e] at h;exact G1h _ _ _ _ h;rename_i e;rw[if_neg e] at h;exact G1h _ _ _ _ h;rw[dotF,if_pos c]
theorem Q1s {x y:Nat->Ivl}{p:Int}{t:Nat}(h:(dotF x y p t).2≠0): ∀d,dotF x y p (t+d)=(default,(dotF x y p t).2)
 | 0=>Prod.ext (x2x t h) rfl
 | d+1=>by rw[<-Nat.add_assoc,dotF,if_pos (by rw[Q1s h d];exact h),Q1s h d]
theorem Y3b (D:Nat->Nat->Ivl)(k l:Nat){q:Nat}(hq:q<=k):varX D k (l*(k+1)+q)=D l q:=by unfold varX;rw[Nat.mul_comm l,Nat.mul_add_div (by omega),Nat.mul_add_mod,Nat.div_eq_of_lt (by omega),Nat.mod_eq_of_lt (by omega),Nat.add_zero]
theorem Y3a (ms:List Mx)(j k l:Nat){q:Nat}(hq:q<=k):varY ms j k (l*(k+1)+q)=atM (ms.getD (k-q) []) l j:=by unfold varY;rw[Nat.mul_comm l,Nat.mul_add_div (by omega),Nat.mul_add_mod,Nat.div_eq_of_lt (by omega),Nat.mod_eq_of_lt (by omega),Nat.add_zero]
def okC (l:List Mx):Bool:=l.all fun m=>K0c m&&decide (m.length=(l.getD 0 []).length)
def V0p (l:List Mx)(h:Ivl)(p:Int):Nat->Mx×Int
 | 0=>(l.getD (l.length-1) [],0)
 | i+1=>if (V0p l h p i).2≠0 then([],(V0p l h p i).2) else
  if (G0u h (V0p l h p i).1 p).2≠0 then([],(G0u h (V0p l h p i).1 p).2) else opM 0 (G0u h (V0p l h p i).1 p).1 (l.getD (l.length-2-i) []) p
def v1d (l:List Mx)(h:Ivl)(p:Int):Mx×Int:=
 if 1<=l.length/\l.length<=11/\Q0o h=true/\Z0m p=true/\okC l=true then V0p l h p (l.length-1) else([],1)
theorem okC_iff {l:List Mx} :okC l=true<-> ∀i,i<l.length->K0c (l.getD i [])=true/\(l.getD i []).length=(l.getD 0 []).length:=by unfold okC;simp only[q_d,q_i,decide_eq_true_eq];constructor;intro h i hi;exact h _ (by rw[show l.getD i []=l[i] by simp[q_a,hi]];exact List.getElem_mem hi);intro h m hm;obtain⟨i,hi,e⟩:=List.mem_iff_getElem.1 hm;have:=h i hi;rw[show l.getD i []=m by simp[q_a,hi,e]] at this;exact this
theorem y0m {l:List Mx}{h:Ivl}{p:Int}{k:Nat}(he:(V0p l h p k).2≠0): ∀d,V0p l h p (k+1+d)=([],(V0p l h p k).2)
 | 0=>by rw[Nat.add_zero,V0p,if_pos he]
 | d+1=>by rw[<-Nat.add_assoc,V0p,if_pos (by rw[y0m he d];exact he),y0m he d]
set_option maxRecDepth 100000
open Go.Proofs
def wCs (l:List Mx):Prop:=l.length<=100000000000/\ ∀i,i<l.length->wM (l.getD i [])
theorem v2o {l:List Mx}{h:Ivl}{p:Int}(hl:wCs l)(h1:1<=l.length): ∀i,wM (V0p l h p i).1
 | 0=>hl.2 _ (by omega)
 | i+1=>by rw[V0p];split;exact Q2k;split;exact Q2k;exact k3y _ _ _ _
theorem H0v {l:List Mx}{h:Ivl}{p:Int}(hh: ¬(1<=l.length/\l.length<=11/\Q0o h=true/\Z0m p=true/\okC l=true)):v1d l h p=([],1):=by unfold v1d;rw[if_neg hh]
theorem V3d {l:List Mx}{i:Nat}(hi:i<l.length)(h: ¬(K0c (l.getD i [])=true/\(l.getD i []).length=(l.getD 0 []).length)):okC l=false:=Bool.eq_false_iff.2 fun e=>h (okC_iff.1 e i hi)
theorem U2f {l:List Mx}{h:Ivl}{p:Int}{i:Nat}(hi:i<l.length-1)(h0:(V0p l h p i).2=0)(he:(V0p l h p (i+1)).2≠0)(hd:(V0p l h p (i+1)).1= []):V0p l h p (l.length-1)=([],(V0p l h p (i+1)).2):=by by_cases e:i+1=l.length-1;rw[<-e];exact Prod.ext hd rfl;have:=y0m he (l.length-1-(i+2));rwa [show i+1+1+(l.length-1-(i+2))=l.length-1 by omega] at this
theorem U3n {k:Nat}{a b:Mx}{p:Int}(h:(opM k a b p).2≠0):(opM k a b p).1= []:=by unfold opM at h⊢;split;rename_i c;rw[if_pos c] at h;exact Q2s _ _ _ h;rfl
set_option maxHeartbeats 4000000 in
theorem k3e (l:List Mx)(h:Ivl)(p:Int)(st:Q0e)(wl:wCs l)(wh:wI h):
 PCalls Tryz.prog 60 [.sl .no (X0u l),.agg (encI h),.sc (.int .i64 p)] st
 (fun r st'=>r= .tup [.sl .no (encM (v1d l h p).1),.sc (.int .i64 (v1d l h p).2)]/\st'=st):=by
 refine Q0b none Tryz.func60 rfl fun E=>Q0a ?_;by_cases c1:1<=l.length;rotate_left;have d1:decide ((l.length:Int)<1)=true:=q_h (by omega);rw[H0v (fun hh=>c1 hh.1)];simp-dsimp only[go_sem,d1];have d1:decide ((l.length:Int)<1)=false:=q_g (by omega);by_cases c2:l.length<=11;rotate_left;have d2:decide ((l.length:Int)>11)=true:=q_h (by omega);rw[H0v (fun hh=>c2 hh.2.1)];simp-dsimp only[go_sem,d1,d2];have d2:decide ((l.length:Int)>11)=false:=q_g (by omega);simp-dsimp only[go_sem,d1,d2];refine(U0y h _ wh).mono ?_;rintro r st ⟨rfl,rfl⟩;cases hr:Q0o h with
 | false=>
  rw[H0v (fun hh=>by rw[hr] at hh;exact absurd hh.2.2.1 (by decide))];simp-dsimp only[go_sem]
 | true=>
 simp-dsimp only[go_sem];refine(U0f p _).mono ?_;rintro r st ⟨rfl,rfl⟩;cases hp:Z0m p with
 | false=>
  rw[H0v (fun hh=>by rw[hp] at hh;exact absurd hh.2.2.2.1 (by decide))];simp-dsimp only[go_sem]
 | true=>
 simp-dsimp only[go_sem];refine Q0d [true,false,true,false,true,false,false,false,false,false,false,false,false,false,false,false,false,false,false,false,false,false,false,false,false,false,false,false,false,false,false,false,false,false,false,false,false,false,false,true,true,true] 1 0
  (fun c s'=> ∃i,c=l.length-i/\i<=l.length/\(∀j,j<i->K0c (l.getD j [])=true/\(l.getD j []).length=(l.getD 0 []).length)/\
   s'=⟨[.sl .no (X0u l),.junk,.sc (.int .i64 p),.junk,.lp 0 0]++List.replicate 34 .junk++ [.sl .no (X0u l),.sc (.int .i64 (l.length:Nat)),.sc (.int .i64 (i:Nat))]++List.replicate 82 .junk,[encI h],[],st⟩) l.length ?_ ?_
 simp-dsimp only[go_sem];exact⟨0,by omega,by omega,fun j hj=>absurd hj (by omega),rfl⟩;rintro c s' ⟨i,rfl,hi,hok,rfl⟩;simp-dsimp only[go_sem];refine ck (fun hk=> ?_) (fun hk=> ?_)
 . have hlt:i<l.length:=by have:=q_b hk;omega
   have e3:=V0g i (by omega);have g2:=Y0q l i hlt;have g0:=Y0q l 0 (by omega);have w1:=wl.2 i hlt;simp-dsimp only[go_sem,g2];refine⟨by omega,?_⟩;refine(Q1e (l.getD i []) _ w1).mono ?_;rintro r st ⟨rfl,rfl⟩;cases hm:K0c (l.getD i []) with
   | false=>
    rw[H0v (fun hh=>by rw[V3d hlt (fun q=>by rw[hm] at q;exact absurd q.1 (by decide))] at hh;exact absurd hh.2.2.2.2 (by decide))];simp-dsimp only[go_sem]
   | true=>
   simp-dsimp only[go_sem,g0];refine⟨by omega,?_⟩;by_cases hq:(l.getD i []).length=(l.getD 0 []).length;have q1:(((l.getD i []).length:Int) !=((l.getD 0 []).length:Int))=false:=(by rw[hq];simp);simp-dsimp only[go_sem,q1,e3];refine⟨l.length-(i+1),by omega,i+1,rfl,by omega,fun j hj=> ?_,rfl⟩;by_cases e:j=i;rw[e];exact⟨hm,hq⟩;exact hok j (by omega);have q1:(((l.getD i []).length:Int) !=((l.getD 0 []).length:Int))=true:=bne_iff_ne.2 fun e=>hq (by exact_mod_cast e);rw[H0v (fun hh=>by rw[V3d hlt (fun q=>hq q.2)] at hh;exact absurd hh.2.2.2.2 (by decide))];simp-dsimp only[go_sem,q1]
 have hge:i=l.length:=by have:=q_c hk;omega
 subst hge;have hall:okC l=true:=okC_iff.2 hok;have hS:v1d l h p=V0p l h p (l.length-1):=(by unfold v1d;rw[if_pos ⟨c1,c2,hr,hp,hall⟩]);rw[hS];have wi:=v2o (h:=h) (p:=p) wl c1;have wl1:=wl.1;have hfin:=fun i=>U2f (l:=l) (h:=h) (p:=p) (i:=i);have hM:=hok (l.length-1) (by omega);have hMl:=W0u hM.1;have hMr:=fun i (hi:i<(l.getD (l.length-1) []).length)=>U0g hM.1 hi;have gM:=Y0q l (l.length-1) (by omega);have e1:IntKind.i64.wrap ((l.length:Int)-1)=((l.length-1:Nat):Int):=(by rw[Q0j _ (by omega) (by omega)];omega);have e2:IntKind.i64.wrap ((l.length:Int)-2)=(l.length:Int)-2:=(by rw[Q0j _ (by omega) (by omega)]);simp-dsimp only[go_sem];refine Q0a ?_;simp-dsimp only[go_sem,e1,gM];refine⟨by omega,?_⟩;refine Z0j 10 1 ?_;simp-dsimp only[go_sem];have h0:V0p l h p 0=(l.getD (l.length-1) [],0):=rfl;generalize hMM:l.getD (l.length-1) []=M at hM hMl hMr gM h0;refine Q0d [true,false,true,false,true,false,false,false,false,false,true,false,false,false,false,false,false,false,false,false,false,false,false,false,false,false,false,false,false,false,false,false,false,false,false,false,false,false,false,false,false,false,false,false,false,false,false,false,false,false,false,false,false,false,false,false,false,false,false,false,false,false,false,true,true,true] 1 1
  (fun c s'=> ∃i,c=M.length-i/\i<=M.length/\
   s'=⟨[.sl .no (X0u l),.junk,.sc (.int .i64 p),.junk,.lp 0 0,.junk,.junk,.junk,.junk,.junk,.sl (.own 0) (encM (M.take i))]++List.replicate 52 .junk++ [.sl .no (encM M),.sc (.int .i64 (M.length:Nat)),.sc (.int .i64 (i:Nat))]++List.replicate 58 .junk,[encI h],[(i,1)],st⟩) M.length ?_ ?_
 simp-dsimp only[go_sem];exact⟨0,by omega,by omega,rfl⟩;rintro c s' ⟨i,rfl,hi,rfl⟩;have hil:(M.take i).length=i:=(by rw[List.length_take];omega);simp-dsimp only[go_sem];refine ck (fun hk=> ?_) (fun hk=> ?_);have hlt:i<M.length:=(by have:=q_b hk;omega);have e3:=V0g i (by omega);have g2:=U0b M i hlt;have hrow:=hMr i hlt;have hsn:=k3a [] M hlt;simp-dsimp only[go_sem,g2];refine⟨by omega,?_⟩;refine Z0j 13 6 ?_;simp-dsimp only[go_sem];refine Q0d [true,false,true,false,true,false,false,false,false,false,true,false,false,true,false,false,false,false,false,false,false,false,false,false,false,false,false,false,false,false,false,false,false,false,false,false,false,false,false,false,false,false,false,false,false,false,false,false,false,false,false,false,false,false,false,false,false,false,false,false,false,false,false,true,true,true,false,false,false,true,true,true] 1 2
  (fun c s'=> ∃j,c=M.length-j/\j<=M.length/\
   s'=⟨[.sl .no (X0u l),.junk,.sc (.int .i64 p),.junk,.lp 0 0,.junk,.junk,.junk,.junk,.junk,.sl (.own 0) (encM (M.take i)),.junk,.junk,.sl (.own 1) (Q0t ((M.getD i []).take j))]++List.replicate 49 .junk++ [.sl .no (encM M),.sc (.int .i64 (M.length:Nat)),.sc (.int .i64 (i:Nat)),.junk,.junk,.junk,.sl .no (Q0t (M.getD i [])),.sc (.int .i64 (M.length:Nat)),.sc (.int .i64 (j:Nat))]++List.replicate 52 .junk,[encI h],[(i,1),(j,6)],st⟩) M.length ?_ ?_
 simp-dsimp only[go_sem,hrow.1];exact⟨0,by omega,by omega,rfl⟩;rintro c s' ⟨j,rfl,hj,rfl⟩;simp-dsimp only[go_sem];refine ck (fun hk2=> ?_) (fun hk2=> ?_);have hlt2:j<M.length:=(by have:=q_b hk2;omega);have e4:=V0g j (by omega);have gI:=X0b (M.getD i []) j (by omega);have hx:=q1y hrow.2 (i:=j) (by omega);have hwx:=J0p hx;have hsn2:=k3a default (M.getD i []) (i:=j) (by omega);have hs2:=G0f ((M.getD i []).take j) ((M.getD i []).getD j default);have hl2:((M.getD i []).take j).length=j:=(by rw[List.length_take,hrow.1];omega);have mk:w1n ((M.getD i []).getD j default).lo ((M.getD i []).getD j default).hi=((M.getD i []).getD j default,0):=(by unfold w1n;rw[if_pos hx]);rw[<-hsn2] at hs2;simp-dsimp only[go_sem,gI];refine⟨by omega,?_⟩;refine(X2e _ _ _ hwx.1 hwx.2).mono ?_;rintro r st ⟨rfl,rfl⟩;simp-dsimp only[go_sem,mk,hs2,hl2,e4];exact⟨by omega,M.length-(j+1),by omega,j+1,rfl,by omega,rfl⟩;have hge:j=M.length:=(by have:=q_c hk2;omega);subst hge;have hf:(M.getD i []).take M.length=M.getD i []:=List.take_of_length_le (by rw[hrow.1];exact Nat.le_refl _);have hs3:=x2o (M.take i) (M.getD i []);rw[<-hsn] at hs3;simp-dsimp only[go_sem];refine Q0a ?_;simp-dsimp only[go_sem,hf,hil];refine⟨by omega,?_⟩;refine Q0a ?_;simp-dsimp only[go_sem,e3];exact⟨M.length-(i+1),by omega,i+1,rfl,by omega,by rw[hsn]⟩;have hge:i=M.length:=(by have:=q_c hk;omega);subst hge;rw[List.take_length];simp-dsimp only[go_sem];refine J0q [false,false,false,false,false,false,false,false,false,false,true] (Q0a ?_);simp-dsimp only[go_sem,e2];rw[show M=(V0p l h p 0).1 by rw[h0]];refine Q0d [true,false,true,false,true,false,false,false,false,false,true,false,false,false,false,false,false,false,true] 1 0
  (fun c s'=> ∃i,c=l.length-1-i/\i<=l.length-1/\(V0p l h p i).2=0/\
   s'=⟨[.sl .no (X0u l),.junk,.sc (.int .i64 p),.junk,.lp 0 0,.junk,.junk,.junk,.junk,.junk,.sl .no (encM (V0p l h p i).1),.junk,.junk,.junk,.junk,.junk,.junk,.junk,.sc (.int .i64 ((l.length:Int)-2-(i:Nat)))]++List.replicate 105 .junk,[encI h],[],st⟩) (l.length-1) ?_ ?_
 simp-dsimp only[go_sem];exact⟨0,by omega,by omega,rfl,by simp⟩;rintro c s' ⟨i,rfl,hi,he,rfl⟩;by_cases hlt:i<l.length-1;have d3:decide ((l.length:Int)-2-(i:Nat)>=0)=true:=q_h (by omega);have e3:IntKind.i64.wrap ((l.length:Int)-2-(i:Nat)-1)=(l.length:Int)-2-((i+1:Nat):Int):=(by rw[Q0j _ (by omega) (by omega)];omega);have e4:(l.length:Int)-2-(i:Nat)=((l.length-2-i:Nat):Int):=(by omega);have gJ:=Y0q l (l.length-2-i) (by omega);have wj:=wl.2 (l.length-2-i) (by omega);have fi:=hfin i hlt he;have hst:V0p l h p (i+1)=if (G0u h (V0p l h p i).1 p).2≠0 then([],(G0u h (V0p l h p i).1 p).2) else opM 0 (G0u h (V0p l h p i).1 p).1 (l.getD (l.length-2-i) []) p:=(by rw[V0p,if_neg (by rw[he];decide)]);have b1:l.length-2-i<l.length:=(by omega);rw[e4] at d3 e3;have wv:=wi i;simp-dsimp only[go_sem,e4,d3];refine(V2n h (V0p l h p i).1 p _ wh wv).mono ?_;rintro r st2 ⟨rfl,rfl⟩;have wz:=Y2v h (V0p l h p i).1 p;generalize hZ:V0p l h p (i+1)=Z at hst fi;generalize G0u h (V0p l h p i).1 p=z at hst wz⊢;by_cases hz:z.2=0;have b0:(z.2 !=0)=false:=(by simp[hz]);rw[if_neg (by rw[hz];decide)] at hst;simp-dsimp only[go_sem,b0,gJ];refine⟨⟨Int.natCast_nonneg _,by exact_mod_cast b1⟩,?_⟩;refine(Q3k z.1 (l.getD (l.length-2-i) []) p _ wz wj).mono ?_;rintro r st2 ⟨rfl,rfl⟩;rw[<-hst];by_cases hu:Z.2=0;have c3:(Z.2 !=0)=false:=(by simp[hu]);simp-dsimp only[go_sem,c3,e3];exact⟨l.length-1-(i+1),by omega,i+1,rfl,by omega,by rw[hZ];exact hu,by rw[hZ]⟩;have c3:(Z.2 !=0)=true:=(by simp[hu]);simp-dsimp only[go_sem,c3];rw[fi hu (by rw[hst] at hu⊢;exact U3n hu)];rfl;have b0:(z.2 !=0)=true:=(by simp[hz]);rw[if_pos hz] at hst;simp-dsimp only[go_sem,b0];rw[fi (by rw[hst];exact hz) (by rw[hst]),hst];rfl;have d3:decide ((l.length:Int)-2-(i:Nat)>=0)=false:=q_g (by omega);have hie:i=l.length-1:=(by omega);simp-dsimp only[go_sem,d3];refine Q0a ?_;simp-dsimp only[go_sem];rw[<-hie,he]
def wJac (jac:List (List (List Mn)))(n:Nat):Prop:=jac.length=n/\ ∀i,i<n->(jac.getD i []).length=n/\ ∀l,l<n->wP ((jac.getD i []).getD l [])
end Go.Pv
end
