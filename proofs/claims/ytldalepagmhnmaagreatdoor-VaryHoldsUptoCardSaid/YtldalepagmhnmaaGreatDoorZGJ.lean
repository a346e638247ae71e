/- Parts of the walk: M99, PvBq. -/
import Derived.Test.YtldalepagmhnmaaGreatDoorZGD
set_option linter.unusedVariables false
set_option linter.unusedSimpArgs false
section
namespace Go.Pv
def wE (jac:List (List (List Mn)))(n:Nat)(X:Nat->Nat->Rat):Nat->Nat->Nat->Nat->Rat
 | 0=>fun i j _=>y0e i j
 | k+1=>fun i j m=>if m=k+1 then sumR (fun l=>k0y (polD jac n X i l) (wE jac n X k l j) k) n else wE jac n X k i j m
def varW (jac:List (List (List Mn)))(n:Nat)(X:Nat->Nat->Rat)(i j m:Nat):Rat:=wE jac n X m i j m
theorem J3y {jac:List (List (List Mn))}{n:Nat}{X:Nat->Nat->Rat}{i j m:Nat} : ∀k,m<=k->wE jac n X k i j m=varW jac n X i j m
 | 0,h=>by obtain rfl:m=0:=by omega
           rfl
 | k+1,h=>by by_cases e:m=k+1;rw[e];rfl;show(if m=k+1 then _ else wE jac n X k i j m)=_;rw[if_neg e];exact J3y k (by omega)
theorem H1s (jac:List (List (List Mn)))(n:Nat)(X:Nat->Nat->Rat)(i j:Nat):varW jac n X i j 0=y0e i j:=rfl
theorem X1q (jac:List (List (List Mn)))(n:Nat)(X:Nat->Nat->Rat)(i j k:Nat):varW jac n X i j (k+1)=sumR (fun l=>k0y (polD jac n X i l) (varW jac n X l j) k) n:=by show(if k+1=k+1 then sumR (fun l=>k0y (polD jac n X i l) (wE jac n X k l j) k) n else wE jac n X k i j (k+1))=_;rw[if_pos rfl];exact U0o fun l _=>K1k (fun _ _=>rfl) fun q hq=>J3y k hq
theorem j3b (jac:List (List (List Mn)))(n:Nat)(X:Nat->Nat->Rat)(K:Nat):varD jac n X (varW jac n X) K:=⟨fun i j _ _=>rfl,fun k _ i j _ _=>X1q jac n X i j k⟩
theorem X3i (i j:Nat):luQ 0 1 (y0e i j):=by unfold y0e;split;exact(k0w (m:=1) (n:=1) (by decide));exact z0c _ _
theorem Y2d {jac:List (List (List Mn))}{n K A U s r:Nat}{X:Nat->Nat->Rat}(hK:K<12)(hg: ∀i,i<n-> ∀l,l<n->grQ A U s r K (polD jac n X i l))(hs:s<=A)(hr:r+21+n<=U): ∀k,k<=K-> ∀i,i<n-> ∀j,j<n->grQ A U 0 1 k (varW jac n X i j)
 | 0,_=>fun i hi j hj q hq=>by obtain rfl:q=0:=(by omega);rw[H1s];exact(X3i i j).mono (by omega) (by omega)
 | k+1,hk=>fun i hi j hj q hq=>by have ih:=Y2d (jac:=jac) hK hg hs hr k (by omega);by_cases e:q=k+1;subst e;rw[X1q];have hl: ∀l,l<n->luQ (A*k+(s+0)) (U*k+(r+1+21)) (k0y (polD jac n X i l) (varW jac n X l j) k):=fun l hl=>G1o (by omega) ((hg i hi l hl).low (by omega)) (ih l hl j hj) (k+1) (Nat.le_refl _);have e1:A*(k+1)=A*k+A:=Nat.mul_succ _ _;have e2:U*(k+1)=U*k+U:=Nat.mul_succ _ _;exact(U1t n hl).mono (by omega) (by omega);exact ih i hi j hj q (by omega)
def v0f (l:List (List (List Vl))):List PV:=l.map fun c=>(.sl .no (Q0y c))
@[go_sem] theorem x1x (l:List (List (List Vl))):(v0f l).length=l.length:=by simp[v0f]
@[go_sem] theorem J4s (l:List (List (List Vl))):(v0f l).all (fun x=>(x.cells.length==1)&&x.cells.all PV.cellOK)=true:=by simp[v0f,PV.cells,PV.cellOK,Value.oneCell']
theorem K1x (l:List (List (List Vl)))(n:Nat)(h:n<l.length):(v0f l).getD n .junk= .sl .no (Q0y (l.getD n [])):=by simp[v0f,q_a,h]
@[go_sem] theorem w3h (l:List (List (List Vl)))(i:Nat)(cs:List PV):(v0f l).map (PV.frz i cs)=v0f l:=by simp only[v0f,List.map_map];exact List.map_congr_left fun a _=>rfl
def RowAt (B sz:Nat)(S:Q0f)(y:PV)(es:List PV):Prop:=
 (es= []/\y= .sl .full [])\/(es≠ []/\ ∃K cap R,y= .gr K es.length cap/\B<=K/\K<S.length/\S.getD K []=flat es++R/\R.length=(cap-es.length)*sz/\es.length<=cap)
theorem w0d {B sz:Nat}{S:Q0f}{a:PV}{cap:Nat}{R:List PV}(hB:B<=S.length)(hc:1<=cap)(hR:R.length=(cap-1)*sz):RowAt B sz (S++ [flat [a]++R]) (.gr S.length 1 cap) [a]:=
 .inr ⟨by simp,S.length,cap,R,rfl,hB,by simp,by rw[Q0k _ _ _ _ (Nat.le_refl _),Nat.sub_self];rfl,hR,hc⟩
theorem w0e {B sz K cap K' cap':Nat}{S S':Q0f}{a:PV}{es R:List PV}(h1:B<=K)(h2:K<S.length)(h3:S.getD K []=flat es++R)(h4:R.length=(cap-es.length)*sz)(h5:es.length<=cap)(he:(flat es).length=es.length*sz)(ha:a.cells.length=sz)
 (hG:GrowTo S K es.length cap [a] sz K' cap' S'):RowAt B sz S' (.gr K' (es.length+1) cap') (es++ [a])/\S.length<=S'.length/\ ∀x,x<S.length->x<B->S'.getD x []=S.getD x []:=by
 have hfa:(flat [a]).length= [a].length*sz:=by show(a.cells++ []).length=_;rw[List.append_nil,ha];simp
 obtain⟨R',f1,f2,f4,f5,f6,f7,f8⟩:=GrowTo.facts hG h2 h3 he hfa h4 h5;have e:flat (es++ [a])=flat es++flat [a]:=z0f _ _;refine⟨.inr ⟨by simp,K',cap',R',by simp,?_,f5,by rw[f1,e,List.append_assoc],by simpa using f2,by simpa using f4⟩,f7,fun x hx hx2=>f8 x hx (by omega)⟩;rcases f6 with rfl | rfl<;>omega
theorem H0p (l:List Vl):(flat (Q0u l)).length=(Q0u l).length*3:=Z0y fun i hi=>by rw[X0c] at hi;rw[W0a l i hi];rfl
theorem Z1m (l:List Vl): ∀i,i<(Q0u l).length->((Q0u l).getD i .junk).cells.length=3:=fun i hi=>by rw[X0c] at hi;rw[W0a l i hi];rfl
theorem Y1p (l:List (List Vl)):flat (Q0y l)=Q0y l:=by
 unfold Q0y flat
 induction l with
 | nil=>rfl
 | cons x l ih=>simp only[List.map_cons,List.flatten_cons,ih];rfl
def G0u (val:Nat->List Vl)(i:Nat):List (List Vl):=(List.range i).map val
theorem K0l (val:Nat->List Vl)(i:Nat):(G0u val i).length=i:=by simp[G0u]
theorem J1e (val:Nat->List Vl){i j:Nat}(h:j<i):(G0u val i).getD j []=val j:=by simp[G0u,q_a,h]
theorem K2d (val:Nat->List Vl)(i:Nat):G0u val (i+1)=G0u val i++ [val i]:=by simp[G0u,List.range_succ]
structure VO (st S:Q0f) (B O n:Nat) (rid cr:Nat->Nat) (val:Nat->Nat->List Vl):Prop where
 old:Old st S
 hB:st.length<=B/\B<=S.length
 o:st.length<=O/\O<B/\n<=(S.getD O []).length/\ ∀i,i<n->(S.getD O []).getD i .junk= .gr (rid i) n (cr i)
 r: ∀i,i<n->st.length<=rid i/\rid i<B/\rid i≠O/\n<=(S.getD (rid i) []).length/\ ∀j,j<n->(S.getD (rid i) []).getD j .junk= .sl .no (Q0u (val i j))
 d: ∀i j,i<n->j<n->rid i=rid j->i=j
section
variable {st S S':Q0f} {B O n:Nat} {rid cr:Nat->Nat} {val:Nat->Nat->List Vl}
theorem VO.keep (h:VO st S B O n rid cr val)(hl:S.length<=S'.length)(hx: ∀x,x<B->S'.getD x []=S.getD x []):VO st S' B O n rid cr val:=by obtain⟨o1,o2,o3,o4⟩:=h.o;refine⟨h.old.step hl fun x hx'=>hx x (q_e hx' h.hB.1),⟨h.hB.1,Nat.le_trans h.hB.2 hl⟩,⟨o1,o2,by rw[hx O o2];exact o3,by rw[hx O o2];exact o4⟩,fun i hi=> ?_,h.d⟩;obtain⟨r1,r2,r3,r4,r5⟩:=h.r i hi;exact⟨r1,r2,r3,by rw[hx _ r2];exact r4,by rw[hx _ r2];exact r5⟩
theorem VO.raise (h:VO st S B O n rid cr val):VO st S S.length O n rid cr val:=by obtain⟨o1,o2,o3,o4⟩:=h.o;refine⟨h.old,⟨Nat.le_trans h.hB.1 h.hB.2,Nat.le_refl _⟩,⟨o1,q_e o2 h.hB.2,o3,o4⟩,fun i hi=> ?_,h.d⟩;obtain⟨r1,r2,r3,r4,r5⟩:=h.r i hi;exact⟨r1,q_e r2 h.hB.2,r3,r4,r5⟩
theorem VO.ext (h:VO st S B O n rid cr val){val':Nat->Nat->List Vl}(hv: ∀i,i<n-> ∀j,j<n->val i j=val' i j):VO st S B O n rid cr val':=
 ⟨h.old,h.hB,h.o,fun i hi=>by obtain⟨r1,r2,r3,r4,r5⟩:=h.r i hi;exact⟨r1,r2,r3,r4,fun j hj=>by rw[<-hv i hi j hj];exact r5 j hj⟩,h.d⟩
def updT (val:Nat->Nat->List Vl)(i j:Nat)(v:List Vl):Nat->Nat->List Vl:=fun i' j'=>if i'=i/\j'=j then v else val i' j'
theorem VO.put (h:VO st S B O n rid cr val){i j:Nat}{v:List Vl}(hi:i<n)(hj:j<n)(hl:S.length<=S'.length)(hx: ∀x,x<B->x≠rid i->S'.getD x []=S.getD x [])
 (hr:S'.getD (rid i) []=(S.getD (rid i) []).set j (.sl .no (Q0u v))):VO st S' B O n rid cr (updT val i j v):=by
 obtain⟨o1,o2,o3,o4⟩:=h.o;obtain⟨q1,q2,q3,q4,q5⟩:=h.r i hi;have hO:=hx O o2 (fun e=>q3 e.symm);refine⟨h.old.step hl fun x hx'=>hx x (q_e hx' h.hB.1) (by omega),⟨h.hB.1,Nat.le_trans h.hB.2 hl⟩,⟨o1,o2,by rw[hO];exact o3,by rw[hO];exact o4⟩,fun i' hi'=> ?_,h.d⟩;obtain⟨r1,r2,r3,r4,r5⟩:=h.r i' hi';refine⟨r1,r2,r3,?_⟩;by_cases e:i'=i;subst e;rw[hr];refine⟨by rw[List.length_set];exact r4,fun j' hj'=> ?_⟩;unfold updT;by_cases e2:j'=j;subst e2;rw[Q0m _ _ _ _ (by omega),if_pos ⟨rfl,rfl⟩];rw[Q0i _ _ _ _ _ (fun e=>e2 e.symm),if_neg (fun e=>e2 e.2)];exact r5 j' hj';have hne:rid i'≠rid i:=fun e2=>e (h.d i' i hi' hi e2);rw[hx _ r2 hne];refine⟨r4,fun j' hj'=> ?_⟩;unfold updT;rw[if_neg (fun e2=>e e2.1)];exact r5 j' hj'
structure VB (st S:Q0f) (n i:Nat) (x:PV) (rid cr:Nat->Nat) (val:Nat->Nat->List Vl):Prop where
 old:Old st S
 o:RowAt st.length 1 S x ((List.range i).map fun k=>PV.gr (rid k) n (cr k))
 r: ∀k,k<i->st.length<=rid k/\rid k<S.length/\(∀K m c,x= .gr K m c->rid k≠K)/\n<=(S.getD (rid k) []).length/\ ∀j,j<n->(S.getD (rid k) []).getD j .junk= .sl .no (Q0u (val k j))
 d: ∀a b,a<i->b<i->rid a=rid b->a=b
theorem VB.start (st:Q0f)(n:Nat)(rid cr:Nat->Nat)(val:Nat->Nat->List Vl):VB st st n 0 (.sl .full []) rid cr val:=
 ⟨Old.refl _,.inl ⟨rfl,rfl⟩,fun k hk=>absurd hk (Nat.not_lt_zero _),fun a b ha=>absurd ha (Nat.not_lt_zero _)⟩
theorem VB.done {i:Nat}{x:PV}(h:VB st S n i x rid cr val)(hi:i=n)(hn:1<=n): ∃O cap,x= .gr O n cap/\VO st S S.length O n rid cr val:=by
 subst hi;rcases h.o with ⟨e,_⟩ | ⟨_,O,cap,R,rfl,o1,o2,o3,o4,o5⟩;have:=congrArg List.length e;simp at this;omega;refine⟨O,cap,by simp,h.old,⟨h.old.1,Nat.le_refl _⟩,⟨o1,o2,?_,fun k hk=> ?_⟩,fun k hk=> ?_,h.d⟩;have hf:(flat ((List.range i).map fun k=>PV.gr (rid k) i (cr k))).length=i*1:=by rw[Z0y (sz:=1) fun j hj=>by have hj:j<i:=(by simpa using hj);simp[q_a,hj,PV.cells]];simp
 rw[o3,List.length_append,hf];omega;rw[o3];have hf:flat ((List.range i).map fun k=>PV.gr (rid k) i (cr k))=(List.range i).map fun k=>PV.gr (rid k) i (cr k):=by
  generalize List.range i=l;unfold flat
  induction l with
  | nil=>rfl
  | cons x l ih=>simp only[List.map_cons,List.flatten_cons,ih];rfl
 rw[hf,Q0g _ _ _ _ (by simpa using hk)];simp[q_a,hk];obtain⟨r1,r2,r3,r4,r5⟩:=h.r k hk;exact⟨r1,r2,r3 _ _ _ rfl,r4,r5⟩
theorem Z3k (rid cr:Nat->Nat)(n:Nat)(l:List Nat):flat (l.map fun k=>PV.gr (rid k) n (cr k))=l.map fun k=>PV.gr (rid k) n (cr k):=by
 unfold flat
 induction l with
 | nil=>rfl
 | cons x l ih=>simp only[List.map_cons,List.flatten_cons,ih];rfl
theorem Z2w (rid cr:Nat->Nat)(n i K c:Nat):((List.range (i+1)).map fun k=>PV.gr (if k=i then K else rid k) n (if k=i then c else cr k))=((List.range i).map fun k=>PV.gr (rid k) n (cr k))++ [.gr K n c]:=by rw[List.range_succ,List.map_append];congr 1;refine List.map_congr_left fun k hk=> ?_;have:=List.mem_range.1 hk;rw[if_neg (by omega),if_neg (by omega)];simp
theorem VB.step {i K c:Nat}{x:PV}{rows:List (List Vl)}{S1:Q0f}(h:VB st S n i x rid cr val)(hl:S.length<=S1.length)(hx: ∀q,q<S.length->S1.getD q []=S.getD q [])(hrow:RowAt S.length 1 S1 (.gr K n c) (Q0y rows))(hr:rows.length=n)
 (hv: ∀j,j<n->rows.getD j []=val i j):
 (x= .sl .full []-> ∀cap' R,1<=cap'->R.length=(cap'-1)*1-> ∃rid' cr',VB st (S1++ [flat [PV.gr K n c]++R]) n (i+1) (.gr S1.length (0+1) cap') rid' cr' val/\i=0)/\
 (∀O m cap,x= .gr O m cap->m=i/\(S1.getD O []).length=cap*1/\ ∀O' cap' S2,GrowTo S1 O m cap [.gr K n c] 1 O' cap' S2-> ∃rid' cr',VB st S2 n (i+1) (.gr O' (m+1) cap') rid' cr' val):=by
 rcases hrow with ⟨_,e⟩ | ⟨_,K',cap,R,e,k1,k2,k3,k4,k5⟩;cases e;have el:(Q0y rows).length=n:=(by rw[Z0t,hr]);rw[el] at e k4 k5;injection e with e1 e2 e3;subst e1;subst e3;have hkr:n<=(S1.getD K []).length/\ ∀j,j<n->(S1.getD K []).getD j .junk= .sl .no (Q0u (val i j)):=by rw[k3,Y1p];refine⟨by rw[List.length_append,el];omega,fun j hj=> ?_⟩;rw[Q0g _ _ _ _ (by omega),q0l rows j (by omega),hv j hj]
 have hdis: ∀a b,a<i+1->b<i+1->(if a=i then K else rid a)=(if b=i then K else rid b)->a=b:=fun a b ha hb e=>by by_cases ea:a=i;by_cases eb:b=i;omega;rw[if_pos ea,if_neg eb] at e;have:=(h.r b (by omega)).2.1;omega;by_cases eb:b=i;rw[if_neg ea,if_pos eb] at e;have:=(h.r a (by omega)).2.1;omega;rw[if_neg ea,if_neg eb] at e;exact h.d a b (by omega) (by omega) e
 have hB:=h.old.1;refine⟨fun ex cap' R' hc hR=> ?_,fun O m cap' ex=> ?_⟩
 . rcases h.o with ⟨e0,_⟩ | ⟨_,O,cap,R,e0,_⟩;rotate_left;rw[ex] at e0;cases e0;have i0:i=0:=by have:=congrArg List.length e0;simpa using this
   subst i0;refine⟨fun k=>if k=0 then K else rid k,fun k=>if k=0 then c else cr k,⟨h.old.step (by simp;omega) fun q hq=> ?_,?_,fun k hk=> ?_,hdis⟩,rfl⟩;rw[Q0g _ _ _ _ (by omega)];exact hx q (by omega);rw[Z2w];exact w0d (by omega) hc hR;obtain rfl:k=0:=(by omega);rw[if_pos rfl];refine⟨by omega,by simp;omega,fun K2 m2 c2 e4=> ?_,?_⟩;injection e4 with e4;omega;rw[Q0g _ _ _ _ k2];exact hkr
 rcases h.o with ⟨_,e0⟩ | ⟨_,O2,cap,R,e0,o1,o2,o3,o4,o5⟩;rw[ex] at e0;cases e0;rw[ex] at e0;have gl:((List.range i).map fun k=>PV.gr (rid k) n (cr k)).length=i:=(by simp);rw[gl] at e0 o4 o5;injection e0 with a1 a2 a3;subst a1;subst a2;subst a3;have hfl:(flat ((List.range m).map fun k=>PV.gr (rid k) n (cr k))).length=m*1:=(by rw[Z3k,gl,Nat.mul_one]);refine⟨rfl,by rw[hx O o2,o3,List.length_append,hfl,o4,<-Nat.add_mul];congr 1;omega,fun O' cap2 S2 hG=> ?_⟩;have hOr:=hx O o2;rw[o3] at hOr;have hG0:=hG;have hG':GrowTo S1 O ((List.range m).map fun k=>PV.gr (rid k) n (cr k)).length cap' [.gr K n c] 1 O' cap2 S2:=(by rw[gl];exact hG);obtain⟨g1,g2,_⟩:=w0e o1 (q_e o2 hl) hOr (by rw[gl];exact o4) (by rw[gl];exact o5) (by rw[gl];exact hfl) rfl hG';obtain⟨R',f1,f2,f4,f5,f6,f7,f8⟩:=GrowTo.facts hG0 (q_e o2 hl) hOr hfl rfl o4 o5;rw[gl] at g1;refine⟨fun k=>if k=m then K else rid k,fun k=>if k=m then c else cr k,h.old.step (by omega) fun q hq=> ?_,by rw[Z2w];exact g1,fun k hk=> ?_,hdis⟩;rw[f8 q (by omega) (by omega)];exact hx q (by omega);by_cases ek:k=m;rw[if_pos ek];refine⟨by omega,by omega,fun K2 m2 c2 e4=> ?_,?_⟩;injection e4 with e4;rcases f6 with f6 | f6<;>omega;rw[f8 K k2 (by omega),ek];exact hkr;rw[if_neg ek];obtain⟨r1,r2,r3,r4,r5⟩:=h.r k (by omega);have hne:=r3 _ _ _ ex;refine⟨r1,by omega,fun K2 m2 c2 e4=> ?_,?_⟩;injection e4 with e4;rcases f6 with f6 | f6<;>omega;rw[f8 _ (by omega) hne,hx _ r2];exact⟨r4,r5⟩
theorem VO.seen {B:Nat}{cap:Nat}(h:VO st S B O n rid cr val){Q:PV->Prop}(hq:Q (.sl .no (v0f ((List.range n).map fun i=>G0u (val i) n)))):SeenRet st Q (.gr O n cap) S:=by
 obtain⟨X,hX⟩:=h.old.app;obtain⟨o1,o2,o3,o4⟩:=h.o;have hB:=h.hB;have hex: ∃e:List Nat,∀k,k<S.length->e.getD k 0=if k=O\/(∃i,i<n/\rid i=k) then n else 0:=by
  classical
  refine⟨(List.range S.length).map fun k=>if k=O\/(∃i,i<n/\rid i=k) then n else 0,fun k hk=> ?_⟩;simp[q_a,hk]
 obtain⟨e,he⟩:=hex;refine⟨X,_,e,hX,?_,fun k hk=> ?_,fun k hk=> ?_,rfl,rfl,hq⟩;have hlen:((List.range n).map fun i=>G0u (val i) n).length=n:=(by simp);refine .ms (sz:=1) (.inr ⟨cap,rfl⟩) (by omega) (by rw[x1x,hlen]) (fun i hi=>by rw[K1x _ _ (by omega)];rfl) (by rw[he O (by omega),if_pos (.inl rfl),Nat.mul_one];exact Nat.le_refl _) fun i j hi hj=> ?_;have:j=0:=(by omega);subst this;obtain⟨r1,r2,r3,r4,r5⟩:=h.r i hi;rw[Nat.mul_one,Nat.add_zero,o4 i hi,K1x _ _ (by omega)];have hg:((List.range n).map fun i=>G0u (val i) n).getD i []=G0u (val i) n:=(by simp[q_a,hi]);rw[hg];show Seen S e (.gr (rid i) n (cr i)) (.sl .no (Q0y (G0u (val i) n)));refine .ms (sz:=1) (.inr ⟨cr i,rfl⟩) (by omega) (by rw[Z0t,K0l]) (fun j hj=>by rw[q0l _ _ (by rw[K0l];exact hj)];rfl) (by rw[he _ (by omega),if_pos (.inr ⟨i,hi,rfl⟩),Nat.mul_one];exact Nat.le_refl _) fun j q hj hq=> ?_;have:q=0:=(by omega);subst this;rw[Nat.mul_one,Nat.add_zero,r5 j hj,q0l _ _ (by rw[K0l];exact hj),J1e _ hj];exact .same (Y2n _ _);rw[he k hk];split;rename_i hk2;rcases hk2 with rfl | ⟨i,hi,rfl⟩;exact o3;exact(h.r i hi).2.2.2.1;omega;rw[he k (by omega),if_neg];rintro(rfl | ⟨i,hi,rfl⟩);omega;have:=(h.r i hi).1;omega
end
end Go.Pv
end
