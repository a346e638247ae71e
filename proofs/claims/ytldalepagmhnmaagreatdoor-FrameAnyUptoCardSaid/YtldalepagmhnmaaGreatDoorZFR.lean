/- Parts of the walk: PvBk, PvBl, PvBm, PvBr. -/
import Derived.Test.YtldalepagmhnmaaGreatDoorZFC
set_option linter.unusedVariables false
set_option linter.unusedSimpArgs false
section
namespace Go.Pv
theorem z2c {w:World}{g g':Gh}{v:Value}{k len sz:Nat}{es R:List PV}(hsz: ∀i,i<es.length->(es.getD i .junk).cells.length=sz)(hp:0<sz)(hl:es.length=len)
 (hh:Holds w (Rep w g) (g.mu k) (flat es++R)) (hmu:g'.mu k=g.mu k) (hv:es.length*sz<=g'.vis (g.mu k)) (hm: ∀v p,Rep w g v p->Rep w g' v p) (h:Rep w g' v (.ms true k 0 len)):Rep w g' v (.sl .no es):=by
 cases h with
 | gms _ _ _ cap hi hcap=>
  rw[hmu];have hfl:=J0m hsz;obtain⟨cf,hcf⟩:=hh.pick;have hin: ∀a b,a<es.length->b<sz->a*sz+b<es.length*sz:=fun a b ha hb=>J0x ha hb;have key:=Rep.sl (w:=w) (g:=g') .no es (g.mu k) 0 sz cap (fun a b=>cf (a*sz+b)) rfl (fun h=>by cases h) oG hsz (fun _=>oG)
   (fun a b ha hb=>by have:=hin a b ha hb;rw[Nat.zero_add];exact(hcf _ (by rw[List.length_append];omega)).1)
   (fun a b ha hb=>by have h1:=hin a b ha hb;have h2:=(hcf _ (by rw[List.length_append];omega:a*sz+b<(flat es++R).length)).2;rw[Q0j _ _ _ _ oG,U0q hsz _ h1] at h2;have e1:(a*sz+b)/sz=a:=(by rw[Nat.mul_comm,Nat.mul_add_div hp,Nat.div_eq_of_lt hb,Nat.add_zero]);have e2:(a*sz+b) % sz=b:=(by rw[Nat.mul_comm,Nat.mul_add_mod,Nat.mod_eq_of_lt hb]);rw[e1,e2] at h2;exact hm _ _ h2)
  rw[hl] at key;exact key
theorem Y2i {E:Ent}(s:PFS)(t k n c:Nat)(ht:s.pa.getD t .junk= .gr k n c)(st':Q0g)(hl:st'.length=s.st.length)
 (hs: ∀i,i<s.st.length->(st'.getD i []).length=(s.st.getD i []).length/\ ∀o,o<(s.st.getD i []).length->Un ((s.st.getD i []).getD o .junk) ((st'.getD i []).getD o .junk)):Weak E s { s with pa:=s.pa.set t (.ms true k 0 n),st:=st' } :=by
 intro a w g F h;have ho:=h.store;have hn:=ho.n;refine⟨g,F,h.ext,⟨by rw[hn,hl],ho.inj,ho.lt,fun i hi hne=>ho.vis i hi fun e=>hne ?_,fun i hi j hj=> ?_,ho.none,ho.tab⟩,h.frame,h.defers,by simp[h.len],fun m hm=> ?_⟩;have:=(hs i oG).1;rw[e] at this;exact List.eq_nil_of_length_eq_zero (by simpa using this);obtain⟨q1,q2⟩:=hs i oG;rw[q1] at hj;obtain⟨z1,c,z2,z3⟩:=ho.holds i hi j hj;exact⟨z1,c,z2,(q2 j hj).rep z3⟩;simp only[List.length_set] at hm⊢;by_cases e:t=m;subst e;rw[Q0w _ _ _ _ hm];have:=h.tmps t hm;rw[ht] at this;generalize a.tmps.getD t undef=v at this⊢;cases this with
 | base _ _ h'=>exact .base _ _ ((Un.gr k n c).rep h')
 rw[Q0l _ _ _ _ _ e];exact h.tmps m hm
theorem w2h {P:Program}{E:Ent}{C:Code}{Q:Exit->PFS->Prop}{s:PFS}(t k n c:Nat)(ht:s.pa.getD t .junk= .gr k n c)(st':Q0g)(hl:st'.length=s.st.length)
 (hs: ∀i,i<s.st.length->(st'.getD i []).length=(s.st.getD i []).length/\ ∀o,o<(s.st.getD i []).length->Un ((s.st.getD i []).getD o .junk) ((st'.getD i []).getD o .junk)) (h:PWP P E C Q { s with pa:=s.pa.set t (.ms true k 0 n),st:=st' }):PWP P E C Q s:=W0l (Y2i s t k n c ht st' hl hs) h
theorem z1m {E:Ent}{s:PFS}(k t len sz:Nat)(es R:List PV)(hk:k<s.st.length)(ht:s.pa.getD t .junk= .ms true k 0 len)
 (he:s.st.getD k []=flat es++R) (hl:es.length=len) (hsz: ∀i,i<es.length->(es.getD i .junk).cells.length=sz) (hp:0<sz):Weak E s { s with pa:=s.pa.set t (.sl .no es),st:=s.st.set k [] } :=by
 intro a w g F h;have hkn:k<g.n:=(by rw[h.store.n];exact hk);obtain⟨k1,k2⟩:=q1t w g (g.mu k) (es.length*sz) (.inl (h.store.lt k hkn)) h.store.none
 let g':Gh:= { g with vis:=fun b=>if b=g.mu k then max (es.length*sz) (g.vis b) else g.vis b }
 obtain⟨f1,f2⟩:=h.frame.step k1 (fun i hi e=>h.frame.apart i hi k hkn e.symm) (fun i b hi hb e=>(h.frame.tapart i b hi hb).1 k hkn e.symm);have hm1: ∀v p,Rep w g v p->Rep w g' v p:=fun v p hr=>hr.mono k1.le;have hh:=h.store.holds k hkn;rw[he] at hh;have hst:StoreOK w g' (s.st.set k []):=by refine⟨by simpa using h.store.n,h.store.inj,h.store.lt,fun j hj hj0=> ?_,fun j hj=> ?_,k2,h.store.tab.mono k1.le⟩;by_cases e:k=j;subst e;exact absurd (J0z _ _) hj0;rw[Q0l _ _ _ _ _ e] at hj0;have:g'.vis (g.mu j)=g.vis (g.mu j):=if_neg fun e'=>e (h.store.inj j k hj hkn e').symm;exact this.trans (h.store.vis j hj hj0);by_cases e:k=j;subst e;rw[J0z];intro j hj;simp at hj;rw[Q0l _ _ _ _ _ e];exact(h.store.holds j hj).mono rfl hm1
 refine⟨g',F,h.ext.step k1 (fun b hb=> ?_),hst,f1,h.defers,by simp[h.len],fun j hj=> ?_⟩;subst hb;by_cases hin:k<E.g.n;exact .inr ⟨k,hin,(h.ext.le.mu k hin).symm⟩;exact .inl (h.ext.new k oG hkn);simp only[List.length_set] at hj⊢;by_cases e:t=j;subst e;rw[Q0w _ _ _ _ hj];have hv:=h.tmps t hj;rw[ht] at hv;generalize a.tmps.getD t undef=v at hv⊢;cases hv with
 | base _ _ h'=>
  exact .base _ _ (z2c hsz hp hl hh rfl (by show _<=if g.mu k=g.mu k then max (es.length*sz) (g.vis (g.mu k)) else _;rw[if_pos rfl];exact Nat.le_max_left _ _) hm1 (hm1 _ _ h'))
 rw[Q0l _ _ _ _ _ e];exact f2 _ _ (h.tmps j hj)
def Kept (st S:Q0g):Prop:=st.length<=S.length/\ ∀x,x<st.length->S.getD x []=st.getD x []
theorem Kept.app {st S:Q0g}(h:Kept st S): ∃X,S=st++X:=by obtain⟨h1,h2⟩:=h;refine⟨S.drop st.length,List.ext_getElem (by simp;omega) fun i h3 h4=> ?_⟩;by_cases hi:i<st.length;rw[List.getElem_append_left hi];have:=h2 i hi;rw[q_a,List.getElem?_eq_getElem h3,q_a,List.getElem?_eq_getElem hi] at this;exact this;rw[List.getElem_append_right oG,List.getElem_drop];congr 1;omega
theorem Kept.refl (st:Q0g):Kept st st:=⟨Nat.le_refl _,fun _ _=>rfl⟩
theorem Kept.step {st S S':Q0g}(h:Kept st S)(hl:S.length<=S'.length)(hx: ∀x,x<st.length->S'.getD x []=S.getD x []):Kept st S':=⟨Nat.le_trans h.1 hl,fun x hx'=>(hx x hx').trans (h.2 x hx')⟩
def GrwAt (B sz:Nat)(S:Q0g)(y:PV)(es:List PV):Prop:=
 (es= []/\y= .sl .full [])\/(es≠ []/\ ∃K cap R,y= .gr K es.length cap/\B<=K/\K<S.length/\S.getD K []=flat es++R/\R.length=(cap-es.length)*sz/\es.length<=cap)
theorem V1r {B sz:Nat}{S:Q0g}{a:PV}{cap:Nat}{R:List PV}(hB:B<=S.length)(hc:1<=cap)(hR:R.length=(cap-1)*sz):GrwAt B sz (S++ [flat [a]++R]) (.gr S.length 1 cap) [a]:=
 .inr ⟨by simp,S.length,cap,R,rfl,hB,by simp,by rw[Q0m _ _ _ _ (Nat.le_refl _),Nat.sub_self];rfl,hR,hc⟩
theorem V1s {B sz K cap K' cap':Nat}{S S':Q0g}{a:PV}{es R:List PV}(h1:B<=K)(h2:K<S.length)(h3:S.getD K []=flat es++R)(h4:R.length=(cap-es.length)*sz)(h5:es.length<=cap)(he:(flat es).length=es.length*sz)(ha:a.cells.length=sz)
 (hG:GrowTo S K es.length cap [a] sz K' cap' S'):GrwAt B sz S' (.gr K' (es.length+1) cap') (es++ [a])/\S.length<=S'.length/\(∀x,x<S.length->x≠K->S'.getD x []=S.getD x [])/\(K'=K\/K'=S.length):=by
 have hfa:(flat [a]).length= [a].length*sz:=by show(a.cells++ []).length=_;rw[List.append_nil,ha];simp
 obtain⟨R',f1,f2,f4,f5,f6,f7,f8⟩:=GrowTo.facts hG h2 h3 he hfa h4 h5;have e:flat (es++ [a])=flat es++flat [a]:=W1e _ _;refine⟨.inr ⟨by simp,K',cap',R',by simp,?_,f5,by rw[f1,e,List.append_assoc],by simpa using f2,by simpa using f4⟩,f7,f8,f6⟩;rcases f6 with rfl | rfl;exact h1;exact Nat.le_trans h1 (Nat.le_of_lt h2)
theorem GrwAt.keep {B sz:Nat}{S S':Q0g}{y:PV}{es:List PV}(h:GrwAt B sz S y es)(hl:S.length<=S'.length)(hx: ∀K a c,y= .gr K a c->B<=K->K<S.length->S'.getD K []=S.getD K []):GrwAt B sz S' y es:=by rcases h with h | ⟨h0,K,cap,R,h1,h2,h3,h4,h5,h6⟩;exact .inl h;exact .inr ⟨h0,K,cap,R,h1,h2,q_e h3 hl,by rw[hx K _ _ h1 h2 h3];exact h4,h5,h6⟩
theorem H0q (l:List Nm): ∀i,i<(Q0t l).length->((Q0t l).getD i .junk).cells.length=3:=fun i hi=>by rw[Q0u] at hi;rw[Z0d l i hi];rfl
theorem W0j (l:List Nm):(flat (Q0t l)).length=(Q0t l).length*3:=J0m (H0q l)
structure OutO (st S:Q0g) (O n:Nat) (cell:Nat->PV) (val:Nat->List Nm):Prop where
 old:Kept st S
 o:st.length<=O/\O<S.length/\n<=(S.getD O []).length/\ ∀i,i<n->(S.getD O []).getD i .junk=cell i
 r: ∀i,i<n->GrwAt (O+1) 3 S (cell i) (Q0t (val i))
 d: ∀i j K a c a' c',i<n->j<n->cell i= .gr K a c->cell j= .gr K a' c'->i=j
def updC (cell:Nat->PV)(i:Nat)(y:PV):Nat->PV:=fun j=>if j=i then y else cell j
def updN (val:Nat->List Nm)(i:Nat)(x:Nm):Nat->List Nm:=fun j=>if j=i then val i++ [x] else val j
theorem OutO.start (st:Q0g)(n:Nat):OutO st (st++ [List.replicate n (.sl .full [])]) st.length n (fun _=> .sl .full []) (fun _=> []):=by
 have hg:(st++ [List.replicate n (PV.sl .full [])]).getD st.length []=List.replicate n (.sl .full []):=by rw[Q0m _ _ _ _ (Nat.le_refl _),Nat.sub_self];rfl
 refine⟨⟨by simp,fun x hx=>Q0j _ _ _ _ hx⟩,⟨Nat.le_refl _,by simp,by rw[hg];simp,fun i hi=>by rw[hg];simp[q_a,hi]⟩,fun i hi=> .inl ⟨rfl,rfl⟩,fun i j K a c a' c' _ _ h=>by cases h⟩
theorem Q4y {l:List PV}{i:Nat}(h:i<l.length)(y:PV):over l i [y]=l.set i y:=by unfold over;rw[List.set_eq_take_append_cons_drop,if_pos h];simp
theorem OutO.ext {st S:Q0g}{O n:Nat}{cell:Nat->PV}{val val':Nat->List Nm}(h:OutO st S O n cell val)(hv: ∀i,i<n->val i=val' i):OutO st S O n cell val':=
 ⟨h.old,h.o,fun i hi=>by rw[<-hv i hi];exact h.r i hi,h.d⟩
theorem OutO.put {st S S1:Q0g}{O n i:Nat}{cell:Nat->PV}{val:Nat->List Nm}{y:PV}{x:Nm}(h:OutO st S O n cell val)(hi:i<n)(hl:S.length<=S1.length)(hx: ∀q,q<S.length->(∀a c,cell i≠ .gr q a c)->S1.getD q []=S.getD q [])
 (hy:GrwAt (O+1) 3 S1 y (Q0t (val i++ [x]))) (hf: ∀K a c,y= .gr K a c->S.length<=K\/ ∃a' c',cell i= .gr K a' c'):OutO st (S1.set O (over (S1.getD O []) i [y])) O n (updC cell i y) (updN val i x):=by
 obtain⟨o1,o2,o3,o4⟩:=h.o;have hrow: ∀j K a c,j<n->cell j= .gr K a c->O+1<=K/\K<S.length:=fun j K a c hj e=>by rcases h.r j hj with ⟨_,e0⟩ | ⟨_,K',cap,R,e0,k1,k2,_⟩;rw[e] at e0;cases e0;rw[e] at e0;injection e0 with e1;subst e1;exact⟨k1,k2⟩
 have hO:S1.getD O []=S.getD O []:=hx O o2 fun a c e=>by have:=(hrow i O a c hi e).1;omega
 have hov:over (S1.getD O []) i [y]=(S.getD O []).set i y:=by rw[hO];exact Q4y oG y
 have hO1:O<S1.length:=oG;have hSO:(S1.set O (over (S1.getD O []) i [y])).getD O []=(S.getD O []).set i y:=(by rw[hov];exact Q0w _ _ _ _ hO1);have hne: ∀K,K≠O->(S1.set O (over (S1.getD O []) i [y])).getD K []=S1.getD K []:=fun K e=>Q0l _ _ _ _ _ (fun e'=>e e'.symm);refine⟨h.old.step (by rw[List.length_set];exact hl) fun q hq=> ?_,⟨o1,by rw[List.length_set];exact hO1,by rw[hSO,List.length_set];exact o3,fun j hj=> ?_⟩,fun j hj=> ?_,fun a b K p c p' c' ha hb e1 e2=> ?_⟩;rw[hne q oG];exact hx q (by have:=h.old.1;omega) fun a c e=>(by have:=(hrow i q a c hi e).1;omega);rw[hSO];unfold updC;by_cases e:j=i;subst e;rw[if_pos rfl,Q0w _ _ _ _ oG];rw[if_neg e,Q0l _ _ _ _ _ (fun e'=>e e'.symm)];exact o4 j hj;unfold updC updN;by_cases e:j=i;subst e;rw[if_pos rfl,if_pos rfl];exact hy.keep (by rw[List.length_set];exact Nat.le_refl _) fun K a c _ h1 _=>hne K oG;rw[if_neg e,if_neg e];refine(h.r j hj).keep (by rw[List.length_set];exact hl) fun K a c ec h1 h2=> ?_;rw[hne K oG];exact hx K h2 fun a' c' ei=>e (h.d j i K a c a' c' hj hi ec ei);unfold updC at e1 e2;by_cases ea:a=i;by_cases eb:b=i;omega;rw[if_pos ea] at e1;rw[if_neg eb] at e2;rcases hf K p c e1 with hk | ⟨p2,c2,hk⟩;have:=(hrow b K p' c' hb e2).2;omega;exact absurd (h.d b i K p' c' p2 c2 hb hi e2 hk) eb;rw[if_neg ea] at e1;by_cases eb:b=i;rw[if_pos eb] at e2;rcases hf K p' c' e2 with hk | ⟨p2,c2,hk⟩;have:=(hrow a K p c ha e1).2;omega;exact absurd (h.d a i K p c p2 c2 ha hi e1 hk) ea;rw[if_neg eb] at e2;exact h.d a b K p c p' c' ha hb e1 e2
theorem K2p (l:List Nm){i j:Nat}(hi:i<l.length)(hj:j<3):Tame (((Q0t l).getD i .junk).cells.getD j .junk):=by rw[Z0d l i hi];exact Y1u (l.getD i default) _ (Q0q _ _ _ (by simpa[PV.cells,encN] using hj))
theorem X2z {S:Q0g}{e:List Nat}{B:Nat}{y:PV}{l:List Nm}(h:GrwAt B 3 S y (Q0t l))(hne:l≠ [])(he: ∀k a c,y= .gr k a c->B<=k->k<S.length->l.length*3<=(S.getD k []).length->l.length*3<=e.getD k 0):Seen S e y (.sl .no (Q0t l)):=by rcases h with ⟨e0,_⟩ | ⟨_,K,cap,R,e0,k1,k2,k3,k4,k5⟩;exfalso;have:=congrArg List.length e0;rw[Q0u] at this;exact hne (List.length_eq_zero_iff.1 this);rw[Q0u] at e0 k4 k5;have hfl:=W0j l;rw[Q0u] at hfl;have hee:=he K _ _ e0 k1 k2 (by rw[k3,List.length_append,hfl];omega);rw[e0];refine .ms (sz:=3) (.inr ⟨cap,rfl⟩) k2 (Q0u l) (fun i hi=>H0q l i (by rw[Q0u];exact hi)) hee fun i j hi hj=> ?_;have hm:i*3+j<l.length*3:=oG;have h2:(S.getD K []).getD (i*3+j) .junk=((Q0t l).getD i .junk).cells.getD j .junk:=(by rw[k3,Q0j _ _ _ _ (by rw[hfl];exact hm),U0q (H0q l) _ (by rw[Q0u];exact hm),show(i*3+j)/3=i by omega,show(i*3+j) % 3=j by omega]);rw[h2];exact .same (K2p l hi hj)
def eNew (st S:Q0g):List Nat:=(List.range S.length).map fun k=>if k<st.length then 0 else(S.getD k []).length
theorem q1l {st S:Q0g}{k:Nat}(h:k<S.length):(eNew st S).getD k 0=if k<st.length then 0 else(S.getD k []).length:=by unfold eNew;simp[q_a,h]
theorem z2x (val:Nat->List Nm)(n:Nat):encQ ((List.range n).map val)=(List.range n).map fun i=>PV.sl .no (Q0t (val i)):=by unfold encQ;rw[List.map_map];rfl
theorem OutO.seen {st S:Q0g}{O n:Nat}{cell:Nat->PV}{val:Nat->List Nm}(h:OutO st S O n cell val)(hne: ∀i,i<n->val i≠ []){Q:PV->Prop}{e:Value}(hQ:Q (.tup [.sl .no (encQ ((List.range n).map val)),.sc e])):SeenRet st Q (.tup [.ms true O 0 n,.sc e]) S:=by
 obtain⟨X,hX⟩:=h.old.app;obtain⟨o1,o2,o3,o4⟩:=h.o;have he: ∀k,st.length<=k->k<S.length->(eNew st S).getD k 0=(S.getD k []).length:=fun k h1 h2=>(by rw[q1l h2,if_neg oG]);refine⟨X,_,eNew st S,hX,.tup (ds:= [.sl .no (encQ ((List.range n).map val)),.sc e]) rfl fun j hj=> ?_,fun k hk=> ?_,fun k hk=> ?_,rfl,rfl,hQ⟩
 match j,hj with
 | 1,_=>exact .same (.sc e)
 | 0,_=>
  show Seen S (eNew st S) (.ms true O 0 n) (.sl .no (encQ ((List.range n).map val)));rw[z2x];refine .ms (sz:=1) (.inl rfl) o2 (by simp) (fun i hi=>by simp[q_a,hi,PV.cells]) (by rw[he O o1 o2];omega) fun i j hi hj=> ?_;have j0:j=0:=oG;subst j0;rw[Nat.mul_one,Nat.add_zero,o4 i hi];have:((((List.range n).map fun i=>PV.sl .no (Q0t (val i))).getD i .junk).cells.getD 0 .junk)= .sl .no (Q0t (val i)):=(by simp[q_a,hi,PV.cells]);rw[this];exact X2z (h.r i hi) (hne i hi) fun k a c _ h1 h2 h3=>by rw[he k oG h2];exact h3
 rw[q1l hk];split<;>omega
 have:=h.old.1;rw[q1l oG,if_pos hk]
theorem X1k {P:Program}{E:Ent}{C:Code}{Q:Exit->PFS->Prop}{pa:List PV}{L:Q0g}{T:List (Nat×Nat)}{S:Q0g}(t:Nat){B:Nat}{y:PV}{v:List Nm}(h:GrwAt B 3 S y (Q0t v))(ht:pa.getD t .junk=y)(hlt:t<pa.length)(hne:v≠ [])
 (k: ∀S',S'.length=S.length->(∀x,x<B->S'.getD x []=S.getD x [])->PWP P E C Q ⟨pa.set t (.sl .no (Q0t v)),L,T,S'⟩):PWP P E C Q ⟨pa,L,T,S⟩:=by
 rcases h with ⟨e0,_⟩ | ⟨_,K,cap,R,e0,k1,k2,k3,k4,k5⟩;exfalso;have:=congrArg List.length e0;rw[Q0u] at this;exact hne (List.length_eq_zero_iff.1 this);rw[Q0u] at e0;refine w2h t K v.length cap (by rw[<-e0];exact ht) S rfl (fun i _=>⟨rfl,fun o _=> .same _⟩) ?_;refine W0l (z1m K t v.length 3 (Q0t v) R k2 (Q0w _ _ _ _ hlt) k3 (Q0u v) (H0q v) (by decide)) ?_;have:=k (S.set K []) (by rw[List.length_set]) fun x hx=>Q0l _ _ _ _ _ oG;rwa [<-List.set_set (.ms true K 0 v.length)] at this
theorem SeenRet.plain {st S:Q0g}{Q:PV->Prop}{es:List PV}{e:Value}(h:Kept st S)(hq:Tame (.sl .no es))(hQ:Q (.tup [.sl .no es,.sc e])):SeenRet st Q (.tup [.sl .no es,.sc e]) S:=by
 obtain⟨X,rfl⟩:=h.app;exact⟨X,_,[],rfl,.tup rfl fun j hj=>by
  match j,hj with
  | 0,_=>exact .same hq
  | 1,_=>exact .same (.sc e),fun k _=>by simp,fun k _=>by simp,rfl,rfl,hQ⟩
end Go.Pv
end
