/- Walk. -/
import Derived.Test.YtpfladficeildaaGreatDoorZEC
import Derived.Test.YtpfladficeildaaGreatDoorZCC
set_option linter.all false
set_option maxHeartbeats 160000000
section
namespace Go.Pv
def SeenRet (st:Qc)(Q:PV->Prop)(r:PV)(st':Qc):Prop:= ∃X q e,st'=st++X/\Seen st' e r q/\(∀k,k<st'.length->e.getD k 0<=(st'.getD k []).length)/\(∀k,k<st.length->e.getD k 0=0)/\r.stale=true/\q.stale=true/\Q q
theorem zJ {P:Pg}{f:FuncId}{args:Lp}{st:Qc}{Q:PV->Prop}(h:PCalls P f args st fun r st'=>SeenRet st Q r st'):PCalls P f args st (fun r st'=>Q r/\st'=st):=zK h
theorem SeenRet.err {st X:Qc}{Q:PV->Prop}{t:Tag}{e:Value}(h:Q (.tup [.sl t [],.sc e])):SeenRet st Q (.tup [.sl t [],.sc e]) (st++X):=
 ⟨X,_,[],rfl,.tup rfl fun j hj=>by
  match j,hj with
  | 0,_=>exact .same (.sl fun e he=>by cases he)
  | 1,_=>exact .same (.sc e),fun k _=>by simp,fun k _=>by simp,rfl,rfl,h⟩
def H0 (n O len:Nat):List Nat:=(List.range n).map fun k=>if k=O then len else 0
theorem Hz {n O len k:Nat}(h:k<n):(H0 n O len).getD k 0=if k=O then len else 0:=by unfold H0;simp[q_a,h]
theorem k0w {S:Qc}{O cap:Nat}{ms:List (List (List Ivl))}{R:Lp}(hO:O<S.length)(hc:S.getD O []=Xf ms++R):Seen S (H0 S.length O ms.length) (.gr O ms.length cap) (.sl .no (Xf ms)):=by refine .ms (sz:=1) (.inr ⟨cap,rfl⟩) hO (IP ms) (fun i hi=>j1m ms i (by rw[IP];exact hi)) (by rw[Hz hO,BC rfl,EH];exact BD _) fun i j hi hj=> ?_;have:j=0:=oG;subst this;rw[hc,EH,B1,QV _ _ _ _ (by rw[IP];exact hi),Hy ms i hi];exact .same (Dg _ _)
theorem j1s {S:Qc}{O:Nat}{ms:List (List (List Ivl))}{R:Lp}(hc:S.getD O []=Xf ms++R){k:Nat}(hk:k<S.length):(H0 S.length O ms.length).getD k 0<=(S.getD k []).length:=by rw[Hz hk];split;rename_i e;rw[e,hc,BH,IP];omega;omega
theorem SeenRet.cs {st X:Qc}{Q:PV->Prop}{O n cap:Nat}{ms:List (List (List Ivl))}{R:Lp}{e:Value}(hn:n=ms.length)(h1:st.length<=O)(hO:O<(st++X).length)(hc:(st++X).getD O []=Xf ms++R)(h:Q (.tup [.sl .no (Xf ms),.sc e])):SeenRet st Q (.tup [.gr O n cap,.sc e]) (st++X):=by
 subst hn;refine⟨X,_,H0 (st++X).length O ms.length,rfl,.tup (ds:= [.sl .no (Xf ms),.sc e]) rfl fun j hj=> ?_,fun k hk=>j1s hc hk,fun k hk=> ?_,rfl,rfl,h⟩
 match j,hj with
 | 0,_=>exact k0w hO hc
 | 1,_=>exact .same (.sc e)
 rw[Hz (by rw[BH];omega),BA oG]
def CsAt (S:Qc)(B O cap:Nat)(ms:List (List (List Ivl))):Prop:=B<=O/\O<S.length/\ms.length<=cap/\ ∃R,S.getD O []=Xf ms++R/\R.length=(cap-ms.length)*1
def Kept (st S:Qc):Prop:=st.length<=S.length/\ ∀x,x<st.length->S.getD x []=st.getD x []
theorem Kept.app {st S:Qc}(h:Kept st S): ∃X,S=st++X:=by obtain⟨h1,h2⟩:=h;refine⟨S.drop st.length,C9 (by simp;omega) fun i h3 h4=> ?_⟩;by_cases hi:i<st.length;rw[List.getElem_append_left hi];have:=h2 i hi;rw[q_a,BB h3,q_a,BB hi] at this;exact this;rw[List.getElem_append_right oG,List.getElem_drop];congr 1;omega
theorem Kept.refl (st:Qc):Kept st st:=⟨BD _,fun _ _=>rfl⟩
theorem J1i {l:Lp}{i:Nat}(h:i<l.length)(y:PV):Q4 l i [y]=l.set i y:=by unfold Q4;rw[DS,BC h];simp
theorem SeenRet.plain {st S:Qc}{Q:PV->Prop}{es:Lp}{e:Value}(h:Kept st S)(hq:Tame (.sl .no es))(hQ:Q (.tup [.sl .no es,.sc e])):SeenRet st Q (.tup [.sl .no es,.sc e]) S:=by
 obtain⟨X,rfl⟩:=h.app;exact⟨X,_,[],rfl,.tup rfl fun j hj=>by
  match j,hj with
  | 0,_=>exact .same hq
  | 1,_=>exact .same (.sc e),fun k _=>by simp,fun k _=>by simp,rfl,rfl,hQ⟩
theorem G0z {E:Ent}{s:PFS}(t:Nat)(e:Ln){O n:Nat}{q:PV}(ht:s.pa.getD t .junk= .ms true O 0 n)(hs:Seen s.st e (.ms true O 0 n) q)(hle: ∀k,k<s.st.length->e.getD k 0<=(s.st.getD k []).length)(st':Qc)(hl:st'.length=s.st.length)
 (h': ∀k,k<s.st.length->st'.getD k []=if 0<e.getD k 0 then [] else s.st.getD k []):Weak E s { s with pa:=s.pa.set t q,st:=st' } :=by
 intro a w g F h;have hn:=h.store.n
 let G:Gh:= { g with vis:=JM g 0 e }
 have hvle: ∀b,g.vis b<=G.vis b:=jJ h.store hle;have hvold: ∀b,(¬ ∃k,k<g.n/\g.mu k=b)->G.vis b=g.vis b:=fun b hb=>by refine BE fun hne=> ?_;obtain⟨k,_,h2,h3,_⟩:=zm b hne;exact hb ⟨k,h2,h3⟩
 have hchg:Chg w g w G (fun b=> ∃k,k<g.n/\g.mu k=b):=
  ⟨⟨BD _,fun _ _=>rfl,hvle,fun _ _ _ _ hc=>hc⟩,rfl,rfl,rfl,BD _,fun b _ hx=>⟨rfl,hvold b hx⟩,fun i h1 h2=>by have h2:i<g.n:=h2;omega⟩
 obtain⟨f1,f2⟩:=h.frame.step hchg (fun i hi ⟨k,hk,e⟩=>h.frame.apart i hi k hk e) (fun i b hi hb ⟨k,hk,e⟩=>(h.frame.tapart i b hi hb).1 k hk e);refine⟨G,F,h.ext.step hchg (fun b ⟨k,hk,hb⟩=> ?_),⟨by rw[hl];exact hn,h.store.inj,h.store.lt,fun i hi hne=> ?_,fun i hi=> ?_,fun b hb=> ?_,h.store.tab.mono hchg.le⟩,f1,h.defers,by simpa using h.len,fun j hj=> ?_⟩;by_cases hin:k<E.g.n;exact .inr ⟨k,hin,by rw[<-h.ext.le.mu k hin];exact hb⟩;exact .inl (by rw[<-hb];exact h.ext.new k oG hk);have hi:i<g.n:=hi;simp only at hne;rw[h' i oG] at hne;have h0: ¬0<e.getD i 0:=fun h0=>hne (BC h0);rw[BA h0] at hne;have h1:=h.store.vis i hi hne;have:G.vis (g.mu i)=g.vis (g.mu i):=by show JM g 0 e (g.mu i)=_;unfold JM;split;rename_i hx;obtain⟨x1,x2,x3,x4⟩:=hx.choose_spec;rw[h.store.inj _ _ x2 hi x3] at x4;exact absurd x4 h0;rfl
 exact this.trans h1;have hi:i<g.n:=hi;simp only;rw[h' i oG];split;intro j hj;simp at hj;exact(h.store.holds i hi).mono rfl fun v p hp=>hp.mono hchg.le;have:=hvold b fun⟨k,hk,hb'⟩=>(by have:=h.store.lt k hk;omega);exact this.trans (h.store.none b hb);simp only[BL] at hj⊢;by_cases et:t=j;subst et;rw[Z0 _ _ _ _ hj];have hv:=h.tmps t hj;rw[ht] at hv;generalize a.tmps.getD t undef=v at hv⊢;cases hv with
 | base _ _ hb=>exact .base _ _ (hs.rep h.store hle hvle (fun k hk=>jI h.store k (CX _) oG) _ hb)
 rw[Z3 _ _ _ _ _ et];exact f2 _ _ (h.tmps j hj)
theorem IG (l:Li):(flat (Qj l)).length=l.length*6:=by have:=Kj (Hx l);rwa [K4] at this
def GrwG (B:Nat)(S:Qc)(K cap:Nat)(l:List Ivl):Prop:=B<=K/\K<S.length/\l.length<=cap/\ ∃R,S.getD K []=flat (Qj l)++R/\R.length=(cap-l.length)*6
theorem GrwG.keep {B K cap:Nat}{S S':Qc}{l:Li}(h:GrwG B S K cap l)(hl:S.length<=S'.length)(hx:S'.getD K []=S.getD K []):GrwG B S' K cap l:=by obtain⟨h1,h2,h3,R,h4,h5⟩:=h;exact⟨h1,q_e h2 hl,h3,R,by rw[hx];exact h4,h5⟩
theorem GrwG.len {B K cap:Nat}{S:Qc}{l:Li}(h:GrwG B S K cap l):(S.getD K []).length=cap*6:=by obtain⟨h1,h2,h3,R,h4,h5⟩:=h;rw[h4,BH,IG,h5,<-BQ];congr 1;omega
theorem H1t {B cap:Nat}{S:Qc}{R:Lp}(l:Li)(x:Ivl)(hB:B<=S.length)(hc:(Qj l).length+1<=cap)(hR:R.length=(cap-((Qj l).length+1))*6):GrwG B (S++ [flat (Qj l)++(flat [.agg (Qm x)]++R)]) S.length cap (l++ [x]):=by rw[K4] at hc hR;refine⟨hB,by simp,by simpa using hc,R,?_,by simpa using hR⟩;rw[Zi _ _ _ _ (BD _),DD,LB,<-BP,<-xx,V0n]
theorem J0s {B K cap K' cap':Nat}{S S':Qc}{l:Li}{x:Ivl}(h:GrwG B S K cap l)(hG:GrowTo S K l.length cap [.agg (Qm x)] 6 K' cap' S'):
 GrwG B S' K' cap' (l++ [x])/\S.length<=S'.length/\(∀q,q<S.length->q≠K->S'.getD q []=S.getD q [])/\(K'=K\/K'=S.length):=by
 obtain⟨h1,h2,h3,R,h4,h5⟩:=h;obtain⟨R',f1,f2,f3,f4,f5,f6,f7⟩:=GrowTo.facts hG h2 h4 (IG l) (by simp[flat,PV.cells,Qm]) h5 h3;refine⟨⟨?_,f4,by simpa using f3,R',by rw[f1,<-BP,<-xx,V0n],by simpa using f2⟩,f6,f7,f5⟩;rcases f5 with rfl | rfl;exact h1;exact B7 h1 (F0 h2)
def KT {α:Type}(f:Nat->α)(i:Nat)(y:α):Nat->α:=fun j=>if j=i then y else f j
structure OutI (S0 S:Qc) (O n:Nat) (fu:Nat->Bool) (id cap:Nat->Nat) (val:Nat->List Ivl):Prop where
 old:S0.length<=S.length/\ ∀x,x<S0.length->x≠O->S.getD x []=S0.getD x []
 o:O<S0.length/\n<=(S.getD O []).length/\ ∀i,i<n->(S.getD O []).getD i .junk=if fu i=true then .sl .full (Qj (val i)) else .gr (id i) (val i).length (cap i)
 r: ∀i,i<n->fu i=false->GrwG S0.length S (id i) (cap i) (val i)
 d: ∀i j,i<n->j<n->fu i=false->fu j=false->id i=id j->i=j
theorem OutI.ext {S0 S:Qc}{O n:Nat}{fu fu':Nat->Bool}{id cap:Nat->Nat}{val val':Nat->List Ivl}(h:OutI S0 S O n fu id cap val)(hf: ∀i,i<n->fu i=fu' i)(hv: ∀i,i<n->val i=val' i):OutI S0 S O n fu' id cap val':=
 ⟨h.old,⟨h.o.1,h.o.2.1,fun i hi=>by rw[<-hf i hi,<-hv i hi];exact h.o.2.2 i hi⟩,fun i hi h1=>by rw[<-hv i hi];exact h.r i hi (by rw[hf i hi];exact h1),fun i j hi hj h1 h2=>h.d i j hi hj (by rw[hf i hi];exact h1) (by rw[hf j hj];exact h2)⟩
theorem OutI.put {S0 S S1:Qc}{O n i K c:Nat}{fu:Nat->Bool}{id cap:Nat->Nat}{val:Nat->List Ivl}{x:Ivl}(h:OutI S0 S O n fu id cap val)(hi:i<n)(hl:S.length<=S1.length)(hx: ∀q,q<S.length->(fu i=false->q≠id i)->S1.getD q []=S.getD q [])
 (hy:GrwG S0.length S1 K c (val i++ [x])) (hf:S.length<=K\/(fu i=false/\K=id i)):OutI S0 (S1.set O (Q4 (S1.getD O []) i [.gr K ((val i).length+1) c])) O n (KT fu i false) (KT id i K) (KT cap i c) (KT val i (val i++ [x])):=by
 obtain⟨o1,o2,o3⟩:=h.o;have hold:=h.old.1;have hO:S1.getD O []=S.getD O []:=hx O oG fun h1 e=>(by have:=(h.r i hi h1).1;omega);have hov:Q4 (S1.getD O []) i [.gr K ((val i).length+1) c]=(S.getD O []).set i (.gr K ((val i).length+1) c):=(by rw[hO];exact J1i oG _);have hSO:(S1.set O (Q4 (S1.getD O []) i [.gr K ((val i).length+1) c])).getD O []=(S.getD O []).set i (.gr K ((val i).length+1) c):=(by rw[hov];exact Z0 _ _ _ _ oG);have hne: ∀q,q≠O->(S1.set O (Q4 (S1.getD O []) i [.gr K ((val i).length+1) c])).getD q []=S1.getD q []:=fun q e=>Z3 _ _ _ _ _ (fun e'=>e e'.symm);refine⟨⟨by rw[BL];omega,fun q hq hqO=> ?_⟩,⟨o1,by rw[hSO,BL];exact o2,fun j hj=> ?_⟩,fun j hj hfj=> ?_,fun a b ha hb h1 h2 hab=> ?_⟩;rw[hne q hqO,hx q oG fun h1 e=>by have:=(h.r i hi h1).1;omega];exact h.old.2 q hq hqO;rw[hSO];unfold KT;by_cases e:j=i;subst e;rw[Z0 _ _ _ _ oG,BA (by simp)];simp;rw[Z3 _ _ _ _ _ (fun e'=>e e'.symm),BA e,BA e,BA e,BA e];exact o3 j hj;unfold KT at hfj⊢;by_cases e:j=i;subst e;rw[BC rfl,BC rfl,BC rfl];exact hy.keep (by rw[BL];exact BD _) (hne K (by have:=hy.1;omega));rw[BA e] at hfj;rw[BA e,BA e,BA e];have h1:=h.r j hj hfj;refine h1.keep (by rw[BL];exact hl) ?_;rw[hne _ (by have:=h1.1;omega)];exact hx _ h1.2.1 fun h2 e2=>e (h.d j i hj hi hfj h2 e2);unfold KT at h1 h2 hab;by_cases ea:a=i;by_cases eb:b=i;omega;rw[BA eb] at h2;rw[BC ea,BA eb] at hab;have h3:=h.r b hb h2;rcases hf with hk | ⟨hk,hk2⟩;have:=h3.2.1;omega;exact absurd (h.d b i hb hi h2 hk oG) eb;rw[BA ea] at h1;by_cases eb:b=i;rw[BA ea,BC eb] at hab;have h3:=h.r a ha h1;rcases hf with hk | ⟨hk,hk2⟩;have:=h3.2.1;omega;exact absurd (h.d a i ha hi h1 hk oG) ea;rw[BA eb] at h2;rw[BA ea,BA eb] at hab;exact h.d a b ha hb h1 h2 hab
def eI (S0 S:Qc)(O n:Nat)(fu:Nat->Bool)(id:Nat->Nat)(val:Nat->List Ivl):List Nat:=
 (List.range S.length).map fun k=>if k<S0.length then(if k=O then n else if O<k then(S.getD k []).length else 0) else match (List.range n).find? (fun i=> !fu i&&id i==k) with | some i=>(val i).length*6 | none=>0
section
variable {S0 S:Qc} {O n:Nat} {fu:Nat->Bool} {id cap:Nat->Nat} {val:Nat->List Ivl}
theorem UY {k:Nat}(h:k<S.length):(eI S0 S O n fu id val).getD k 0=if k<S0.length then(if k=O then n else if O<k then(S.getD k []).length else 0) else match (List.range n).find? (fun i=> !fu i&&id i==k) with | some i=>(val i).length*6 | none=>0:=by unfold eI;simp[q_a,h]
theorem OutI.eRow (h:OutI S0 S O n fu id cap val){k:Nat}(hk:k<S.length)(h0:S0.length<=k):(eI S0 S O n fu id val).getD k 0=0\/ ∃i,i<n/\fu i=false/\id i=k/\(eI S0 S O n fu id val).getD k 0=(val i).length*6:=by rw[UY hk,BA oG];split;rename_i i hi;have h1:=List.find?_some hi;have h2:=List.mem_of_find?_eq_some hi;rw[EX] at h2;simp only[q_i,EK,FL] at h1;exact .inr ⟨i,h2,h1.1,h1.2,rfl⟩;exact .inl rfl
theorem OutI.eAt (h:OutI S0 S O n fu id cap val){i:Nat}(hi:i<n)(hf:fu i=false):(eI S0 S O n fu id val).getD (id i) 0=(val i).length*6:=by have h1:=h.r i hi hf;rw[UY h1.2.1,BA (by have:=h1.1;omega)];split;rename_i j hj;have h2:=List.find?_some hj;have h3:=List.mem_of_find?_eq_some hj;rw[EX] at h3;simp only[q_i,EK,FL] at h2;rw[h.d j i h3 hi h2.1 hf h2.2];rename_i hj;have:=List.find?_eq_none.1 hj i (EX.2 hi);simp[hf] at this
theorem OutI.eLe (h:OutI S0 S O n fu id cap val){k:Nat}(hk:k<S.length):(eI S0 S O n fu id val).getD k 0<=(S.getD k []).length:=by by_cases h0:k<S0.length;rw[UY hk,BC h0];split;rename_i e;subst e;exact h.o.2.1;split;exact BD _;exact CX _;rcases h.eRow hk oG with e | ⟨i,hi,hf,e,e2⟩;omega;subst e;rw[e2,(h.r i hi hf).len];exact BG _ (h.r i hi hf).2.2.1
theorem OutI.eLow (h:OutI S0 S O n fu id cap val){k:Nat}(hk:k<O):(eI S0 S O n fu id val).getD k 0=0:=by have:=h.old.1;have:=h.o.1;rw[UY oG,BC oG,BA oG,BA oG]
theorem K1z (l:Li){o:Nat}{R:Lp}(h:o<l.length*6):((flat (Qj l)++R).getD o .junk).notW=true:=by
 have hm:o/6<l.length:=DE (by rw[BM];exact h);have hr:=CG o (show 0<6 by decide);rw[QV _ _ _ _ (by rw[IG];exact h),Vk (Hx l) o (by rw[K4];exact h),Zr l _ hm];generalize o % 6=z at hr
 match z,hr with
 | 0,_=>rfl
 | 1,_=>rfl
 | 2,_=>rfl
 | 3,_=>rfl
 | 4,_=>rfl
 | 5,_=>rfl
theorem OutI.eNotW (h:OutI S0 S O n fu id cap val)(h0: ∀k,O<k->k<S0.length-> ∀o,o<(S0.getD k []).length->((S0.getD k []).getD o .junk).notW=true){k o:Nat}(hk:k<S.length)(ho:o<(eI S0 S O n fu id val).getD k 0):((S.getD k []).getD o .junk).notW=true:=by by_cases hk0:k<S0.length;rw[UY hk,BC hk0] at ho;split at ho;rename_i e;subst e;rw[h.o.2.2 o ho];split<;>rfl;rename_i e;split at ho;rename_i e2;rw[h.old.2 k hk0 e] at ho⊢;exact h0 k e2 hk0 o ho;omega;rcases h.eRow hk oG with e | ⟨i,hi,hf,e,e2⟩;omega;subst e;obtain⟨_,_,_,R,r1,_⟩:=h.r i hi hf;rw[e2] at ho;rw[r1];exact K1z _ ho
theorem OutI.seenRow (h:OutI S0 S O n fu id cap val){i:Nat}(hi:i<n):Seen S (eI S0 S O n fu id val) ((S.getD O []).getD i .junk) (.sl .no (Qj (val i))):=by rw[h.o.2.2 i hi];split;exact .un (zc _ _);rename_i hf;have hf:fu i=false:=(by simpa using hf);obtain⟨h1,h2,h3,R,h4,h5⟩:=h.r i hi hf;refine .ms (sz:=6) (.inr ⟨cap i,rfl⟩) h2 (K4 _) (fun j hj=>Hx _ j (by rw[K4];exact hj)) (by rw[h.eAt hi hf];exact BD _) fun a b ha hb=> ?_;have hm:a*6+b<(val i).length*6:=oG;have e2:(S.getD (id i) []).getD (a*6+b) .junk=((Qj (val i)).getD a .junk).cells.getD b .junk:=(by rw[h4,QV _ _ _ _ (by rw[IG];exact hm),Vk (Hx _) _ (by rw[K4];exact hm),show(a*6+b)/6=a by omega,show(a*6+b) % 6=b by omega]);rw[e2,Zr _ _ ha];exact .same (j4 _ _ (QE _ _ _ (by simpa[PV.cells,Qm] using hb)))
theorem j1k (val:Nat->List Ivl)(n:Nat):Qt ((List.range n).map val)=(List.range n).map fun i=>PV.sl .no (Qj (val i)):=by unfold Qt;rw[DZ];rfl
theorem OutI.seen (h:OutI S0 S O n fu id cap val):Seen S (eI S0 S O n fu id val) (.ms true O 0 n) (.sl .no (Qt ((List.range n).map val))):=by have h1:=h.old.1;have h2:=h.o.1;rw[j1k];refine .ms (sz:=1) (.inl rfl) oG (by simp) (fun i hi=>by simp[q_a,hi,PV.cells]) (by rw[UY oG,BC h2,BC rfl];omega) fun i j hi hj=> ?_;have j0:j=0:=oG;subst j0;rw[EH,B1];have:((((List.range n).map fun i=>PV.sl .no (Qj (val i))).getD i .junk).cells.getD 0 .junk)= .sl .no (Qj (val i)):=(by simp[q_a,hi,PV.cells]);rw[this];exact h.seenRow hi
theorem OutI.ret (h:OutI S0 S O n fu id cap val){st:Qc}(hst:st.length=O)(hk:Kept st S){Q:PV->Prop}{e:Value}(hQ:Q (.tup [.sl .no (Qt ((List.range n).map val)),.sc e])):SeenRet st Q (.tup [.ms true O 0 n,.sc e]) S:=by
 obtain⟨X,hX⟩:=hk.app;refine⟨X,_,eI S0 S O n fu id val,hX,.tup (ds:= [.sl .no (Qt ((List.range n).map val)),.sc e]) rfl fun j hj=> ?_,fun k hk=>h.eLe hk,fun k hk=>h.eLow oG,rfl,rfl,hQ⟩
 match j,hj with
 | 1,_=>exact .same (.sc e)
 | 0,_=>exact h.seen
theorem OutI.plain {E:Ent}{P:Pg}{c:Code}{Q:Pe}{pa:Lp}{L:Qc}{T:Lv}(h:OutI S0 S O n fu id cap val)(t:Nat)(ht:pa.getD t .junk= .ms true O 0 n)
 (k: ∀S',S'.length=S.length->(∀x,x<O->S'.getD x []=S.getD x [])->PWP P E c Q ⟨pa.set t (.sl .no (Qt ((List.range n).map val))),L,T,S'⟩):PWP P E c Q ⟨pa,L,T,S⟩:=by
 let S':Qc:=(List.range S.length).map fun k=>if 0<(eI S0 S O n fu id val).getD k 0 then [] else S.getD k []
 have hS': ∀k,k<S.length->S'.getD k []=if 0<(eI S0 S O n fu id val).getD k 0 then [] else S.getD k []:=fun k hk=>by show((List.range S.length).map _).getD k []=_;simp[q_a,hk]
 refine J0 (G0z t (eI S0 S O n fu id val) ht h.seen (fun k hk=>h.eLe hk) S' (by show((List.range S.length).map _).length=_;simp) hS') (k S' (by show((List.range S.length).map _).length=_;simp) fun x hx=> ?_);have:=h.old.1;have:=h.o.1;rw[hS' x oG,BA (by rw[h.eLow hx];omega)]
end
def v0y (x:List Ivl):List PV:=flat (Qj x)
def CellAt (st S:Qc)(role:Nat->Nat)(t:Nat)(x:PV)(v:List Ivl):Prop:=
 (v= []/\x= .sl .full [])\/(v≠ []/\ ∃K cap R,x= .gr K v.length cap/\st.length<=K/\K<S.length/\role K=t/\S.getD K []=v0y v++R/\R.length=(cap-v.length)*6/\v.length<=cap)
section
variable {st S:Qc} {role:Nat->Nat} {G O capO D capD:Nat} {jac:List (List (List Mn))} {xs:List (List Ivl)} {p:Int} {n:Nat} {rid:Nat->Nat} {cell:Nat->Nat->PV} {val:Nat->Nat->List Ivl} {ms:List Mx}
theorem CellAt.mono {S':Qc}{role':Nat->Nat}{t:Nat}{x:PV}{v:Li}(h:CellAt st S role t x v)(hl:S.length<=S'.length)(hr: ∀k,k<S.length->role k=t->role' k=t)(hs: ∀k,k<S.length->role k=t->S'.getD k []=S.getD k []):CellAt st S' role' t x v:=by rcases h with h | ⟨h0,K,cap,R,h1,h2,h3,h4,h5,h6,h7⟩;exact .inl h;exact .inr ⟨h0,K,cap,R,h1,h2,q_e h3 hl,hr K h3 h4,by rw[hs K h3 h4];exact h5,h6,h7⟩
theorem CsAt.mono {S':Qc}{B:Nat}(h:CsAt S B O capO ms)(hl:S.length<=S'.length)(hs:S'.getD O []=S.getD O []):CsAt S' B O capO ms:=by obtain⟨h1,h2,h3,R,h4,h5⟩:=h;exact⟨h1,q_e h2 hl,h3,R,by rw[hs];exact h4,h5⟩
end
section
variable {st S:Qc} {role:Nat->Nat} {G O capO:Nat} {jac:List (List (List Mn))} {xs:List (List Ivl)} {p:Int} {n:Nat} {rid:Nat->Nat} {i:Nat} {dpv:PV} {ms:List Mx}
end
set_option maxRecDepth 100000
open Go.Proofs
def Xh (tag:Nat->Tag)(rows:List (List Ivl)):List PV:=(List.range rows.length).map fun j=> .sl (tag j) (Qj (rows.getD j []))
theorem qd (tag:Nat->Tag)(rows:Lj):(Xh tag rows).length=rows.length:=by simp[Xh]
theorem w1d (tag:Nat->Tag)(rows:Lj)(R:Lp)(j:Nat)(h:j<rows.length):(Xh tag rows++R).getD j .junk= .sl (tag j) (Qj (rows.getD j [])):=by rw[QV _ _ _ _ (by rw[qd];exact h)];simp[Xh,q_a,h]
theorem w1c (tag:Nat->Tag)(rows:Lj)(r:Li):Xh tag (rows++ [r])=Xh tag rows++ [.sl (tag rows.length) (Qj r)]:=by unfold Xh;rw[BH,List.length_singleton,List.range_succ,E2];congr 1;refine C4 fun j hj=> ?_;have:=EX.1 hj;simp[q_a,B6 this];simp[q_a]
theorem yr (rows:Lj):(Xh (fun _=> .full) rows).all PV.quiet=true:=by rw[q_d];intro p hp;simp only[Xh,CF,EX] at hp;obtain⟨j,hj,rfl⟩:=hp;rfl
theorem w1e (tag:Nat->Tag)(rows:Lj)(R:Lp)(h:R.all PV.quiet=true)(ht: ∀j sz,tag j≠ .fresh sz):Zj (Xh tag rows++R)=true:=by
 have h2:=Io h;unfold Zj at h2⊢;rw[List.all_append,h2,Bool.and_true,q_d];intro p hp;simp only[Xh,CF,EX] at hp;obtain⟨j,hj,rfl⟩:=hp;have:=ht j;cases h3:tag j with
 | fresh sz=>exact absurd h3 (this sz)
 | _=>rfl
theorem w0j {O:Lj}{R ys:Lp}{cap n by_:Nat}{id:Lt}(hn:n=O.length)(hc:n<=cap)(hR:R.length=cap-n)(hq:R.all PV.quiet=true)(hl:n<=1000)(hby:by_<=1000)(ho:ys.length=ys.length):
 HB (Xh (fun _=> .full) O++R) n cap [.sl .full ys] ⟨id,1,by_,false,true,false⟩:=by
 have h1:=qd (fun _=> .full) O;refine⟨rfl,by show 0<1;decide,by show _=cap*1;rw[BH,h1,hR];omega,by show n+1<=_;omega,?_,?_,by rw[List.all_append,yr,hq];rfl,rfl⟩;show(n+1)*by_<=_;have:(n+1)*by_<=1001*1000:=DW oG hby;omega;rfl
def FlowR (n:Nat)(F:List (List Ivl)×Int)(fu:Bool)(st:Qc)(r:PV)(S:Qc):Prop:=
 Kept st S/\((F.2≠0/\r= .tup [.sl .no [],.sc (.int .i64 F.2)])\/(F.2=0/\r= .tup [.ms true st.length 0 n,.sc (.int .i64 0)]/\ ∃S0 id cap,OutI S0 S st.length n (fun _=>fu) id cap (fun i=>F.1.getD i [])))
theorem FlowR.err0 {n:Nat}{e:Int}{fu:Bool}{st:Qc}(h:e≠0):FlowR n ([],e) fu st (.tup [.sl .no [],.sc (.int .i64 e)]) st:=⟨Kept.refl st,.inl ⟨h,rfl⟩⟩
theorem w1f (rows:Lj):(Xh (fun _=> .full) rows).map PV.forgetK=Xh (fun _=> .full) rows:=by unfold Xh;rw[DZ];rfl
theorem Oy {α:Type}{d:α}{l:List α}{n:Nat}(h:l.length=n):(List.range n).map (fun i=>l.getD i d)=l:=by refine C9 (by simp[h]) fun i h1 h2=> ?_;simp[q_a,h2]
structure SerS (st S:Qc) (f:List (List Mn)) (p:Int) (n:Nat) (fu:Nat->Bool) (id cap:Nat->Nat) (val:Nat->List Ivl):Prop where
 s0: ∃Z,OutI (st++ [Z,[.ms true st.length 0 n],[.sl .no (QL f)],[.sc (.int .i64 p)]]) S st.length n fu id cap val
section
variable {st S:Qc} {f:List (List Mn)} {p:Int} {n:Nat} {fu:Nat->Bool} {id cap:Nat->Nat} {val:Nat->List Ivl}
theorem SerS.at (h:SerS st S f p n fu id cap val):st.length+4<=S.length/\S.getD (st.length+1) []= [.ms true st.length 0 n]/\S.getD (st.length+1+1) []= [.sl .no (QL f)]/\S.getD (st.length+1+1+1) []= [.sc (.int .i64 p)]:=by obtain⟨Z,h⟩:=h.s0;have h1:=h.old;simp only[BH,C1,D6] at h1;refine⟨oG,?_,?_,?_⟩;rw[h1.2 _ oG oG,Zi _ _ _ _ oG,show st.length+1-st.length=1 by omega];rfl;rw[h1.2 _ oG oG,Zi _ _ _ _ oG,show st.length+1+1-st.length=2 by omega];rfl;rw[h1.2 _ oG oG,Zi _ _ _ _ oG,show st.length+1+1+1-st.length=3 by omega];rfl
theorem SerS.start {x:Li}{Z:Lp}(hl:f.length<=Z.length)(hZ: ∀i,i<f.length->Z.getD i .junk= .sl .full (Qj [x.getD i default])):
 SerS st (st++ [Z]++ [[.ms true st.length 0 f.length]]++ [[.sl .no (QL f)]]++ [[.sc (.int .i64 p)]]) f p f.length (fun _=>true) (fun _=>0) (fun _=>0) (fun i=> [x.getD i default]):=by
 have e:st++ [Z]++ [[.ms true st.length 0 f.length]]++ [[.sl .no (QL f)]]++ [[.sc (.int .i64 p)]]=st++ [Z,[.ms true st.length 0 f.length],[.sl .no (QL f)],[.sc (.int .i64 p)]]:=(by simp);have hO:(st++ [Z,[.ms true st.length 0 f.length],[.sl .no (QL f)],[.sc (.int .i64 p)]]).getD st.length []=Z:=(by rw[Zi _ _ _ _ (BD _),DD];rfl);rw[e];exact⟨Z,⟨BD _,fun _ _ _=>rfl⟩,⟨by simp,by rw[hO];exact hl,fun i hi=>by rw[hO,BC rfl];exact hZ i hi⟩,fun i hi h=>(by cases h),fun i j _ _ h=>(by cases h)⟩
theorem SerS.kept (h:SerS st S f p n fu id cap val):Kept st S:=by obtain⟨Z,h⟩:=h.s0;have h1:=h.old;simp only[BH,C1,D6] at h1;refine⟨oG,fun x hx=> ?_⟩;rw[h1.2 _ oG oG,QV _ _ _ _ hx]
theorem SerS.next {rows:Lj}(h:SerS st S f p n fu id cap val)(hM:(List.range n).map val=rows){i k:Nat}{R:PV}(hw:Wordy R){g:FuncId}
 (hc:PCalls Tryz.prog g [.sc (.int .i64 i),.sc (.int .i64 k),.ep [.sl .no (QL f)] 0,.ep [.sl .no (Qt rows)] 0,.ep [.sc (.int .i64 p)] 0] [] (fun r st'=>r=R/\st'= [])):
 PR g [.sc (.int .i64 i),.sc (.int .i64 k),.gp (st.length+1+1) 0,.gp (st.length+1) 0,.gp (st.length+1+1+1) 0] S (R):=by
 subst hM;obtain⟨a1,a2,a3,a4⟩:=h.at;obtain⟨Z,h⟩:=h.s0;generalize hS0:st++ [Z,[.ms true st.length 0 n],[.sl .no (QL f)],[.sc (.int .i64 p)]]=S0 at h;have hl0:S0.length=st.length+4:=(by rw[<-hS0];simp);have he: ∀k,st.length<k->k<st.length+4->(eI S0 S st.length n fu id val).getD k 0=(S.getD k []).length:=fun k h1 h2=>(by rw[UY oG,BC oG,BA oG,BC h1]);refine PCalls.lendS (eI S0 S st.length n fu id val) hc hw rfl (fun j hj=> ?_) (fun k hk=>h.eLe hk) (fun k o hk ho=>h.eNotW (fun k h1 h2 o ho=> ?_) hk ho)
 match j,hj with
 | 0,_=>exact .same (.sc _)
 | 1,_=>exact .same (.sc _)
 | 2,_=>
  refine .gp oG (by rw[he _ oG oG,a3];exact BD _) fun j hj=> ?_;have:j=0:=(by simp at hj;omega);subst this;rw[a3];exact .same (z0t _ f)
 | 3,_=>
  refine .gp oG (by rw[he _ oG oG,a2];exact BD _) fun j hj=> ?_;have:j=0:=(by simp at hj;omega);subst this;rw[a2];exact h.seen
 | 4,_=>
  refine .gp oG (by rw[he _ oG oG,a4];exact BD _) fun j hj=> ?_;have:j=0:=(by simp at hj;omega);subst this;rw[a4];exact .same (.sc _)
 have h3:(S0.getD k []).length=1/\((S0.getD k []).getD 0 .junk).notW=true:=by rw[<-h.old.2 k h2 oG];rcases (show k=st.length+1\/k=st.length+1+1\/k=st.length+1+1+1 by omega) with e | e | e;rw[e,a2];exact⟨rfl,rfl⟩;rw[e,a3];exact⟨rfl,rfl⟩;rw[e,a4];exact⟨rfl,rfl⟩
 have:o=0:=oG;rw[this];exact h3.2
theorem SerS.ext {fu':Nat->Bool}{val':Nat->List Ivl}(h:SerS st S f p n fu id cap val)(hf: ∀i,i<n->fu i=fu' i)(hv: ∀i,i<n->val i=val' i):SerS st S f p n fu' id cap val':=by obtain⟨Z,h⟩:=h.s0;exact⟨Z,h.ext hf hv⟩
end
def fuK (k i j:Nat):Bool:=decide (k=0)&&decide (i<=j)
theorem z1c {f:Lk}{x:Li}{p:Int} : ∀k,(Zl f x p k).2≠0->(Zl f x p k).1= []
 | 0,h=>absurd rfl h
 | k+1,h=>by rw[Zl] at h⊢;split;rfl;rename_i c;rw[BA c] at h;split;rfl;rename_i d;rw[BA d] at h;exact absurd rfl h
theorem z1d {f:Lk}{x:Li}{order p:Int}(h:(Xr f x order p).2≠0):(Xr f x order p).1= []:=by unfold Xr at h⊢;split;rename_i c;rw[BC c] at h;exact z1c _ h;rfl
theorem w9 {f:Lk}{x:Li}{order p:Int}(wx:wB x)(h:(Xr f x order p).2=0):(Xr f x order p).1.length=f.length/\f.length<=4/\0<f.length/\0<=order/\order<=10/\ ∀i,i<f.length->((Xr f x order p).1.getD i []).length=order.toNat+1:=by
 have wx': ∀a∈x,wI a:=fun a ha=>by obtain⟨i,hi,rfl⟩:=CM.1 ha;have:=wx.2 i hi;rwa [show x.getD i default=x[i] by simp[q_a,hi]] at this
 unfold Xr at h⊢;split at h;rename_i c;rw[BC c];obtain⟨rf,rx,hl,h0,h1,hp⟩:=c;obtain⟨a1,a2⟩:=xt hl wx' order.toNat h;have:=Wx rx;exact⟨oG,oG,oG,oG,oG,fun i hi=>(a2 i oG).1⟩;exact absurd h (by decide)
theorem K0o (f:Lk)(x:Li)(order p:Int)(st:Qc)(wf:wF f)(wx:wB x):
 PCalls Tryz.prog 132 [.sl .no (QL f),.sl .no (Qj x),.sc (.int .i64 order),.sc (.int .i64 p)] st
 (fun r S=>FlowR f.length (Xr f x order p) (decide (order=0)) st r S):=by
 have bad: ¬(ZY f=true/\rightB x=true/\x.length=f.length/\0<=order/\order<=10/\Qv p=true)->Xr f x order p=([],1):=fun h=>by unfold Xr;rw[BA h]
 refine Ql Tryz.func132 fun E=> ?_;refine(IJ f st wf).q ?_;cases hf:ZY f with
 | false=>
  rw[bad (fun h=>by rw[hf] at h;exact absurd h.1 (by decide))];refine Qq ?_;exact FlowR.err0 (by decide)
 | true=>
 refine Qq ?_;refine(Ko x st wx).q ?_;cases hx:rightB x with
 | false=>
  rw[bad (fun h=>by rw[hx] at h;exact absurd h.2.1 (by decide))];refine Qq ?_;exact FlowR.err0 (by decide)
 | true=>
 by_cases hl:x.length=f.length;rotate_left;have d1:((x.length:Int) !=(f.length:Int))=true:=(by simp;omega);rw[bad (fun h=>hl h.2.2.1)];simp-dsimp only[go_sem,d1];exact FlowR.err0 (by decide);have d1:((f.length:Int) !=(f.length:Int))=false:=(by simp);by_cases h0:0<=order;rotate_left;have d2:decide (order<0)=true:=q_h oG;rw[bad (fun h=>h0 h.2.2.2.1)];simp-dsimp only[go_sem,d1,d2,hl];exact FlowR.err0 (by decide);have d2:decide (order<0)=false:=q_g oG;by_cases h10:order<=10;rotate_left;have d3:decide (order>10)=true:=q_h oG;rw[bad (fun h=>h10 h.2.2.2.2.1)];simp-dsimp only[go_sem,d1,d2,d3,hl];exact FlowR.err0 (by decide);have d3:decide (order>10)=false:=q_g oG;simp-dsimp only[go_sem,d1,d2,d3,hl];refine(Ks p st).q ?_;cases hp:Qv p with
 | false=>
  rw[bad (fun h=>by rw[hp] at h;exact absurd h.2.2.2.2.2 (by decide))];refine Qq ?_;exact FlowR.err0 (by decide)
 | true=>
 have hfl:Xr f x order p=Zl f x p order.toNat:=by unfold Xr;rw[BC ⟨hf,hx,hl,h0,h10,hp⟩]
 rw[hfl];obtain⟨q,rfl⟩:=EE h0;rw[FN];refine Qq ?_;refine kr ?_;refine Z1g 2 0 3 (by simp) (by rfl) ?_;refine Qq ?_;have wx': ∀a∈x,wI a:=fun a ha=>by obtain⟨i,hi,rfl⟩:=CM.1 ha;have:=wx.2 i hi;rwa [show x.getD i default=x[i] by simp[q_a,hi]] at this
 have hx':=hx;unfold rightB at hx';simp only[q_i,BN,q_d] at hx';obtain⟨⟨hxr,hx1⟩,hx4⟩:=hx';refine X0 ([false,false,true,false,true,false,false,true,false,false,true]++rF 40++ [true,true,true]) 4 0
  (fun c s=> ∃(i cap:Nat) (R:Lp),c=f.length-i/\i<=f.length/\i<=cap/\R.length=cap-i/\R.all PV.quiet=true/\
   s=⟨[.junk,.junk,.sc (.int .i64 (q:Nat)),.junk,.lp 0 0,.junk,.junk,.lp 1 0,.junk,.junk,.lp 2 0]++jk 40++ [.sl .no (Qj x),.sc (.int .i64 (f.length:Nat)),.sc (.int .i64 (i:Nat))]++jk 62,
    [[.sl .no (QL f)],[.sc (.int .i64 p)],[.mr 3 i cap],Xh (fun _=> .full) ((x.take i).map fun a=> [a])++R],[],st⟩) f.length ?_ ?_
 simp-dsimp only[go_sem,hl];refine⟨0,0,[],oG,oG,oG,rfl,rfl,?_⟩;rw[show Xh (fun _=>Tag.full) (List.map (fun a=> [a]) (List.take 0 x))++ []= [] from by simp[Xh]];rfl
 . rintro c s ⟨i,cap,R,rfl,hi,r1,r2,r3,rfl⟩;have hall:(Xh (fun _=> .full) ((x.take i).map fun a=> [a])++R).all PV.quiet=true:=(by rw[List.all_append,yr,r3];rfl);refine Qa ?_;refine Qa ?_;refine ck ?_ ?_<;>intro h;have hlt:i<f.length:=(oT h);have e3:=J2v i oG;have gI:=Zr x i oG;have hxi:x.getD i default∈x:=QE _ _ _ oG;have mk:VX (x.getD i default).lo (x.getD i default).hi=(x.getD i default,0):=(by unfold VX;rw[BC (hxr _ hxi)]);refine Qq ?_;refine Qe (Xp (Qe (Qb ?_)));simp-dsimp only[go_sem,gI];refine⟨oG,?_⟩;refine Qa ?_;refine(xk _ _ _ (wx' _ hxi).1 (wx' _ hxi).2).q ?_;simp-dsimp only[go_sem,mk];refine Z1c [.no,.no,.no,.keep,.room,.no] ?_;have hxl:((x.take i).map fun a=> [a]).length=i:=(by simp;omega);have t1:(Xh (fun _=> .full) ((x.take i).map fun a=> [a])++R).take i=Xh (fun _=> .full) ((x.take i).map fun a=> [a]):=by have:=qd (fun _=> .full) ((x.take i).map fun a=> [a]);rw[hxl] at this;rw[FG oG,BF oG]
   simp-dsimp only[go_sem,EH,t1];refine⟨w0j hxl.symm r1 r2 r3 oG oG rfl,?_⟩;intro c1 R1 g1 g2 g3;have hsn:Xh (fun _=> .full) ((x.take i).map fun a=> [a])++(flat [PV.sl .full [PV.agg [.sc (.bool (x.getD i default).lo.neg),.sc (.int .i64 (x.getD i default).lo.exp),.sl .no (Qo (x.getD i default).lo.w),.sc (.bool (x.getD i default).hi.neg),.sc (.int .i64 (x.getD i default).hi.exp),.sl .no (Qo (x.getD i default).hi.w)]]]++R1)=Xh (fun _=> .full) ((x.take (i+1)).map fun a=> [a])++R1:=by
    have e:(x.take (i+1)).map (fun a=> [a])=(x.take i).map (fun a=> [a])++ [[x.getD i default]]:=by rw[FV oG,E2];simp[q_a,(show i<x.length by omega)]
    rw[e,w1c,BP];rfl
   have hall2:(Xh (fun _=> .full) ((x.take (i+1)).map fun a=> [a])++R1).all PV.quiet=true:=by rw[List.all_append,yr,g3];rfl
   have hlims:=W2 (a:=4) (b:=0) hall2;refine Qb ?_;simp-dsimp only[go_sem,e3,hsn,hlims];exact⟨f.length-(i+1),oG,i+1,c1,R1,rfl,oG,g1,g2,g3,rfl⟩
   . have hge:i=f.length:=oF h
     subst hge;refine Qq ?_;have hpos:0<f.length:=oG;refine Q1x 2 0 3 f.length cap (by rfl) hpos ?_;refine Qq ?_;have hxl:((x.take f.length).map fun a=> [a]).length=f.length:=(by simp;omega);refine Rm 3 ?_ ?_ ?_;simp only[Hr];exact w1e _ _ _ r3 (fun j sz e=>by cases e);intro e;have:=B4 List.length e;rw[show([[PV.sl .no (QL f)],[PV.sc (.int .i64 p)],[PV.ms false 3 0 f.length],Xh (fun _=> .full) ((x.take f.length).map fun a=> [a])++R]:Qc).getD 3 []=Xh (fun _=> .full) ((x.take f.length).map fun a=> [a])++R from rfl,BH,qd,hxl,D6] at this;omega;refine Qq ?_;have hZl:f.length<=((Xh (fun _=> .full) ((x.take f.length).map fun a=> [a])++R).map PV.forgetK).length:=by rw[BR,BH,qd,hxl];omega
     have hZ: ∀i,i<f.length->((Xh (fun _=> .full) ((x.take f.length).map fun a=> [a])++R).map PV.forgetK).getD i .junk= .sl .full (Qj [x.getD i default]):=fun i hi=>by rw[E2,w1f,w1d _ _ _ _ oG];congr 2;simp[q_a,ED,hi,(show i<x.length by omega)]
     generalize (Xh (fun _=> .full) ((x.take f.length).map fun a=> [a])++R).map PV.forgetK=Z at hZ hZl⊢;refine Vb 2 (by simp[go_sem,Zj,PV.closed2,PV.closed1]) (by simp) ?_;refine Qq ?_;refine Vb 0 (by simp[go_sem]) (by simp) ?_;refine Qq ?_;refine Vb 1 (by simp[go_sem]) (by simp) ?_;refine Qq ?_;have hS:=SerS.start (p:=p) (st:=st) hZl hZ;generalize st++ [Z]++ [[PV.ms true st.length 0 f.length]]++ [[PV.sl .no (QL f)]]++ [[PV.sc (.int .i64 p)]]=S at hS⊢;clear hZ hZl r1 r2 r3 hall h hi;refine Qp ?_;have hok:=xt (p:=p) hl wx';have fin: ∀k,k<q->(Zl f x p k).2=0->(Zl f x p (k+1)).2≠0->Zl f x p q=([],(Zl f x p (k+1)).2):=fun k hk h0 he=>by by_cases e:k+1=q;rw[<-e];rw[Zl,BA (by rw[h0];decide)] at he⊢;split;rfl;rename_i c;rw[BA c] at he;exact absurd rfl he;have:=w8 he (q-(k+1+1));rwa [show k+1+1+(q-(k+1+1))=q by omega] at this
     refine X0 ([false,false,false,false,true,false,false,false,false,false,true,false,false,false,false,true]++List.replicate 56 false++ [true,true]) 0 0
      (fun c s=> ∃(k:Nat) (S:Qc) (id cap:Nat->Nat),c=q-k/\k<=q/\(Zl f x p k).2=0/\SerS st S f p f.length (fun _=>decide (k=0)) id cap (fun i=>(Zl f x p k).1.getD i [])/\
       s=⟨[.junk,.junk,.junk,.junk,.gp (st.length+1+1) 0,.junk,.junk,.junk,.junk,.junk,.gp (st.length+1) 0,.junk,.junk,.junk,.junk,.fn (.func 201) [] [.gp (st.length+1+1) 0,.gp (st.length+1) 0,.gp (st.length+1+1+1) 0]]++jk 56++ [.sc (.int .i64 (q:Nat)),.sc (.int .i64 (k:Nat))]++jk 42,
        [],[],S⟩) q ?_ ?_
     refine Qq ?_;refine⟨0,S,_,_,oG,oG,rfl,hS.ext (fun i hi=>rfl) (fun i hi=> ?_),rfl⟩;show [x.getD i default]=(x.map fun a=> [a]).getD i [];simp[q_a,(show i<x.length by omega)];clear hS;rintro c s ⟨k,S,id,cap,rfl,hk,hz,hS,rfl⟩;obtain⟨hn1,hn2⟩:=hok k hz;generalize hrows:(Zl f x p k).1=rows at*
     refine Qa ?_;refine Qa ?_;refine ck ?_ ?_<;>intro h;rotate_left;have hge:k=q:=(oF h);subst hge;obtain⟨a1,a2,a3,a4⟩:=hS.at;refine Qq ?_;refine Qb ?_;simp-dsimp only[go_sem,a2];refine⟨hS.kept,.inr ⟨hz,rfl,?_⟩⟩;obtain⟨Z,hO⟩:=hS.s0;refine⟨_,id,cap,hO.ext (fun i hi=> ?_) (fun i hi=>by rw[hrows])⟩;by_cases e:k=0;subst e;rfl;rw[q_g e,q_g oG];have hlt:k<q:=(oT h);have e3:=J2v k oG;refine Qe (Xp (Qe (Qb ?_)));refine Qq ?_;refine Qa ?_;refine ZE 17 6 ?_;refine Qq ?_;have wxs:wXs rows:=⟨oG,fun i hi=>by obtain⟨a1,a2⟩:=hn2 i oG;exact⟨oG,a2⟩⟩;obtain⟨a1,a2,a3,a4⟩:=hS.at;have a3':(S.getD (st.length+1+1) []).getD 0 .junk= .sl .no (QL f):=(by rw[a3];rfl);refine Qe (Qb ?_);simp-dsimp only[go_sem,a3];refine X0 ([false,false,false,false,true,false,false,false,false,false,true,false,false,false,false,true,true,true]++List.replicate 54 false++ [true,true,false,false,false,true,true]) 0 1
      (fun c s=> ∃(i:Nat) (o:Li),c=f.length-i/\i<=f.length/\o.length=i/\Q7 (W7 f rows k p) i (f.length-i) o=GL f rows k p/\
       s=⟨[.junk,.junk,.junk,.junk,.gp (st.length+1+1) 0,.junk,.junk,.junk,.junk,.junk,.gp (st.length+1) 0,.junk,.junk,.junk,.junk,.fn (.func 201) [] [.gp (st.length+1+1) 0,.gp (st.length+1) 0,.gp (st.length+1+1+1) 0],.sc (.int .i64 (k:Nat)),.sl (.own 0) (Qj o)]++jk 54++ [.sc (.int .i64 (q:Nat)),.sc (.int .i64 (k:Nat)),.junk,.junk,.junk,.sc (.int .i64 (f.length:Nat)),.sc (.int .i64 (i:Nat))]++jk 37,
        [],[(i,6)],S⟩) f.length ?_ ?_
     refine Qq ?_;exact⟨0,[],oG,oG,rfl,rfl,rfl⟩;have hrr:(List.range f.length).map (fun i=>rows.getD i [])=rows:=Oy oG;rintro c s ⟨i,o,rfl,hi,ho,ht,rfl⟩;refine Qa ?_;refine Qa ?_;refine ck ?_ ?_<;>intro h;have hlt2:i<f.length:=(oT h);have e4:=J2v i oG;rw[VM _ hlt2] at ht;refine Qq ?_;refine Qe (Xp (Qe (Qb ?_)));refine Qq ?_;refine Qa ?_;refine(hS.next hrr (G0r _ _) (k0v f rows i k p [] hlt2 oG wf wxs)).q ?_;refine Qq ?_;have hsn:=xC o (W7 f rows k p i).1;generalize W7 f rows k p i=c at ht hsn⊢;refine Qe (Qb ?_);by_cases hc:c.2=0;have ec:(c.2 !=0)=false:=(by rw[hc];rfl);rw[BA (by rw[hc];decide)] at ht;simp-dsimp only[go_sem,ec];refine Qb ?_;simp-dsimp only[go_sem,hsn,ho];refine⟨oG,?_⟩;refine Qb ?_;simp-dsimp only[go_sem,e4];exact⟨f.length-(i+1),oG,i+1,o++ [c.1],rfl,oG,by simp[ho],ht,rfl⟩;have ec:(c.2 !=0)=true:=BV.2 hc;rw[BC hc] at ht;have hk1:(Zl f x p (k+1)).2=c.2:=(by rw[Zl,BA (by rw[hz];decide),hrows,<-ht,BC hc]);simp-dsimp only[go_sem,ec];rw[fin k hlt hz (by rw[hk1];exact hc),hk1];exact⟨hS.kept,.inl ⟨hc,rfl⟩⟩;have hge2:i=f.length:=(oF h);subst hge2;rw[Wt] at ht;have hrow:Zl f x p (k+1)=(XB rows o f.length,0):=(by rw[Zl,BA (by rw[hz];decide),hrows,<-ht,BA (fun h=>h rfl)]);refine Qq ?_;refine KG (List.replicate 17 false++ [true]) (Qb ?_);simp-dsimp only[go_sem,ho];refine X0 ([false,false,false,false,true,false,false,false,false,false,true,false,false,false,false,true]++List.replicate 56 false++ [true,true]++List.replicate 22 false++ [true,true,true]) 0 0
      (fun c s=> ∃(i:Nat) (S:Qc) (id cap:Nat->Nat),c=f.length-i/\i<=f.length/\SerS st S f p f.length (fuK k i) id cap (fun j=>(XB rows o i).getD j [])/\
       s=⟨[.junk,.junk,.junk,.junk,.gp (st.length+1+1) 0,.junk,.junk,.junk,.junk,.junk,.gp (st.length+1) 0,.junk,.junk,.junk,.junk,.fn (.func 201) [] [.gp (st.length+1+1) 0,.gp (st.length+1) 0,.gp (st.length+1+1+1) 0]]++jk 56++ [.sc (.int .i64 (q:Nat)),.sc (.int .i64 (k:Nat))]++jk 22++ [.sl .no (Qj o),.sc (.int .i64 (f.length:Nat)),.sc (.int .i64 (i:Nat))]++jk 17,
        [],[],S⟩) f.length ?_ ?_
     refine Qq ?_;exact⟨0,S,id,cap,oG,oG,hS.ext (fun i hi=>by unfold fuK;simp) (fun i hi=>rfl),rfl⟩;clear hS a1 a2 a3 a3' a4;rintro c s ⟨i,S,id,cap,rfl,hi,hS,rfl⟩;obtain⟨a1,a2,a3,a4⟩:=hS.at;refine Qa ?_;refine Qa ?_;refine ck ?_ ?_<;>intro h;rotate_left;have hge2:i=f.length:=(oF h);subst hge2;refine Qq ?_;refine Qb ?_;simp-dsimp only[go_sem,e3];refine⟨q-(k+1),oG,k+1,S,id,cap,rfl,oG,by rw[hrow],hS.ext (fun i hi=> ?_) (fun i hi=>by rw[hrow]),rfl⟩;unfold fuK;rw[q_g (by omega: ¬f.length<=i),q_g (by omega: ¬k+1=0)];simp;have hlt2:i<f.length:=(oT h);have e4:=J2v i oG;have gO:=Zr o i oG;refine Qq ?_;refine Qe (Xp (Qe (Qb ?_)));simp-dsimp only[go_sem,gO];refine⟨oG,?_⟩;obtain⟨Z,hO⟩:=hS.s0;obtain⟨o1,o2,o3⟩:=hO.o;have gC:=o3 i hlt2;have hSl:=hO.old.1;have hput:=fun S1 K c=>hO.put (S1:=S1) (K:=K) (c:=c) (x:=o.getD i default) hlt2;have hnx: ∀S' id' cap',OutI (st++ [Z,[.ms true st.length 0 f.length],[.sl .no (QL f)],[.sc (.int .i64 p)]]) S' st.length f.length (KT (fuK k i) i false) id' cap' (KT (fun j=>(XB rows o i).getD j []) i ((XB rows o i).getD i []++ [o.getD i default]))->
      SerS st S' f p f.length (fuK k (i+1)) id' cap' (fun j=>(XB rows o (i+1)).getD j []):=fun S' id' cap' h=>by
      refine⟨Z,h.ext (fun j hj=> ?_) fun j hj=> ?_⟩;unfold KT fuK;by_cases e:j=i;subst e;rw[BC rfl,q_g (by omega: ¬j+1<=j),Bool.and_false];rw[BA e];congr 1;exact FD.2 oG;show(if j=i then(XB rows o i).getD i []++ [o.getD i default] else(XB rows o i).getD j [])=(XB rows o (i+1)).getD j [];rw[G0 rows o i oG,BA (Nat.lt_irrefl i),G0 rows o j oG,G0 rows o j oG];by_cases e:j=i;subst e;rw[BC rfl,BC oG];rw[BA e];by_cases h2:j<i;rw[BC h2,BC oG];rw[BA h2,BA oG]
     have hv:((XB rows o i).getD i []).length=k+1:=by rw[G0 rows o i oG,BA oG];exact(hn2 i oG).1
     have hl0:(st++ [Z,[PV.ms true st.length 0 f.length],[.sl .no (QL f)],[.sc (.int .i64 p)]]).length=st.length+4:=(by simp);cases hfu:fuK k i i with
     | true=>
      rw[hfu,BC rfl] at gC;refine GR (rF 8++ [true]) Qy 116 (.step 0 [] (.step 1 [] (.step 2 [] (.step 3 [] (.step 4 [] (.step 5 [] (.step 6 [] (.step 7 [] (.step 8 [0] (.step 9 [] (.step 10 [] (.done)))))))))))) (by decide+kernel) (by simp) ?_;simp-dsimp only[go_sem,a2,gC,Z2b];refine⟨⟨oG,hlt2⟩,oG,GrowOK.mk_one rfl (by decide) (IG _) oG (by decide) rfl rfl,fun cap' R hc hR=> ?_⟩;have hnew:=H1t (R:=R) ((XB rows o i).getD i []) (o.getD i default) hSl (by rw[K4];exact hc) (by rw[K4];exact hR);have hp:=hput _ _ _ (by simp) (fun q hq _=>QV _ _ _ _ hq) hnew (.inl (BD _));have hSO: ∀X:List PV,(S++ [X]).getD st.length []=S.getD st.length []:=fun X=>QV _ _ _ _ oG;have hS1: ∀X:List PV,(S++ [X]).getD (st.length+1) []= [.ms true st.length 0 f.length]:=fun X=>(by rw[QV _ _ _ _ oG];exact a2);have hSO:=hSO (flat (Qj ((XB rows o i).getD i []))++(flat [.agg (Qm (o.getD i default))]++R));have hS1:=hS1 (flat (Qj ((XB rows o i).getD i []))++(flat [.agg (Qm (o.getD i default))]++R));simp only[Qm] at hp hSO hS1;generalize S++ [flat (Qj ((XB rows o i).getD i []))++(flat [PV.agg [.sc (.bool (o.getD i default).lo.neg),.sc (.int .i64 (o.getD i default).lo.exp),.sl .no (Qo (o.getD i default).lo.w),.sc (.bool (o.getD i default).hi.neg),.sc (.int .i64 (o.getD i default).hi.exp),.sl .no (Qo (o.getD i default).hi.w)]]++R)]=S1 at hp hSO hS1⊢;refine⟨⟨by rw[hS1];exact BD 1,by rw[hS1];rfl⟩,⟨oG,hlt2⟩,⟨by rw[hSO];omega,by rw[hSO];omega⟩,?_⟩;refine Qb ?_;simp-dsimp only[go_sem,e4];exact⟨f.length-(i+1),oG,i+1,_,_,_,rfl,oG,hnx _ _ _ hp,rfl⟩
     | false=>
      rw[hfu,BA (by decide)] at gC;have hr:=hO.r i hlt2 hfu;have hr1:=hr.1;refine GR (rF 8++ [true]) Qy 116 (.step 0 [] (.step 1 [] (.step 2 [] (.step 3 [] (.step 4 [] (.step 5 [] (.step 6 [] (.step 7 [] (.step 8 [0] (.step 9 [] (.step 10 [] (.done)))))))))))) (by decide+kernel) (by simp) ?_;simp-dsimp only[go_sem,a2,gC];refine⟨⟨oG,hlt2⟩,oG,GrowOK.mk_one rfl (by decide) hr.len oG (by decide) rfl rfl,fun K' cap' S1 hG=> ?_⟩;obtain⟨p1,p2,p3,p4⟩:=J0s (x:=o.getD i default) hr hG;have hp:=hput S1 K' cap' p2 (fun q hq hne=>p3 q hq (hne hfu)) p1 (p4.symm.imp (fun e=>oG) fun e=>⟨hfu,e⟩);have hSO:S1.getD st.length []=S.getD st.length []:=p3 _ oG oG;have hS1:S1.getD (st.length+1) []= [.ms true st.length 0 f.length]:=(by rw[p3 _ oG oG];exact a2);refine⟨⟨by rw[hS1];exact BD 1,by rw[hS1];rfl⟩,⟨oG,hlt2⟩,⟨by rw[hSO];omega,by rw[hSO];omega⟩,?_⟩;refine Qb ?_;simp-dsimp only[go_sem,e4];exact⟨f.length-(i+1),oG,i+1,_,_,_,rfl,oG,hnx _ _ _ hp,rfl⟩
theorem K0n (f:Lk)(x:Li)(order p:Int)(st:Qc)(wf:wF f)(wx:wB x):
 PR 132 [.sl .no (QL f),.sl .no (Qj x),.sc (.int .i64 order),.sc (.int .i64 p)] st (.tup [.sl .no (Qt (Xr f x order p).1),.sc (.int .i64 (Xr f x order p).2)]):=by
 refine zJ (Q:=fun r=>r= .tup [.sl .no (Qt (Xr f x order p).1),.sc (.int .i64 (Xr f x order p).2)]) ?_;refine(K0o f x order p st wf wx).mono ?_;rintro r S ⟨hk,⟨he,rfl⟩ | ⟨he,rfl,S0,id,cap,hO⟩⟩;obtain⟨X,rfl⟩:=hk.app;refine SeenRet.err ?_;rw[z1d he];rfl;refine hO.ret rfl hk ?_;rw[he,Oy (w9 wx he).1]
end Go.Pv
end
