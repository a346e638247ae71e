/- Parts of the walk: PvAj, PvAk. -/
import Derived.Test.YthlnpmkcmbohaaaGreatDoorZAA
import Derived.Test.YthlnpmkcmbohaaaGreatDoorZE
set_option linter.unusedVariables false
set_option linter.unusedSimpArgs false
section
namespace Go.Pv
def flat (ys:List PV):List PV:=(ys.map PV.cells).flatten
theorem Gz (y:PV)(ys:List PV):flat (y::ys)=y.cells++flat ys:=by simp[flat]
theorem Z5 {sz:Nat} : ∀ {ys:List PV},(∀i,i<ys.length->(ys.getD i .junk).cells.length=sz)->(flat ys).length=ys.length*sz
 | [],_=>by simp[flat]
 | y::ys,h=>by have h0:y.cells.length=sz:=h 0 (by simp);rw[Gz,BH,h0,Z5 (ys:=ys) (fun i hi=>h (i+1) (by simpa using hi)),C1,BQ];omega
theorem XT {sz:Nat} : ∀ {ys:List PV},(∀i,i<ys.length->(ys.getD i .junk).cells.length=sz)-> ∀m,m<ys.length*sz->(flat ys).getD m .junk=(ys.getD (m/sz) .junk).cells.getD (m % sz) .junk
 | [],_,m,hm=>by simp at hm
 | y::ys,h,m,hm=>by
  have h0:y.cells.length=sz:=h 0 (by simp);have hp:0<sz:=by refine EU fun e=> ?_;rw[e] at hm;simp at hm
  rw[Gz];by_cases hlt:m<sz;rw[Qk _ _ _ _ oG,CP hlt,BJ hlt];rfl;have hm':m-sz<ys.length*sz:=(by rw[C1,BQ] at hm;omega);rw[Ql _ _ _ _ oG,h0,XT (ys:=ys) (fun i hi=>h (i+1) (by simpa using hi)) _ hm'];have e1:m/sz=(m-sz)/sz+1:=Nat.div_eq_sub_div hp oG;rw[e1,<-Nat.mod_eq_sub_mod oG];rfl
theorem J0z {w:World}{g:Gh}{F:Fr}{T:List (Nat×Nat)}{v:Value}(h:RepF w g F T v (.sl .full [])): ∃ad,v= .slice ad 0 0:=by
 have h':Rep w g v (.sl .full []):=by cases h with | base _ _ h=>exact h
 have key: ∀es:List PV,es= []->Rep w g v (.sl .full es)-> ∃ad,v= .slice ad 0 0:=fun es he h=>by
  cases h with
  | nil t ad ht=>exact⟨ad,rfl⟩
  | sl t es b off sz cap cf ht hf hcap hsz hvis hc hr=>
   have:=hf rfl;subst he;exact⟨_,by rw[this];rfl⟩
 exact key [] rfl h'
section
variable {P:Program} {s:PFS} {K:PFS->Prop} {d:Option Tmp} {ty:TypeId} {pos:String} {af:Array Edge}
end
def KP (sz:Nat):Nat->List PV->List PV
 | 0,_=> []
 | n+1,cs=> .agg (cs.take sz)::KP sz n (cs.drop sz)
theorem Zi (sz:Nat): ∀(n:Nat) (cs:List PV),(KP sz n cs).length=n
 | 0,_=>rfl
 | n+1,cs=>by simp[KP,Zi sz n]
theorem K8 (sz:Nat): ∀(n:Nat) (cs:List PV) (i:Nat),i<n->(KP sz n cs).getD i .junk= .agg ((cs.drop (i*sz)).take sz)
 | 0,_,i,h=>by omega
 | n+1,cs,0,h=>by simp[KP]
 | n+1,cs,i+1,h=>by have:=K8 sz n (cs.drop sz) i oG;show(KP sz n (cs.drop sz)).getD i .junk=_;rw[this,LJ,BQ,CY,EZ]
theorem qT {sz:Nat} : ∀ {ys:List PV} (r:List PV),(∀y∈ys,y= .agg y.cells/\y.cells.length=sz)->KP sz ys.length (flat ys++r)=ys
 | [],r,_=>rfl
 | y::ys,r,h=>by obtain⟨h1,h2⟩:=h y (by simp);have ih:=qT (ys:=ys) r (fun z hz=>h z (by simp[hz]));simp only[C1,KP,Gz];rw[BP,FJ oG,BF oG,EW oG,C6 oG,CQ,ih,<-h1]
def PV.frzN1 (i sz:Nat)(cs:List PV):PV->PV
 | .lp k off=>if k=i then .ep cs off else .lp k off
 | .ms false k off len=>if k=i then(if off+len*sz<=cs.length then .sl .no (KP sz len (cs.drop off)) else .junk) else .ms false k off len
 | .mr k len cap=>if k=i then(if len*sz<=cs.length then .sl .no (KP sz len cs) else .junk) else .mr k len cap
 | p=>p
def PV.frzN (i sz:Nat)(cs:List PV):PV->PV
 | .agg l=> .agg (l.map (PV.frzN1 i sz cs))
 | .tup l=> .tup (l.map (PV.frzN1 i sz cs))
 | .fn f l m=> .fn f (l.map (PV.frzN1 i sz cs)) (m.map (PV.frzN1 i sz cs))
 | p=>p.frzN1 i sz cs
def PFS.freezeN (i sz:Nat)(s:PFS):PFS:=
 let cs:=(s.L.getD i []).map PV.forget2
 ⟨s.pa.map (PV.frzN i sz cs),(s.L.map fun l=>l.map (PV.frzN i sz cs)).set i [],s.T,s.st⟩
section
variable {w:World} {g g':Gh} {F:Fr} {T:List (Nat×Nat)} {i sz:Nat} {cs:List PV}
theorem RepF.frzN1 {v:Value}{p:PV}(hm: ∀v p,RepF w g F T v p->RepF w g' F T v p)(hz:Frozen w g' (F.lmu i) cs)(h:RepF w g F T v p):RepF w g' F T v (p.frzN1 i sz cs):=by
 obtain⟨cf,hcf⟩:=hz.cf;have h':=hm _ _ h;cases p with
 | lp k off=>
  simp only[PV.frzN1];split;rename_i e;subst e;cases h' with
  | base _ _ h'=>cases h'
  | lp k off hi=>
   have:=Rep.ep (w:=w) (g:=g') cs off (F.lmu k) 0 cf (by simpa using hz.vis) (fun j hj=>by simpa using(hcf j hj).1) (fun j hj=>(hcf j hj).2);rw[CU] at this;exact .base _ _ this
  exact h'
 | ms gl k off len=>
  cases gl with
  | true=>exact h'
  | false=>
   simp only[PV.frzN1];split;rename_i e;subst e;split;rename_i hle;cases h' with
   | base _ _ h'=>cases h'
   | lms k off len cap hi hcap=>
    have hin: ∀a b,a<len->b<sz->off+a*sz+b<cs.length:=fun a b ha hb=>by have:=ZY ha hb;omega
    have hfit: ∀a,a<len->a*sz+sz<=len*sz:=fun a ha=>by have:(a+1)*sz<=len*sz:=BG _ ha;rw[BQ,CY] at this;exact this
    have:=Rep.sl (w:=w) (g:=g') .no (KP sz len (cs.drop off)) (F.lmu k) off sz cap (fun a b=>cf (off+a*sz+b)) rfl (fun h=>by cases h) (by rw[Zi];exact hcap)
     (fun a ha=>by rw[Zi] at ha;rw[K8 _ _ _ _ ha];show((List.drop (a*sz) (List.drop off cs)).take sz).length=sz;rw[BX,DM,DM];have:=hfit a ha;omega) (fun _=>by rw[Zi];have:=hz.vis;omega)
     (fun a b ha hb=>by rw[Zi] at ha;exact(hcf _ (hin a b ha hb)).1)
     (fun a b ha hb=>by rw[Zi] at ha;rw[K8 _ _ _ _ ha];show Rep w g' _ (((List.drop (a*sz) (List.drop off cs)).take sz).getD b .junk);rw[JX _ _ _ _ hb];simp only[q_a,DH];have:=(hcf _ (hin a b ha hb)).2;rw[q_a] at this;rw[show off+(a*sz+b)=off+a*sz+b from oG];exact this)
    rw[Zi] at this;exact .base _ _ this
   exact .base _ _ (.junk _);exact h'
 | mr k len cap=>
  simp only[PV.frzN1];split;rename_i e;subst e;split;rename_i hle;cases h' with
  | base _ _ h'=>cases h'
  | lmr0 k ad hi=>exact .base _ _ (.nil .no ad rfl)
  | lmr k len cap hi hcap=>
   have hin: ∀a b,a<len->b<sz->a*sz+b<cs.length:=fun a b ha hb=>by have:=ZY ha hb;omega
   have hfit: ∀a,a<len->a*sz+sz<=len*sz:=fun a ha=>by have:(a+1)*sz<=len*sz:=BG _ ha;rw[BQ,CY] at this;exact this
   have:=Rep.sl (w:=w) (g:=g') .no (KP sz len cs) (F.lmu k) 0 sz cap (fun a b=>cf (a*sz+b)) rfl (fun h=>by cases h) (by rw[Zi];exact hcap)
    (fun a ha=>by rw[Zi] at ha;rw[K8 _ _ _ _ ha];show((List.drop (a*sz) cs).take sz).length=sz;rw[BX,DM];have:=hfit a ha;omega) (fun _=>by rw[Zi];have:=hz.vis;omega)
    (fun a b ha hb=>by rw[Zi] at ha;rw[CU];exact(hcf _ (hin a b ha hb)).1)
    (fun a b ha hb=>by rw[Zi] at ha;rw[K8 _ _ _ _ ha];show Rep w g' _ (((List.drop (a*sz) cs).take sz).getD b .junk);rw[JX _ _ _ _ hb];simp only[q_a,DH];have:=(hcf _ (hin a b ha hb)).2;rw[q_a] at this;exact this)
   rw[Zi] at this;exact .base _ _ this
  exact .base _ _ (.junk _);exact h'
 | _=>exact h'
theorem RepF.frzN {v:Value}{p:PV}(hm: ∀v p,RepF w g F T v p->RepF w g' F T v p)(hz:Frozen w g' (F.lmu i) cs)(h:RepF w g F T v p):RepF w g' F T v (p.frzN i sz cs):=by
 have gm: ∀(l:List PV) (j:Nat),(l.map (PV.frzN1 i sz cs)).getD j .junk=(l.getD j .junk).frzN1 i sz cs:=fun l j=>QU rfl l j;cases p with
 | agg l=>
  cases h with
  | base _ _ h=>
   cases h with
   | agg vs cs' hl h=>exact .agg vs _ (by simpa using hl) fun j hj=>by rw[gm];exact RepF.frzN1 hm hz (.base _ _ (h j (by simpa using hj)))
  | agg vs cs' hl h=>exact .agg vs _ (by simpa using hl) fun j hj=>by rw[gm];exact RepF.frzN1 hm hz (h j (by simpa using hj))
 | tup l=>
  cases h with
  | base _ _ h=>
   cases h with
   | tup vs cs' hl h=>exact .tup vs _ (by simpa using hl) fun j hj=>by rw[gm];exact RepF.frzN1 hm hz (.base _ _ (h j (by simpa using hj)))
  | tup vs cs' hl h=>exact .tup vs _ (by simpa using hl) fun j hj=>by rw[gm];exact RepF.frzN1 hm hz (h j (by simpa using hj))
 | fn f l m=>
  cases h with
  | base _ _ h=>
   cases h with
   | fn f us vs bs cs' hk hl h0 h=>
    exact .fn f us vs _ _ (by simpa using hk) (by simpa using hl) (fun j hj=>by rw[gm];exact RepF.frzN1 hm hz (.base _ _ (h0 j (by simpa using hj)))) fun j hj=>by rw[gm];exact RepF.frzN1 hm hz (.base _ _ (h j (by simpa using hj)))
  | fn f us vs bs cs' hk hl h0 h=>
   exact .fn f us vs _ _ (by simpa using hk) (by simpa using hl) (fun j hj=>by rw[gm];exact RepF.frzN1 hm hz (h0 j (by simpa using hj))) fun j hj=>by rw[gm];exact RepF.frzN1 hm hz (h j (by simpa using hj))
 | _=>exact RepF.frzN1 (sz:=sz) hm hz h
end
theorem kn {E:Ent}{s:PFS}(i sz:Nat)(hi:s.freezeOK i):U0f E s (s.freezeN i sz):=by
 intro a w g F h;by_cases hne:s.L.getD i []= []
 --a box without cells
 have hz:Frozen w g (F.lmu i) []:=⟨CX _,(fun p hp=>by cases hp),⟨fun _=>undef,fun j hj=>by simp at hj⟩⟩;have hf: ∀v p,RepF w g F s.T v p->RepF w g F s.T v (p.frzN i sz []):=fun v p hp=>RepF.frzN (fun _ _ h=>h) hz hp;have hL: ∀k,((s.L.map fun l=>l.map (PV.frzN i sz [])).set i []).getD k []≠ []->s.L.getD k []≠ []/\((s.L.map fun l=>l.map (PV.frzN i sz [])).set i []).getD k []=(s.L.getD k []).map (PV.frzN i sz []):=fun k hk=>by
  by_cases hki:i=k;subst hki;exfalso;apply hk;exact Xe _ _;have e:((s.L.map fun l=>l.map (PV.frzN i sz [])).set i []).getD k []=(s.L.getD k []).map (PV.frzN i sz []):=by rw[<-Jo (f:=fun l=>l.map (PV.frzN i sz [])) rfl];simp[q_a,DR hki]
  refine⟨fun e0=>hk (by rw[e,e0];rfl),e⟩
 have hcs:(s.L.getD i []).map PV.forget2= []:=by rw[hne];rfl
 refine⟨g,F,?_⟩;unfold PFS.freezeN;rw[hcs];refine⟨h.ext,h.store,⟨by simp[h.frame.nl],fun k hk=>h.frame.lo k (hL k hk).1,fun k hk=>h.frame.apart k (hL k hk).1,fun k j hk hj=>h.frame.inj k j (hL k hk).1 (hL j hj).1,fun k hk=> ?_,h.frame.tlo,fun k b hk hb=>⟨(h.frame.tapart k b hk hb).1,fun j hj=>(h.frame.tapart k b hk hb).2 j (hL j hj).1⟩,h.frame.tinj⟩,h.defers,by simp[h.len],fun t ht=> ?_⟩;obtain⟨h1,h2⟩:=hL k hk;simp only at hk⊢;rw[h2];intro j hj;obtain⟨q1,c,q2,q3⟩:=h.frame.holds k h1 j (by simpa using hj);exact⟨q1,c,q2,by rw[QU (f:=PV.frzN i sz []) rfl];exact hf _ _ q3⟩;simp only at ht⊢;rw[QU (f:=PV.frzN i sz []) rfl];exact hf _ _ (h.tmps t (by simpa using ht))
 let cs:=(s.L.getD i []).map PV.forget2
 obtain⟨l1,l2,l3⟩:=h.frame.lo i hne;obtain⟨k1,k2⟩:=Z0n w g (F.lmu i) cs.length (.inl l2) h.store.none;have hall:=List.all_eq_true.1 hi
 --all but the box
 have hLe:=k1.le
 let g':Gh:= { g with vis:=fun c=>if c=F.lmu i then max cs.length (g.vis c) else g.vis c }
 have htok:GC w g F s.T w g' F s.T:=⟨BD _,fun k hk=>⟨BD _,fun _ v es hR=>hR.mono fun b hb=>⟨rfl,BA fun e=>(h.frame.tapart k b hk hb).2 i hne e.symm⟩⟩⟩;have hm: ∀v p,RepF w g F s.T v p->RepF w g' F s.T v p:=fun v p hr=>hr.mono hLe (BD _) (fun _ _=>rfl) htok;have hcell: ∀j,j<cs.length-> ∃c,w.cell? ⟨F.lmu i,j,none⟩=some c/\Rep w g' c (cs.getD j .junk):=fun j hj=>by have hj':j<(s.L.getD i []).length:=(by simpa[cs] using hj);obtain⟨q1,c,q2,q3⟩:=h.frame.holds i hne j hj';refine⟨c,q2,?_⟩;have e:cs.getD j .junk=((s.L.getD i []).getD j .junk).forget2:=QU (f:=PV.forget2) rfl _ _;rw[e];exact(hm _ _ q3).forget2 (CR.1 (hall _ (Qq _ _ _ hj'))).1
 have hz:Frozen w g' (F.lmu i) cs:=by refine⟨?_,fun p hp=> ?_,⟨fun j=>if h:j<cs.length then(hcell j h).choose else undef,fun j hj=> ?_⟩⟩;show cs.length<=(if F.lmu i=F.lmu i then max cs.length (g.vis (F.lmu i)) else _);rw[BC rfl];exact Nat.le_max_left _ _;simp only[cs,CF] at hp;obtain⟨q,hq,rfl⟩:=hp;have:=qC (CR.1 (hall _ hq)).2;exact⟨by rw[this];rfl,this⟩;simp only[dif_pos hj];exact(hcell j hj).choose_spec
 have hf: ∀v p,RepF w g F s.T v p->RepF w g' F s.T v (p.frzN i sz cs):=fun v p hp=>RepF.frzN hm hz hp;have hL: ∀k,((s.L.map fun l=>l.map (PV.frzN i sz cs)).set i []).getD k []≠ []->k≠i/\s.L.getD k []≠ []/\((s.L.map fun l=>l.map (PV.frzN i sz cs)).set i []).getD k []=(s.L.getD k []).map (PV.frzN i sz cs):=fun k hk=>by
  by_cases hki:i=k;subst hki;exfalso;apply hk;exact Xe _ _;have e:((s.L.map fun l=>l.map (PV.frzN i sz cs)).set i []).getD k []=(s.L.getD k []).map (PV.frzN i sz cs):=by rw[<-Jo (f:=fun l=>l.map (PV.frzN i sz cs)) rfl];simp[q_a,DR hki]
  exact⟨fun e=>hki e.symm,fun e0=>hk (by rw[e,e0];rfl),e⟩
 have hvis: ∀k,k≠i->s.L.getD k []≠ []->g'.vis (F.lmu k)=g.vis (F.lmu k):=fun k hk hk0=>BA fun e=>hk (h.frame.inj k i hk0 hne e);have hst:StoreOK w g' s.st:=by refine⟨h.store.n,h.store.inj,h.store.lt,fun j hj hj0=> ?_,fun j hj=> ?_,k2,h.store.tab.mono hLe⟩;have:g'.vis (g.mu j)=g.vis (g.mu j):=BA fun e=>h.frame.apart i hne j hj e;exact this.trans (h.store.vis j hj hj0);exact(h.store.holds j hj).mono rfl fun v p hr=>hr.mono hLe
 refine⟨g',F,⟨h.ext.step k1 (fun b hb=> .inl (by rw[hb];exact l1)),hst,⟨by simp[PFS.freezeN,h.frame.nl],fun k hk=> ?_,fun k hk=> ?_,fun k j hk hj=> ?_,fun k hk=> ?_,h.frame.tlo,fun k b hk hb=>⟨(h.frame.tapart k b hk hb).1,fun j hj=> ?_⟩,h.frame.tinj⟩,h.defers,by simp[PFS.freezeN,h.len],fun t ht=> ?_⟩⟩;obtain⟨h1,h2,h3⟩:=hL k hk;obtain⟨a1,a2,a3⟩:=h.frame.lo k h2;exact⟨a1,a2,(hvis k h1 h2).trans a3⟩;exact h.frame.apart k (hL k hk).2.1;exact h.frame.inj k j (hL k hk).2.1 (hL j hj).2.1;obtain⟨h1,h2,h3⟩:=hL k hk;simp only[PFS.freezeN] at hk⊢;show Holds w _ _ (((s.L.map fun l=>l.map (PV.frzN i sz cs)).set i []).getD k []);rw[h3];intro j hj;obtain⟨q1,c,q2,q3⟩:=h.frame.holds k h2 j (by simpa using hj);exact⟨q1,c,q2,by rw[QU (f:=PV.frzN i sz cs) rfl];exact hf _ _ q3⟩;exact(h.frame.tapart k b hk hb).2 j (hL j hj).2.1;simp only[PFS.freezeN] at ht⊢;show RepF w g' F s.T _ ((s.pa.map (PV.frzN i sz cs)).getD t .junk);rw[QU (f:=PV.frzN i sz cs) rfl];exact hf _ _ (h.tmps t (by simpa using ht))
@[go_sem] theorem j1p {i sz:Nat}{pa:List PV}{L st:Qf}{T:List (Nat×Nat)} :(PFS.mk pa L T st).freezeN i sz=⟨pa.map (PV.frzN i sz ((L.getD i []).map PV.forget2)),(L.map fun l=>l.map (PV.frzN i sz ((L.getD i []).map PV.forget2))).set i [],T,st⟩:=(rfl)
attribute [go_sem] PV.frzN PV.frzN1
theorem IH {P:Program}{E:Ent}{c:Code}{Q:Exit->PFS->Prop}{s:PFS}(i sz:Nat)(hi:s.freezeOK i)(h:PWP P E c Q (s.freezeN i sz)):PWP P E c Q s:=Xv (kn i sz hi) h
theorem j0d {sz:Nat}{ys:List PV}(h: ∀i,i<ys.length->(ys.getD i .junk).cells.length=sz){i o:Nat}{c:List PV}(hi:i<ys.length)(ho:o+c.length<=sz):
 Zx (flat ys) (i*sz+o) c=flat (ys.set i (.agg (Zx (ys.getD i .junk).cells o c))):=by
 have hl:=Z5 h;have hb:i*sz+sz<=ys.length*sz:=by have:(i+1)*sz<=ys.length*sz:=BG _ hi;rw[BQ,CY] at this;exact this
 have hg: ∀j,j<ys.length->(ys.set i (.agg (Zx (ys.getD i .junk).cells o c))).getD j .junk=if j=i then .agg (Zx (ys.getD i .junk).cells o c) else ys.getD j .junk:=fun j hj=>by by_cases e:j=i;subst e;rw[BC rfl];simp[q_a,hj];rw[BA e];simp[q_a,DR (Ne.symm e)]
 have h': ∀j,j<(ys.set i (.agg (Zx (ys.getD i .junk).cells o c))).length->((ys.set i (.agg (Zx (ys.getD i .junk).cells o c))).getD j .junk).cells.length=sz:=fun j hj=>by rw[BL] at hj;rw[hg j hj];split;show(Zx _ o c).length=sz;rw[X4 _ _ _ (by rw[h i hi];exact ho)];exact h i hi;exact h j hj
 have hl':=Z5 h';rw[BL] at hl';have hov:i*sz+o+c.length<=(flat ys).length:=oG;apply C9;rw[X4 _ _ _ hov,hl,hl'];intro m h1 h2;have e1:=JS (flat ys) (i*sz+o) c hov m .junk;have hm:m<ys.length*sz:=(by rw[hl'] at h2;exact h2);have e2:=XT h' m (by rw[BL];exact hm);have e3:=XT h m hm;obtain⟨d1,d2⟩:=Kw hm;rw[q_a,BB h1,EB] at e1;rw[q_a,BB h2,EB] at e2;rw[e1,e2,hg _ d1];have hdm:=D7 m sz;by_cases e:m/sz=i;rw[BC e];show _=(Zx (ys.getD i .junk).cells o c).getD (m % sz) .junk;rw[JS _ _ _ (by rw[h i hi];exact ho)];rw[e,BM] at hdm;by_cases c1:o<=m % sz/\m % sz<o+c.length;rw[BC c1,BC oG];congr 1;omega;rw[BA c1,BA oG,e3,e];rw[BA e,<-e3,BA];intro hc;apply e;have a1:i*sz<=m:=oG;have a2:m<i*sz+sz:=oG;have hp:0<sz:=oG;have b1:i<=m/sz:=(ER hp).2 a1;have b2:m/sz<i+1:=(DV hp).2 (by rw[BQ,CY];exact a2);omega
theorem qH (l:List Nm): ∀i,i<(Qy l).length->((Qy l).getD i .junk).cells.length=3:=fun i hi=>by rw[QT] at hi;rw[QG l i hi];rfl
@[go_sem] theorem Y1t (l:List Nm):(flat (Qy l)).length=l.length*3:=by rw[Z5 (qH l),QT]
theorem vX (l:List Nm)(i:Nat)(x:Nm)(h:i<l.length):Zx (flat (Qy l)) (i*3) (Q9 x)=flat (Qy (l.set i x)):=by have:=j0d (qH l) (i:=i) (o:=0) (c:=Q9 x) (by rw[QT];exact h) (by simp[Q9]);rw[B1] at this;rw[this,QG l i h];congr 1;simp[Qy,FA,Zx,Q9,PV.cells]
theorem X1m {ys:List PV}{p:PV}(h:p∈flat ys): ∃y∈ys,p∈y.cells:=by simp only[flat,List.mem_flatten,CF] at h;obtain⟨l,⟨y,hy,rfl⟩,hp⟩:=h;exact⟨y,hy,hp⟩
theorem Ge {l:List Nm}{p:PV}(h:p∈flat (Qy l)): ∃x:Nm,p∈Q9 x:=by obtain⟨y,hy,hp⟩:=X1m h;obtain⟨x,_,rfl⟩:=CF.1 hy;exact⟨x,hp⟩
theorem vE {f:PV->PV}{l:List PV}(h: ∀p∈l,f p=p):l.map f=l:=by
 conv=>rhs;rw[<-List.map_id l]
 exact C4 fun p hp=>h p hp
@[go_sem] theorem Y1u (l:List Nm):(flat (Qy l)).map PV.forget2=flat (Qy l):=vE fun p hp=>by obtain⟨x,hx⟩:=Ge hp;simp[Q9] at hx;rcases hx with rfl | rfl | rfl<;>rfl
@[go_sem] theorem j1r (l:List Nm)(i sz:Nat)(cs:List PV):(flat (Qy l)).map (PV.frzN i sz cs)=flat (Qy l):=vE fun p hp=>by obtain⟨x,hx⟩:=Ge hp;simp[Q9] at hx;rcases hx with rfl | rfl | rfl<;>rfl
@[go_sem] theorem Z2u (l:List Nm):VN (flat (Qy l))=true:=by unfold VN;rw[q_d];intro p hp;obtain⟨x,hx⟩:=Ge hp;simp[Q9] at hx;rcases hx with rfl | rfl | rfl<;>rfl
@[go_sem] theorem w1t (l:List Nm)(a b:Nat):(flat (Qy l)).all (PV.lim a b)=true:=by rw[q_d];intro p hp;obtain⟨x,hx⟩:=Ge hp;simp[Q9] at hx;rcases hx with rfl | rfl | rfl<;>rfl
theorem x1k (l:List Nm):KP 3 l.length (flat (Qy l))=Qy l:=by have:=qT (sz:=3) (ys:=Qy l) [] (fun y hy=>by obtain⟨x,_,rfl⟩:=CF.1 hy;exact⟨rfl,rfl⟩);rw[QT,B9] at this;exact this
theorem K0k (l:List Nm)(n:Nat)(h:n=l.length):KP 3 n (flat (Qy l))=Qy l:=by subst h;exact x1k l
def XE (l:List (List Ivl)):List PV:=l.map fun c=> .sl .no (QE c)
@[go_sem] theorem z1o (l:List (List Ivl)):(XE l).length=l.length:=by simp[XE]
@[go_sem] theorem X2e :XE []= []:=(rfl)
@[go_sem] theorem W2i (l:List (List Ivl)):(XE l).all (fun x=>x.cells.length==1)=true:=by simp[XE,PV.cells]
@[go_sem] theorem y1e (l:List (List Ivl))(c:List Ivl):XE l++ [.sl .no (QE c)]=XE (l++ [c]):=by simp[XE]
theorem Kn (l:List (List Ivl))(n:Nat)(h:n<l.length):(XE l).getD n .junk= .sl .no (QE (l.getD n [])):=by simp[XE,q_a,h]
def Z8 (l:List (List Nm)):List PV:=l.map fun c=> .sl .no (Qy c)
@[go_sem] theorem Je (l:List (List Nm)):(Z8 l).length=l.length:=by simp[Z8]
@[go_sem] theorem X2c :Z8 []= []:=(rfl)
@[go_sem] theorem W2f (l:List (List Nm)):(Z8 l).all (fun x=>x.cells.length==1)=true:=by simp[Z8,PV.cells]
@[go_sem] theorem y1a (l:List (List Nm))(c:List Nm):Z8 l++ [.sl .no (Qy c)]=Z8 (l++ [c]):=by simp[Z8]
theorem Xh (l:List (List Nm))(n:Nat)(h:n<l.length):(Z8 l).getD n .junk= .sl .no (Qy (l.getD n [])):=by simp[Z8,q_a,h]
end Go.Pv
end
