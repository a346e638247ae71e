/- Parts of the walk: M59, M52, M53, M54, PvAu, N77, N78, N79, PvAv, PvAw, PvAx, PvAy, PvAz. -/
import Derived.Test.YtldalepagmhnmaaGreatDoorZBR
import Derived.Test.YtldalepagmhnmaaGreatDoorZBN
set_option linter.unusedVariables false
set_option linter.unusedSimpArgs false
section
namespace Go.Pv
theorem H2b {k:Nat}{a b:List Ivl}{p:Int}(h:(opB k a b p).2=0):(rightB a=true/\rightB b=true/\a.length=b.length/\Z0p p=true)/\(opB k a b p).1.length=a.length/\
 (∀j,j<a.length->(opI k (a.getD j default) (b.getD j default) p).2=0)/\ ∀j,j<a.length->(opB k a b p).1.getD j default=(opI k (a.getD j default) (b.getD j default) p).1:=by
 unfold opB at h⊢;by_cases c:rightB a=true/\rightB b=true/\a.length=b.length/\Z0p p=true;rw[if_pos c,j0p] at h;rw[if_pos c,j0p];exact⟨c,J0t h⟩;rw[if_neg c] at h;exact absurd h (by decide)
theorem J2m {x:Ivl}{b:List Ivl}{p:Int}(h:(k0a x b p).2=0):(rightB b=true/\Q0p x=true/\Z0p p=true)/\(k0a x b p).1.length=b.length/\
 (∀j,j<b.length->(opI 2 x (b.getD j default) p).2=0)/\ ∀j,j<b.length->(k0a x b p).1.getD j default=(opI 2 x (b.getD j default) p).1:=by
 unfold k0a at h⊢;by_cases c:rightB b=true/\Q0p x=true/\Z0p p=true;rw[if_pos c,j0p] at h;rw[if_pos c,j0p];exact⟨c,J0t h⟩;rw[if_neg c] at h;exact absurd h (by decide)
theorem v2u {h:Nm}(hr:Q0q h=true):(¬sgnN (ownN h)<=0)<->0<qN h:=by unfold ownN;rw[if_pos hr,<-v1e];omega
structure NextOK (f:List (List Mn)) (x a:List Ivl) (h:Nm) (p:Int):Prop where
 rf:K0m f=true
 rx:rightB x=true
 ra:rightB a=true
 lx:x.length=f.length
 la:a.length=f.length
 rh:Q0q h=true
 ph:0<qN h
 pp:Z0p p=true
 e1:(Y0c f a p).2=0
 e2:(k0a ⟨default,h⟩ (Y0c f a p).1 p).2=0
 e3:(opB 0 x (k0a ⟨default,h⟩ (Y0c f a p).1 p).1 p).2=0
theorem NextOK.val {f:List (List Mn)}{x a:List Ivl}{h:Nm}{p:Int}(n:NextOK f x a h p):(y2n f x a h p).1=(opB 0 x (k0a ⟨default,h⟩ (Y0c f a p).1 p).1 p).1:=by unfold y2n;rw[if_pos ⟨n.rf,n.rx,n.ra,n.lx,n.la,n.rh,(v2u n.rh).2 n.ph,n.pp⟩,if_pos n.e1,if_pos n.e2]
theorem v1k {f:List (List Mn)}{a:List Ivl}{p:Int}(h:(Y0c f a p).2=0):(K0m f=true/\a.length=f.length)/\(Y0c f a p).1.length=f.length/\ ∀j,j<f.length->(Y0c f a p).1.getD j default=(k0e (f.getD j []) a p (f.getD j []).length).1/\(k0e (f.getD j []) a p (f.getD j []).length).2=0:=by unfold Y0c at h⊢;by_cases c:K0m f=true/\a.length=f.length;rw[if_pos c] at h⊢;obtain⟨g1,g2,g3⟩:=J0t h;refine⟨c,g1,fun j hj=> ?_⟩;have e:=g2 j hj;rw[g3 j hj];show(Q2w (f.getD j []) a p).1=_/\_;replace e:(Q2w (f.getD j []) a p).2=0:=e;unfold Q2w at e⊢;split at e;rename_i d;rw[if_pos d];exact⟨rfl,e⟩;exact absurd e (by decide);rw[if_neg c] at h;exact absurd h (by decide)
structure NextAt (f:List (List Mn)) (x a:List Ivl) (h:Nm) (p:Int) (j:Nat):Prop where
 r0:(k0e (f.getD j []) a p (f.getD j []).length).2=0
 t0:(opI 2 ⟨default,h⟩ (k0e (f.getD j []) a p (f.getD j []).length).1 p).2=0
 s0:(opI 0 (x.getD j default) (opI 2 ⟨default,h⟩ (k0e (f.getD j []) a p (f.getD j []).length).1 p).1 p).2=0
 val:(y2n f x a h p).1.getD j default=(opI 0 (x.getD j default) (opI 2 ⟨default,h⟩ (k0e (f.getD j []) a p (f.getD j []).length).1 p).1 p).1
theorem NextOK.at {f:List (List Mn)}{x a:List Ivl}{h:Nm}{p:Int}(n:NextOK f x a h p){j:Nat}(hj:j<f.length):NextAt f x a h p j:=by obtain⟨_,r1,r2⟩:=v1k n.e1;obtain⟨r3,r4⟩:=r2 j hj;obtain⟨_,t1,t2,t3⟩:=J2m n.e2;obtain⟨_,s1,s2,s3⟩:=H2b n.e3;have t2:=t2 j (by omega);have t3:=t3 j (by omega);have s2:=s2 j (by rw[n.lx];exact hj);have s3:=s3 j (by rw[n.lx];exact hj);rw[r3] at t2 t3;rw[t3] at s2 s3;exact⟨r4,t2,s2,by rw[n.val];exact s3⟩
theorem K2y {k:Nat}{a b:List Ivl}{p:Int}(h:(opB k a b p).2=0):rightB (opB k a b p).1=true:=by obtain⟨c,l,_,v⟩:=H2b h;have:=K2j c.1;exact q1q (fun j hj=>by rw[v j (by omega)];exact X0q _ _ _ _) (by omega) (by omega)
theorem NextOK.rightB {f:List (List Mn)}{x a:List Ivl}{h:Nm}{p:Int}(n:NextOK f x a h p):Go.Pv.rightB (y2n f x a h p).1=true:=by rw[n.val];exact K2y n.e3
def U3d (n M:Nat)(D:Int)(p:List Mn):Prop:=X0a p n=true/\p.length<=M/\ ∀m∈p,okMn n 6 (8+M) D m
def okFieldT (n M:Nat)(D:Int)(f:List (List Mn)):Prop:=f.length=n/\ ∀p∈f,U3d n M D p
theorem okFieldT.at {n M:Nat}{D:Int}{f:List (List Mn)}(h:okFieldT n M D f){i j:Nat}(hi:i<f.length)(hj:j<(f.getD i []).length):okMn n 6 (8+M) D ((f.getD i []).getD j default):=by have e:f.getD i []=f[i]:=(by simp[q_a,hi]);rw[e] at hj⊢;exact x0o (h.2 _ (List.getElem_mem hi)).2.2 hj
theorem Y2v {ks:List Int}{D:Int}(hr:J0w ks=true)(h:ks.sum<=D){i:Nat}(hi:i<=ks.length):(sumK ks i:Int)<=D:=by
 have h0:=q0c hr i hi;have h1:(ks.take i).sum<=ks.sum:=by
  have hk:=((J0f ks).1 hr).1;have: ∀(l:List Int) (n:Nat),(∀j,j<l.length->0<=l.getD j 0)->(l.take n).sum<=l.sum:=by
   intro l
   induction l with
   | nil=>intro n _;simp
   | cons x l ih=>
    intro n hp;have hx:0<=x:=hp 0 (by simp);have hp': ∀j,j<l.length->0<=l.getD j 0:=fun j hj=>(by have:=hp (j+1) (by simpa using hj);simpa using this);cases n with
    | zero=>
     have:=ih 0 hp';simp at this⊢;omega
    | succ n=>
     have:=ih n hp';simp;omega
  exact this ks i hk
 unfold sumK;omega
theorem Y2b {E:Ent}(s:PFS)(t i len cap:Nat)(ht:s.pa.getD t .junk= .mr i len cap)(hl:0<len):Weak E s { s with pa:=s.pa.set t (.ms false i 0 len) } :=by
 intro a w g F h;refine⟨g,F,h.ext,h.store,h.frame,h.defers,by simp[h.len],fun k hk=> ?_⟩;simp only[List.length_set] at hk⊢;by_cases e:t=k;subst e;rw[Q0m _ _ _ _ hk];have:=h.tmps t hk;rw[ht] at this;generalize a.tmps.getD t undef=v at this⊢;cases this with
 | base _ _ h'=>cases h'
 | lmr _ _ _ hi hcap=>exact .lms i 0 len cap hi hcap
 | lmr0 _ _ _=>omega
 rw[Q0i _ _ _ _ _ e];exact h.tmps k hk
theorem Q2z {P:Program}{E:Ent}{c:Code}{Q:Exit->PFS->Prop}{s:PFS}(t i len cap:Nat)(ht:s.pa.getD t .junk= .mr i len cap)(hl:0<len)(h:PWP P E c Q { s with pa:=s.pa.set t (.ms false i 0 len) }):PWP P E c Q s:=J0u (Y2b s t i len cap ht hl) h
section
variable {w:World} {g g':Gh} {F:Fr} {T:List (Nat×Nat)} {k sz:Nat} {cs:List PV}
end
section
variable {k sz:Nat} {cs:List PV}
end
def PV.lend1 (L:Q0f):PV->PV
 | .mr j n _=> .sl .no (((L.getD j []).take n).map PV.forget1)
 | p=>p.forget1
def PV.lend2 (L:Q0f):PV->PV
 | .lp i off=> .ep ((L.getD i []).map (PV.lend1 L)) off
 | .mr j n _=> .sl .no (((L.getD j []).take n).map PV.forget1)
 | p=>p.forget2
def PV.notU :PV->Bool
 | .sl _ _ | .mr _ _ _ | .sc (.bool _) | .sc (.int .i64 _)=>true
 | _=>false
def q2o (L:Q0f)(e:List Nat):PV->Prop
 | .mr j n _=>n<=e.getD j 0/\ ∀o,o<n->((L.getD j []).getD o .junk).closed1=true
 | p=>p.closed1=true
def q2n (L:Q0f)(e:List Nat):PV->Prop
 | .lp i _=>(L.getD i []).length<=e.getD i 0/\0<(L.getD i []).length/\ ∀o,o<(L.getD i []).length->q2o L e ((L.getD i []).getD o .junk)
 | .mr j n _=>n<=e.getD j 0/\ ∀o,o<n->((L.getD j []).getD o .junk).closed1=true
 | p=>p.closed2=true
structure LendOK (L:Q0f) (e:List Nat) (xs:List PV):Prop where
 ext: ∀i o,o<e.getD i 0->o<(L.getD i []).length/\((L.getD i []).getD o .junk).notU=true
 args: ∀a∈xs,q2n L e a
 low: ∀a∈xs,Low 0 (a.lend2 L)
def uwV (v:Value):Prop:= ∃x,v= .int .u64 x\/v= .int .u32 x
inductive Wordy :PV->Prop
 | sc (v:Value):Wordy (.sc v)
 | agg (cs:List PV) (h: ∀c∈cs,Wordy c):Wordy (.agg cs)
 | tup (cs:List PV) (h: ∀c∈cs,Wordy c):Wordy (.tup cs)
 | sl (es:List PV) (h: ∀j,j<es.length-> ∃x,uwV x/\es.getD j .junk= .sc x):Wordy (.sl .no es)
theorem Wordy.turn {w:World}{g g':Gh}(hv: ∀b off x,uwV x->off<g.vis b->w.cell? ⟨b,off,none⟩=some x->g'.vis b=g.vis b): ∀ {p:PV},Wordy p-> ∀ {v:Value},Rep w g v p->Rep w g' v p:=by
 intro p hp
 induction hp with
 | sc v=>intro v' h;cases h;exact .sc _
 | agg cs hc ih=>intro v h;cases h with | agg vs _ hl h=>exact .agg vs cs hl fun j hj=>ih _ (Q0t _ _ _ hj) (h j hj)
 | tup cs hc ih=>intro v h;cases h with | tup vs _ hl h=>exact .tup vs cs hl fun j hj=>ih _ (Q0t _ _ _ hj) (h j hj)
 | sl es hes=>
  intro v h;cases h with
  | nil t ad ht=>exact .nil _ _ rfl
  | sl t es b off sz cap cf ht hfull hcap hsz hvis hc hr=>
   by_cases h0:es= [];subst h0;exact .sl _ [] b off sz cap cf rfl hfull hcap hsz (fun h=>by simp at h) (fun i j hi=>by simp at hi) (fun i j hi=>by simp at hi);have hl:0<es.length:=List.length_pos_iff.2 h0;have hs:sz=1:=by have h1:=hsz 0 hl;obtain⟨x,_,hx⟩:=hes 0 hl;rw[hx] at h1;exact h1.symm
   subst hs;have hvb:g'.vis b=g.vis b:=by have h1:=hr 0 0 hl (by omega);have h2:=hc 0 0 hl (by omega);obtain⟨x,hxw,hx⟩:=hes 0 hl;rw[hx] at h1;rw[show cf 0 0=x from Rep.sc_inv h1] at h2;exact hv b (off+0*1+0) x hxw (by have:=hvis hl;omega) h2
   refine .sl _ es b off 1 cap cf rfl hfull hcap hsz (by rw[hvb];exact hvis) hc fun i j hi hj=> ?_;have h1:=hr i j hi hj;have h3:j=0:=(by omega);subst h3;obtain⟨x,_,hx⟩:=hes i hi;rw[hx] at h1⊢;rw[show cf i 0=x from Rep.sc_inv h1];exact .sc _
theorem U3l {w:World}{g:Gh}{F:Fr}{T:List (Nat×Nat)}{v:Value}{p:PV}(h:RepF w g F T v p)(hp:p.notU=true){y:Value}(hy:uwV y):v≠y:=by
 intro e;subst e;obtain⟨x,rfl | rfl⟩:=hy<;>
 cases h with
 | base _ _ h=>cases h with
  | sc v=>cases hp
  | junk v=>cases hp
 | own k es _ h hk hle hr=>cases h
theorem Low.mk {p:PV}(h:Low 0 p){w:World}{g:Gh}{v:Value}(vis:Nat->Nat)(hv: ∀b,g.vis b<=vis b)(hr:Rep w g v p):Rep w ⟨0,fun _=>0,vis⟩ v p:=
 Rep.mono (w:=w) (g:= { g with n:=0 }) (w':=w) (g':=⟨0,fun _=>0,vis⟩) ⟨Nat.le_refl 0,fun i hi=>absurd hi (Nat.not_lt_zero _),hv,fun _ _ _ _ hc=>hc⟩ (h w g v hr (Nat.zero_le _))
noncomputable def W0g (g:Gh)(F:Fr)(L:Q0f)(e:List Nat)(b:Nat):Nat:=
 open Classical in if h: ∃i,L.getD i []≠ []/\F.lmu i=b/\0<e.getD i 0 then e.getD h.choose 0 else g.vis b
section
variable {P:Program} {E:Ent} {a:Act} {w:World} {g:Gh} {F:Fr} {s:PFS} {e:List Nat}
theorem K1j (h:FSRep E a w g F s)(i:Nat)(hi:s.L.getD i []≠ []):W0g g F s.L e (F.lmu i)=e.getD i 0:=by unfold W0g;split;rename_i hx;obtain⟨h1,h2,h3⟩:=hx.choose_spec;rw[h.frame.inj _ _ h1 hi h2];rename_i hx;rw[(h.frame.lo i hi).2.2];by_cases h0:0<e.getD i 0;exact absurd ⟨i,hi,rfl,h0⟩ hx;omega
theorem Q1m (h:FSRep E a w g F s)(b:Nat):g.vis b<=W0g g F s.L e b:=by unfold W0g;split;rename_i hx;obtain⟨h1,h2,h3⟩:=hx.choose_spec;have:=(h.frame.lo _ h1).2.2;rw[h2] at this;omega;exact Nat.le_refl _
theorem w0v (b:Nat)(hb:W0g g F s.L e b≠g.vis b): ∃i,s.L.getD i []≠ []/\F.lmu i=b/\W0g g F s.L e b=e.getD i 0:=by unfold W0g at hb⊢;split;rename_i hx;obtain⟨h1,h2,h3⟩:=hx.choose_spec;exact⟨_,h1,h2,rfl⟩;rename_i hx;rw[dif_neg hx] at hb;exact absurd rfl hb
noncomputable def w1i (g:Gh)(F:Fr)(L:Q0f)(e:List Nat):Gh:=⟨g.n,g.mu,W0g g F L e⟩
theorem G1n (h:FSRep E a w g F s):Le w g w (w1i g F s.L e):=⟨Nat.le_refl _,fun _ _=>rfl,Q1m h,fun _ _ _ _ hc=>hc⟩
theorem q2j (h:FSRep E a w g F s)(hx: ∀i o,o<e.getD i 0->o<(s.L.getD i []).length/\((s.L.getD i []).getD o .junk).notU=true){v:Value}{j n cap:Nat}
 (hr:RepF w g F s.T v (.mr j n cap)) (h1:n<=e.getD j 0) (h2: ∀o,o<n->((s.L.getD j []).getD o .junk).closed1=true):
 Rep w (w1i g F s.L e) v (.sl .no (((s.L.getD j []).take n).map PV.forget1)):=by
 cases hr with
 | base _ _ hr=>cases hr
 | lmr0 i ad hi=>simp only[List.take_zero,List.map_nil];exact .nil _ _ rfl
 | lmr i len cap hi hcap=>
  by_cases h0:n=0;subst h0;simp only[List.take_zero,List.map_nil];exact .sl _ [] (F.lmu j) 0 1 cap (fun _ _=>undef) rfl (fun h=>by cases h) hcap (fun i hi=>by simp at hi) (fun h=>by simp at h) (fun i j hi=>by simp at hi) (fun i j hi=>by simp at hi);have hlen:=(hx j (n-1) (by omega)).1;have hne:s.L.getD j []≠ []:=fun h=>(by rw[h] at hlen;simp at hlen);have hh:=h.frame.holds j hne;have hl:(((s.L.getD j []).take n).map PV.forget1).length=n:=(by rw[List.length_map,List.length_take];omega);have hg: ∀o,o<n->(((s.L.getD j []).take n).map PV.forget1).getD o .junk=((s.L.getD j []).getD o .junk).forget1:=fun o ho=>(by rw[X0d _ _ _ _ .junk (by rw[List.length_take];omega),V0g _ _ _ _ ho]);have hce: ∀o,o<n->((s.L.getD j []).getD o .junk).forget1.cells= [((s.L.getD j []).getD o .junk).forget1]:=fun o ho=>by
   have:=h2 o ho;generalize (s.L.getD j []).getD o .junk=p at this⊢;cases p with
   | agg l=>cases this
   | _=>rfl
  have:=Rep.sl (w:=w) (g:=w1i g F s.L e) .no (((s.L.getD j []).take n).map PV.forget1) (F.lmu j) 0 1 cap (fun o _=>(w.cell? ⟨F.lmu j,o,none⟩).getD undef) rfl (fun h=>by cases h) (by rw[hl];exact hcap)
   (fun i hi=>by rw[hl] at hi;rw[hg i hi,hce i hi];rfl)
   (fun _=>by rw[hl];show 0+n*1<=W0g g F s.L e (F.lmu j);rw[K1j h j hne];omega)
   (fun i k hi hk=>by rw[hl] at hi;obtain⟨_,c,q1,q2⟩:=hh i (by omega);have:k=0:=(by omega);subst this;rw[show 0+i*1+0=i by omega,q1];rfl)
   (fun i k hi hk=>by rw[hl] at hi;obtain⟨_,c,q1,q2⟩:=hh i (by omega);have:k=0:=(by omega);subst this;rw[hg i hi,hce i hi,q1];exact((q2.forget1 (h2 i hi)).mono (G1n h)))
  rw[hl] at this;exact this
theorem q2l (h:FSRep E a w g F s)(hx: ∀i o,o<e.getD i 0->o<(s.L.getD i []).length/\((s.L.getD i []).getD o .junk).notU=true){v:Value}{p:PV}
 (hr:RepF w g F s.T v p) (hp:q2o s.L e p):Rep w (w1i g F s.L e) v (p.lend1 s.L):=by
 cases p with
 | mr j n cap=>exact q2j h hx hr hp.1 hp.2
 | _=>exact(hr.forget1 hp).mono (G1n h)
theorem Q3n (h:FSRep E a w g F s)(hx: ∀i o,o<e.getD i 0->o<(s.L.getD i []).length/\((s.L.getD i []).getD o .junk).notU=true){v:Value}{p:PV}
 (hr:RepF w g F s.T v p) (hp:q2n s.L e p):Rep w (w1i g F s.L e) v (p.lend2 s.L):=by
 cases p with
 | mr j n cap=>exact q2j h hx hr hp.1 hp.2
 | lp i off=>
  obtain⟨h1,h2,h3⟩:=hp;have hne:s.L.getD i []≠ []:=fun h=>(by rw[h] at h2;simp at h2);have hh:=h.frame.holds i hne;cases hr with
  | base _ _ hr=>cases hr
  | lp _ _ hi=>
   have:=Rep.ep (w:=w) (g:=w1i g F s.L e) ((s.L.getD i []).map (PV.lend1 s.L)) off (F.lmu i) 0 (fun o=>(w.cell? ⟨F.lmu i,o,none⟩).getD undef)
    (by rw[List.length_map];show _<=W0g g F s.L e (F.lmu i);rw[K1j h i hne];omega)
    (fun o ho=>by rw[List.length_map] at ho;obtain⟨_,c,q1,q2⟩:=hh o ho;rw[Nat.zero_add,q1];rfl)
    (fun o ho=>by rw[List.length_map] at ho;obtain⟨_,c,q1,q2⟩:=hh o ho;rw[X0d _ _ _ _ .junk ho,q1];exact q2l h hx q2 (h3 o ho))
   rw[Nat.zero_add] at this;exact this
 | _=>exact(hr.forget2 hp).mono (G1n h)
theorem Wordy.res {B:Nat}{w:World}{g:Gh}{v:Value}{R:PV}(hw:Wordy R):RepRes B w g v R=Rep w g v R:=by cases hw<;>rfl
theorem q2m (h:FSRep E a w g F s){f:FuncId}{xs:List PV}{vs:Array Value}{R:PV}(v1:vs.size=xs.length)(v2: ∀j,j<xs.length->RepF w g F s.T (vs.getD j undef) (xs.getD j .junk))
 (ho:LendOK s.L e xs) (hw:Wordy R) (hc:PCalls P f (xs.map (PV.lend2 s.L)) [] (fun r st'=>r=R/\st'= [])):
 Calls P f vs w (fun en w'=> ∃v g',en= .returned v/\Ext w g w' g'/\StoreOK w' g' s.st/\RepRes w.heap.size w' g' v R):=by
 have hs:=h.store
 let g0:Gh:=⟨0,fun _=>0,W0g g F s.L e⟩
 have hnone: ∀b,w.heap.size<=b->W0g g F s.L e b=0:=fun b hb=>by by_cases hq:W0g g F s.L e b=g.vis b;rw[hq];exact hs.none b hb;obtain⟨i,h1,h2,_⟩:=w0v b hq;have:=(h.frame.lo i h1).2.1;omega
 have hs0:StoreOK w g0 []:=(by refine⟨rfl,fun i j hi=>by simp[g0] at hi,fun i hi=>by simp[g0] at hi,fun i hi=>by simp[g0] at hi,fun i hi=>by simp[g0] at hi,hnone,fun t ht=>⟨Nat.le_trans (hs.tab t ht).1 (Q1m h _),(hs.tab t ht).2⟩⟩);have hr0:Reps w g0 vs (xs.map (PV.lend2 s.L)):=(by refine⟨by simpa using v1,fun j hj=> ?_⟩;rw[List.length_map] at hj;rw[X0d _ _ _ _ .junk hj];have hm:=Q0t xs j PV.junk hj;exact Low.mk (g:=w1i g F s.L e) (ho.low _ hm) _ (fun _=>Nat.le_refl _) (Q3n h ho.ext (v2 j hj) (ho.args _ hm)));refine(hc w g0 vs hs0 hr0).mono ?_;rintro en w' ⟨v,g1,r,st1,rfl,hx,hoo,hrr,rfl,rfl⟩;rw[hw.res] at hrr;have hold: ∀c,c<w.heap.size->w'.heap[c]?=w.heap[c]?/\g1.vis c=W0g g F s.L e c:=fun c hc=>hx.old c hc (fun i hi=>by simp[g0] at hi)
 let g2:Gh:=⟨g.n,g.mu,fun c=>if c<w.heap.size then g.vis c else g1.vis c⟩
 have hle:Le w g w' g2:=by refine⟨Nat.le_refl _,fun _ _=>rfl,fun c=> ?_,fun c o v ho hc=>hx.le.cell c o v (q_e ho (Q1m h c)) hc⟩;show g.vis c<=if c<w.heap.size then g.vis c else g1.vis c;split;exact Nat.le_refl _;rename_i hn;rw[hs.none c (by omega)];exact Nat.zero_le _
 have hext:Ext w g w' g2:=by refine⟨hle,hx.os,hx.tape,hx.output,hx.size,fun c hc _=>⟨(hold c hc).1,if_pos hc⟩,fun i h1 h2=> ?_⟩;have h2':i<g.n:=h2;omega
 have hst:StoreOK w' g2 s.st:=by refine⟨hs.n,hs.inj,fun i hi=>q_e (hs.lt i hi) hx.size,fun i hi h0=> ?_,fun i hi=> ?_,fun c hc=> ?_,hs.tab.mono hle⟩;show(if g.mu i<w.heap.size then g.vis (g.mu i) else _)=0;rw[if_pos (hs.lt i hi)];exact hs.vis i hi h0;exact(hs.holds i hi).mono (hold _ (hs.lt i hi)).1 fun v p hp=>hp.mono hle;show(if c<w.heap.size then g.vis c else g1.vis c)=0;have:=hx.size;rw[if_neg (by omega)];exact hoo.none c hc
 refine⟨v,g2,rfl,hext,hst,?_⟩;rw[hw.res];have:=Wordy.turn (g':=g2) (fun b off x hxw hoff hcell=> ?_) hw hrr;exact this;show(if b<w.heap.size then g.vis b else g1.vis b)=g1.vis b;split;rename_i hb;obtain⟨q1,q2⟩:=hold b hb;rw[q2] at hoff⊢;by_cases hq:W0g g F s.L e b=g.vis b;exact hq.symm;obtain⟨i,h1,h2,h3⟩:=w0v b hq;rw[h3] at hoff;obtain⟨o1,o2⟩:=ho.ext i off hoff;obtain⟨_,c,c1,c2⟩:=h.frame.holds i h1 off o1;rw[h2] at c1;have hcw:w'.cell? ⟨b,off,none⟩=w.cell? ⟨b,off,none⟩:=World.cell?_of_block (w:=w) (w':=w') (a:=⟨b,off,none⟩) q1;rw[hcw,c1] at hcell;exact absurd (Option.some.inj hcell) (U3l c2 o2 hxw);rfl
end
def POl0 (P:Program)(o:Oper)(e:List Nat)(K:PFS->Prop)(s:PFS):Prop:=
 match J0a o.op s.ev with
 | some (f,xs)=>Q0c P f=true/\LendOK s.L e xs/\ ∃R,Wordy R/\PCalls P f (xs.map (PV.lend2 s.L)) [] (fun r st'=>r=R/\st'= [])/\K (s.recv o.dst R s.st)
 | none=>False
section
variable {P:Program} {E:Ent} {a:Act} {w:World} {g:Gh} {F:Fr} {s:PFS} {e:List Nat}
theorem W2u {o:Oper}{K:PFS->Prop}(h:FSRep E a w g F s)(hp:POl0 P o e K s){next:Act->World->Prop}{Q:Exit->Act->World->Prop}
 (hn: ∀a' w' g' F' s',FSRep E a' w' g' F' s'->K s'->next a' w'):o.wp P a w next Q:=by
 unfold POl0 at hp;split at hp;rename_i f xs hc;obtain⟨h2,ho,R,hw,hcall,hK⟩:=hp;obtain⟨vs,v1,v2,v3⟩:=x1w h hc h2;unfold Oper.wp;rw[v3,Oper.upon_enter];refine(q2m h v1 v2 ho hw hcall).mono ?_;rintro en w' ⟨v,g',rfl,hx,hs,hr⟩;obtain⟨F',hf⟩:=h.recv hx hs hr o.dst;exact hn _ _ _ _ _ hf hK;exact hp.elim
theorem Z4c {o:Oper}{K:PFS->Prop}(hp:POl0 P o e K s): ∀c,o.op≠ .defer c:=by intro c hc;unfold POl0 at hp;rw[hc] at hp;exact hp
theorem k2e {o:Oper}{K:PFS->Prop}(h:FSRep E a w g F s)(hp:POl0 P o e K s){next:Act->World->Prop}{Q:Exit->Act->World->Prop}
 (hn: ∀a' w' g' F' s',FSRep E a' w' g' F' s'->K s'->next a' w'):o.wpIn (fen E.rd) 0 P a w next Q:=
 X1n E.rd (Z4c hp) (W2u h hp hn)
end
def OLl0 (P:Program)(ops:List Oper)(e:List Nat):List Bool->List Oper->(PFS->Prop)->PFS->Prop
 | _,[],K,s=>K s
 | [],rest,K,s=>OL0 P ops rest K s
 | true::bs,o::rest,K,s=>o.guard=none/\POl0 P o e (OLl0 P ops e bs rest K) s
 | false::bs,o::rest,K,s=>o.guard=none/\OC0 P o (OLl0 P ops e bs rest K) s
theorem V1w {P:Program}{E:Ent}{e:List Nat}{ops:Array Oper}{Q:Exit->Act->World->Prop}{K:PFS->Prop}(hK: ∀a' w' g' F' s',FSRep E a' w' g' F' s'->K s'->Q .normal a' w'):
 ∀(bs:List Bool) (rest:List Oper) (a:Act) (w:World) (g:Gh) (F:Fr) (s:PFS),FSRep E a w g F s->OLl0 P ops.toList e bs rest K s->wpListIn (fen E.rd) 0 P ops Q rest a w
 | bs,[],a,w,g,F,s,h,hp=>hK a w g F s h (by unfold OLl0 at hp;exact hp)
 | [],o::rest,a,w,g,F,s,h,hp=>G0t hK (o::rest) a w g F s h (z0k hp)
 | true::bs,o::rest,a,w,g,F,s,h,hp=>by obtain⟨hg,hp⟩:=hp;have ih:=V1w (P:=P) (ops:=ops) (e:=e) hK bs rest;unfold wpListIn;rw[if_pos (by simp[Region.wanted,hg])];exact k2e h hp fun a' w' g' F' s' hr hk=>ih a' w' g' F' s' hr hk
 | false::bs,o::rest,a,w,g,F,s,h,hp=>by obtain⟨hg,hp⟩:=hp;have ih:=V1w (P:=P) (ops:=ops) (e:=e) hK bs rest;unfold wpListIn;rw[if_pos (by simp[Region.wanted,hg])];exact J0b h (W0e hp) fun a' w' g' F' s' hr hk=>ih a' w' g' F' s' hr hk
def OLl (P:Program)(ops:List Oper)(e:List Nat)(bs:List Bool)(rest:List Oper)(K:PFS->Prop)[Stop ops][Stop rest][Stop K](s:PFS):Prop:=OLl0 P ops e bs rest K s
theorem Z2b {P:Program}{E:Ent}{id:Nat}{l:List Oper}{Q:Exit->PFS->Prop}{s:PFS}(e:List Nat)(bs:List Bool)(h:OLl P l e bs l (Q .normal) s):PWP P E (.region id l.toArray false) Q s:=fun a w g F hr=>
 wpIn_region_list (V1w (fun a' w' g' F' s' hr' hk=>⟨g',F',s',hr',hk⟩) bs l a w g F s hr h)
def LC0 (P:Program)(e:List Nat)(fv:PV)(xs:List PV)(s:PFS)(K:PV->Prop):Prop:=
 match fv with
 | .fn (.func f) bs cs=>Q0c P f=true/\LendOK s.L e (bs++xs++cs)/\ ∃R,Wordy R/\PCalls P f ((bs++xs++cs).map (PV.lend2 s.L)) [] (fun r st'=>r=R/\st'= [])/\K R
 | _=>False
def LC (P:Program)(e:List Nat)(fv:PV)(xs:List PV)(s:PFS)(K:PV->Prop)[Stop K]:Prop:=LC0 P e fv xs s K
section
variable {P:Program} {s:PFS} {K:PFS->Prop} {d:Option Tmp} {ty:TypeId} {pos:String} {af:Array Edge} {e:List Nat}
@[go_sem] theorem q4c {ops:List Oper}{bs:List Bool} :OLl P ops e bs [] K s=K s:=by cases bs<;>rfl
@[go_sem] theorem q4d {ops rest:List Oper} :OLl P ops e [] rest K s=OL P ops rest K s:=by cases rest<;>rfl
@[go_sem] theorem z4z {ops rest:List Oper}{bs:List Bool}{op:Op} :OLl P ops e (false::bs) (⟨d,op,ty,pos,af,none⟩::rest) K s=OC P ⟨d,op,ty,pos,af,none⟩ (OLl P ops e bs rest K) s:=by show((none:Option (Nat×Bool))=none/\_)=_;simp only[true_and];rfl
theorem Z4i {ops rest:List Oper}{bs:List Bool}{f:Operand}{xs:List Operand}{ts:Array TypeId} :OLl P ops e (true::bs) (⟨d,.call ⟨.value f,xs.toArray,ts⟩,ty,pos,af,none⟩::rest) K s=LC0 P e (s.ev f) (xs.map s.ev) s (fun R=>OLl P ops e bs rest K (s.recv d R s.st)):=by
 show((none:Option (Nat×Bool))=none/\_)=_;simp only[true_and];unfold POl0 LC0 J0a;simp only;cases s.ev f with
 | fn g bs cs=>cases g<;>rfl
 | _=>rfl
@[go_sem] theorem z4y {ops rest:List Oper}{bs:List Bool}{f:Operand}{xs:List Operand}{ts:Array TypeId} :OLl P ops e (true::bs) (⟨d,.call ⟨.value f,xs.toArray,ts⟩,ty,pos,af,none⟩::rest) K s=LC P e (s.ev f) (xs.map s.ev) s (fun R=>OLl P ops e bs rest K (s.recv d R s.st)):=Z4i
theorem Z4k {f:FuncId}{bs cs xs:List PV}{K:PV->Prop}(R:PV)(hc:Q0c P f=true)(hl:LendOK s.L e (bs++xs++cs))(hw:Wordy R)
 (hp:PCalls P f ((bs++xs++cs).map (PV.lend2 s.L)) [] (fun r st'=>r=R/\st'= [])) (hk:K R):LC P e (.fn (.func f) bs cs) xs s K:=⟨hc,hl,R,hw,hp,hk⟩
end
section
variable {P:Program} {E:Ent} {a:Act} {w:World} {g:Gh} {F:Fr} {s:PFS}
theorem k1c {t:TypeId}{v:Value}{es:List PV}{x1:Bool}{x2:Nat}{x4:Option Value}{e:EI}(h:FSRep E a w g F s)(hT:ti P t=some ⟨x1,x2,.slice e,x4⟩)(c1:e.sz=1)(c3:e.zok=true)
 (hv:RepF w g F s.T v (.sl .full es)):Does P E a w (do pure (.value (<-Instr.buildSlice t 1 [(0,v)].toArray))) (.sl .full [.sl .full es]) s:=by
 obtain⟨i',u,hi',hu,hT'⟩:=Q0w hT;obtain⟨rfl,hei⟩:=Z0i (congrArg TI.ud hT').symm;have hrep:Rep w g v (.sl .full es):=by cases hv with | base _ _ h=>exact h
 have hcv:v.cells= #[v]:=by cases hrep<;>rfl
 obtain⟨i2,u2,hi2,hu2,e2⟩:=V0j hei;have hsz2:i2.size=e.sz:=(by rw[e2]);obtain⟨z,hz,hzs⟩: ∃z,i2.zero=some z/\z.cells.size=i2.size:=by have:=congrArg EI.zok e2;rw[c3] at this;simp only at this;split at this;rename_i z hz;exact⟨z,hz,by simpa using this.symm⟩;cases this
 have hfill:=j0o e.sz [(0,v)] 0 ((Array.range (1*e.sz)).map (fun i=>(if 1*e.sz=0 then #[] else z.cells)[i % (if 1*e.sz=0 then #[] else z.cells).size]!)) (by rfl) (fun j hj=>by have:j=0:=(by simpa using hj);subst this;show v.cells.size=e.sz;rw[hcv,c1];rfl) (by simp);obtain⟨cells',f1,f2,f3,f4⟩:=hfill;have hrun:(Instr.buildSlice t 1 [(0,v)].toArray).run P w= .ok (.slice (some ⟨w.heap.size,0,none⟩) 1 1) (w.alloc (.cells cells' e.id)):=(by unfold Instr.buildSlice;simp only[Sem.run_bind,run_underlying hu,Result.andThen_ok,G0n hei];rw[if_neg (by omega)];have h0: ¬(e.sz=0):=(by omega);have h0': ¬(1*e.sz=0):=(by omega);simp only[h0,h0',if_false,Sem.run_bind,zeroValue,typeInfo,hi2,hz,Sem.run_pure,Result.andThen_ok,Nat.one_mul] at f1⊢;simp[hi2,hz,f1,newRow,newObj,Sem.run]);obtain⟨g',_,_,_,r1,r2,r3,_⟩:=h.slice_new e.id cells' [.sl .full es] e.sz 1 (fun i hi=>by
  have:i=0:=(by simpa using hi);subst this;rw[c1];rfl) (by simp) (by rw[f2,Array.size_map,Array.size_range]) (fun m hm=>by
  have hm0:m=0:=by have:m<1*e.sz:=hm;omega
  subst hm0;have hc:=f4 0 0 (by simp) (by omega);simp only[Nat.zero_add,Nat.zero_mul] at hc;rw[hc,c1];show Rep w g (v.cells.getD 0 undef) (.sl .full es);rw[hcv];exact hrep)
 exact⟨_,_,g',F,by simp only[Sem.run_bind,hrun,Result.andThen_ok,Sem.run_pure];rfl,r1,.inl ⟨_,rfl,.base _ _ (r3 .full rfl (fun _=>rfl))⟩⟩
end
def POk0 (P:Program)(o:Oper)(K:PFS->Prop)(s:PFS):Prop:=
 match o.op with
 | .buildSlice t 1 parts=>
  match parts.toList with
  | [(0,x)]=>match ti P t,s.ev x with
   | some ⟨_,_,.slice e,_⟩,.sl .full es=>(e.sz=1/\e.zok=true)/\K (s.put o.dst (.sl .full [.sl .full es]))
   | _,_=>False
  | _=>False
 | _=>False
section
variable {P:Program} {E:Ent} {a:Act} {w:World} {g:Gh} {F:Fr} {s:PFS}
theorem W2v {o:Oper}{K:PFS->Prop}(h:FSRep E a w g F s)(hp:POk0 P o K s){next:Act->World->Prop}{Q:Exit->Act->World->Prop}
 (hn: ∀a' w' g' F' s',FSRep E a' w' g' F' s'->K s'->next a' w'):o.wp P a w next Q:=by
 unfold POk0 at hp;split at hp;rotate_left;exact hp.elim;rename_i t parts heq;split at hp;rotate_left;exact hp.elim;rename_i x hx;split at hp;rotate_left;exact hp.elim;rename_i e _ es hT hs;obtain⟨⟨c1,c2⟩,hK⟩:=hp;have hv:=h.ev x;rw[hs] at hv;have ep:parts= #[(0,x)]:=(by rw[<-hx]);subst ep;obtain⟨nx,w',g',F',r1,r2,r3⟩:=k1c h hT c1 c2 hv;have hex:(execOp a.eval o).run P w= .ok nx w':=by unfold execOp;simp only[heq];have e:(#[(0,x)]:Array (Nat×Operand)).map (fun x=>(x.1,a.eval x.2))= [(0,a.eval x)].toArray:=(by simp);rw[e];exact r1
 unfold Oper.wp;rw[hex];rcases r3 with ⟨v,rfl,hv⟩ | ⟨rfl,hj⟩;exact hn _ _ _ _ _ (r2.put o.dst hv) hK;cases hj
theorem Z4d {o:Oper}{K:PFS->Prop}(hp:POk0 P o K s): ∀c,o.op≠ .defer c:=by intro c hc;unfold POk0 at hp;rw[hc] at hp;exact hp
theorem k2f {o:Oper}{K:PFS->Prop}(h:FSRep E a w g F s)(hp:POk0 P o K s){next:Act->World->Prop}{Q:Exit->Act->World->Prop}
 (hn: ∀a' w' g' F' s',FSRep E a' w' g' F' s'->K s'->next a' w'):o.wpIn (fen E.rd) 0 P a w next Q:=
 X1n E.rd (Z4d hp) (W2v h hp hn)
end
inductive Mk where
 | no | room | keep
def OLk0 (P:Program)(ops:List Oper):List Mk->List Oper->(PFS->Prop)->PFS->Prop
 | _,[],K,s=>K s
 | [],rest,K,s=>OL0 P ops rest K s
 | .room::bs,o::rest,K,s=>o.guard=none/\POr0 P o (OLk0 P ops bs rest K) s
 | .keep::bs,o::rest,K,s=>o.guard=none/\POk0 P o (OLk0 P ops bs rest K) s
 | .no::bs,o::rest,K,s=>o.guard=none/\OC0 P o (OLk0 P ops bs rest K) s
theorem y0o {P:Program}{E:Ent}{ops:Array Oper}{Q:Exit->Act->World->Prop}{K:PFS->Prop}(hK: ∀a' w' g' F' s',FSRep E a' w' g' F' s'->K s'->Q .normal a' w'):
 ∀(bs:List Mk) (rest:List Oper) (a:Act) (w:World) (g:Gh) (F:Fr) (s:PFS),FSRep E a w g F s->OLk0 P ops.toList bs rest K s->wpListIn (fen E.rd) 0 P ops Q rest a w
 | bs,[],a,w,g,F,s,h,hp=>hK a w g F s h (by unfold OLk0 at hp;exact hp)
 | [],o::rest,a,w,g,F,s,h,hp=>G0t hK (o::rest) a w g F s h (z0k hp)
 | .room::bs,o::rest,a,w,g,F,s,h,hp=>by obtain⟨hg,hp⟩:=hp;have ih:=y0o (P:=P) (ops:=ops) hK bs rest;unfold wpListIn;rw[if_pos (by simp[Region.wanted,hg])];exact k1j h hp fun a' w' g' F' s' hr hk=>ih a' w' g' F' s' hr hk
 | .keep::bs,o::rest,a,w,g,F,s,h,hp=>by obtain⟨hg,hp⟩:=hp;have ih:=y0o (P:=P) (ops:=ops) hK bs rest;unfold wpListIn;rw[if_pos (by simp[Region.wanted,hg])];exact k2f h hp fun a' w' g' F' s' hr hk=>ih a' w' g' F' s' hr hk
 | .no::bs,o::rest,a,w,g,F,s,h,hp=>by obtain⟨hg,hp⟩:=hp;have ih:=y0o (P:=P) (ops:=ops) hK bs rest;unfold wpListIn;rw[if_pos (by simp[Region.wanted,hg])];exact J0b h (W0e hp) fun a' w' g' F' s' hr hk=>ih a' w' g' F' s' hr hk
def OLk (P:Program)(ops:List Oper)(bs:List Mk)(rest:List Oper)(K:PFS->Prop)[Stop ops][Stop rest][Stop K](s:PFS):Prop:=OLk0 P ops bs rest K s
theorem w2q {P:Program}{E:Ent}{id:Nat}{l:List Oper}{Q:Exit->PFS->Prop}{s:PFS}(bs:List Mk)(h:OLk P l bs l (Q .normal) s):PWP P E (.region id l.toArray false) Q s:=fun a w g F hr=>
 wpIn_region_list (y0o (fun a' w' g' F' s' hr' hk=>⟨g',F',s',hr',hk⟩) bs l a w g F s hr h)
def q2w (T:Option TI)(x:PV)(K:PV->Prop)[Stop K]:Prop:=
 match T,x with
 | some ⟨_,_,.slice e,_⟩,.sl .full es=>(e.sz=1/\e.zok=true)/\K (.sl .full [.sl .full es])
 | _,_=>False
section
variable {P:Program} {s:PFS} {K:PFS->Prop} {d:Option Tmp} {ty:TypeId} {pos:String} {af:Array Edge}
@[go_sem] theorem q4e {ops:List Oper}{bs:List Mk} :OLk P ops bs [] K s=K s:=by
 cases bs with
 | nil=>rfl
 | cons b bs=>cases b<;>rfl
@[go_sem] theorem q4f {ops rest:List Oper} :OLk P ops [] rest K s=OL P ops rest K s:=by cases rest<;>rfl
@[go_sem] theorem z4j {ops rest:List Oper}{bs:List Mk}{op:Op} :OLk P ops (.no::bs) (⟨d,op,ty,pos,af,none⟩::rest) K s=OC P ⟨d,op,ty,pos,af,none⟩ (OLk P ops bs rest K) s:=by show((none:Option (Nat×Bool))=none/\_)=_;simp only[true_and];rfl
@[go_sem] theorem W4d {ops rest:List Oper}{bs:List Mk}{op:Op} :OLk P ops (.room::bs) (⟨d,op,ty,pos,af,none⟩::rest) K s=POr P ⟨d,op,ty,pos,af,none⟩ (OLk P ops bs rest K) s:=by show((none:Option (Nat×Bool))=none/\_)=_;simp only[true_and];rfl
@[go_sem] theorem W4e {ops rest:List Oper}{bs:List Mk}{t:TypeId}{x:Operand} :OLk P ops (.keep::bs) (⟨d,.buildSlice t 1 [(0,x)].toArray,ty,pos,af,none⟩::rest) K s=q2w (ti P t) (s.ev x) (fun p=>OLk P ops bs rest K (s.put d p)):=by show((none:Option (Nat×Bool))=none/\POk0 P _ _ s)=_;simp only[true_and];unfold POk0 q2w;simp only;rfl
@[go_sem] theorem v3i {e:EI}{x1:Bool}{x2:Nat}{x4:Option Value}{es:List PV}{K:PV->Prop} :q2w (some ⟨x1,x2,.slice e,x4⟩) (.sl .full es) K=((e.sz=1/\e.zok=true)/\K (.sl .full [.sl .full es])):=(rfl)
end
theorem H1q {E:Ent}(s:PFS)(i j k:Nat)(hk:k<s.L.length)(he:(s.L.getD i []).getD j .junk= .sl .full []):Weak E s { s with L:=s.L.set i ((s.L.getD i []).set j (.mr k 0 0)) } :=by
 intro a w g F h;have hj:j<(s.L.getD i []).length:=by refine Nat.lt_of_not_le fun hn=> ?_;rw[q_a,List.getElem?_eq_none hn] at he;cases he
 have hne0:s.L.getD i []≠ []:=fun e=>by rw[e] at hj;simp at hj
 have hil:i<s.L.length:=by refine Nat.lt_of_not_le fun hn=>hne0 ?_;rw[q_a,List.getElem?_eq_none hn];rfl
 have hne: ∀m,(s.L.set i ((s.L.getD i []).set j (.mr k 0 0))).getD m []≠ []->s.L.getD m []≠ []:=fun m hm=>by by_cases e:i=m;subst e;exact hne0;rwa [Q0i _ _ _ _ _ e] at hm
 refine⟨g,F,h.ext,h.store,⟨by simpa using h.frame.nl,fun m hm=>h.frame.lo m (hne m hm),fun m hm=>h.frame.apart m (hne m hm),fun m l hm hl=>h.frame.inj m l (hne m hm) (hne l hl),fun m hm=> ?_,h.frame.tlo,fun m b h1 h2=>⟨(h.frame.tapart m b h1 h2).1,fun l hl=>(h.frame.tapart m b h1 h2).2 l (hne l hl)⟩,h.frame.tinj⟩,h.defers,h.len,h.tmps⟩;have hh:=h.frame.holds m (hne m hm);by_cases e:i=m;subst e;simp only at hm⊢;rw[Q0m _ _ _ _ hil];intro o ho;rw[List.length_set] at ho;obtain⟨q1,c,q2,q3⟩:=hh o ho;refine⟨q1,c,q2,?_⟩;by_cases e2:j=o;subst e2;rw[Q0m _ _ _ _ ho];rw[he] at q3;obtain⟨ad,hv⟩:=X1j q3;rw[hv];exact .lmr0 k ad (by rw[h.frame.nl];exact hk);rw[Q0i _ _ _ _ _ e2];exact q3;simp only at hm⊢;rw[Q0i _ _ _ _ _ e] at hm⊢;exact hh
theorem v1o {P:Program}{E:Ent}{c:Code}{Q:Exit->PFS->Prop}{s:PFS}(i j k:Nat)(hk:k<s.L.length)(he:(s.L.getD i []).getD j .junk= .sl .full [])(h:PWP P E c Q { s with L:=s.L.set i ((s.L.getD i []).set j (.mr k 0 0)) }):PWP P E c Q s:=
 J0u (H1q s i j k hk he) h
inductive Tame :PV->Prop
 | sc (v:Value):Tame (.sc v)
 | agg {cs:List PV} (h: ∀c∈cs,Tame c):Tame (.agg cs)
 | sl {t:Tag} {es:List PV} (h: ∀e∈es,Tame e):Tame (.sl t es)
theorem Tame.low {p:PV}(h:Tame p)(n:Nat):Low n p/\ ∀c∈p.cells,Low n c:=by
 induction h with
 | sc v=>exact⟨w0u n v,fun c hc=>by rw[List.mem_singleton.1 hc];exact w0u n v⟩
 | agg h ih=>exact⟨q2g fun c hc=>(ih c hc).1,fun c hc=>(ih c hc).1⟩
 | @sl t es h ih=>
  have:=K3v (n:=n) (t:=t) fun e he c hc=>(ih e he).2 c hc;exact⟨this,fun c hc=>by rw[List.mem_singleton.1 hc];exact this⟩
theorem q2e {n off:Nat}{cs:List PV}(h: ∀c∈cs,Low n c):Low n (.ep cs off):=by
 intro w g v hr hn;cases hr with
 | ep _ _ b base cf hvis hc hr=>exact Rep.ep (g:= { g with n:=n }) cs off b base cf hvis hc fun j hj=>X1i h j _ _ _ (hr j hj) hn
theorem j3k (t:Tag)(w:List UInt64):Tame (.sl t (encW w)):= .sl fun e he=>by simp only[encW,List.mem_map] at he;obtain⟨x,_,rfl⟩:=he;exact .sc _
theorem j3j (t:Tag)(l:List Int):Tame (.sl t (encZ l)):= .sl fun e he=>by simp only[encZ,List.mem_map] at he;obtain⟨x,_,rfl⟩:=he;exact .sc _
theorem Y2p (x:Nm): ∀c∈encN x,Tame c:=fun c hc=>by simp only[encN,List.mem_cons,List.not_mem_nil,or_false] at hc;rcases hc with rfl | rfl | rfl;exact .sc _;exact .sc _;exact j3k _ _
theorem j3m (x:Ivl): ∀c∈encI x,Tame c:=fun c hc=>by have hc:c∈encN x.lo++encN x.hi:=hc;rcases List.mem_append.1 hc with hc | hc;exact Y2p _ _ hc;exact Y2p _ _ hc
theorem W3x (t:Tag)(l:List Ivl):Tame (.sl t (Q0v l)):= .sl fun e he=>by simp only[Q0v,List.mem_map] at he;obtain⟨x,_,rfl⟩:=he;exact .agg (j3m x)
theorem K3e (t:Tag)(l:List (List Ivl)):Tame (.sl t (encM l)):= .sl fun e he=>by simp only[encM,List.mem_map] at he;obtain⟨x,_,rfl⟩:=he;exact W3x _ x
theorem W3w (m:Mn): ∀c∈H0q m,Tame c:=fun c hc=>by have hc:c∈encN m.c++ [.sl .no (encZ m.ks)]:=hc;rcases List.mem_append.1 hc with hc | hc;exact Y2p _ _ hc;rw[List.mem_singleton.1 hc];exact j3j _ _
theorem Y2o (t:Tag)(l:List Mn):Tame (.sl t (Z0n l)):= .sl fun e he=>by simp only[Z0n,List.mem_map] at he;obtain⟨x,_,rfl⟩:=he;exact .agg (W3w x)
theorem W3y (t:Tag)(l:List (List Mn)):Tame (.sl t (Z0q l)):= .sl fun e he=>by simp only[Z0q,List.mem_map] at he;obtain⟨x,_,rfl⟩:=he;exact Y2o _ x
theorem W3d (w:List UInt64):Wordy (.sl .no (encW w)):= .sl _ fun j hj=>by have hj':j<w.length:=(by simpa[encW] using hj);exact⟨_,⟨_,.inl rfl⟩,by simp only[encW,q_a,List.getElem?_map,List.getElem?_eq_getElem hj'];rfl⟩
theorem Y2a (x:Nm): ∀c∈encN x,Wordy c:=fun c hc=>by simp only[encN,List.mem_cons,List.not_mem_nil,or_false] at hc;rcases hc with rfl | rfl | rfl;exact .sc _;exact .sc _;exact W3d _
theorem k2t (x:Ivl)(v:Value):Wordy (.tup [.agg (encI x),.sc v]):= .tup _ fun c hc=>by simp only[List.mem_cons,List.not_mem_nil,or_false] at hc;rcases hc with rfl | rfl;refine .agg _ fun c hc=> ?_;have hc:c∈encN x.lo++encN x.hi:=hc;rcases List.mem_append.1 hc with hc | hc;exact Y2a _ _ hc;exact Y2a _ _ hc;exact .sc _
open Go.Proofs
def Q0u (l:List Vl):List PV:=l.map fun c=>(.agg (encV c))
@[go_sem] theorem X0c (l:List Vl):(Q0u l).length=l.length:=by simp[Q0u]
@[go_sem] theorem w3i :Q0u []= []:=(rfl)
@[go_sem] theorem J4t (l:List Vl):(Q0u l).all (fun x=>x.cells.length==3)=true:=by simp[Q0u,PV.cells,encV]
@[go_sem] theorem Z3y (l:List Vl):(Q0u l).all (fun x=>(x.cells.length==3)&&x.cells.all PV.cellOK)=true:=by simp[Q0u,PV.cells,PV.cellOK,Value.oneCell',encV]
@[go_sem] theorem z3q (l:List Vl)(n:Nat):(Q0u l).take n=Q0u (l.take n):=by simp[Q0u]
@[go_sem] theorem z3r (l:List Vl)(n:Nat):(Q0u l).drop n=Q0u (l.drop n):=by simp[Q0u]
@[go_sem] theorem w3k (l m:List Vl):Q0u l++Q0u m=Q0u (l++m):=by simp[Q0u]
@[go_sem] theorem U0s (l:List Vl)(c:Vl):Q0u l++ [.agg (encV c)]=Q0u (l++ [c]):=by simp[Q0u]
theorem W0a (l:List Vl)(n:Nat)(h:n<l.length):(Q0u l).getD n .junk= .agg (encV (l.getD n default)):=by simp[Q0u,q_a,h]
@[go_sem] theorem w3j (l:List Vl)(i:Nat)(cs:List PV):(Q0u l).map (PV.frz i cs)=Q0u l:=by simp only[Q0u,List.map_map];exact List.map_congr_left fun a _=>rfl
def Q0y (l:List (List Vl)):List PV:=l.map fun c=>(.sl .no (Q0u c))
@[go_sem] theorem Z0t (l:List (List Vl)):(Q0y l).length=l.length:=by simp[Q0y]
@[go_sem] theorem w3l :Q0y []= []:=(rfl)
@[go_sem] theorem J4u (l:List (List Vl)):(Q0y l).all (fun x=>x.cells.length==1)=true:=by simp[Q0y,PV.cells]
@[go_sem] theorem J4v (l:List (List Vl)):(Q0y l).all (fun x=>(x.cells.length==1)&&x.cells.all PV.cellOK)=true:=by simp[Q0y,PV.cells,PV.cellOK,Value.oneCell']
@[go_sem] theorem z3s (l:List (List Vl))(n:Nat):(Q0y l).take n=Q0y (l.take n):=by simp[Q0y]
@[go_sem] theorem z3u (l:List (List Vl))(n:Nat):(Q0y l).drop n=Q0y (l.drop n):=by simp[Q0y]
@[go_sem] theorem w3o (l m:List (List Vl)):Q0y l++Q0y m=Q0y (l++m):=by simp[Q0y]
@[go_sem] theorem z3t (l:List (List Vl))(c:(List Vl)):Q0y l++ [.sl .no (Q0u c)]=Q0y (l++ [c]):=by simp[Q0y]
theorem q0l (l:List (List Vl))(n:Nat)(h:n<l.length):(Q0y l).getD n .junk= .sl .no (Q0u (l.getD n [])):=by simp[Q0y,q_a,h]
@[go_sem] theorem w3n (l:List (List Vl))(i:Nat)(cs:List PV):(Q0y l).map (PV.frz i cs)=Q0y l:=by simp only[Q0y,List.map_map];exact List.map_congr_left fun a _=>rfl
@[go_sem] theorem w3m (l:List (List Vl))(a b:Nat):(Q0y l).all (PV.lim a b)=true:=by simp[Q0y,PV.lim,PV.lim1]
@[go_sem] theorem J4w (l:List (List Vl)):fzOK (Q0y l)=true:=by simp[Q0y,fzOK,PV.closed2,PV.closed1]
@[go_sem] theorem Z1n (l:List (List Vl)):(Q0y l).map PV.forget2=Q0y l:=by simp only[Q0y,List.map_map];exact List.map_congr_left fun a _=>rfl
@[go_sem] theorem x1y (l:List (List Vl)):(Q0y l).all PV.closed2=true:=by simp[Q0y,PV.closed2,PV.closed1]
theorem K1y (l:List Vl): ∀i,i<(Q0u l).length->((Q0u l).getD i .junk).cells.length=3:=fun i hi=>by rw[X0c] at hi;rw[W0a l i hi];rfl
@[go_sem] theorem x1m (l:List Vl):(flat (Q0u l)).length=l.length*3:=by rw[Z0y (K1y l),X0c]
theorem z2n (l:List Vl)(i:Nat)(x:Vl)(h:i<l.length):over (flat (Q0u l)) (i*3) (encV x)=flat (Q0u (l.set i x)):=by have:=x1l (K1y l) (i:=i) (o:=0) (c:=encV x) (by rw[X0c];exact h) (by simp[encV]);rw[Nat.add_zero] at this;rw[this,W0a l i h];congr 1;simp[Q0u,List.map_set,over,encV,PV.cells]
theorem w0o {l:List Vl}{p:PV}(h:p∈flat (Q0u l)): ∃x:Vl,p∈encV x:=by obtain⟨y,hy,hp⟩:=G1l h;obtain⟨x,_,rfl⟩:=List.mem_map.1 hy;exact⟨x,hp⟩
@[go_sem] theorem V3d (l:List Vl):(flat (Q0u l)).map PV.forget2=flat (Q0u l):=q0h fun p hp=>by obtain⟨x,hx⟩:=w0o hp;simp[encV] at hx;rcases hx with rfl | rfl | rfl<;>rfl
@[go_sem] theorem z3k (l:List Vl)(i sz:Nat)(cs:List PV):(flat (Q0u l)).map (PV.frzN i sz cs)=flat (Q0u l):=q0h fun p hp=>by obtain⟨x,hx⟩:=w0o hp;simp[encV] at hx;rcases hx with rfl | rfl | rfl<;>rfl
@[go_sem] theorem J4h (l:List Vl):fzOK (flat (Q0u l))=true:=by unfold fzOK;rw[q_d];intro p hp;obtain⟨x,hx⟩:=w0o hp;simp[encV] at hx;rcases hx with rfl | rfl | rfl<;>rfl
@[go_sem] theorem v3v (l:List Vl)(a b:Nat):(flat (Q0u l)).all (PV.lim a b)=true:=by rw[q_d];intro p hp;obtain⟨x,hx⟩:=w0o hp;simp[encV] at hx;rcases hx with rfl | rfl | rfl<;>rfl
theorem q3a (l:List Vl):Y0a 3 l.length (flat (Q0u l))=Q0u l:=by have:=z0j (sz:=3) (ys:=Q0u l) [] (fun y hy=>by obtain⟨x,_,rfl⟩:=List.mem_map.1 hy;exact⟨rfl,rfl⟩);rw[X0c,List.append_nil] at this;exact this
theorem X3x (l:List Vl)(n:Nat)(h:n=l.length):Y0a 3 n (flat (Q0u l))=Q0u l:=by subst h;exact q3a l
theorem j3y (n:Nat):repC n (encV default)=flat (Q0u (List.replicate n default)):=by simp[repC,flat,Q0u,PV.cells]
theorem j3n (t:Tag)(l:List UInt32):Tame (.sl t (encD l)):= .sl fun e he=>by simp only[encD,List.mem_map] at he;obtain⟨x,_,rfl⟩:=he;exact .sc _
theorem j3l (x:Vl): ∀c∈encV x,Tame c:=fun c hc=>by simp only[encV,List.mem_cons,List.not_mem_nil,or_false] at hc;rcases hc with rfl | rfl | rfl;exact .sc _;exact j3n _ _;exact .sc _
theorem Y2n (t:Tag)(l:List Vl):Tame (.sl t (Q0u l)):= .sl fun e he=>by simp only[Q0u,List.mem_map] at he;obtain⟨x,_,rfl⟩:=he;exact .agg (j3l x)
theorem W3v (t:Tag)(l:List (List Vl)):Tame (.sl t (Q0y l)):= .sl fun e he=>by simp only[Q0y,List.mem_map] at he;obtain⟨x,_,rfl⟩:=he;exact Y2n _ x
theorem W3f (l:List UInt32):Wordy (.sl .no (encD l)):= .sl _ fun j hj=>by have hj':j<l.length:=(by simpa[encD] using hj);exact⟨_,⟨_,.inr rfl⟩,by simp only[encD,q_a,List.getElem?_map,List.getElem?_eq_getElem hj'];rfl⟩
theorem W3e (x:Vl):Wordy (.agg (encV x)):= .agg _ fun c hc=>by simp only[encV,List.mem_cons,List.not_mem_nil,or_false] at hc;rcases hc with rfl | rfl | rfl;exact .sc _;exact W3f _;exact .sc _
theorem U0t (l:List (List Vl)):(Q0y l).all PV.quiet=true:=by rw[q_d];intro p hp;simp only[Q0y,List.mem_map] at hp;obtain⟨x,_,rfl⟩:=hp;rfl
theorem K1z (rows:List (List Vl))(R:List PV)(j:Nat)(h:j<rows.length):(Q0y rows++R).getD j .junk= .sl .no (Q0u (rows.getD j [])):=by rw[Q0g _ _ _ _ (by rw[Z0t];exact h),q0l _ _ h]
theorem y2e {l:List PV}{i:Nat}(x:PV)(h:i<l.length):over l i [x]=l.set i x:=by unfold over;rw[List.set_eq_take_append_cons_drop,if_pos h];simp
theorem x2c (rows:List (List Vl))(R:List PV)(i:Nat)(hi:i<rows.length)(t:Tag)(r:List Vl):over (Q0y rows++R) i [.sl t (Q0u r)]=(Q0y rows).set i (.sl t (Q0u r))++R:=by rw[y2e _ (by rw[List.length_append,Z0t];omega),List.set_append_left _ _ (by rw[Z0t];exact hi)]
theorem x2d (rows:List (List Vl))(R:List PV)(i:Nat)(t:Tag)(r:List Vl):((Q0y rows).set i (.sl t (Q0u r))++R).map PV.forget2=Q0y (rows.set i r)++R.map PV.forget2:=by rw[List.map_append,List.map_set,Z1n];congr 1;unfold Q0y;rw[List.map_set];rfl
theorem x1z {rows:List (List Vl)}{R:List PV}{i k:Nat}{r:List Vl}(hR:R.all PV.quiet=true):((Q0y rows).set i (.sl (.own k) (Q0u r))++R).all PV.closed2=true:=by rw[List.all_append,q_i,q_d,q_d];refine⟨fun p hp=> ?_,fun p hp=>(Z1h (List.all_eq_true.1 hR p hp)).1⟩;rcases List.mem_or_eq_of_mem_set hp with h | rfl;exact List.all_eq_true.1 (x1y rows) p h;rfl
theorem v2z {O:List (List Vl)}{R ys:List PV}{cap n by_:Nat}{id:TypeId}(hn:n=O.length)(hc:n<=cap)(hR:R.length=cap-n)(hq:R.all PV.quiet=true)(hl:n<=1000)(hby:by_<=1000):
 U1m (Q0y O++R) n cap [.sl .no ys] ⟨id,1,by_,false,true,false⟩:=by
 have h1:=Z0t O;refine⟨rfl,by show 0<1;decide,by show _=cap*1;rw[List.length_append,h1,hR];omega,by show n+1<=_;omega,?_,?_,by rw[List.all_append,U0t,hq];rfl,rfl⟩;show(n+1)*by_<=_;have:(n+1)*by_<=1001*1000:=Nat.mul_le_mul (by omega) hby;omega;rfl
theorem v3c (q:List Mn)(rows:List (List Vl))(k:Int)(cap:Nat)(R:List PV):
 LendOK [Q0y rows++R] [rows.length] ([]++ [.sl .no (Z0n q),.mr 0 rows.length cap,.sc (.int .i64 k)]++ [])/\
 ([]++ [PV.sl .no (Z0n q),.mr 0 rows.length cap,.sc (.int .i64 k)]++ []).map (PV.lend2 [Q0y rows++R])=
  [.sl .no (Z0n q),.sl .no (Q0y rows),.sc (.int .i64 k)]:=by
 have hcl: ∀o,o<rows.length->((Q0y rows++R).getD o .junk).closed1=true:=fun o ho=>by rw[K1z _ _ _ ho];rfl
 have hmap:((Q0y rows++R).take rows.length).map PV.forget1=Q0y rows:=by rw[List.take_append_of_le_length (by rw[Z0t];omega),List.take_of_length_le (by rw[Z0t];omega)];unfold Q0y;rw[List.map_map];exact List.map_congr_left fun a _=>rfl
 have heq:([]++ [PV.sl .no (Z0n q),.mr 0 rows.length cap,.sc (.int .i64 k)]++ []).map (PV.lend2 [Q0y rows++R])=
  [.sl .no (Z0n q),.sl .no (Q0y rows),.sc (.int .i64 k)]:=by
  show [PV.sl .no (Z0n q),.sl .no (((Q0y rows++R).take rows.length).map PV.forget1),.sc (.int .i64 k)]=_;rw[hmap]
 refine⟨⟨fun j o ho=> ?_,fun a ha=> ?_,fun a ha=> ?_⟩,heq⟩
 match j,ho with
 | 0,ho=>
  have ho:o<rows.length:=ho;refine⟨?_,?_⟩;show o<(Q0y rows++R).length;rw[List.length_append,Z0t];omega;show((Q0y rows++R).getD o .junk).notU=true;rw[K1z _ _ _ ho];rfl
 | j+1,ho=>exact absurd ho (Nat.not_lt_zero _)
 simp only[List.nil_append,List.cons_append,List.append_nil,List.mem_cons,List.not_mem_nil,or_false] at ha;rcases ha with rfl | rfl | rfl;exact rfl;exact⟨Nat.le_refl _,hcl⟩;exact rfl;have hm:=List.mem_map_of_mem (f:=PV.lend2 [Q0y rows++R]) ha;rw[heq] at hm;generalize a.lend2 _=z at hm;simp only[List.mem_cons,List.not_mem_nil,or_false] at hm;rcases hm with rfl | rfl | rfl;exact((Y2o _ q).low 0).1;exact((W3v _ rows).low 0).1;exact w0u _ _
end Go.Pv
end
