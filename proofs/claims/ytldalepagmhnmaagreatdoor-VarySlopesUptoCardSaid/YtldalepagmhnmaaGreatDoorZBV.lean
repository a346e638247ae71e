/- Parts of the walk: M59, M52, M53, M54, PvAu, N77, N78, N79, PvAv, PvAw, PvAx, PvAy, PvAz. -/
import Derived.Test.YtldalepagmhnmaaGreatDoorZBR
import Derived.Test.YtldalepagmhnmaaGreatDoorZBN
set_option linter.unusedVariables false
set_option linter.unusedSimpArgs false
section
namespace Go.Pv
theorem H2l {k:Nat}{a b:List Ivl}{p:Int}(h:(opB k a b p).2=0):(rightB a=true/\rightB b=true/\a.length=b.length/\Z0m p=true)/\(opB k a b p).1.length=a.length/\
 (∀j,j<a.length->(opI k (a.getD j default) (b.getD j default) p).2=0)/\ ∀j,j<a.length->(opB k a b p).1.getD j default=(opI k (a.getD j default) (b.getD j default) p).1:=by
 unfold opB at h⊢;by_cases c:rightB a=true/\rightB b=true/\a.length=b.length/\Z0m p=true;rw[if_pos c,j0m] at h;rw[if_pos c,j0m];exact⟨c,J0j h⟩;rw[if_neg c] at h;exact absurd h (by decide)
theorem J2x {x:Ivl}{b:List Ivl}{p:Int}(h:(j0y x b p).2=0):(rightB b=true/\Q0o x=true/\Z0m p=true)/\(j0y x b p).1.length=b.length/\
 (∀j,j<b.length->(opI 2 x (b.getD j default) p).2=0)/\ ∀j,j<b.length->(j0y x b p).1.getD j default=(opI 2 x (b.getD j default) p).1:=by
 unfold j0y at h⊢;by_cases c:rightB b=true/\Q0o x=true/\Z0m p=true;rw[if_pos c,j0m] at h;rw[if_pos c,j0m];exact⟨c,J0j h⟩;rw[if_neg c] at h;exact absurd h (by decide)
theorem v2z {h:Nm}(hr:Q0n h=true):(¬sgnN (ownN h)<=0)<->0<qN h:=by unfold ownN;rw[if_pos hr,<-v1j];omega
structure NextOK (f:List (List Mn)) (x a:List Ivl) (h:Nm) (p:Int):Prop where
 rf:W0c f=true
 rx:rightB x=true
 ra:rightB a=true
 lx:x.length=f.length
 la:a.length=f.length
 rh:Q0n h=true
 ph:0<qN h
 pp:Z0m p=true
 e1:(W0w f a p).2=0
 e2:(j0y ⟨default,h⟩ (W0w f a p).1 p).2=0
 e3:(opB 0 x (j0y ⟨default,h⟩ (W0w f a p).1 p).1 p).2=0
theorem NextOK.val {f:List (List Mn)}{x a:List Ivl}{h:Nm}{p:Int}(n:NextOK f x a h p):(y2s f x a h p).1=(opB 0 x (j0y ⟨default,h⟩ (W0w f a p).1 p).1 p).1:=by unfold y2s;rw[if_pos ⟨n.rf,n.rx,n.ra,n.lx,n.la,n.rh,(v2z n.rh).2 n.ph,n.pp⟩,if_pos n.e1,if_pos n.e2]
theorem v1o {f:List (List Mn)}{a:List Ivl}{p:Int}(h:(W0w f a p).2=0):(W0c f=true/\a.length=f.length)/\(W0w f a p).1.length=f.length/\ ∀j,j<f.length->(W0w f a p).1.getD j default=(k0b (f.getD j []) a p (f.getD j []).length).1/\(k0b (f.getD j []) a p (f.getD j []).length).2=0:=by unfold W0w at h⊢;by_cases c:W0c f=true/\a.length=f.length;rw[if_pos c] at h⊢;obtain⟨g1,g2,g3⟩:=J0j h;refine⟨c,g1,fun j hj=> ?_⟩;have e:=g2 j hj;rw[g3 j hj];show(Z2f (f.getD j []) a p).1=_/\_;replace e:(Z2f (f.getD j []) a p).2=0:=e;unfold Z2f at e⊢;split at e;rename_i d;rw[if_pos d];exact⟨rfl,e⟩;exact absurd e (by decide);rw[if_neg c] at h;exact absurd h (by decide)
structure NextAt (f:List (List Mn)) (x a:List Ivl) (h:Nm) (p:Int) (j:Nat):Prop where
 r0:(k0b (f.getD j []) a p (f.getD j []).length).2=0
 t0:(opI 2 ⟨default,h⟩ (k0b (f.getD j []) a p (f.getD j []).length).1 p).2=0
 s0:(opI 0 (x.getD j default) (opI 2 ⟨default,h⟩ (k0b (f.getD j []) a p (f.getD j []).length).1 p).1 p).2=0
 val:(y2s f x a h p).1.getD j default=(opI 0 (x.getD j default) (opI 2 ⟨default,h⟩ (k0b (f.getD j []) a p (f.getD j []).length).1 p).1 p).1
theorem NextOK.at {f:List (List Mn)}{x a:List Ivl}{h:Nm}{p:Int}(n:NextOK f x a h p){j:Nat}(hj:j<f.length):NextAt f x a h p j:=by obtain⟨_,r1,r2⟩:=v1o n.e1;obtain⟨r3,r4⟩:=r2 j hj;obtain⟨_,t1,t2,t3⟩:=J2x n.e2;obtain⟨_,s1,s2,s3⟩:=H2l n.e3;have t2:=t2 j (by omega);have t3:=t3 j (by omega);have s2:=s2 j (by rw[n.lx];exact hj);have s3:=s3 j (by rw[n.lx];exact hj);rw[r3] at t2 t3;rw[t3] at s2 s3;exact⟨r4,t2,s2,by rw[n.val];exact s3⟩
theorem V2i {k:Nat}{a b:List Ivl}{p:Int}(h:(opB k a b p).2=0):rightB (opB k a b p).1=true:=by obtain⟨c,l,_,v⟩:=H2l h;have:=K2t c.1;exact v0w (fun j hj=>by rw[v j (by omega)];exact Z0y _ _ _ _) (by omega) (by omega)
theorem NextOK.rightB {f:List (List Mn)}{x a:List Ivl}{h:Nm}{p:Int}(n:NextOK f x a h p):Go.Pv.rightB (y2s f x a h p).1=true:=by rw[n.val];exact V2i n.e3
def U3r (n M:Nat)(D:Int)(p:List Mn):Prop:=X0v p n=true/\p.length<=M/\ ∀m∈p,okMn n 6 (8+M) D m
def okFieldT (n M:Nat)(D:Int)(f:List (List Mn)):Prop:=f.length=n/\ ∀p∈f,U3r n M D p
theorem okFieldT.at {n M:Nat}{D:Int}{f:List (List Mn)}(h:okFieldT n M D f){i j:Nat}(hi:i<f.length)(hj:j<(f.getD i []).length):okMn n 6 (8+M) D ((f.getD i []).getD j default):=by have e:f.getD i []=f[i]:=(by simp[q_a,hi]);rw[e] at hj⊢;exact x0j (h.2 _ (List.getElem_mem hi)).2.2 hj
theorem U2h {ks:List Int}{D:Int}(hr:K0d ks=true)(h:ks.sum<=D){i:Nat}(hi:i<=ks.length):(sumK ks i:Int)<=D:=by
 have h0:=H0w hr i hi;have h1:(ks.take i).sum<=ks.sum:=by
  have hk:=((J0c ks).1 hr).1;have: ∀(l:List Int) (n:Nat),(∀j,j<l.length->0<=l.getD j 0)->(l.take n).sum<=l.sum:=by
   intro l
   induction l with
   | nil=>intro n _;simp
   | cons x l ih=>
    intro n hp;have hx:0<=x:=hp 0 (by simp);have hp': ∀j,j<l.length->0<=l.getD j 0:=fun j hj=>(by have:=hp (j+1) (by simpa using hj);simpa using this);cases n with
    | zero=>
     have:=ih 0 hp';simp at this⊢;omega
    | succ n=>
     have:=ih n hp';simp;omega
  exact this ks i hk
 unfold sumK;omega
theorem Y2n {E:Ent}(s:PFS)(t i len cap:Nat)(ht:s.pa.getD t .junk= .mr i len cap)(hl:0<len):Weak E s { s with pa:=s.pa.set t (.ms false i 0 len) } :=by
 intro a w g F h;refine⟨g,F,h.ext,h.store,h.frame,h.defers,by simp[h.len],fun k hk=> ?_⟩;simp only[List.length_set] at hk⊢;by_cases e:t=k;subst e;rw[Q0r _ _ _ _ hk];have:=h.tmps t hk;rw[ht] at this;generalize a.tmps.getD t undef=v at this⊢;cases this with
 | base _ _ h'=>cases h'
 | lmr _ _ _ hi hcap=>exact .lms i 0 len cap hi hcap
 | lmr0 _ _ _=>omega
 rw[Q0l _ _ _ _ _ e];exact h.tmps k hk
theorem Z2i {P:Program}{E:Ent}{c:Code}{Q:Exit->PFS->Prop}{s:PFS}(t i len cap:Nat)(ht:s.pa.getD t .junk= .mr i len cap)(hl:0<len)(h:PWP P E c Q { s with pa:=s.pa.set t (.ms false i 0 len) }):PWP P E c Q s:=J0w (Y2n s t i len cap ht hl) h
section
variable {w:World} {g g':Gh} {F:Fr} {T:List (Nat×Nat)} {k sz:Nat} {cs:List PV}
end
section
variable {k sz:Nat} {cs:List PV}
end
def PV.lend1 (L:Q0e):PV->PV
 | .mr j n _=> .sl .no (((L.getD j []).take n).map PV.forget1)
 | p=>p.forget1
def PV.lend2 (L:Q0e):PV->PV
 | .lp i off=> .ep ((L.getD i []).map (PV.lend1 L)) off
 | .mr j n _=> .sl .no (((L.getD j []).take n).map PV.forget1)
 | p=>p.forget2
def PV.notU :PV->Bool
 | .sl _ _ | .mr _ _ _ | .sc (.bool _) | .sc (.int .i64 _)=>true
 | _=>false
def q2x (L:Q0e)(e:List Nat):PV->Prop
 | .mr j n _=>n<=e.getD j 0/\ ∀o,o<n->((L.getD j []).getD o .junk).closed1=true
 | p=>p.closed1=true
def q2w (L:Q0e)(e:List Nat):PV->Prop
 | .lp i _=>(L.getD i []).length<=e.getD i 0/\0<(L.getD i []).length/\ ∀o,o<(L.getD i []).length->q2x L e ((L.getD i []).getD o .junk)
 | .mr j n _=>n<=e.getD j 0/\ ∀o,o<n->((L.getD j []).getD o .junk).closed1=true
 | p=>p.closed2=true
structure LendOK (L:Q0e) (e:List Nat) (xs:List PV):Prop where
 ext: ∀i o,o<e.getD i 0->o<(L.getD i []).length/\((L.getD i []).getD o .junk).notU=true
 args: ∀a∈xs,q2w L e a
 low: ∀a∈xs,Low 0 (a.lend2 L)
def uwV (v:Value):Prop:= ∃x,v= .int .u64 x\/v= .int .u32 x
inductive Wordy :PV->Prop
 | sc (v:Value):Wordy (.sc v)
 | agg (cs:List PV) (h: ∀c∈cs,Wordy c):Wordy (.agg cs)
 | tup (cs:List PV) (h: ∀c∈cs,Wordy c):Wordy (.tup cs)
 | sl (es:List PV) (h: ∀j,j<es.length-> ∃x,uwV x/\es.getD j .junk= .sc x):Wordy (.sl .no es)
theorem Wordy.turn {w:World}{g g':Gh}(hv: ∀b off x,uwV x->off<g.vis b->w.cell? ⟨b,off,none⟩=some x->g'.vis b=g.vis b): ∀ {p:PV},Wordy p-> ∀ {v:Value},Rep w g v p->Rep w g' v p:=by
 intro p hp
 induction hp with
 | sc v=>intro v' h;cases h;exact .sc _
 | agg cs hc ih=>intro v h;cases h with | agg vs _ hl h=>exact .agg vs cs hl fun j hj=>ih _ (Q0s _ _ _ hj) (h j hj)
 | tup cs hc ih=>intro v h;cases h with | tup vs _ hl h=>exact .tup vs cs hl fun j hj=>ih _ (Q0s _ _ _ hj) (h j hj)
 | sl es hes=>
  intro v h;cases h with
  | nil t ad ht=>exact .nil _ _ rfl
  | sl t es b off sz cap cf ht hfull hcap hsz hvis hc hr=>
   by_cases h0:es= [];subst h0;exact .sl _ [] b off sz cap cf rfl hfull hcap hsz (fun h=>by simp at h) (fun i j hi=>by simp at hi) (fun i j hi=>by simp at hi);have hl:0<es.length:=List.length_pos_iff.2 h0;have hs:sz=1:=by have h1:=hsz 0 hl;obtain⟨x,_,hx⟩:=hes 0 hl;rw[hx] at h1;exact h1.symm
   subst hs;have hvb:g'.vis b=g.vis b:=by have h1:=hr 0 0 hl (by omega);have h2:=hc 0 0 hl (by omega);obtain⟨x,hxw,hx⟩:=hes 0 hl;rw[hx] at h1;rw[show cf 0 0=x from Rep.sc_inv h1] at h2;exact hv b (off+0*1+0) x hxw (by have:=hvis hl;omega) h2
   refine .sl _ es b off 1 cap cf rfl hfull hcap hsz (by rw[hvb];exact hvis) hc fun i j hi hj=> ?_;have h1:=hr i j hi hj;have h3:j=0:=(by omega);subst h3;obtain⟨x,_,hx⟩:=hes i hi;rw[hx] at h1⊢;rw[show cf i 0=x from Rep.sc_inv h1];exact .sc _
theorem U3z {w:World}{g:Gh}{F:Fr}{T:List (Nat×Nat)}{v:Value}{p:PV}(h:RepF w g F T v p)(hp:p.notU=true){y:Value}(hy:uwV y):v≠y:=by
 intro e;subst e;obtain⟨x,rfl | rfl⟩:=hy<;>
 cases h with
 | base _ _ h=>cases h with
  | sc v=>cases hp
  | junk v=>cases hp
 | own k es _ h hk hle hr=>cases h
theorem Low.mk {p:PV}(h:Low 0 p){w:World}{g:Gh}{v:Value}(vis:Nat->Nat)(hv: ∀b,g.vis b<=vis b)(hr:Rep w g v p):Rep w ⟨0,fun _=>0,vis⟩ v p:=
 Rep.mono (w:=w) (g:= { g with n:=0 }) (w':=w) (g':=⟨0,fun _=>0,vis⟩) ⟨Nat.le_refl 0,fun i hi=>absurd hi (Nat.not_lt_zero _),hv,fun _ _ _ _ hc=>hc⟩ (h w g v hr (Nat.zero_le _))
noncomputable def V0w (g:Gh)(F:Fr)(L:Q0e)(e:List Nat)(b:Nat):Nat:=
 open Classical in if h: ∃i,L.getD i []≠ []/\F.lmu i=b/\0<e.getD i 0 then e.getD h.choose 0 else g.vis b
section
variable {P:Program} {E:Ent} {a:Act} {w:World} {g:Gh} {F:Fr} {s:PFS} {e:List Nat}
theorem K1g (h:FSRep E a w g F s)(i:Nat)(hi:s.L.getD i []≠ []):V0w g F s.L e (F.lmu i)=e.getD i 0:=by unfold V0w;split;rename_i hx;obtain⟨h1,h2,h3⟩:=hx.choose_spec;rw[h.frame.inj _ _ h1 hi h2];rename_i hx;rw[(h.frame.lo i hi).2.2];by_cases h0:0<e.getD i 0;exact absurd ⟨i,hi,rfl,h0⟩ hx;omega
theorem Q1i (h:FSRep E a w g F s)(b:Nat):g.vis b<=V0w g F s.L e b:=by unfold V0w;split;rename_i hx;obtain⟨h1,h2,h3⟩:=hx.choose_spec;have:=(h.frame.lo _ h1).2.2;rw[h2] at this;omega;exact Nat.le_refl _
theorem w0k (b:Nat)(hb:V0w g F s.L e b≠g.vis b): ∃i,s.L.getD i []≠ []/\F.lmu i=b/\V0w g F s.L e b=e.getD i 0:=by unfold V0w at hb⊢;split;rename_i hx;obtain⟨h1,h2,h3⟩:=hx.choose_spec;exact⟨_,h1,h2,rfl⟩;rename_i hx;rw[dif_neg hx] at hb;exact absurd rfl hb
noncomputable def w1o (g:Gh)(F:Fr)(L:Q0e)(e:List Nat):Gh:=⟨g.n,g.mu,V0w g F L e⟩
theorem G1q (h:FSRep E a w g F s):Le w g w (w1o g F s.L e):=⟨Nat.le_refl _,fun _ _=>rfl,Q1i h,fun _ _ _ _ hc=>hc⟩
theorem q2s (h:FSRep E a w g F s)(hx: ∀i o,o<e.getD i 0->o<(s.L.getD i []).length/\((s.L.getD i []).getD o .junk).notU=true){v:Value}{j n cap:Nat}
 (hr:RepF w g F s.T v (.mr j n cap)) (h1:n<=e.getD j 0) (h2: ∀o,o<n->((s.L.getD j []).getD o .junk).closed1=true):
 Rep w (w1o g F s.L e) v (.sl .no (((s.L.getD j []).take n).map PV.forget1)):=by
 cases hr with
 | base _ _ hr=>cases hr
 | lmr0 i ad hi=>simp only[List.take_zero,List.map_nil];exact .nil _ _ rfl
 | lmr i len cap hi hcap=>
  by_cases h0:n=0;subst h0;simp only[List.take_zero,List.map_nil];exact .sl _ [] (F.lmu j) 0 1 cap (fun _ _=>undef) rfl (fun h=>by cases h) hcap (fun i hi=>by simp at hi) (fun h=>by simp at h) (fun i j hi=>by simp at hi) (fun i j hi=>by simp at hi);have hlen:=(hx j (n-1) (by omega)).1;have hne:s.L.getD j []≠ []:=fun h=>(by rw[h] at hlen;simp at hlen);have hh:=h.frame.holds j hne;have hl:(((s.L.getD j []).take n).map PV.forget1).length=n:=(by rw[List.length_map,List.length_take];omega);have hg: ∀o,o<n->(((s.L.getD j []).take n).map PV.forget1).getD o .junk=((s.L.getD j []).getD o .junk).forget1:=fun o ho=>(by rw[X0a _ _ _ _ .junk (by rw[List.length_take];omega),V0a _ _ _ _ ho]);have hce: ∀o,o<n->((s.L.getD j []).getD o .junk).forget1.cells= [((s.L.getD j []).getD o .junk).forget1]:=fun o ho=>by
   have:=h2 o ho;generalize (s.L.getD j []).getD o .junk=p at this⊢;cases p with
   | agg l=>cases this
   | _=>rfl
  have:=Rep.sl (w:=w) (g:=w1o g F s.L e) .no (((s.L.getD j []).take n).map PV.forget1) (F.lmu j) 0 1 cap (fun o _=>(w.cell? ⟨F.lmu j,o,none⟩).getD undef) rfl (fun h=>by cases h) (by rw[hl];exact hcap)
   (fun i hi=>by rw[hl] at hi;rw[hg i hi,hce i hi];rfl)
   (fun _=>by rw[hl];show 0+n*1<=V0w g F s.L e (F.lmu j);rw[K1g h j hne];omega)
   (fun i k hi hk=>by rw[hl] at hi;obtain⟨_,c,q1,q2⟩:=hh i (by omega);have:k=0:=(by omega);subst this;rw[show 0+i*1+0=i by omega,q1];rfl)
   (fun i k hi hk=>by rw[hl] at hi;obtain⟨_,c,q1,q2⟩:=hh i (by omega);have:k=0:=(by omega);subst this;rw[hg i hi,hce i hi,q1];exact((q2.forget1 (h2 i hi)).mono (G1q h)))
  rw[hl] at this;exact this
theorem q2u (h:FSRep E a w g F s)(hx: ∀i o,o<e.getD i 0->o<(s.L.getD i []).length/\((s.L.getD i []).getD o .junk).notU=true){v:Value}{p:PV}
 (hr:RepF w g F s.T v p) (hp:q2x s.L e p):Rep w (w1o g F s.L e) v (p.lend1 s.L):=by
 cases p with
 | mr j n cap=>exact q2s h hx hr hp.1 hp.2
 | _=>exact(hr.forget1 hp).mono (G1q h)
theorem Q3u (h:FSRep E a w g F s)(hx: ∀i o,o<e.getD i 0->o<(s.L.getD i []).length/\((s.L.getD i []).getD o .junk).notU=true){v:Value}{p:PV}
 (hr:RepF w g F s.T v p) (hp:q2w s.L e p):Rep w (w1o g F s.L e) v (p.lend2 s.L):=by
 cases p with
 | mr j n cap=>exact q2s h hx hr hp.1 hp.2
 | lp i off=>
  obtain⟨h1,h2,h3⟩:=hp;have hne:s.L.getD i []≠ []:=fun h=>(by rw[h] at h2;simp at h2);have hh:=h.frame.holds i hne;cases hr with
  | base _ _ hr=>cases hr
  | lp _ _ hi=>
   have:=Rep.ep (w:=w) (g:=w1o g F s.L e) ((s.L.getD i []).map (PV.lend1 s.L)) off (F.lmu i) 0 (fun o=>(w.cell? ⟨F.lmu i,o,none⟩).getD undef)
    (by rw[List.length_map];show _<=V0w g F s.L e (F.lmu i);rw[K1g h i hne];omega)
    (fun o ho=>by rw[List.length_map] at ho;obtain⟨_,c,q1,q2⟩:=hh o ho;rw[Nat.zero_add,q1];rfl)
    (fun o ho=>by rw[List.length_map] at ho;obtain⟨_,c,q1,q2⟩:=hh o ho;rw[X0a _ _ _ _ .junk ho,q1];exact q2u h hx q2 (h3 o ho))
   rw[Nat.zero_add] at this;exact this
 | _=>exact(hr.forget2 hp).mono (G1q h)
theorem Wordy.res {B:Nat}{w:World}{g:Gh}{v:Value}{R:PV}(hw:Wordy R):RepRes B w g v R=Rep w g v R:=by cases hw<;>rfl
theorem q2v (h:FSRep E a w g F s){f:FuncId}{xs:List PV}{vs:Array Value}{R:PV}(v1:vs.size=xs.length)(v2: ∀j,j<xs.length->RepF w g F s.T (vs.getD j undef) (xs.getD j .junk))
 (ho:LendOK s.L e xs) (hw:Wordy R) (hc:PCalls P f (xs.map (PV.lend2 s.L)) [] (fun r st'=>r=R/\st'= [])):
 Calls P f vs w (fun en w'=> ∃v g',en= .returned v/\Ext w g w' g'/\StoreOK w' g' s.st/\RepRes w.heap.size w' g' v R):=by
 have hs:=h.store
 let g0:Gh:=⟨0,fun _=>0,V0w g F s.L e⟩
 have hnone: ∀b,w.heap.size<=b->V0w g F s.L e b=0:=fun b hb=>by by_cases hq:V0w g F s.L e b=g.vis b;rw[hq];exact hs.none b hb;obtain⟨i,h1,h2,_⟩:=w0k b hq;have:=(h.frame.lo i h1).2.1;omega
 have hs0:StoreOK w g0 []:=(by refine⟨rfl,fun i j hi=>by simp[g0] at hi,fun i hi=>by simp[g0] at hi,fun i hi=>by simp[g0] at hi,fun i hi=>by simp[g0] at hi,hnone,fun t ht=>⟨Nat.le_trans (hs.tab t ht).1 (Q1i h _),(hs.tab t ht).2⟩⟩);have hr0:Reps w g0 vs (xs.map (PV.lend2 s.L)):=(by refine⟨by simpa using v1,fun j hj=> ?_⟩;rw[List.length_map] at hj;rw[X0a _ _ _ _ .junk hj];have hm:=Q0s xs j PV.junk hj;exact Low.mk (g:=w1o g F s.L e) (ho.low _ hm) _ (fun _=>Nat.le_refl _) (Q3u h ho.ext (v2 j hj) (ho.args _ hm)));refine(hc w g0 vs hs0 hr0).mono ?_;rintro en w' ⟨v,g1,r,st1,rfl,hx,hoo,hrr,rfl,rfl⟩;rw[hw.res] at hrr;have hold: ∀c,c<w.heap.size->w'.heap[c]?=w.heap[c]?/\g1.vis c=V0w g F s.L e c:=fun c hc=>hx.old c hc (fun i hi=>by simp[g0] at hi)
 let g2:Gh:=⟨g.n,g.mu,fun c=>if c<w.heap.size then g.vis c else g1.vis c⟩
 have hle:Le w g w' g2:=by refine⟨Nat.le_refl _,fun _ _=>rfl,fun c=> ?_,fun c o v ho hc=>hx.le.cell c o v (q_e ho (Q1i h c)) hc⟩;show g.vis c<=if c<w.heap.size then g.vis c else g1.vis c;split;exact Nat.le_refl _;rename_i hn;rw[hs.none c (by omega)];exact Nat.zero_le _
 have hext:Ext w g w' g2:=by refine⟨hle,hx.os,hx.tape,hx.output,hx.size,fun c hc _=>⟨(hold c hc).1,if_pos hc⟩,fun i h1 h2=> ?_⟩;have h2':i<g.n:=h2;omega
 have hst:StoreOK w' g2 s.st:=by refine⟨hs.n,hs.inj,fun i hi=>q_e (hs.lt i hi) hx.size,fun i hi h0=> ?_,fun i hi=> ?_,fun c hc=> ?_,hs.tab.mono hle⟩;show(if g.mu i<w.heap.size then g.vis (g.mu i) else _)=0;rw[if_pos (hs.lt i hi)];exact hs.vis i hi h0;exact(hs.holds i hi).mono (hold _ (hs.lt i hi)).1 fun v p hp=>hp.mono hle;show(if c<w.heap.size then g.vis c else g1.vis c)=0;have:=hx.size;rw[if_neg (by omega)];exact hoo.none c hc
 refine⟨v,g2,rfl,hext,hst,?_⟩;rw[hw.res];have:=Wordy.turn (g':=g2) (fun b off x hxw hoff hcell=> ?_) hw hrr;exact this;show(if b<w.heap.size then g.vis b else g1.vis b)=g1.vis b;split;rename_i hb;obtain⟨q1,q2⟩:=hold b hb;rw[q2] at hoff⊢;by_cases hq:V0w g F s.L e b=g.vis b;exact hq.symm;obtain⟨i,h1,h2,h3⟩:=w0k b hq;rw[h3] at hoff;obtain⟨o1,o2⟩:=ho.ext i off hoff;obtain⟨_,c,c1,c2⟩:=h.frame.holds i h1 off o1;rw[h2] at c1;have hcw:w'.cell? ⟨b,off,none⟩=w.cell? ⟨b,off,none⟩:=World.cell?_of_block (w:=w) (w':=w') (a:=⟨b,off,none⟩) q1;rw[hcw,c1] at hcell;exact absurd (Option.some.inj hcell) (U3z c2 o2 hxw);rfl
end
def POl0 (P:Program)(o:Oper)(e:List Nat)(K:PFS->Prop)(s:PFS):Prop:=
 match X0x o.op s.ev with
 | some (f,xs)=>Q0c P f=true/\LendOK s.L e xs/\ ∃R,Wordy R/\PCalls P f (xs.map (PV.lend2 s.L)) [] (fun r st'=>r=R/\st'= [])/\K (s.recv o.dst R s.st)
 | none=>False
section
variable {P:Program} {E:Ent} {a:Act} {w:World} {g:Gh} {F:Fr} {s:PFS} {e:List Nat}
theorem Y2f {o:Oper}{K:PFS->Prop}(h:FSRep E a w g F s)(hp:POl0 P o e K s){next:Act->World->Prop}{Q:Exit->Act->World->Prop}
 (hn: ∀a' w' g' F' s',FSRep E a' w' g' F' s'->K s'->next a' w'):o.wp P a w next Q:=by
 unfold POl0 at hp;split at hp;rename_i f xs hc;obtain⟨h2,ho,R,hw,hcall,hK⟩:=hp;obtain⟨vs,v1,v2,v3⟩:=j1d h hc h2;unfold Oper.wp;rw[v3,Oper.upon_enter];refine(q2v h v1 v2 ho hw hcall).mono ?_;rintro en w' ⟨v,g',rfl,hx,hs,hr⟩;obtain⟨F',hf⟩:=h.recv hx hs hr o.dst;exact hn _ _ _ _ _ hf hK;exact hp.elim
theorem Z4l {o:Oper}{K:PFS->Prop}(hp:POl0 P o e K s): ∀c,o.op≠ .defer c:=by intro c hc;unfold POl0 at hp;rw[hc] at hp;exact hp
theorem k2k {o:Oper}{K:PFS->Prop}(h:FSRep E a w g F s)(hp:POl0 P o e K s){next:Act->World->Prop}{Q:Exit->Act->World->Prop}
 (hn: ∀a' w' g' F' s',FSRep E a' w' g' F' s'->K s'->next a' w'):o.wpIn (fen E.rd) 0 P a w next Q:=
 W1g E.rd (Z4l hp) (Y2f h hp hn)
end
def OLl0 (P:Program)(ops:List Oper)(e:List Nat):List Bool->List Oper->(PFS->Prop)->PFS->Prop
 | _,[],K,s=>K s
 | [],rest,K,s=>OL0 P ops rest K s
 | true::bs,o::rest,K,s=>o.guard=none/\POl0 P o e (OLl0 P ops e bs rest K) s
 | false::bs,o::rest,K,s=>o.guard=none/\OC0 P o (OLl0 P ops e bs rest K) s
theorem V1w {P:Program}{E:Ent}{e:List Nat}{ops:Array Oper}{Q:Exit->Act->World->Prop}{K:PFS->Prop}(hK: ∀a' w' g' F' s',FSRep E a' w' g' F' s'->K s'->Q .normal a' w'):
 ∀(bs:List Bool) (rest:List Oper) (a:Act) (w:World) (g:Gh) (F:Fr) (s:PFS),FSRep E a w g F s->OLl0 P ops.toList e bs rest K s->wpListIn (fen E.rd) 0 P ops Q rest a w
 | bs,[],a,w,g,F,s,h,hp=>hK a w g F s h (by unfold OLl0 at hp;exact hp)
 | [],o::rest,a,w,g,F,s,h,hp=>q0l hK (o::rest) a w g F s h (j0r hp)
 | true::bs,o::rest,a,w,g,F,s,h,hp=>by obtain⟨hg,hp⟩:=hp;have ih:=V1w (P:=P) (ops:=ops) (e:=e) hK bs rest;unfold wpListIn;rw[if_pos (by simp[Region.wanted,hg])];exact k2k h hp fun a' w' g' F' s' hr hk=>ih a' w' g' F' s' hr hk
 | false::bs,o::rest,a,w,g,F,s,h,hp=>by obtain⟨hg,hp⟩:=hp;have ih:=V1w (P:=P) (ops:=ops) (e:=e) hK bs rest;unfold wpListIn;rw[if_pos (by simp[Region.wanted,hg])];exact J0s h (Y0g hp) fun a' w' g' F' s' hr hk=>ih a' w' g' F' s' hr hk
def OLl (P:Program)(ops:List Oper)(e:List Nat)(bs:List Bool)(rest:List Oper)(K:PFS->Prop)[Stop ops][Stop rest][Stop K](s:PFS):Prop:=OLl0 P ops e bs rest K s
theorem Z2k {P:Program}{E:Ent}{id:Nat}{l:List Oper}{Q:Exit->PFS->Prop}{s:PFS}(e:List Nat)(bs:List Bool)(h:OLl P l e bs l (Q .normal) s):PWP P E (.region id l.toArray false) Q s:=fun a w g F hr=>
 wpIn_region_list (V1w (fun a' w' g' F' s' hr' hk=>⟨g',F',s',hr',hk⟩) bs l a w g F s hr h)
def LC0 (P:Program)(e:List Nat)(fv:PV)(xs:List PV)(s:PFS)(K:PV->Prop):Prop:=
 match fv with
 | .fn (.func f) bs cs=>Q0c P f=true/\LendOK s.L e (bs++xs++cs)/\ ∃R,Wordy R/\PCalls P f ((bs++xs++cs).map (PV.lend2 s.L)) [] (fun r st'=>r=R/\st'= [])/\K R
 | _=>False
def LC (P:Program)(e:List Nat)(fv:PV)(xs:List PV)(s:PFS)(K:PV->Prop)[Stop K]:Prop:=LC0 P e fv xs s K
section
variable {P:Program} {s:PFS} {K:PFS->Prop} {d:Option Tmp} {ty:TypeId} {pos:String} {af:Array Edge} {e:List Nat}
@[go_sem] theorem q4j {ops:List Oper}{bs:List Bool} :OLl P ops e bs [] K s=K s:=by cases bs<;>rfl
@[go_sem] theorem q4k {ops rest:List Oper} :OLl P ops e [] rest K s=OL P ops rest K s:=by cases rest<;>rfl
@[go_sem] theorem x4d {ops rest:List Oper}{bs:List Bool}{op:Op} :OLl P ops e (false::bs) (⟨d,op,ty,pos,af,none⟩::rest) K s=OC P ⟨d,op,ty,pos,af,none⟩ (OLl P ops e bs rest K) s:=by show((none:Option (Nat×Bool))=none/\_)=_;simp only[true_and];rfl
theorem Z4r {ops rest:List Oper}{bs:List Bool}{f:Operand}{xs:List Operand}{ts:Array TypeId} :OLl P ops e (true::bs) (⟨d,.call ⟨.value f,xs.toArray,ts⟩,ty,pos,af,none⟩::rest) K s=LC0 P e (s.ev f) (xs.map s.ev) s (fun R=>OLl P ops e bs rest K (s.recv d R s.st)):=by
 show((none:Option (Nat×Bool))=none/\_)=_;simp only[true_and];unfold POl0 LC0 X0x;simp only;cases s.ev f with
 | fn g bs cs=>cases g<;>rfl
 | _=>rfl
@[go_sem] theorem x4c {ops rest:List Oper}{bs:List Bool}{f:Operand}{xs:List Operand}{ts:Array TypeId} :OLl P ops e (true::bs) (⟨d,.call ⟨.value f,xs.toArray,ts⟩,ty,pos,af,none⟩::rest) K s=LC P e (s.ev f) (xs.map s.ev) s (fun R=>OLl P ops e bs rest K (s.recv d R s.st)):=Z4r
theorem Z4t {f:FuncId}{bs cs xs:List PV}{K:PV->Prop}(R:PV)(hc:Q0c P f=true)(hl:LendOK s.L e (bs++xs++cs))(hw:Wordy R)
 (hp:PCalls P f ((bs++xs++cs).map (PV.lend2 s.L)) [] (fun r st'=>r=R/\st'= [])) (hk:K R):LC P e (.fn (.func f) bs cs) xs s K:=⟨hc,hl,R,hw,hp,hk⟩
end
section
variable {P:Program} {E:Ent} {a:Act} {w:World} {g:Gh} {F:Fr} {s:PFS}
theorem k1g {t:TypeId}{v:Value}{es:List PV}{x1:Bool}{x2:Nat}{x4:Option Value}{e:EI}(h:FSRep E a w g F s)(hT:ti P t=some ⟨x1,x2,.slice e,x4⟩)(c1:e.sz=1)(c3:e.zok=true)
 (hv:RepF w g F s.T v (.sl .full es)):Does P E a w (do pure (.value (<-Instr.buildSlice t 1 [(0,v)].toArray))) (.sl .full [.sl .full es]) s:=by
 obtain⟨i',u,hi',hu,hT'⟩:=Q0v hT;obtain⟨rfl,hei⟩:=Z0i (congrArg TI.ud hT').symm;have hrep:Rep w g v (.sl .full es):=by cases hv with | base _ _ h=>exact h
 have hcv:v.cells= #[v]:=by cases hrep<;>rfl
 obtain⟨i2,u2,hi2,hu2,e2⟩:=V0n hei;have hsz2:i2.size=e.sz:=(by rw[e2]);obtain⟨z,hz,hzs⟩: ∃z,i2.zero=some z/\z.cells.size=i2.size:=by have:=congrArg EI.zok e2;rw[c3] at this;simp only at this;split at this;rename_i z hz;exact⟨z,hz,by simpa using this.symm⟩;cases this
 have hfill:=j0l e.sz [(0,v)] 0 ((Array.range (1*e.sz)).map (fun i=>(if 1*e.sz=0 then #[] else z.cells)[i % (if 1*e.sz=0 then #[] else z.cells).size]!)) (by rfl) (fun j hj=>by have:j=0:=(by simpa using hj);subst this;show v.cells.size=e.sz;rw[hcv,c1];rfl) (by simp);obtain⟨cells',f1,f2,f3,f4⟩:=hfill;have hrun:(Instr.buildSlice t 1 [(0,v)].toArray).run P w= .ok (.slice (some ⟨w.heap.size,0,none⟩) 1 1) (w.alloc (.cells cells' e.id)):=(by unfold Instr.buildSlice;simp only[Sem.run_bind,run_underlying hu,Result.andThen_ok,G0h hei];rw[if_neg (by omega)];have h0: ¬(e.sz=0):=(by omega);have h0': ¬(1*e.sz=0):=(by omega);simp only[h0,h0',if_false,Sem.run_bind,zeroValue,typeInfo,hi2,hz,Sem.run_pure,Result.andThen_ok,Nat.one_mul] at f1⊢;simp[hi2,hz,f1,newRow,newObj,Sem.run]);obtain⟨g',_,_,_,r1,r2,r3,_⟩:=h.slice_new e.id cells' [.sl .full es] e.sz 1 (fun i hi=>by
  have:i=0:=(by simpa using hi);subst this;rw[c1];rfl) (by simp) (by rw[f2,Array.size_map,Array.size_range]) (fun m hm=>by
  have hm0:m=0:=by have:m<1*e.sz:=hm;omega
  subst hm0;have hc:=f4 0 0 (by simp) (by omega);simp only[Nat.zero_add,Nat.zero_mul] at hc;rw[hc,c1];show Rep w g (v.cells.getD 0 undef) (.sl .full es);rw[hcv];exact hrep)
 exact⟨_,_,g',F,by simp only[Sem.run_bind,hrun,Result.andThen_ok,Sem.run_pure];rfl,r1,.inl ⟨_,rfl,.base _ _ (r3 .full rfl (fun _=>rfl))⟩⟩
end
def POk0 (P:Program)(o:Oper)(K:PFS->Prop)(s:PFS):Prop:=
 match o.op with
 | .buildSlice t 1 parts=>
  match parts.toList with
  | [(0,x)]=>match ti P t,s.ev x with
   | some ⟨_,_,.slice e,_⟩,.sl .full es=>(e.sz=1/\e.zok=true)/\K (s.put o.dst (.sl .full [.sl .full es]))
   | _,_=>False
  | _=>False
 | _=>False
section
variable {P:Program} {E:Ent} {a:Act} {w:World} {g:Gh} {F:Fr} {s:PFS}
theorem Y2g {o:Oper}{K:PFS->Prop}(h:FSRep E a w g F s)(hp:POk0 P o K s){next:Act->World->Prop}{Q:Exit->Act->World->Prop}
 (hn: ∀a' w' g' F' s',FSRep E a' w' g' F' s'->K s'->next a' w'):o.wp P a w next Q:=by
 unfold POk0 at hp;split at hp;rotate_left;exact hp.elim;rename_i t parts heq;split at hp;rotate_left;exact hp.elim;rename_i x hx;split at hp;rotate_left;exact hp.elim;rename_i e _ es hT hs;obtain⟨⟨c1,c2⟩,hK⟩:=hp;have hv:=h.ev x;rw[hs] at hv;have ep:parts= #[(0,x)]:=(by rw[<-hx]);subst ep;obtain⟨nx,w',g',F',r1,r2,r3⟩:=k1g h hT c1 c2 hv;have hex:(execOp a.eval o).run P w= .ok nx w':=by unfold execOp;simp only[heq];have e:(#[(0,x)]:Array (Nat×Operand)).map (fun x=>(x.1,a.eval x.2))= [(0,a.eval x)].toArray:=(by simp);rw[e];exact r1
 unfold Oper.wp;rw[hex];rcases r3 with ⟨v,rfl,hv⟩ | ⟨rfl,hj⟩;exact hn _ _ _ _ _ (r2.put o.dst hv) hK;cases hj
theorem Z4m {o:Oper}{K:PFS->Prop}(hp:POk0 P o K s): ∀c,o.op≠ .defer c:=by intro c hc;unfold POk0 at hp;rw[hc] at hp;exact hp
theorem k2l {o:Oper}{K:PFS->Prop}(h:FSRep E a w g F s)(hp:POk0 P o K s){next:Act->World->Prop}{Q:Exit->Act->World->Prop}
 (hn: ∀a' w' g' F' s',FSRep E a' w' g' F' s'->K s'->next a' w'):o.wpIn (fen E.rd) 0 P a w next Q:=
 W1g E.rd (Z4m hp) (Y2g h hp hn)
end
inductive Mk where
 | no | room | keep
def OLk0 (P:Program)(ops:List Oper):List Mk->List Oper->(PFS->Prop)->PFS->Prop
 | _,[],K,s=>K s
 | [],rest,K,s=>OL0 P ops rest K s
 | .room::bs,o::rest,K,s=>o.guard=none/\POr0 P o (OLk0 P ops bs rest K) s
 | .keep::bs,o::rest,K,s=>o.guard=none/\POk0 P o (OLk0 P ops bs rest K) s
 | .no::bs,o::rest,K,s=>o.guard=none/\OC0 P o (OLk0 P ops bs rest K) s
theorem y0h {P:Program}{E:Ent}{ops:Array Oper}{Q:Exit->Act->World->Prop}{K:PFS->Prop}(hK: ∀a' w' g' F' s',FSRep E a' w' g' F' s'->K s'->Q .normal a' w'):
 ∀(bs:List Mk) (rest:List Oper) (a:Act) (w:World) (g:Gh) (F:Fr) (s:PFS),FSRep E a w g F s->OLk0 P ops.toList bs rest K s->wpListIn (fen E.rd) 0 P ops Q rest a w
 | bs,[],a,w,g,F,s,h,hp=>hK a w g F s h (by unfold OLk0 at hp;exact hp)
 | [],o::rest,a,w,g,F,s,h,hp=>q0l hK (o::rest) a w g F s h (j0r hp)
 | .room::bs,o::rest,a,w,g,F,s,h,hp=>by obtain⟨hg,hp⟩:=hp;have ih:=y0h (P:=P) (ops:=ops) hK bs rest;unfold wpListIn;rw[if_pos (by simp[Region.wanted,hg])];exact k1m h hp fun a' w' g' F' s' hr hk=>ih a' w' g' F' s' hr hk
 | .keep::bs,o::rest,a,w,g,F,s,h,hp=>by obtain⟨hg,hp⟩:=hp;have ih:=y0h (P:=P) (ops:=ops) hK bs rest;unfold wpListIn;rw[if_pos (by simp[Region.wanted,hg])];exact k2l h hp fun a' w' g' F' s' hr hk=>ih a' w' g' F' s' hr hk
 | .no::bs,o::rest,a,w,g,F,s,h,hp=>by obtain⟨hg,hp⟩:=hp;have ih:=y0h (P:=P) (ops:=ops) hK bs rest;unfold wpListIn;rw[if_pos (by simp[Region.wanted,hg])];exact J0s h (Y0g hp) fun a' w' g' F' s' hr hk=>ih a' w' g' F' s' hr hk
def OLk (P:Program)(ops:List Oper)(bs:List Mk)(rest:List Oper)(K:PFS->Prop)[Stop ops][Stop rest][Stop K](s:PFS):Prop:=OLk0 P ops bs rest K s
theorem w2t {P:Program}{E:Ent}{id:Nat}{l:List Oper}{Q:Exit->PFS->Prop}{s:PFS}(bs:List Mk)(h:OLk P l bs l (Q .normal) s):PWP P E (.region id l.toArray false) Q s:=fun a w g F hr=>
 wpIn_region_list (y0h (fun a' w' g' F' s' hr' hk=>⟨g',F',s',hr',hk⟩) bs l a w g F s hr h)
def z2h (T:Option TI)(x:PV)(K:PV->Prop)[Stop K]:Prop:=
 match T,x with
 | some ⟨_,_,.slice e,_⟩,.sl .full es=>(e.sz=1/\e.zok=true)/\K (.sl .full [.sl .full es])
 | _,_=>False
section
variable {P:Program} {s:PFS} {K:PFS->Prop} {d:Option Tmp} {ty:TypeId} {pos:String} {af:Array Edge}
@[go_sem] theorem q4l {ops:List Oper}{bs:List Mk} :OLk P ops bs [] K s=K s:=by
 cases bs with
 | nil=>rfl
 | cons b bs=>cases b<;>rfl
@[go_sem] theorem q4m {ops rest:List Oper} :OLk P ops [] rest K s=OL P ops rest K s:=by cases rest<;>rfl
@[go_sem] theorem z4p {ops rest:List Oper}{bs:List Mk}{op:Op} :OLk P ops (.no::bs) (⟨d,op,ty,pos,af,none⟩::rest) K s=OC P ⟨d,op,ty,pos,af,none⟩ (OLk P ops bs rest K) s:=by show((none:Option (Nat×Bool))=none/\_)=_;simp only[true_and];rfl
@[go_sem] theorem W4m {ops rest:List Oper}{bs:List Mk}{op:Op} :OLk P ops (.room::bs) (⟨d,op,ty,pos,af,none⟩::rest) K s=POr P ⟨d,op,ty,pos,af,none⟩ (OLk P ops bs rest K) s:=by show((none:Option (Nat×Bool))=none/\_)=_;simp only[true_and];rfl
@[go_sem] theorem W4n {ops rest:List Oper}{bs:List Mk}{t:TypeId}{x:Operand} :OLk P ops (.keep::bs) (⟨d,.buildSlice t 1 [(0,x)].toArray,ty,pos,af,none⟩::rest) K s=z2h (ti P t) (s.ev x) (fun p=>OLk P ops bs rest K (s.put d p)):=by show((none:Option (Nat×Bool))=none/\POk0 P _ _ s)=_;simp only[true_and];unfold POk0 z2h;simp only;rfl
@[go_sem] theorem v3s {e:EI}{x1:Bool}{x2:Nat}{x4:Option Value}{es:List PV}{K:PV->Prop} :z2h (some ⟨x1,x2,.slice e,x4⟩) (.sl .full es) K=((e.sz=1/\e.zok=true)/\K (.sl .full [.sl .full es])):=(rfl)
end
theorem H1x {E:Ent}(s:PFS)(i j k:Nat)(hk:k<s.L.length)(he:(s.L.getD i []).getD j .junk= .sl .full []):Weak E s { s with L:=s.L.set i ((s.L.getD i []).set j (.mr k 0 0)) } :=by
 intro a w g F h;have hj:j<(s.L.getD i []).length:=by refine Nat.lt_of_not_le fun hn=> ?_;rw[q_a,List.getElem?_eq_none hn] at he;cases he
 have hne0:s.L.getD i []≠ []:=fun e=>by rw[e] at hj;simp at hj
 have hil:i<s.L.length:=by refine Nat.lt_of_not_le fun hn=>hne0 ?_;rw[q_a,List.getElem?_eq_none hn];rfl
 have hne: ∀m,(s.L.set i ((s.L.getD i []).set j (.mr k 0 0))).getD m []≠ []->s.L.getD m []≠ []:=fun m hm=>by by_cases e:i=m;subst e;exact hne0;rwa [Q0l _ _ _ _ _ e] at hm
 refine⟨g,F,h.ext,h.store,⟨by simpa using h.frame.nl,fun m hm=>h.frame.lo m (hne m hm),fun m hm=>h.frame.apart m (hne m hm),fun m l hm hl=>h.frame.inj m l (hne m hm) (hne l hl),fun m hm=> ?_,h.frame.tlo,fun m b h1 h2=>⟨(h.frame.tapart m b h1 h2).1,fun l hl=>(h.frame.tapart m b h1 h2).2 l (hne l hl)⟩,h.frame.tinj⟩,h.defers,h.len,h.tmps⟩;have hh:=h.frame.holds m (hne m hm);by_cases e:i=m;subst e;simp only at hm⊢;rw[Q0r _ _ _ _ hil];intro o ho;rw[List.length_set] at ho;obtain⟨q1,c,q2,q3⟩:=hh o ho;refine⟨q1,c,q2,?_⟩;by_cases e2:j=o;subst e2;rw[Q0r _ _ _ _ ho];rw[he] at q3;obtain⟨ad,hv⟩:=G1w q3;rw[hv];exact .lmr0 k ad (by rw[h.frame.nl];exact hk);rw[Q0l _ _ _ _ _ e2];exact q3;simp only at hm⊢;rw[Q0l _ _ _ _ _ e] at hm⊢;exact hh
theorem v1s {P:Program}{E:Ent}{c:Code}{Q:Exit->PFS->Prop}{s:PFS}(i j k:Nat)(hk:k<s.L.length)(he:(s.L.getD i []).getD j .junk= .sl .full [])(h:PWP P E c Q { s with L:=s.L.set i ((s.L.getD i []).set j (.mr k 0 0)) }):PWP P E c Q s:=
 J0w (H1x s i j k hk he) h
inductive Tame :PV->Prop
 | sc (v:Value):Tame (.sc v)
 | agg {cs:List PV} (h: ∀c∈cs,Tame c):Tame (.agg cs)
 | sl {t:Tag} {es:List PV} (h: ∀e∈es,Tame e):Tame (.sl t es)
theorem Tame.low {p:PV}(h:Tame p)(n:Nat):Low n p/\ ∀c∈p.cells,Low n c:=by
 induction h with
 | sc v=>exact⟨w0j n v,fun c hc=>by rw[List.mem_singleton.1 hc];exact w0j n v⟩
 | agg h ih=>exact⟨q2p fun c hc=>(ih c hc).1,fun c hc=>(ih c hc).1⟩
 | @sl t es h ih=>
  have:=V3h (n:=n) (t:=t) fun e he c hc=>(ih e he).2 c hc;exact⟨this,fun c hc=>by rw[List.mem_singleton.1 hc];exact this⟩
theorem q2n {n off:Nat}{cs:List PV}(h: ∀c∈cs,Low n c):Low n (.ep cs off):=by
 intro w g v hr hn;cases hr with
 | ep _ _ b base cf hvis hc hr=>exact Rep.ep (g:= { g with n:=n }) cs off b base cf hvis hc fun j hj=>X1j h j _ _ _ (hr j hj) hn
theorem j3w (t:Tag)(w:List UInt64):Tame (.sl t (encW w)):= .sl fun e he=>by simp only[encW,List.mem_map] at he;obtain⟨x,_,rfl⟩:=he;exact .sc _
theorem j3v (t:Tag)(l:List Int):Tame (.sl t (encZ l)):= .sl fun e he=>by simp only[encZ,List.mem_map] at he;obtain⟨x,_,rfl⟩:=he;exact .sc _
theorem U2a (x:Nm): ∀c∈encN x,Tame c:=fun c hc=>by simp only[encN,List.mem_cons,List.not_mem_nil,or_false] at hc;rcases hc with rfl | rfl | rfl;exact .sc _;exact .sc _;exact j3w _ _
theorem j3y (x:Ivl): ∀c∈encI x,Tame c:=fun c hc=>by have hc:c∈encN x.lo++encN x.hi:=hc;rcases List.mem_append.1 hc with hc | hc;exact U2a _ _ hc;exact U2a _ _ hc
theorem Y3j (t:Tag)(l:List Ivl):Tame (.sl t (Q0t l)):= .sl fun e he=>by simp only[Q0t,List.mem_map] at he;obtain⟨x,_,rfl⟩:=he;exact .agg (j3y x)
theorem K3h (t:Tag)(l:List (List Ivl)):Tame (.sl t (encM l)):= .sl fun e he=>by simp only[encM,List.mem_map] at he;obtain⟨x,_,rfl⟩:=he;exact Y3j _ x
theorem Y3i (m:Mn): ∀c∈q0g m,Tame c:=fun c hc=>by have hc:c∈encN m.c++ [.sl .no (encZ m.ks)]:=hc;rcases List.mem_append.1 hc with hc | hc;exact U2a _ _ hc;rw[List.mem_singleton.1 hc];exact j3v _ _
theorem Y2z (t:Tag)(l:List Mn):Tame (.sl t (Z0p l)):= .sl fun e he=>by simp only[Z0p,List.mem_map] at he;obtain⟨x,_,rfl⟩:=he;exact .agg (Y3i x)
theorem Y3k (t:Tag)(l:List (List Mn)):Tame (.sl t (Z0z l)):= .sl fun e he=>by simp only[Z0z,List.mem_map] at he;obtain⟨x,_,rfl⟩:=he;exact Y2z _ x
theorem W3q (w:List UInt64):Wordy (.sl .no (encW w)):= .sl _ fun j hj=>by have hj':j<w.length:=(by simpa[encW] using hj);exact⟨_,⟨_,.inl rfl⟩,by simp only[encW,q_a,List.getElem?_map,List.getElem?_eq_getElem hj'];rfl⟩
theorem Y2m (x:Nm): ∀c∈encN x,Wordy c:=fun c hc=>by simp only[encN,List.mem_cons,List.not_mem_nil,or_false] at hc;rcases hc with rfl | rfl | rfl;exact .sc _;exact .sc _;exact W3q _
theorem k2z (x:Ivl)(v:Value):Wordy (.tup [.agg (encI x),.sc v]):= .tup _ fun c hc=>by simp only[List.mem_cons,List.not_mem_nil,or_false] at hc;rcases hc with rfl | rfl;refine .agg _ fun c hc=> ?_;have hc:c∈encN x.lo++encN x.hi:=hc;rcases List.mem_append.1 hc with hc | hc;exact Y2m _ _ hc;exact Y2m _ _ hc;exact .sc _
open Go.Proofs
def Z0l (l:List Vl):List PV:=l.map fun c=>(.agg (encV c))
@[go_sem] theorem H0e (l:List Vl):(Z0l l).length=l.length:=by simp[Z0l]
@[go_sem] theorem w3t :Z0l []= []:=(rfl)
@[go_sem] theorem K4b (l:List Vl):(Z0l l).all (fun x=>x.cells.length==3)=true:=by simp[Z0l,PV.cells,encV]
@[go_sem] theorem K4c (l:List Vl):(Z0l l).all (fun x=>(x.cells.length==3)&&x.cells.all PV.cellOK)=true:=by simp[Z0l,PV.cells,PV.cellOK,Value.oneCell',encV]
@[go_sem] theorem x3d (l:List Vl)(n:Nat):(Z0l l).take n=Z0l (l.take n):=by simp[Z0l]
@[go_sem] theorem x3e (l:List Vl)(n:Nat):(Z0l l).drop n=Z0l (l.drop n):=by simp[Z0l]
@[go_sem] theorem w3v (l m:List Vl):Z0l l++Z0l m=Z0l (l++m):=by simp[Z0l]
@[go_sem] theorem Q1o (l:List Vl)(c:Vl):Z0l l++ [.agg (encV c)]=Z0l (l++ [c]):=by simp[Z0l]
theorem G0e (l:List Vl)(n:Nat)(h:n<l.length):(Z0l l).getD n .junk= .agg (encV (l.getD n default)):=by simp[Z0l,q_a,h]
@[go_sem] theorem w3u (l:List Vl)(i:Nat)(cs:List PV):(Z0l l).map (PV.frz i cs)=Z0l l:=by simp only[Z0l,List.map_map];exact List.map_congr_left fun a _=>rfl
def Q0z (l:List (List Vl)):List PV:=l.map fun c=>(.sl .no (Z0l c))
@[go_sem] theorem X0z (l:List (List Vl)):(Q0z l).length=l.length:=by simp[Q0z]
@[go_sem] theorem w3w :Q0z []= []:=(rfl)
@[go_sem] theorem K4d (l:List (List Vl)):(Q0z l).all (fun x=>x.cells.length==1)=true:=by simp[Q0z,PV.cells]
@[go_sem] theorem K4e (l:List (List Vl)):(Q0z l).all (fun x=>(x.cells.length==1)&&x.cells.all PV.cellOK)=true:=by simp[Q0z,PV.cells,PV.cellOK,Value.oneCell']
@[go_sem] theorem x3f (l:List (List Vl))(n:Nat):(Q0z l).take n=Q0z (l.take n):=by simp[Q0z]
@[go_sem] theorem x3h (l:List (List Vl))(n:Nat):(Q0z l).drop n=Q0z (l.drop n):=by simp[Q0z]
@[go_sem] theorem w3z (l m:List (List Vl)):Q0z l++Q0z m=Q0z (l++m):=by simp[Q0z]
@[go_sem] theorem x3g (l:List (List Vl))(c:(List Vl)):Q0z l++ [.sl .no (Z0l c)]=Q0z (l++ [c]):=by simp[Q0z]
theorem V1a (l:List (List Vl))(n:Nat)(h:n<l.length):(Q0z l).getD n .junk= .sl .no (Z0l (l.getD n [])):=by simp[Q0z,q_a,h]
@[go_sem] theorem w3y (l:List (List Vl))(i:Nat)(cs:List PV):(Q0z l).map (PV.frz i cs)=Q0z l:=by simp only[Q0z,List.map_map];exact List.map_congr_left fun a _=>rfl
@[go_sem] theorem w3x (l:List (List Vl))(a b:Nat):(Q0z l).all (PV.lim a b)=true:=by simp[Q0z,PV.lim,PV.lim1]
@[go_sem] theorem K4f (l:List (List Vl)):fzOK (Q0z l)=true:=by simp[Q0z,fzOK,PV.closed2,PV.closed1]
@[go_sem] theorem Z1i (l:List (List Vl)):(Q0z l).map PV.forget2=Q0z l:=by simp only[Q0z,List.map_map];exact List.map_congr_left fun a _=>rfl
@[go_sem] theorem j1e (l:List (List Vl)):(Q0z l).all PV.closed2=true:=by simp[Q0z,PV.closed2,PV.closed1]
theorem K1z (l:List Vl): ∀i,i<(Z0l l).length->((Z0l l).getD i .junk).cells.length=3:=fun i hi=>by rw[H0e] at hi;rw[G0e l i hi];rfl
@[go_sem] theorem x1t (l:List Vl):(flat (Z0l l)).length=l.length*3:=by rw[X0s (K1z l),H0e]
theorem z2w (l:List Vl)(i:Nat)(x:Vl)(h:i<l.length):over (flat (Z0l l)) (i*3) (encV x)=flat (Z0l (l.set i x)):=by have:=x1s (K1z l) (i:=i) (o:=0) (c:=encV x) (by rw[H0e];exact h) (by simp[encV]);rw[Nat.add_zero] at this;rw[this,G0e l i h];congr 1;simp[Z0l,List.map_set,over,encV,PV.cells]
theorem w0e {l:List Vl}{p:PV}(h:p∈flat (Z0l l)): ∃x:Vl,p∈encV x:=by obtain⟨y,hy,hp⟩:=G1n h;obtain⟨x,_,rfl⟩:=List.mem_map.1 hy;exact⟨x,hp⟩
@[go_sem] theorem V3q (l:List Vl):(flat (Z0l l)).map PV.forget2=flat (Z0l l):=q0c fun p hp=>by obtain⟨x,hx⟩:=w0e hp;simp[encV] at hx;rcases hx with rfl | rfl | rfl<;>rfl
@[go_sem] theorem z3x (l:List Vl)(i sz:Nat)(cs:List PV):(flat (Z0l l)).map (PV.frzN i sz cs)=flat (Z0l l):=q0c fun p hp=>by obtain⟨x,hx⟩:=w0e hp;simp[encV] at hx;rcases hx with rfl | rfl | rfl<;>rfl
@[go_sem] theorem J4q (l:List Vl):fzOK (flat (Z0l l))=true:=by unfold fzOK;rw[q_d];intro p hp;obtain⟨x,hx⟩:=w0e hp;simp[encV] at hx;rcases hx with rfl | rfl | rfl<;>rfl
@[go_sem] theorem w3g (l:List Vl)(a b:Nat):(flat (Z0l l)).all (PV.lim a b)=true:=by rw[q_d];intro p hp;obtain⟨x,hx⟩:=w0e hp;simp[encV] at hx;rcases hx with rfl | rfl | rfl<;>rfl
theorem q3n (l:List Vl):W0s 3 l.length (flat (Z0l l))=Z0l l:=by have:=z0a (sz:=3) (ys:=Z0l l) [] (fun y hy=>by obtain⟨x,_,rfl⟩:=List.mem_map.1 hy;exact⟨rfl,rfl⟩);rw[H0e,List.append_nil] at this;exact this
theorem X3y (l:List Vl)(n:Nat)(h:n=l.length):W0s 3 n (flat (Z0l l))=Z0l l:=by subst h;exact q3n l
theorem k3k (n:Nat):repC n (encV default)=flat (Z0l (List.replicate n default)):=by simp[repC,flat,Z0l,PV.cells]
theorem j3z (t:Tag)(l:List UInt32):Tame (.sl t (encD l)):= .sl fun e he=>by simp only[encD,List.mem_map] at he;obtain⟨x,_,rfl⟩:=he;exact .sc _
theorem j3x (x:Vl): ∀c∈encV x,Tame c:=fun c hc=>by simp only[encV,List.mem_cons,List.not_mem_nil,or_false] at hc;rcases hc with rfl | rfl | rfl;exact .sc _;exact j3z _ _;exact .sc _
theorem Y3g (t:Tag)(l:List Vl):Tame (.sl t (Z0l l)):= .sl fun e he=>by simp only[Z0l,List.mem_map] at he;obtain⟨x,_,rfl⟩:=he;exact .agg (j3x x)
theorem Y3h (t:Tag)(l:List (List Vl)):Tame (.sl t (Q0z l)):= .sl fun e he=>by simp only[Q0z,List.mem_map] at he;obtain⟨x,_,rfl⟩:=he;exact Y3g _ x
theorem W3s (l:List UInt32):Wordy (.sl .no (encD l)):= .sl _ fun j hj=>by have hj':j<l.length:=(by simpa[encD] using hj);exact⟨_,⟨_,.inr rfl⟩,by simp only[encD,q_a,List.getElem?_map,List.getElem?_eq_getElem hj'];rfl⟩
theorem W3r (x:Vl):Wordy (.agg (encV x)):= .agg _ fun c hc=>by simp only[encV,List.mem_cons,List.not_mem_nil,or_false] at hc;rcases hc with rfl | rfl | rfl;exact .sc _;exact W3s _;exact .sc _
theorem U0i (l:List (List Vl)):(Q0z l).all PV.quiet=true:=by rw[q_d];intro p hp;simp only[Q0z,List.mem_map] at hp;obtain⟨x,_,rfl⟩:=hp;rfl
theorem V1b (rows:List (List Vl))(R:List PV)(j:Nat)(h:j<rows.length):(Q0z rows++R).getD j .junk= .sl .no (Z0l (rows.getD j [])):=by rw[Q0i _ _ _ _ (by rw[X0z];exact h),V1a _ _ h]
theorem y2h {l:List PV}{i:Nat}(x:PV)(h:i<l.length):over l i [x]=l.set i x:=by unfold over;rw[List.set_eq_take_append_cons_drop,if_pos h];simp
theorem x2k (rows:List (List Vl))(R:List PV)(i:Nat)(hi:i<rows.length)(t:Tag)(r:List Vl):over (Q0z rows++R) i [.sl t (Z0l r)]=(Q0z rows).set i (.sl t (Z0l r))++R:=by rw[y2h _ (by rw[List.length_append,X0z];omega),List.set_append_left _ _ (by rw[X0z];exact hi)]
theorem x2l (rows:List (List Vl))(R:List PV)(i:Nat)(t:Tag)(r:List Vl):((Q0z rows).set i (.sl t (Z0l r))++R).map PV.forget2=Q0z (rows.set i r)++R.map PV.forget2:=by rw[List.map_append,List.map_set,Z1i];congr 1;unfold Q0z;rw[List.map_set];rfl
theorem j1f {rows:List (List Vl)}{R:List PV}{i k:Nat}{r:List Vl}(hR:R.all PV.quiet=true):((Q0z rows).set i (.sl (.own k) (Z0l r))++R).all PV.closed2=true:=by rw[List.all_append,q_i,q_d,q_d];refine⟨fun p hp=> ?_,fun p hp=>(Z1d (List.all_eq_true.1 hR p hp)).1⟩;rcases List.mem_or_eq_of_mem_set hp with h | rfl;exact List.all_eq_true.1 (j1e rows) p h;rfl
theorem w2e {O:List (List Vl)}{R ys:List PV}{cap n by_:Nat}{id:TypeId}(hn:n=O.length)(hc:n<=cap)(hR:R.length=cap-n)(hq:R.all PV.quiet=true)(hl:n<=1000)(hby:by_<=1000):
 U1o (Q0z O++R) n cap [.sl .no ys] ⟨id,1,by_,false,true,false⟩:=by
 have h1:=X0z O;refine⟨rfl,by show 0<1;decide,by show _=cap*1;rw[List.length_append,h1,hR];omega,by show n+1<=_;omega,?_,?_,by rw[List.all_append,U0i,hq];rfl,rfl⟩;show(n+1)*by_<=_;have:(n+1)*by_<=1001*1000:=Nat.mul_le_mul (by omega) hby;omega;rfl
theorem v3m (q:List Mn)(rows:List (List Vl))(k:Int)(cap:Nat)(R:List PV):
 LendOK [Q0z rows++R] [rows.length] ([]++ [.sl .no (Z0p q),.mr 0 rows.length cap,.sc (.int .i64 k)]++ [])/\
 ([]++ [PV.sl .no (Z0p q),.mr 0 rows.length cap,.sc (.int .i64 k)]++ []).map (PV.lend2 [Q0z rows++R])=
  [.sl .no (Z0p q),.sl .no (Q0z rows),.sc (.int .i64 k)]:=by
 have hcl: ∀o,o<rows.length->((Q0z rows++R).getD o .junk).closed1=true:=fun o ho=>by rw[V1b _ _ _ ho];rfl
 have hmap:((Q0z rows++R).take rows.length).map PV.forget1=Q0z rows:=by rw[List.take_append_of_le_length (by rw[X0z];omega),List.take_of_length_le (by rw[X0z];omega)];unfold Q0z;rw[List.map_map];exact List.map_congr_left fun a _=>rfl
 have heq:([]++ [PV.sl .no (Z0p q),.mr 0 rows.length cap,.sc (.int .i64 k)]++ []).map (PV.lend2 [Q0z rows++R])=
  [.sl .no (Z0p q),.sl .no (Q0z rows),.sc (.int .i64 k)]:=by
  show [PV.sl .no (Z0p q),.sl .no (((Q0z rows++R).take rows.length).map PV.forget1),.sc (.int .i64 k)]=_;rw[hmap]
 refine⟨⟨fun j o ho=> ?_,fun a ha=> ?_,fun a ha=> ?_⟩,heq⟩
 match j,ho with
 | 0,ho=>
  have ho:o<rows.length:=ho;refine⟨?_,?_⟩;show o<(Q0z rows++R).length;rw[List.length_append,X0z];omega;show((Q0z rows++R).getD o .junk).notU=true;rw[V1b _ _ _ ho];rfl
 | j+1,ho=>exact absurd ho (Nat.not_lt_zero _)
 simp only[List.nil_append,List.cons_append,List.append_nil,List.mem_cons,List.not_mem_nil,or_false] at ha;rcases ha with rfl | rfl | rfl;exact rfl;exact⟨Nat.le_refl _,hcl⟩;exact rfl;have hm:=List.mem_map_of_mem (f:=PV.lend2 [Q0z rows++R]) ha;rw[heq] at hm;generalize a.lend2 _=z at hm;simp only[List.mem_cons,List.not_mem_nil,or_false] at hm;rcases hm with rfl | rfl | rfl;exact((Y2z _ q).low 0).1;exact((Y3h _ rows).low 0).1;exact w0j _ _
end Go.Pv
end
