/- Parts of the walk: N66, N67, N68, N69, N70, N71, N72, M59, M52, M53, M54, PvAu, N78, PvAv, PvAw, PvAx, M65, M66, PvBn, M96. -/
import Derived.Test.YtldalepagmhnmaaGreatDoorZBQ
import Derived.Test.YtldalepagmhnmaaGreatDoorZBE
set_option linter.unusedVariables false
set_option linter.unusedSimpArgs false
section
set_option maxRecDepth 100000
namespace Go.Pv
open Go.Proofs
def Z3k (f:List (List Mn))(x a:List Ivl)(h:Nm)(p:Int):List Ivl×Int:=
 if j1j f=true/\rightB x=true/\rightB a=true/\x.length=f.length/\a.length=f.length/\Q0h h=true/\ ¬sgnN (ownN h)<=0/\Z0c p=true then
  if (U0a f a p).2=0 then
   if (v0e ⟨default,h⟩ (U0a f a p).1 p).2=0 then opB 0 x (v0e ⟨default,h⟩ (U0a f a p).1 p).1 p else([],(v0e ⟨default,h⟩ (U0a f a p).1 p).2)
  else([],(U0a f a p).2)
 else([],1)
theorem j1z (p:Int)(st:Q0f):PR 143 [.sc (.int .i64 p)] st (.sc (.bool (Z0c p))):=by refine W4y Tryz.func143 fun E=> ?_;by_cases h:8<=p;simp-dsimp only[go_sem,ge_iff_le,h,decide_true];simp[Z0c,h];simp-dsimp only[go_sem,ge_iff_le,h,decide_false];simp[Z0c,h]
theorem Q2b {k:Nat}{a b:List Ivl}{p:Int}(h:(opB k a b p).2=0):(rightB a=true/\rightB b=true/\a.length=b.length/\Z0c p=true)/\(opB k a b p).1.length=a.length/\
 (∀j,j<a.length->(opI k (a.getD j default) (b.getD j default) p).2=0)/\ ∀j,j<a.length->(opB k a b p).1.getD j default=(opI k (a.getD j default) (b.getD j default) p).1:=by
 unfold opB at h⊢;by_cases c:rightB a=true/\rightB b=true/\a.length=b.length/\Z0c p=true;rw[if_pos c,W0c] at h;rw[if_pos c,W0c];exact⟨c,G0g h⟩;rw[if_neg c] at h;exact absurd h (by decide)
theorem V2w {x:Ivl}{b:List Ivl}{p:Int}(h:(v0e x b p).2=0):(rightB b=true/\Q0w x=true/\Z0c p=true)/\(v0e x b p).1.length=b.length/\
 (∀j,j<b.length->(opI 2 x (b.getD j default) p).2=0)/\ ∀j,j<b.length->(v0e x b p).1.getD j default=(opI 2 x (b.getD j default) p).1:=by
 unfold v0e at h⊢;by_cases c:rightB b=true/\Q0w x=true/\Z0c p=true;rw[if_pos c,W0c] at h;rw[if_pos c,W0c];exact⟨c,G0g h⟩;rw[if_neg c] at h;exact absurd h (by decide)
theorem y2o {h:Nm}(hr:Q0h h=true):(¬sgnN (ownN h)<=0)<->0<qN h:=by unfold ownN;rw[if_pos hr,<-G3i];omega
structure NextOK (f:List (List Mn)) (x a:List Ivl) (h:Nm) (p:Int):Prop where
 rf:j1j f=true
 rx:rightB x=true
 ra:rightB a=true
 lx:x.length=f.length
 la:a.length=f.length
 rh:Q0h h=true
 ph:0<qN h
 pp:Z0c p=true
 e1:(U0a f a p).2=0
 e2:(v0e ⟨default,h⟩ (U0a f a p).1 p).2=0
 e3:(opB 0 x (v0e ⟨default,h⟩ (U0a f a p).1 p).1 p).2=0
theorem NextOK.val {f:List (List Mn)}{x a:List Ivl}{h:Nm}{p:Int}(n:NextOK f x a h p):(Z3k f x a h p).1=(opB 0 x (v0e ⟨default,h⟩ (U0a f a p).1 p).1 p).1:=by unfold Z3k;rw[if_pos ⟨n.rf,n.rx,n.ra,n.lx,n.la,n.rh,(y2o n.rh).2 n.ph,n.pp⟩,if_pos n.e1,if_pos n.e2]
theorem y1r {f:List (List Mn)}{a:List Ivl}{p:Int}(h:(U0a f a p).2=0):(j1j f=true/\a.length=f.length)/\(U0a f a p).1.length=f.length/\ ∀j,j<f.length->(U0a f a p).1.getD j default=(v0g (f.getD j []) a p (f.getD j []).length).1/\(v0g (f.getD j []) a p (f.getD j []).length).2=0:=by unfold U0a at h⊢;by_cases c:j1j f=true/\a.length=f.length;rw[if_pos c] at h⊢;obtain⟨g1,g2,g3⟩:=G0g h;refine⟨c,g1,fun j hj=> ?_⟩;have e:=g2 j hj;rw[g3 j hj];show(J2b (f.getD j []) a p).1=_/\_;replace e:(J2b (f.getD j []) a p).2=0:=e;unfold J2b at e⊢;split at e;rename_i d;rw[if_pos d];exact⟨rfl,e⟩;exact absurd e (by decide);rw[if_neg c] at h;exact absurd h (by decide)
structure NextAt (f:List (List Mn)) (x a:List Ivl) (h:Nm) (p:Int) (j:Nat):Prop where
 r0:(v0g (f.getD j []) a p (f.getD j []).length).2=0
 t0:(opI 2 ⟨default,h⟩ (v0g (f.getD j []) a p (f.getD j []).length).1 p).2=0
 s0:(opI 0 (x.getD j default) (opI 2 ⟨default,h⟩ (v0g (f.getD j []) a p (f.getD j []).length).1 p).1 p).2=0
 val:(Z3k f x a h p).1.getD j default=(opI 0 (x.getD j default) (opI 2 ⟨default,h⟩ (v0g (f.getD j []) a p (f.getD j []).length).1 p).1 p).1
theorem NextOK.at {f:List (List Mn)}{x a:List Ivl}{h:Nm}{p:Int}(n:NextOK f x a h p){j:Nat}(hj:j<f.length):NextAt f x a h p j:=by obtain⟨_,r1,r2⟩:=y1r n.e1;obtain⟨r3,r4⟩:=r2 j hj;obtain⟨_,t1,t2,t3⟩:=V2w n.e2;obtain⟨_,s1,s2,s3⟩:=Q2b n.e3;have t2:=t2 j oG;have t3:=t3 j oG;have s2:=s2 j (by rw[n.lx];exact hj);have s3:=s3 j (by rw[n.lx];exact hj);rw[r3] at t2 t3;rw[t3] at s2 s3;exact⟨r4,t2,s2,by rw[n.val];exact s3⟩
theorem G0n {k:Nat}{a b:List Ivl}{p:Int}(h:(opB k a b p).2=0):rightB (opB k a b p).1=true:=by obtain⟨c,l,_,v⟩:=Q2b h;have:=Y0b c.1;exact U0v (fun j hj=>by rw[v j oG];exact G0y _ _ _ _) oG oG
theorem NextOK.rightB {f:List (List Mn)}{x a:List Ivl}{h:Nm}{p:Int}(n:NextOK f x a h p):Go.Pv.rightB (Z3k f x a h p).1=true:=by rw[n.val];exact G0n n.e3
theorem W2t {k:Nat}{a b:Nm}{p:Int}{up:Bool}(h:(Q0t k a b p up).2=0):Q0h a=true/\Q0h b=true/\Z0c p=true:=by unfold Q0t at h;split at h;assumption;exact absurd h (by decide)
theorem G0x {k:Nat}{a b:Nm}{p:Int}{up:Bool}(h:(Q0t k a b p up).2=0):qN (Q0t k a b p up).1=qV (Z0p (exV k (ofN a) (ofN b)) p.toNat up):=by have c:=W2t h;unfold Q0t at h⊢;rw[if_pos c] at h⊢;exact(H0y (V0d (Z2p k (Y0q c.1) (Y0q c.2.1)) _ _) h).2
theorem v3b (e:Int):p2 e=qM 1 e:=by simp[qM]
theorem H3d {a b:Int}(h:a<=b):p2 a<=p2 b:=by rw[v3b,v3b,show b=a+((b-a).toNat:Int) from oG,<-H0v,qM_le];have:0<(2:Int)^(b-a).toNat:=Int.pow_pos (by decide);omega
def magQ (e:Int)(x:Rat):Prop:= -(p2 e)<=x/\x<=p2 e
theorem magQ.up {e g:Int}{x:Rat}(h:magQ e x)(he:e<=g):magQ g x:=by have:=H3d he;exact⟨by have:=h.1;grind,by have:=h.2;grind⟩
def ampI (e:Int)(a:Ivl):Prop:=magQ e (qN a.lo)/\magQ e (qN a.hi)
theorem ampI.up {e g:Int}{a:Ivl}(h:ampI e a)(he:e<=g):ampI g a:=⟨h.1.up he,h.2.up he⟩
def H3k (n M:Nat)(D:Int)(p:List Mn):Prop:=X2t p n=true/\p.length<=M/\ ∀m∈p,okMn n 6 (8+M) D m
def okFieldT (n M:Nat)(D:Int)(f:List (List Mn)):Prop:=f.length=n/\ ∀p∈f,H3k n M D p
theorem okFieldT.at {n M:Nat}{D:Int}{f:List (List Mn)}(h:okFieldT n M D f){i j:Nat}(hi:i<f.length)(hj:j<(f.getD i []).length):okMn n 6 (8+M) D ((f.getD i []).getD j default):=by have e:f.getD i []=f[i]:=(by simp[q_a,hi]);rw[e] at hj⊢;exact k1v (h.2 _ (List.getElem_mem hi)).2.2 hj
theorem U2z {E:Ent}(s:PFS)(t i len cap:Nat)(ht:s.pa.getD t .junk= .mr i len cap)(hl:0<len):Weak E s { s with pa:=s.pa.set t (.ms false i 0 len) } :=by
 intro a w g F h;refine⟨g,F,h.ext,h.store,h.frame,h.defers,by simp[h.len],fun k hk=> ?_⟩;simp only[List.length_set] at hk⊢;by_cases e:t=k;subst e;rw[Q0s _ _ _ _ hk];have:=h.tmps t hk;rw[ht] at this;generalize a.tmps.getD t undef=v at this⊢;cases this with
 | base _ _ h'=>cases h'
 | lmr _ _ _ hi hcap=>exact .lms i 0 len cap hi hcap
 | lmr0 _ _ _=>omega
 rw[Q0l _ _ _ _ _ e];exact h.tmps k hk
theorem Q3o {P:Program}{E:Ent}{c:Code}{Q:Exit->PFS->Prop}{s:PFS}(t i len cap:Nat)(ht:s.pa.getD t .junk= .mr i len cap)(hl:0<len)(h:PWP P E c Q { s with pa:=s.pa.set t (.ms false i 0 len) }):PWP P E c Q s:=K0l (U2z s t i len cap ht hl) h
section
variable {w:World} {g g':Gh} {F:Fr} {T:List (Nat×Nat)} {k sz:Nat} {cs:List PV}
end
section
variable {k sz:Nat} {cs:List PV}
end
def tI (a:Ivl):Prop:=smI a/\luI 6 8 a
def uwV (v:Value):Prop:= ∃x,v= .int .u64 x\/v= .int .u32 x
inductive Wordy :PV->Prop
 | sc (v:Value):Wordy (.sc v)
 | agg (cs:List PV) (h: ∀c∈cs,Wordy c):Wordy (.agg cs)
 | tup (cs:List PV) (h: ∀c∈cs,Wordy c):Wordy (.tup cs)
 | sl (es:List PV) (h: ∀j,j<es.length-> ∃x,uwV x/\es.getD j .junk= .sc x):Wordy (.sl .no es)
theorem Wordy.turn {w:World}{g g':Gh}(hv: ∀b off x,uwV x->off<g.vis b->w.cell? ⟨b,off,none⟩=some x->g'.vis b=g.vis b): ∀ {p:PV},Wordy p-> ∀ {v:Value},Rep w g v p->Rep w g' v p:=by
 intro p hp
 induction hp with
 | sc v=>intro v' h;cases h;exact .sc _
 | agg cs hc ih=>intro v h;cases h with | agg vs _ hl h=>exact .agg vs cs hl fun j hj=>ih _ (Q0r _ _ _ hj) (h j hj)
 | tup cs hc ih=>intro v h;cases h with | tup vs _ hl h=>exact .tup vs cs hl fun j hj=>ih _ (Q0r _ _ _ hj) (h j hj)
 | sl es hes=>
  intro v h;cases h with
  | nil t ad ht=>exact .nil _ _ rfl
  | sl t es b off sz cap cf ht hfull hcap hsz hvis hc hr=>
   by_cases h0:es= [];subst h0;exact .sl _ [] b off sz cap cf rfl hfull hcap hsz (fun h=>by simp at h) (fun i j hi=>by simp at hi) (fun i j hi=>by simp at hi);have hl:0<es.length:=List.length_pos_iff.2 h0;have hs:sz=1:=by have h1:=hsz 0 hl;obtain⟨x,_,hx⟩:=hes 0 hl;rw[hx] at h1;exact h1.symm
   subst hs;have hvb:g'.vis b=g.vis b:=by have h1:=hr 0 0 hl oG;have h2:=hc 0 0 hl oG;obtain⟨x,hxw,hx⟩:=hes 0 hl;rw[hx] at h1;rw[show cf 0 0=x from Rep.sc_inv h1] at h2;exact hv b (off+0*1+0) x hxw (by have:=hvis hl;omega) h2
   refine .sl _ es b off 1 cap cf rfl hfull hcap hsz (by rw[hvb];exact hvis) hc fun i j hi hj=> ?_;have h1:=hr i j hi hj;have h3:j=0:=oG;subst h3;obtain⟨x,_,hx⟩:=hes i hi;rw[hx] at h1⊢;rw[show cf i 0=x from Rep.sc_inv h1];exact .sc _
theorem Low.mk {p:PV}(h:Low 0 p){w:World}{g:Gh}{v:Value}(vis:Nat->Nat)(hv: ∀b,g.vis b<=vis b)(hr:Rep w g v p):Rep w ⟨0,fun _=>0,vis⟩ v p:=
 Rep.mono (w:=w) (g:= { g with n:=0 }) (w':=w) (g':=⟨0,fun _=>0,vis⟩) ⟨Nat.le_refl 0,fun i hi=>absurd hi (Nat.not_lt_zero _),hv,fun _ _ _ _ hc=>hc⟩ (h w g v hr (Nat.zero_le _))
section
variable {P:Program} {E:Ent} {a:Act} {w:World} {g:Gh} {F:Fr} {s:PFS} {e:List Nat}
theorem Wordy.res {B:Nat}{w:World}{g:Gh}{v:Value}{R:PV}(hw:Wordy R):RepRes B w g v R=Rep w g v R:=by cases hw<;>rfl
end
section
variable {P:Program} {E:Ent} {a:Act} {w:World} {g:Gh} {F:Fr} {s:PFS} {e:List Nat}
end
section
variable {P:Program} {s:PFS} {K:PFS->Prop} {d:Option Tmp} {ty:TypeId} {pos:String} {af:Array Edge} {e:List Nat}
end
section
variable {P:Program} {E:Ent} {a:Act} {w:World} {g:Gh} {F:Fr} {s:PFS}
end
section
variable {P:Program} {E:Ent} {a:Act} {w:World} {g:Gh} {F:Fr} {s:PFS}
end
section
variable {P:Program} {s:PFS} {K:PFS->Prop} {d:Option Tmp} {ty:TypeId} {pos:String} {af:Array Edge}
end
inductive Tame :PV->Prop
 | sc (v:Value):Tame (.sc v)
 | agg {cs:List PV} (h: ∀c∈cs,Tame c):Tame (.agg cs)
 | sl {t:Tag} {es:List PV} (h: ∀e∈es,Tame e):Tame (.sl t es)
theorem Tame.low {p:PV}(h:Tame p)(n:Nat):Low n p/\ ∀c∈p.cells,Low n c:=by
 induction h with
 | sc v=>exact⟨Y3a n v,fun c hc=>by rw[List.mem_singleton.1 hc];exact Y3a n v⟩
 | agg h ih=>exact⟨q3a fun c hc=>(ih c hc).1,fun c hc=>(ih c hc).1⟩
 | @sl t es h ih=>
  have:=v3t (n:=n) (t:=t) fun e he c hc=>(ih e he).2 c hc;exact⟨this,fun c hc=>by rw[List.mem_singleton.1 hc];exact this⟩
theorem G2j (t:Tag)(w:List UInt64):Tame (.sl t (encW w)):= .sl fun e he=>by simp only[encW,List.mem_map] at he;obtain⟨x,_,rfl⟩:=he;exact .sc _
theorem U1i (x:Nm): ∀c∈encN x,Tame c:=fun c hc=>by simp only[encN,List.mem_cons,List.not_mem_nil,or_false] at hc;rcases hc with rfl | rfl | rfl;exact .sc _;exact .sc _;exact G2j _ _
theorem W3j (x:Ivl): ∀c∈encI x,Tame c:=fun c hc=>by have hc:c∈encN x.lo++encN x.hi:=hc;rcases List.mem_append.1 hc with hc | hc;exact U1i _ _ hc;exact U1i _ _ hc
theorem G3b (t:Tag)(l:List Ivl):Tame (.sl t (Q0z l)):= .sl fun e he=>by simp only[Q0z,List.mem_map] at he;obtain⟨x,_,rfl⟩:=he;exact .agg (W3j x)
theorem k3c (t:Tag)(l:List (List Ivl)):Tame (.sl t (encM l)):= .sl fun e he=>by simp only[encM,List.mem_map] at he;obtain⟨x,_,rfl⟩:=he;exact G3b _ x
theorem U3i (w:List UInt64):Wordy (.sl .no (encW w)):= .sl _ fun j hj=>by have hj':j<w.length:=(by simpa[encW] using hj);exact⟨_,⟨_,.inl rfl⟩,by simp only[encW,q_a,List.getElem?_map,List.getElem?_eq_getElem hj'];rfl⟩
theorem U2t (x:Nm): ∀c∈encN x,Wordy c:=fun c hc=>by simp only[encN,List.mem_cons,List.not_mem_nil,or_false] at hc;rcases hc with rfl | rfl | rfl;exact .sc _;exact .sc _;exact U3i _
theorem Q3i {N B:Nat}(hB:0<B)(j:Int):2*j<=((2*(N/B)+(if N % B=0 then 0 else 1):Nat):Int)<->j*B<=(N:Int):=by
 have h3:j<=((N/B:Nat):Int)<->j*B<=(N:Int):=by rw[Int.natCast_ediv];exact Int.le_ediv_iff_mul_le oG
 rw[<-h3];generalize N/B=F;split<;>omega
theorem Q3h {N B:Nat}(hB:0<B)(j:Int):2*j<= -((2*(N/B)+(if N % B=0 then 0 else 1):Nat):Int)<->j*B<= -(N:Int):=by
 have h1:=Nat.div_add_mod N B;have h2:=Nat.mod_lt N hB;generalize N/B=F at*
 generalize N % B=r at*
 have hB':(0:Int)<B:=(by exact_mod_cast hB);have h1':(B:Int)*F+r=N:=(by exact_mod_cast h1);have h2':(r:Int)<B:=(by exact_mod_cast h2);clear h1 h2;have up: ∀i:Int,i<=j->i*B<=j*B:=fun i hi=>Int.mul_le_mul_of_nonneg_right hi (Int.le_of_lt hB');have dn: ∀i:Int,j<=i->j*B<=i*B:=fun i hi=>Int.mul_le_mul_of_nonneg_right hi (Int.le_of_lt hB');have e0: -(F:Int)*B= -((B:Int)*F):=(by rw[Int.neg_mul,Int.mul_comm]);have e1:(-(F:Int)-1)*B= -((B:Int)*F)-B:=(by rw[Int.sub_mul,e0,Int.one_mul]);have e2:(-(F:Int)+1)*B= -((B:Int)*F)+B:=(by rw[Int.add_mul,e0,Int.one_mul]);generalize (B:Int)*F=Z at*
 have u0:=up (-(F:Int));have u2:=up (-(F:Int)+1);have d0:=dn (-(F:Int));have d1:=dn (-(F:Int)-1);rw[e0] at u0 d0;rw[e1] at d1;rw[e2] at u2;generalize j*(B:Int)=W at*
 clear up dn e0 e1 e2;split;constructor;intro h;have:=d0 oG;omega;intro h;refine Int.not_lt.1 fun hn=> ?_;have:=u2 oG;omega;constructor;intro h;have:=d1 oG;omega;intro h;refine Int.not_lt.1 fun hn=> ?_;have:=u0 oG;omega
theorem q3u {p:Nat}{x:Rat}(h:z1b p x)(g:Int):(∃j:Int,x=qM j g)\/(qM (-((2^p:Nat):Int)) g<=x/\x<=qM ((2^p:Nat):Int) g):=by
 obtain⟨m,e,rfl,hm⟩:=h;by_cases he:g<=e;exact .inl ⟨_,j1w m e g he⟩;right;have hpos:(1:Int)<=2^(g-e).toNat:=by
  have:0<2^(g-e).toNat:=Nat.two_pow_pos _
  exact_mod_cast this
 rw[j1w _ g e oG,j1w _ g e oG,qM_le,qM_le,Int.neg_mul];generalize 2^p=P at*
 have h1:(P:Int)<=P*2^(g-e).toNat:=by
  calc (P:Int)=P*1:=(Int.mul_one _).symm
   _<=_:=Int.mul_le_mul_of_nonneg_left hpos (Int.natCast_nonneg _)
 generalize (P:Int)*2^(g-e).toNat=Z at*
 omega
theorem Z3s {A B p:Nat}(hA:A≠0):2^(p+1)*B<=A*2^K0y A B p:=by
 have h1:=z0x hA;have h2:=Nat.le_of_lt (Z0h B);have h0:1<=Q0i A:=(by unfold Q0i;rw[if_neg hA];omega);unfold K0y
 calc 2^(p+1)*B<=2^(p+1)*2^Q0i B:=Nat.mul_le_mul_left _ h2
  _=2^(p+1+Q0i B):=by rw[<-Nat.pow_add]
  _<=2^((Q0i A-1)+(p+2+Q0i B-Q0i A)):=Nat.pow_le_pow_right (by decide) oG
  _=2^(Q0i A-1)*2^(p+2+Q0i B-Q0i A):=Nat.pow_add ..
  _<=A*2^(p+2+Q0i B-Q0i A):=Nat.mul_le_mul_right _ h1
theorem k3m {a b:Vl}{p:Nat}(hb:b.neg=false)(hB:0<b.m){x:Rat}(hx:z1b p x):x<=qV (ratV a b p)<->x*qV b<=qV a:=by
 have hqb:qV b=qM (b.m:Int) b.e:=by unfold qV J0m;rw[hb];rfl
 have hb0:0<qV b:=by rw[hqb,<-J0v b.e,qM_lt];omega
 by_cases hA:a.m=0;have e1:qV (ratV a b p)=0:=(by unfold ratV;rw[if_pos hA];exact J0v 0);rw[e1,Y1w hA];constructor;intro h;have:=Rat.mul_le_mul_of_nonneg_right h (Rat.le_of_lt hb0);rwa [Rat.zero_mul] at this;intro h;exact Rat.le_of_mul_le_mul_right (by rwa [Rat.zero_mul]) hb0;obtain⟨t,ht⟩: ∃t,K0y a.m b.m p=t:=⟨_,rfl⟩;have big:=Z3s (B:=b.m) (p:=p) hA;rw[ht] at big;have hv:qV (ratV a b p)=qM (if a.neg=true then -((2*(a.m*2^t/b.m)+(if a.m*2^t % b.m=0 then 0 else 1):Nat):Int) else((2*(a.m*2^t/b.m)+(if a.m*2^t % b.m=0 then 0 else 1):Nat):Int)) (a.e-b.e-(t:Int)-1):=by unfold ratV v0s;rw[if_neg hA,y0o,hb,ht,Bool.bne_false]
 have ha:qV a=qM (if a.neg=true then -((a.m*2^t:Nat):Int) else((a.m*2^t:Nat):Int)) (a.e-(t:Int)):=by
  have e1:(if a.neg=true then -((a.m*2^t:Nat):Int) else((a.m*2^t:Nat):Int))=J0m a*2^t:=by unfold J0m;cases a.neg<;>simp[Int.neg_mul]
  rw[e1,H0v];unfold qV;congr 1;omega
 rw[hqb] at hb0;rw[hv,ha,hqb];generalize a.m*2^t=N at*
 have hg: ∀j:Int,qM j (a.e-b.e-(t:Int))*qM (b.m:Int) b.e=qM (j*b.m) (a.e-(t:Int)):=fun j=>by rw[<-q2e];congr 1;omega
 have hg2: ∀j:Int,qM j (a.e-b.e-(t:Int))=qM (2*j) (a.e-b.e-(t:Int)-1):=fun j=>by rw[Int.mul_comm,show(2:Int)=2^1 from rfl,H0v];congr 1;omega
 rcases q3u hx (a.e-b.e-(t:Int)) with ⟨j,rfl⟩ | ⟨l1,l2⟩;rw[hg,hg2,qM_le,qM_le];cases a.neg;exact Q3i hB j;exact Q3h hB j;have hF:2^(p+1)<=N/b.m:=(Nat.le_div_iff_mul_le hB).2 big;have hP:=Nat.two_pow_pos p;rw[Nat.pow_succ] at hF big;generalize 2^p=P at*
 have big2:2*((P:Int)*b.m)<=N:=by
  have:P*2*b.m<=N:=big;have e:P*2*b.m=2*(P*b.m):=(by rw[Nat.mul_comm P 2,Nat.mul_assoc]);rw[e] at this
  exact_mod_cast this
 have hPB:(0:Int)<(P:Int)*b.m:=by
  have:=Nat.mul_pos hP hB
  exact_mod_cast this
 cases hn:a.neg;rw[if_neg Bool.false_ne_true,if_neg Bool.false_ne_true];refine⟨fun _=> ?_,fun _=> ?_⟩;refine Rat.le_trans (Rat.mul_le_mul_of_nonneg_right l2 (Rat.le_of_lt hb0)) ?_;rw[hg,qM_le];omega;refine Rat.le_trans l2 ?_;rw[hg2,qM_le];omega;rw[if_pos rfl,if_pos rfl];constructor;intro h;exfalso;have:=Rat.le_trans l1 h;rw[hg2,qM_le] at this;omega;intro h;exfalso;have:=Rat.le_trans (Rat.mul_le_mul_of_nonneg_right l1 (Rat.le_of_lt hb0)) h;rw[hg,qM_le,Int.neg_mul] at this;omega
theorem w2x (a:Vl){b:Vl}(p:Nat)(hb:b.neg=false):qV (ratV (V0j a) b p)= -qV (ratV a b p):=by by_cases h0:a.m=0;have e:V0j a=a:=(by unfold V0j;rw[if_pos h0]);have e1:qV (ratV a b p)=0:=(by unfold ratV;rw[if_pos h0];exact J0v 0);rw[e,e1];rfl;have e3:(V0j a).neg= !a.neg:=(by unfold V0j;rw[if_neg h0]);unfold ratV;rw[Z1e,Z1f,e3,if_neg h0,if_neg h0,y0o,y0o,<-X1w,hb];congr 1;cases a.neg<;>simp
theorem v1a {p:Nat}{x:Rat}(hx:z1b p x):z1b p (-x):=by obtain⟨m,e,rfl,h⟩:=hx;exact⟨-m,e,(X1w _ _).symm,by rw[Int.natAbs_neg];exact h⟩
theorem k3n {a b:Vl}{p:Nat}(hb:b.neg=false)(hB:0<b.m){x:Rat}(hx:z1b p x):qV (ratV a b p)<=x<->qV a<=x*qV b:=by have:=k3m (a:=V0j a) hb hB (v1a hx);rw[w2x a p hb,q0m,Rat.neg_mul] at this;constructor;intro h;have:=this.1 (by grind);grind;intro h;have:=this.2 (by grind);grind
theorem q3s (v:Vl)(p:Nat):z1b p (qV (Z0p v p true)):=by rw[W2k];exact v1a (q3t _ _)
theorem w2y {α:Type}(d:α)(l:List α){i:Nat}(h:i<l.length):l.take (i+1)=l.take i++ [l.getD i d]:=by rw[List.take_succ_eq_append_getElem h];simp[q_a,h]
def e02 (e:Int):Prop:=e=0\/e=2
theorem z1g {β:Type}{G:Nat->β×Int} : ∀(k i:Nat) (acc:List β),(∀j,i<=j->j<i+k->e02 (G j).2)->e02 (tabF G i k acc).2
 | 0,i,acc,_=> .inl rfl
 | k+1,i,acc,h=>by simp only[tabF];split;exact h i oG oG;exact z1g k _ _ fun j h1 h2=>h j oG oG
end Go.Pv
end
