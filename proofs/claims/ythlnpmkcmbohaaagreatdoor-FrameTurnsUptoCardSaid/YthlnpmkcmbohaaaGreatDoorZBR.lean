/- Parts of the walk: N66, N67, N68, N69, N70, N71, N72, M59, M52, M53, M54, PvAu, N78, PvAv, PvAw, PvAx, PvAy, M65, M66, M68, M69, M70. -/
import Derived.Test.YthlnpmkcmbohaaaGreatDoorZBQ
import Derived.Test.YthlnpmkcmbohaaaGreatDoorZBE
set_option linter.unusedVariables false
set_option linter.unusedSimpArgs false
section
set_option maxRecDepth 100000
namespace Go.Pv
open Go.Proofs
def Z1r (f:List (List Mn))(x a:List Ivl)(h:Nm)(p:Int):List Ivl×Int:=
 if kR f=true/\rightB x=true/\rightB a=true/\x.length=f.length/\a.length=f.length/\Qg h=true/\ ¬Va (kf h)<=0/\Q4 p=true then
  if (JE f a p).2=0 then
   if (YA ⟨default,h⟩ (JE f a p).1 p).2=0 then opB 0 x (YA ⟨default,h⟩ (JE f a p).1 p).1 p else([],(YA ⟨default,h⟩ (JE f a p).1 p).2)
  else([],(JE f a p).2)
 else([],1)
theorem q0q {k:Nat}{a b:List Ivl}{p:Int}(h:(opB k a b p).2=0):(rightB a=true/\rightB b=true/\a.length=b.length/\Q4 p=true)/\(opB k a b p).1.length=a.length/\
 (∀j,j<a.length->(opI k (a.getD j default) (b.getD j default) p).2=0)/\ ∀j,j<a.length->(opB k a b p).1.getD j default=(opI k (a.getD j default) (b.getD j default) p).1:=by
 unfold opB at h⊢;by_cases c:rightB a=true/\rightB b=true/\a.length=b.length/\Q4 p=true;rw[BC c,Ku] at h;rw[BC c,Ku];exact⟨c,Js h⟩;rw[BA c] at h;exact absurd h (by decide)
theorem V0k {x:Ivl}{b:List Ivl}{p:Int}(h:(YA x b p).2=0):(rightB b=true/\Qs x=true/\Q4 p=true)/\(YA x b p).1.length=b.length/\
 (∀j,j<b.length->(opI 2 x (b.getD j default) p).2=0)/\ ∀j,j<b.length->(YA x b p).1.getD j default=(opI 2 x (b.getD j default) p).1:=by
 unfold YA at h⊢;by_cases c:rightB b=true/\Qs x=true/\Q4 p=true;rw[BC c,Ku] at h;rw[BC c,Ku];exact⟨c,Js h⟩;rw[BA c] at h;exact absurd h (by decide)
theorem y0w {h:Nm}(hr:Qg h=true):(¬Va (kf h)<=0)<->0<qN h:=by unfold kf;rw[BC hr,<-G1s];omega
structure NextOK (f:List (List Mn)) (x a:List Ivl) (h:Nm) (p:Int):Prop where
 rf:kR f=true
 rx:rightB x=true
 ra:rightB a=true
 lx:x.length=f.length
 la:a.length=f.length
 rh:Qg h=true
 ph:0<qN h
 pp:Q4 p=true
 e1:(JE f a p).2=0
 e2:(YA ⟨default,h⟩ (JE f a p).1 p).2=0
 e3:(opB 0 x (YA ⟨default,h⟩ (JE f a p).1 p).1 p).2=0
theorem NextOK.val {f:List (List Mn)}{x a:List Ivl}{h:Nm}{p:Int}(n:NextOK f x a h p):(Z1r f x a h p).1=(opB 0 x (YA ⟨default,h⟩ (JE f a p).1 p).1 p).1:=by unfold Z1r;rw[BC ⟨n.rf,n.rx,n.ra,n.lx,n.la,n.rh,(y0w n.rh).2 n.ph,n.pp⟩,BC n.e1,BC n.e2]
theorem yG {f:List (List Mn)}{a:List Ivl}{p:Int}(h:(JE f a p).2=0):(kR f=true/\a.length=f.length)/\(JE f a p).1.length=f.length/\ ∀j,j<f.length->(JE f a p).1.getD j default=(YD (f.getD j []) a p (f.getD j []).length).1/\(YD (f.getD j []) a p (f.getD j []).length).2=0:=by unfold JE at h⊢;by_cases c:kR f=true/\a.length=f.length;rw[BC c] at h⊢;obtain⟨g1,g2,g3⟩:=Js h;refine⟨c,g1,fun j hj=> ?_⟩;have e:=g2 j hj;rw[g3 j hj];show(X0y (f.getD j []) a p).1=_/\_;replace e:(X0y (f.getD j []) a p).2=0:=e;unfold X0y at e⊢;split at e;rename_i d;rw[BC d];exact⟨rfl,e⟩;exact absurd e (by decide);rw[BA c] at h;exact absurd h (by decide)
structure NextAt (f:List (List Mn)) (x a:List Ivl) (h:Nm) (p:Int) (j:Nat):Prop where
 r0:(YD (f.getD j []) a p (f.getD j []).length).2=0
 t0:(opI 2 ⟨default,h⟩ (YD (f.getD j []) a p (f.getD j []).length).1 p).2=0
 s0:(opI 0 (x.getD j default) (opI 2 ⟨default,h⟩ (YD (f.getD j []) a p (f.getD j []).length).1 p).1 p).2=0
 val:(Z1r f x a h p).1.getD j default=(opI 0 (x.getD j default) (opI 2 ⟨default,h⟩ (YD (f.getD j []) a p (f.getD j []).length).1 p).1 p).1
theorem NextOK.at {f:List (List Mn)}{x a:List Ivl}{h:Nm}{p:Int}(n:NextOK f x a h p){j:Nat}(hj:j<f.length):NextAt f x a h p j:=by obtain⟨_,r1,r2⟩:=yG n.e1;obtain⟨r3,r4⟩:=r2 j hj;obtain⟨_,t1,t2,t3⟩:=V0k n.e2;obtain⟨_,s1,s2,s3⟩:=q0q n.e3;have t2:=t2 j oG;have t3:=t3 j oG;have s2:=s2 j (by rw[n.lx];exact hj);have s3:=s3 j (by rw[n.lx];exact hj);rw[r3] at t2 t3;rw[t3] at s2 s3;exact⟨r4,t2,s2,by rw[n.val];exact s3⟩
theorem GY {k:Nat}{a b:List Ivl}{p:Int}(h:(opB k a b p).2=0):rightB (opB k a b p).1=true:=by obtain⟨c,l,_,v⟩:=q0q h;have:=Jk c.1;exact Xj (fun j hj=>by rw[v j oG];exact JT _ _ _ _) oG oG
theorem NextOK.rightB {f:List (List Mn)}{x a:List Ivl}{h:Nm}{p:Int}(n:NextOK f x a h p):Go.Pv.rightB (Z1r f x a h p).1=true:=by rw[n.val];exact GY n.e3
theorem GS {k:Nat}{a b:Nm}{p:Int}{up:Bool}(h:(Qv k a b p up).2=0):Qg a=true/\Qg b=true/\Q4 p=true:=by unfold Qv at h;split at h;assumption;exact absurd h (by decide)
theorem Jw {k:Nat}{a b:Nm}{p:Int}{up:Bool}(h:(Qv k a b p up).2=0):qN (Qv k a b p up).1=qV (QX (exV k (ofN a) (ofN b)) p.toNat up):=by have c:=GS h;unfold Qv at h⊢;rw[BC c] at h⊢;exact(ZA (QW (WR k (QR c.1) (QR c.2.1)) _ _) h).2
def H1p (n M:Nat)(D:Int)(p:List Mn):Prop:=X0u p n=true/\p.length<=M/\ ∀m∈p,Z2j n 6 (8+M) D m
def okFieldT (n M:Nat)(D:Int)(f:List (List Mn)):Prop:=f.length=n/\ ∀p∈f,H1p n M D p
theorem okFieldT.at {n M:Nat}{D:Int}{f:List (List Mn)}(h:okFieldT n M D f){i j:Nat}(hi:i<f.length)(hj:j<(f.getD i []).length):Z2j n 6 (8+M) D ((f.getD i []).getD j default):=by have e:f.getD i []=f[i]:=(by simp[q_a,hi]);rw[e] at hj⊢;exact vN (h.2 _ (ED hi)).2.2 hj
theorem U0v {E:Ent}(s:PFS)(t i len cap:Nat)(ht:s.pa.getD t .junk= .mr i len cap)(hl:0<len):U0f E s { s with pa:=s.pa.set t (.ms false i 0 len) } :=by
 intro a w g F h;refine⟨g,F,h.ext,h.store,h.frame,h.defers,by simp[h.len],fun k hk=> ?_⟩;simp only[BL] at hk⊢;by_cases e:t=k;subst e;rw[Qt _ _ _ _ hk];have:=h.tmps t hk;rw[ht] at this;generalize a.tmps.getD t undef=v at this⊢;cases this with
 | base _ _ h'=>cases h'
 | lmr _ _ _ hi hcap=>exact .lms i 0 len cap hi hcap
 | lmr0 _ _ _=>omega
 rw[Qo _ _ _ _ _ e];exact h.tmps k hk
theorem Q1s {P:Program}{E:Ent}{c:Code}{Q:Exit->PFS->Prop}{s:PFS}(t i len cap:Nat)(ht:s.pa.getD t .junk= .mr i len cap)(hl:0<len)(h:PWP P E c Q { s with pa:=s.pa.set t (.ms false i 0 len) }):PWP P E c Q s:=Xv (U0v s t i len cap ht hl) h
section
variable {w:World} {g g':Gh} {F:Fr} {T:List (Nat×Nat)} {k sz:Nat} {cs:List PV}
end
section
variable {k sz:Nat} {cs:List PV}
end
def tI (a:Ivl):Prop:=smI a/\luI 6 8 a
def uwV (v:Value):Prop:= ∃x,v= .int .u64 x\/v= .int .u32 x
inductive Wordy :PV->Prop
 | sc (v:Value):Wordy (.sc v)
 | agg (cs:List PV) (h: ∀c∈cs,Wordy c):Wordy (.agg cs)
 | tup (cs:List PV) (h: ∀c∈cs,Wordy c):Wordy (.tup cs)
 | sl (es:List PV) (h: ∀j,j<es.length-> ∃x,uwV x/\es.getD j .junk= .sc x):Wordy (.sl .no es)
theorem Wordy.turn {w:World}{g g':Gh}(hv: ∀b off x,uwV x->off<g.vis b->w.cell? ⟨b,off,none⟩=some x->g'.vis b=g.vis b): ∀ {p:PV},Wordy p-> ∀ {v:Value},Rep w g v p->Rep w g' v p:=by
 intro p hp
 induction hp with
 | sc v=>intro v' h;cases h;exact .sc _
 | agg cs hc ih=>intro v h;cases h with | agg vs _ hl h=>exact .agg vs cs hl fun j hj=>ih _ (Qq _ _ _ hj) (h j hj)
 | tup cs hc ih=>intro v h;cases h with | tup vs _ hl h=>exact .tup vs cs hl fun j hj=>ih _ (Qq _ _ _ hj) (h j hj)
 | sl es hes=>
  intro v h;cases h with
  | nil t ad ht=>exact .nil _ _ rfl
  | sl t es b off sz cap cf ht hfull hcap hsz hvis hc hr=>
   by_cases h0:es= [];subst h0;exact .sl _ [] b off sz cap cf rfl hfull hcap hsz (fun h=>by simp at h) (fun i j hi=>by simp at hi) (fun i j hi=>by simp at hi);have hl:0<es.length:=EN.2 h0;have hs:sz=1:=by have h1:=hsz 0 hl;obtain⟨x,_,hx⟩:=hes 0 hl;rw[hx] at h1;exact h1.symm
   subst hs;have hvb:g'.vis b=g.vis b:=by have h1:=hr 0 0 hl oG;have h2:=hc 0 0 hl oG;obtain⟨x,hxw,hx⟩:=hes 0 hl;rw[hx] at h1;rw[show cf 0 0=x from Rep.sc_inv h1] at h2;exact hv b (off+0*1+0) x hxw (by have:=hvis hl;omega) h2
   refine .sl _ es b off 1 cap cf rfl hfull hcap hsz (by rw[hvb];exact hvis) hc fun i j hi hj=> ?_;have h1:=hr i j hi hj;have h3:j=0:=oG;subst h3;obtain⟨x,_,hx⟩:=hes i hi;rw[hx] at h1⊢;rw[show cf i 0=x from Rep.sc_inv h1];exact .sc _
theorem Low.mk {p:PV}(h:Low 0 p){w:World}{g:Gh}{v:Value}(vis:Nat->Nat)(hv: ∀b,g.vis b<=vis b)(hr:Rep w g v p):Rep w ⟨0,fun _=>0,vis⟩ v p:=
 Rep.mono (w:=w) (g:= { g with n:=0 }) (w':=w) (g':=⟨0,fun _=>0,vis⟩) ⟨BD 0,fun i hi=>absurd hi (CD _),hv,fun _ _ _ _ hc=>hc⟩ (h w g v hr (CX _))
section
variable {P:Program} {E:Ent} {a:Act} {w:World} {g:Gh} {F:Fr} {s:PFS} {e:List Nat}
theorem Wordy.res {B:Nat}{w:World}{g:Gh}{v:Value}{R:PV}(hw:Wordy R):RepRes B w g v R=Rep w g v R:=by cases hw<;>rfl
end
section
variable {P:Program} {E:Ent} {a:Act} {w:World} {g:Gh} {F:Fr} {s:PFS} {e:List Nat}
end
section
variable {P:Program} {s:PFS} {K:PFS->Prop} {d:Option Tmp} {ty:TypeId} {pos:String} {af:Array Edge} {e:List Nat}
end
section
variable {P:Program} {E:Ent} {a:Act} {w:World} {g:Gh} {F:Fr} {s:PFS}
end
section
variable {P:Program} {E:Ent} {a:Act} {w:World} {g:Gh} {F:Fr} {s:PFS}
end
section
variable {P:Program} {s:PFS} {K:PFS->Prop} {d:Option Tmp} {ty:TypeId} {pos:String} {af:Array Edge}
end
inductive Tame :PV->Prop
 | sc (v:Value):Tame (.sc v)
 | agg {cs:List PV} (h: ∀c∈cs,Tame c):Tame (.agg cs)
 | sl {t:Tag} {es:List PV} (h: ∀e∈es,Tame e):Tame (.sl t es)
theorem Tame.low {p:PV}(h:Tame p)(n:Nat):Low n p/\ ∀c∈p.cells,Low n c:=by
 induction h with
 | sc v=>exact⟨Y1j n v,fun c hc=>by rw[C0.1 hc];exact Y1j n v⟩
 | agg h ih=>exact⟨q1k fun c hc=>(ih c hc).1,fun c hc=>(ih c hc).1⟩
 | @sl t es h ih=>
  have:=w1h (n:=n) (t:=t) fun e he c hc=>(ih e he).2 c hc;exact⟨this,fun c hc=>by rw[C0.1 hc];exact this⟩
theorem G0i (t:Tag)(w:List UInt64):Tame (.sl t (Q2 w)):= .sl fun e he=>by simp only[Q2,CF] at he;obtain⟨x,_,rfl⟩:=he;exact .sc _
theorem ku (x:Nm): ∀c∈Q9 x,Tame c:=fun c hc=>by simp only[Q9,EA,List.not_mem_nil,or_false] at hc;rcases hc with rfl | rfl | rfl;exact .sc _;exact .sc _;exact G0i _ _
theorem W1r (x:Ivl): ∀c∈ZQ x,Tame c:=fun c hc=>by have hc:c∈Q9 x.lo++Q9 x.hi:=hc;rcases DN.1 hc with hc | hc;exact ku _ _ hc;exact ku _ _ hc
theorem G1j (t:Tag)(l:List Ivl):Tame (.sl t (QE l)):= .sl fun e he=>by simp only[QE,CF] at he;obtain⟨x,_,rfl⟩:=he;exact .agg (W1r x)
theorem k1x (t:Tag)(l:List (List Ivl)):Tame (.sl t (XE l)):= .sl fun e he=>by simp only[XE,CF] at he;obtain⟨x,_,rfl⟩:=he;exact G1j _ x
theorem U1s (w:List UInt64):Wordy (.sl .no (Q2 w)):= .sl _ fun j hj=>by have hj':j<w.length:=(by simpa[Q2] using hj);exact⟨_,⟨_,.inl rfl⟩,by simp only[Q2,q_a,B8,BB hj'];rfl⟩
theorem U0r (x:Nm): ∀c∈Q9 x,Wordy c:=fun c hc=>by simp only[Q9,EA,List.not_mem_nil,or_false] at hc;rcases hc with rfl | rfl | rfl;exact .sc _;exact .sc _;exact U1s _
def XN (l:List Vl):List PV:=l.map fun c=>(.agg (Vb c))
@[go_sem] theorem Y1z (l:List Vl):(XN l).length=l.length:=by simp[XN]
@[go_sem] theorem X2a (l:List Vl):(XN l).all (fun x=>x.cells.length==3)=true:=by simp[XN,PV.cells,Vb]
@[go_sem] theorem xm (l:List Vl)(c:Vl):XN l++ [.agg (Vb c)]=XN (l++ [c]):=by simp[XN]
theorem Vz (l:List Vl)(n:Nat)(h:n<l.length):(XN l).getD n .junk= .agg (Vb (l.getD n default)):=by simp[XN,q_a,h]
def J5 (l:List (List Vl)):List PV:=l.map fun c=>(.sl .no (XN c))
@[go_sem] theorem U1a (l:List (List Vl)):(J5 l).length=l.length:=by simp[J5]
@[go_sem] theorem X2b (l:List (List Vl)):(J5 l).all (fun x=>x.cells.length==1)=true:=by simp[J5,PV.cells]
@[go_sem] theorem j1v (l:List (List Vl))(c:(List Vl)):J5 l++ [.sl .no (XN c)]=J5 (l++ [c]):=by simp[J5]
theorem qG (l:List (List Vl))(n:Nat)(h:n<l.length):(J5 l).getD n .junk= .sl .no (XN (l.getD n [])):=by simp[J5,q_a,h]
theorem Q1n {N B:Nat}(hB:0<B)(j:Int):2*j<=((2*(N/B)+(if N % B=0 then 0 else 1):Nat):Int)<->j*B<=(N:Int):=by
 have h3:j<=((N/B:Nat):Int)<->j*B<=(N:Int):=by rw[Int.natCast_ediv];exact Int.le_ediv_iff_mul_le oG
 rw[<-h3];generalize N/B=F;split<;>omega
theorem Q1m {N B:Nat}(hB:0<B)(j:Int):2*j<= -((2*(N/B)+(if N % B=0 then 0 else 1):Nat):Int)<->j*B<= -(N:Int):=by
 have h1:=D7 N B;have h2:=CG N hB;generalize N/B=F at*
 generalize N % B=r at*
 have hB':(0:Int)<B:=(by exact_mod_cast hB);have h1':(B:Int)*F+r=N:=(by exact_mod_cast h1);have h2':(r:Int)<B:=(by exact_mod_cast h2);clear h1 h2;have up: ∀i:Int,i<=j->i*B<=j*B:=fun i hi=>ET hi (LF hB');have dn: ∀i:Int,j<=i->j*B<=i*B:=fun i hi=>ET hi (LF hB');have e0: -(F:Int)*B= -((B:Int)*F):=(by rw[DU,Int.mul_comm]);have e1:(-(F:Int)-1)*B= -((B:Int)*F)-B:=(by rw[Int.sub_mul,e0,Int.one_mul]);have e2:(-(F:Int)+1)*B= -((B:Int)*F)+B:=(by rw[Int.add_mul,e0,Int.one_mul]);generalize (B:Int)*F=Z at*
 have u0:=up (-(F:Int));have u2:=up (-(F:Int)+1);have d0:=dn (-(F:Int));have d1:=dn (-(F:Int)-1);rw[e0] at u0 d0;rw[e1] at d1;rw[e2] at u2;generalize j*(B:Int)=W at*
 clear up dn e0 e1 e2;split;constructor;intro h;have:=d0 oG;omega;intro h;refine LA.1 fun hn=> ?_;have:=u2 oG;omega;constructor;intro h;have:=d1 oG;omega;intro h;refine LA.1 fun hn=> ?_;have:=u0 oG;omega
theorem z1d {p:Nat}{x:Rat}(h:Uq p x)(g:Int):(∃j:Int,x=qM j g)\/(qM (-((2^p:Nat):Int)) g<=x/\x<=qM ((2^p:Nat):Int) g):=by
 obtain⟨m,e,rfl,hm⟩:=h;by_cases he:g<=e;exact .inl ⟨_,GT m e g he⟩;right;have hpos:(1:Int)<=2^(g-e).toNat:=by
  have:0<2^(g-e).toNat:=CT _
  exact_mod_cast this
 rw[GT _ g e oG,GT _ g e oG,qM_le,qM_le,DU];generalize 2^p=P at*
 have h1:(P:Int)<=P*2^(g-e).toNat:=by
  calc (P:Int)=P*1:=(Int.mul_one _).symm
   _<=_:=F7 hpos (Int.natCast_nonneg _)
 generalize (P:Int)*2^(g-e).toNat=Z at*
 omega
theorem X1a {A B p:Nat}(hA:A≠0):2^(p+1)*B<=A*2^KC A B p:=by
 have h1:=Xf hA;have h2:=F4 (Q5 B);have h0:1<=Qh A:=(by unfold Qh;rw[BA hA];omega);unfold KC
 calc 2^(p+1)*B<=2^(p+1)*2^Qh B:=DP _ h2
  _=2^(p+1+Qh B):=by rw[<-B2]
  _<=2^((Qh A-1)+(p+2+Qh B-Qh A)):=BS (by decide) oG
  _=2^(Qh A-1)*2^(p+2+Qh B-Qh A):=B2 ..
  _<=A*2^(p+2+Qh B-Qh A):=BG _ h1
theorem v1d {a b:Vl}{p:Nat}(hb:b.neg=false)(hB:0<b.m){x:Rat}(hx:Uq p x):x<=qV (IE a b p)<->x*qV b<=qV a:=by
 have hqb:qV b=qM (b.m:Int) b.e:=by unfold qV Zq;rw[hb];rfl
 have hb0:0<qV b:=by rw[hqb,<-Zs b.e,qM_lt];omega
 by_cases hA:a.m=0;have e1:qV (IE a b p)=0:=(by unfold IE;rw[BC hA];exact Zs 0);rw[e1,UU hA];constructor;intro h;have:=D5 h (Rat.le_of_lt hb0);rwa [Rat.zero_mul] at this;intro h;exact Rat.le_of_mul_le_mul_right (by rwa [Rat.zero_mul]) hb0;obtain⟨t,ht⟩: ∃t,KC a.m b.m p=t:=⟨_,rfl⟩;have big:=X1a (B:=b.m) (p:=p) hA;rw[ht] at big;have hv:qV (IE a b p)=qM (if a.neg=true then -((2*(a.m*2^t/b.m)+(if a.m*2^t % b.m=0 then 0 else 1):Nat):Int) else((2*(a.m*2^t/b.m)+(if a.m*2^t % b.m=0 then 0 else 1):Nat):Int)) (a.e-b.e-(t:Int)-1):=by unfold IE Y3;rw[BA hA,VX,hb,ht,Bool.bne_false]
 have ha:qV a=qM (if a.neg=true then -((a.m*2^t:Nat):Int) else((a.m*2^t:Nat):Int)) (a.e-(t:Int)):=by
  have e1:(if a.neg=true then -((a.m*2^t:Nat):Int) else((a.m*2^t:Nat):Int))=Zq a*2^t:=by unfold Zq;cases a.neg<;>simp[DU]
  rw[e1,XQ];unfold qV;congr 1;omega
 rw[hqb] at hb0;rw[hv,ha,hqb];generalize a.m*2^t=N at*
 have hg: ∀j:Int,qM j (a.e-b.e-(t:Int))*qM (b.m:Int) b.e=qM (j*b.m) (a.e-(t:Int)):=fun j=>by rw[<-vf];congr 1;omega
 have hg2: ∀j:Int,qM j (a.e-b.e-(t:Int))=qM (2*j) (a.e-b.e-(t:Int)-1):=fun j=>by rw[Int.mul_comm,show(2:Int)=2^1 from rfl,XQ];congr 1;omega
 rcases z1d hx (a.e-b.e-(t:Int)) with ⟨j,rfl⟩ | ⟨l1,l2⟩;rw[hg,hg2,qM_le,qM_le];cases a.neg;exact Q1n hB j;exact Q1m hB j;have hF:2^(p+1)<=N/b.m:=(ER hB).2 big;have hP:=CT p;rw[B5] at hF big;generalize 2^p=P at*
 have big2:2*((P:Int)*b.m)<=N:=by
  have:P*2*b.m<=N:=big;have e:P*2*b.m=2*(P*b.m):=(by rw[BM P 2,BW]);rw[e] at this
  exact_mod_cast this
 have hPB:(0:Int)<(P:Int)*b.m:=by
  have:=Nat.mul_pos hP hB
  exact_mod_cast this
 cases hn:a.neg;rw[BA Bool.false_ne_true,BA Bool.false_ne_true];refine⟨fun _=> ?_,fun _=> ?_⟩;refine E9 (D5 l2 (Rat.le_of_lt hb0)) ?_;rw[hg,qM_le];omega;refine E9 l2 ?_;rw[hg2,qM_le];omega;rw[BC rfl,BC rfl];constructor;intro h;exfalso;have:=E9 l1 h;rw[hg2,qM_le] at this;omega;intro h;exfalso;have:=E9 (D5 l1 (Rat.le_of_lt hb0)) h;rw[hg,qM_le,DU] at this;omega
theorem y0d (a:Vl){b:Vl}(p:Nat)(hb:b.neg=false):qV (IE (Xa a) b p)= -qV (IE a b p):=by by_cases h0:a.m=0;have e:Xa a=a:=(by unfold Xa;rw[BC h0]);have e1:qV (IE a b p)=0:=(by unfold IE;rw[BC h0];exact Zs 0);rw[e,e1];rfl;have e3:(Xa a).neg= !a.neg:=(by unfold Xa;rw[BA h0]);unfold IE;rw[Iv,Iw,e3,BA h0,BA h0,VX,VX,<-YE,hb];congr 1;cases a.neg<;>simp
theorem vY {p:Nat}{x:Rat}(hx:Uq p x):Uq p (-x):=by obtain⟨m,e,rfl,h⟩:=hx;exact⟨-m,e,(YE _ _).symm,by rw[Int.natAbs_neg];exact h⟩
theorem v1e {a b:Vl}{p:Nat}(hb:b.neg=false)(hB:0<b.m){x:Rat}(hx:Uq p x):qV (IE a b p)<=x<->qV a<=x*qV b:=by have:=v1d (a:=Xa a) hb hB (vY hx);rw[y0d a p hb,Kz,Rat.neg_mul] at this;constructor;intro h;have:=this.1 (by grind);grind;intro h;have:=this.2 (by grind);grind
theorem j0f (v:Vl)(p:Nat):Uq p (qV (QX v p true)):=by rw[W0d];exact vY (j0g _ _)
def RV (x:Rat)(v:Vl):Prop:=Xm v/\qV v=x
theorem RV.zero :RV 0 ⟨false,0,0⟩:=⟨.inr rfl,by decide+kernel⟩
theorem RV.plus {x y:Rat}{u v:Vl}(h:RV x u)(h':RV y v):RV (x+y) (Jc u v):=⟨XB h.1 h'.1,by rw[Jb,h.2,h'.2]⟩
theorem RV.by {x y:Rat}{u v:Vl}(h:RV x u)(h':RV y v):RV (x*y) (byV u v):=⟨qU h.1 h'.1,by rw[Wd,h.2,h'.2]⟩
theorem RV.whole (n:Nat):RV (n:Rat) (XH false n 0):=⟨KQ _ _ _,HW n⟩
theorem RV.num {x:Nm}(h:Qg x=true):RV (qN x) (ofN x):=⟨QR h,QL x⟩
theorem RV.same {x y:Rat}{v:Vl}(h:RV x v)(e:x=y):RV y v:=e▸h
theorem RV.sm {x:Rat}{v:Vl}(h:RV x v){L U:Nat}(hl:luQ L U x)(hb:L+U<=1000000):smV v:=by rw[<-h.2] at hl;have:=z0v h.1 hl;exact⟨by have:=this.1;omega,by have:=this.2.1;omega,by have:=this.2.2;omega⟩
end Go.Pv
end
