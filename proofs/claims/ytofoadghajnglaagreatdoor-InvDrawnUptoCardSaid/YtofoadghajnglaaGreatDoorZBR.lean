/- Parts of the walk: N66, N67, N68, N69, N70, N71, M59, M52, M53, M54, PvAu, N78, PvAv, PvAw, PvAx, M65. -/
import Derived.Test.YtofoadghajnglaaGreatDoorZBQ
import Derived.Test.YtofoadghajnglaaGreatDoorZAD
import Derived.Test.YtofoadghajnglaaGreatDoorZAH
import Derived.Test.YtofoadghajnglaaGreatDoorZBE
import Derived.Test.YtofoadghajnglaaGreatDoorZAE
import Derived.Test.YtofoadghajnglaaGreatDoorZH
import Derived.Test.YtofoadghajnglaaGreatDoorZBD
import Derived.Test.YtofoadghajnglaaGreatDoorZAQ
set_option linter.unusedVariables false
set_option linter.unusedSimpArgs false
section
/-picard.Next,Sure,wider,next. -/
set_option maxRecDepth 100000
namespace Go.Pv
open Go.Proofs
def H2m (f:List (List Mn)) (x a:List Ivl) (h:Nm) (p:Int):List Ivl×Int:=
 if G1e f=true∧rightB x=true∧rightB a=true∧x.length=f.length∧a.length=f.length∧Q0j h=true∧ ¬sgnN (ownN h)≤0∧Z0p p=true then
  if (W0j f a p).2=0 then
   if (x0n ⟨default,h⟩ (W0j f a p).1 p).2=0 then opB 0 x (x0n ⟨default,h⟩ (W0j f a p).1 p).1 p else([],(x0n ⟨default,h⟩ (W0j f a p).1 p).2)
  else([],(W0j f a p).2)
 else([],1)
end Go.Pv
end
section
/-Boxes taken apart and put together;where solutions go. No program in it. -/
namespace Go.Pv
theorem J2r {k:Nat} {a b:List Ivl} {p:Int} (h:(opB k a b p).2=0):(rightB a=true∧rightB b=true∧a.length=b.length∧Z0p p=true)∧(opB k a b p).1.length=a.length∧
 (∀j,j<a.length→(opI k (a.getD j default) (b.getD j default) p).2=0)∧ ∀j,j<a.length→(opB k a b p).1.getD j default=(opI k (a.getD j default) (b.getD j default) p).1:=by
 unfold opB at h⊢
 by_cases c:rightB a=true∧rightB b=true∧a.length=b.length∧Z0p p=true
 · rw [if_pos c,H0f] at h
   rw [if_pos c,H0f]
   exact⟨c,k0d h⟩
 · rw [if_neg c] at h;exact absurd h (by decide)
theorem w1x {x:Ivl} {b:List Ivl} {p:Int} (h:(x0n x b p).2=0):(rightB b=true∧Q0w x=true∧Z0p p=true)∧(x0n x b p).1.length=b.length∧
 (∀j,j<b.length→(opI 2 x (b.getD j default) p).2=0)∧ ∀j,j<b.length→(x0n x b p).1.getD j default=(opI 2 x (b.getD j default) p).1:=by
 unfold x0n at h⊢
 by_cases c:rightB b=true∧Q0w x=true∧Z0p p=true
 · rw [if_pos c,H0f] at h
   rw [if_pos c,H0f]
   exact⟨c,k0d h⟩
 · rw [if_neg c] at h;exact absurd h (by decide)
theorem U2z {h:Nm} (hr:Q0j h=true):(¬sgnN (ownN h)≤0)↔0<qN h:=by
 unfold ownN
 rw [if_pos hr,←w2f];omega
structure NextOK (f:List (List Mn)) (x a:List Ivl) (h:Nm) (p:Int):Prop where
 rf:G1e f=true
 rx:rightB x=true
 ra:rightB a=true
 lx:x.length=f.length
 la:a.length=f.length
 rh:Q0j h=true
 ph:0<qN h
 pp:Z0p p=true
 e1:(W0j f a p).2=0
 e2:(x0n ⟨default,h⟩ (W0j f a p).1 p).2=0
 e3:(opB 0 x (x0n ⟨default,h⟩ (W0j f a p).1 p).1 p).2=0
theorem NextOK.val {f:List (List Mn)} {x a:List Ivl} {h:Nm} {p:Int} (n:NextOK f x a h p):(H2m f x a h p).1=(opB 0 x (x0n ⟨default,h⟩ (W0j f a p).1 p).1 p).1:=by
 unfold H2m
 rw [if_pos ⟨n.rf,n.rx,n.ra,n.lx,n.la,n.rh,(U2z n.rh).2 n.ph,n.pp⟩,if_pos n.e1,if_pos n.e2]
theorem z1t {f:List (List Mn)} {a:List Ivl} {p:Int} (h:(W0j f a p).2=0):(G1e f=true∧a.length=f.length)∧(W0j f a p).1.length=f.length∧ ∀j,j<f.length→(W0j f a p).1.getD j default=(x0p (f.getD j []) a p (f.getD j []).length).1∧(x0p (f.getD j []) a p (f.getD j []).length).2=0:=by
 unfold W0j at h⊢
 by_cases c:G1e f=true∧a.length=f.length
 · rw [if_pos c] at h⊢
   obtain⟨g1,g2,g3⟩:=k0d h
   refine⟨c,g1,fun j hj=> ?_⟩
   have e:=g2 j hj
   rw [g3 j hj]
   show(k1s (f.getD j []) a p).1=_∧_
   replace e:(k1s (f.getD j []) a p).2=0:=e
   unfold k1s at e⊢
   split at e
   · rename_i d;rw [if_pos d];exact⟨rfl,e⟩
   · exact absurd e (by decide)
 · rw [if_neg c] at h;exact absurd h (by decide)
structure NextAt (f:List (List Mn)) (x a:List Ivl) (h:Nm) (p:Int) (j:Nat):Prop where
 r0:(x0p (f.getD j []) a p (f.getD j []).length).2=0
 t0:(opI 2 ⟨default,h⟩ (x0p (f.getD j []) a p (f.getD j []).length).1 p).2=0
 s0:(opI 0 (x.getD j default) (opI 2 ⟨default,h⟩ (x0p (f.getD j []) a p (f.getD j []).length).1 p).1 p).2=0
 val:(H2m f x a h p).1.getD j default=(opI 0 (x.getD j default) (opI 2 ⟨default,h⟩ (x0p (f.getD j []) a p (f.getD j []).length).1 p).1 p).1
theorem NextOK.at {f:List (List Mn)} {x a:List Ivl} {h:Nm} {p:Int} (n:NextOK f x a h p) {j:Nat} (hj:j<f.length):NextAt f x a h p j:=by
 obtain⟨_,r1,r2⟩:=z1t n.e1
 obtain⟨r3,r4⟩:=r2 j hj
 obtain⟨_,t1,t2,t3⟩:=w1x n.e2
 obtain⟨_,s1,s2,s3⟩:=J2r n.e3
 have t2:=t2 j (by omega)
 have t3:=t3 j (by omega)
 have s2:=s2 j (by rw [n.lx];exact hj)
 have s3:=s3 j (by rw [n.lx];exact hj)
 rw [r3] at t2 t3
 rw [t3] at s2 s3
 exact⟨r4,t2,s2,by rw [n.val];exact s3⟩
theorem y1z {k:Nat} {a b:List Ivl} {p:Int} (h:(opB k a b p).2=0):rightB (opB k a b p).1=true:=by
 obtain⟨c,l,_,v⟩:=J2r h
 have:=x0b c.1
 exact Z1n (fun j hj=>by rw [v j (by omega)];exact G0y _ _ _ _) (by omega) (by omega)
theorem NextOK.rightB {f:List (List Mn)} {x a:List Ivl} {h:Nm} {p:Int} (n:NextOK f x a h p):Go.Pv.rightB (H2m f x a h p).1=true:=by
 rw [n.val];exact y1z n.e3
theorem y1r {k:Nat} {a b:Nm} {p:Int} {up:Bool} (h:(Q0t k a b p up).2=0):Q0j a=true∧Q0j b=true∧Z0p p=true:=by
 unfold Q0t at h
 split at h
 · assumption
 · exact absurd h (by decide)
theorem U0a {k:Nat} {a b:Nm} {p:Int} {up:Bool} (h:(Q0t k a b p up).2=0):qN (Q0t k a b p up).1=qV (Z0h (exV k (ofN a) (ofN b)) p.toNat up):=by
 have c:=y1r h
 unfold Q0t at h⊢
 rw [if_pos c] at h⊢
 exact(H0q (V0g (j1n k (W0b c.1) (W0b c.2.1)) _ _) h).2
end Go.Pv
end
section
/-How great what is reckoned gets:at most a power of two,which rounding does not pass. No program in it. -/
namespace Go.Pv
theorem V3j (e:Int):p2 e=qM 1 e:=by simp [qM]
theorem y2a {a b:Int} (h:a≤b):p2 a≤p2 b:=by
 rw [V3j,V3j,show b=a+((b-a).toNat:Int) from by omega,←U0v,qM_le]
 have:0<(2:Int)^(b-a).toNat:=Int.pow_pos (by decide)
 omega
def magQ (e:Int) (x:Rat):Prop:= -(p2 e)≤x∧x≤p2 e
theorem magQ.up {e g:Int} {x:Rat} (h:magQ e x) (he:e≤g):magQ g x:=by
 have:=y2a he
 exact⟨by have:=h.1;grind,by have:=h.2;grind⟩
def ampI (e:Int) (a:Ivl):Prop:=magQ e (qN a.lo)∧magQ e (qN a.hi)
theorem ampI.up {e g:Int} {a:Ivl} (h:ampI e a) (he:e≤g):ampI g a:=⟨h.1.up he,h.2.up he⟩
end Go.Pv
end
section
/-For a short time a box is found. No program in it. -/
namespace Go.Pv
def y2h (n M:Nat) (D:Int) (p:List Mn):Prop:=k1m p n=true∧p.length≤M∧ ∀m∈p,okMn n 6 (8+M) D m
def okFieldT (n M:Nat) (D:Int) (f:List (List Mn)):Prop:=f.length=n∧ ∀p∈f,y2h n M D p
theorem okFieldT.ok {n M:Nat} {D:Int} {f:List (List Mn)} (h:okFieldT n M D f):okField n M D f:=⟨h.1,fun p hp=>⟨(h.2 p hp).1,(h.2 p hp).2.1,fun m hm=>by
 obtain⟨a1,a2,a3,a4,a5,a6⟩:=(h.2 p hp).2.2 m hm
 exact⟨a1,a2,a3,a4,a5,a6.mono (by omega) (by omega)⟩⟩⟩
theorem okFieldT.at {n M:Nat} {D:Int} {f:List (List Mn)} (h:okFieldT n M D f) {i j:Nat} (hi:i<f.length) (hj:j<(f.getD i []).length):okMn n 6 (8+M) D ((f.getD i []).getD j default):=by
 have e:f.getD i []=f[i]:=by simp [List.getD_eq_getElem?_getD,hi]
 rw [e] at hj⊢
 exact H1j (h.2 _ (List.getElem_mem hi)).2.2 hj
end Go.Pv
end
section
/-A slice of larger elements that is handed back to be written:an object of the store,which becomes a plain slice again. -/
namespace Go.Pv
section
variable {w:World} {g g':Gh} {F:Fr} {T:List (Nat×Nat)} {k sz:Nat} {cs:List PV}
end
section
variable {k sz:Nat} {cs:List PV}
end
end Go.Pv
end
section
/-Small numbers,intervals,boxes,fields out of the deck,more narrowly. -/
set_option maxRecDepth 100000
namespace Go.Pv
open Go.Proofs
def tI (a:Ivl):Prop:=smI a∧luI 6 8 a
end Go.Pv
end
section
/-Boxes of the frame's own lent for a call:the function sees them,and cannot write them. -/
namespace Go.Pv
def uwV (v:Value):Prop:= ∃x,v= .int .u64 x∨v= .int .u32 x
inductive Wordy :PV→Prop
 | sc (v:Value):Wordy (.sc v)
 | agg (cs:List PV) (h: ∀c∈cs,Wordy c):Wordy (.agg cs)
 | tup (cs:List PV) (h: ∀c∈cs,Wordy c):Wordy (.tup cs)
 | sl (es:List PV) (h: ∀j,j<es.length→ ∃x,uwV x∧es.getD j .junk= .sc x):Wordy (.sl .no es)
theorem Wordy.turn {w:World} {g g':Gh} (hv: ∀b off x,uwV x→off<g.vis b→w.cell? ⟨b,off,none⟩=some x→g'.vis b=g.vis b): ∀ {p:PV},Wordy p→ ∀ {v:Value},Rep w g v p→Rep w g' v p:=by
 intro p hp
 induction hp with
 | sc v=>intro v' h;cases h;exact .sc _
 | agg cs hc ih=>intro v h;cases h with | agg vs _ hl h=>exact .agg vs cs hl fun j hj=>ih _ (Q0s _ _ _ hj) (h j hj)
 | tup cs hc ih=>intro v h;cases h with | tup vs _ hl h=>exact .tup vs cs hl fun j hj=>ih _ (Q0s _ _ _ hj) (h j hj)
 | sl es hes=>
  intro v h
  cases h with
  | nil t ad ht=>exact .nil _ _ rfl
  | sl t es b off sz cap cf ht hfull hcap hsz hvis hc hr=>
   by_cases h0:es= []
   · subst h0
     exact .sl _ [] b off sz cap cf rfl hfull hcap hsz (fun h=>by simp at h) (fun i j hi=>by simp at hi) (fun i j hi=>by simp at hi)
   have hl:0<es.length:=List.length_pos_iff.2 h0
   have hs:sz=1:=by
    have h1:=hsz 0 hl
    obtain⟨x,_,hx⟩:=hes 0 hl
    rw [hx] at h1
    exact h1.symm
   subst hs
   have hvb:g'.vis b=g.vis b:=by
    have h1:=hr 0 0 hl (by omega)
    have h2:=hc 0 0 hl (by omega)
    obtain⟨x,hxw,hx⟩:=hes 0 hl
    rw [hx] at h1
    rw [show cf 0 0=x from Rep.sc_inv h1] at h2
    exact hv b (off+0*1+0) x hxw (by have:=hvis hl;omega) h2
   refine .sl _ es b off 1 cap cf rfl hfull hcap hsz (by rw [hvb];exact hvis) hc fun i j hi hj=> ?_
   have h1:=hr i j hi hj
   have h3:j=0:=by omega
   subst h3
   obtain⟨x,_,hx⟩:=hes i hi
   rw [hx] at h1⊢
   rw [show cf i 0=x from Rep.sc_inv h1]
   exact .sc _
theorem Low.mk {p:PV} (h:Low 0 p) {w:World} {g:Gh} {v:Value} (vis:Nat→Nat) (hv: ∀b,g.vis b≤vis b) (hr:Rep w g v p):Rep w ⟨0,fun _=>0,vis⟩ v p:=
 Rep.mono (w:=w) (g:= { g with n:=0 }) (w':=w) (g':=⟨0,fun _=>0,vis⟩) ⟨Nat.le_refl 0,fun i hi=>absurd hi (Nat.not_lt_zero _),hv,fun _ _ _ _ hc=>hc⟩ (h w g v hr (Nat.zero_le _))
section
variable {P:Program} {E:Ent} {a:Act} {w:World} {g:Gh} {F:Fr} {s:PFS} {e:List Nat}
theorem Wordy.res {B:Nat} {w:World} {g:Gh} {v:Value} {R:PV} (hw:Wordy R):RepRes B w g v R=Rep w g v R:=by
 cases hw<;>rfl
end
section
variable {P:Program} {E:Ent} {a:Act} {w:World} {g:Gh} {F:Fr} {s:PFS} {e:List Nat}
end
section
variable {P:Program} {s:PFS} {K:PFS→Prop} {d:Option Tmp} {ty:TypeId} {pos:String} {af:Array Edge} {e:List Nat}
end
end Go.Pv
end
section
/-A literal that keeps a slice without room;a box's cell with known room;statements in which such literals and appends to slices with known room stand. -/
namespace Go.Pv
section
variable {P:Program} {E:Ent} {a:Act} {w:World} {g:Gh} {F:Fr} {s:PFS}
end
section
variable {P:Program} {E:Ent} {a:Act} {w:World} {g:Gh} {F:Fr} {s:PFS}
end
section
variable {P:Program} {s:PFS} {K:PFS→Prop} {d:Option Tmp} {ty:TypeId} {pos:String} {af:Array Edge}
end
end Go.Pv
end
section
/-Plain values:scalars,aggregates,slices of such. -/
namespace Go.Pv
inductive Tame :PV→Prop
 | sc (v:Value):Tame (.sc v)
 | agg {cs:List PV} (h: ∀c∈cs,Tame c):Tame (.agg cs)
 | sl {t:Tag} {es:List PV} (h: ∀e∈es,Tame e):Tame (.sl t es)
theorem Tame.low {p:PV} (h:Tame p) (n:Nat):Low n p∧ ∀c∈p.cells,Low n c:=by
 induction h with
 | sc v=>exact⟨k2g n v,fun c hc=>by rw [List.mem_singleton.1 hc];exact k2g n v⟩
 | agg h ih=>exact⟨y2v fun c hc=>(ih c hc).1,fun c hc=>(ih c hc).1⟩
 | @sl t es h ih=>
  have:=V3y (n:=n) (t:=t) fun e he c hc=>(ih e he).2 c hc
  exact⟨this,fun c hc=>by rw [List.mem_singleton.1 hc];exact this⟩
theorem Z2w (t:Tag) (w:List UInt64):Tame (.sl t (encW w)):= .sl fun e he=>by
 simp only [encW,List.mem_map] at he
 obtain⟨x,_,rfl⟩:=he
 exact .sc _
theorem k1d (x:Nm): ∀c∈encN x,Tame c:=fun c hc=>by
 simp only [encN,List.mem_cons,List.not_mem_nil,or_false] at hc
 rcases hc with rfl | rfl | rfl
 · exact .sc _
 · exact .sc _
 · exact Z2w _ _
theorem j2q (x:Ivl): ∀c∈encI x,Tame c:=fun c hc=>by
 have hc:c∈encN x.lo++encN x.hi:=hc
 rcases List.mem_append.1 hc with hc | hc
 · exact k1d _ _ hc
 · exact k1d _ _ hc
theorem v2y (t:Tag) (l:List Ivl):Tame (.sl t (Z0d l)):= .sl fun e he=>by
 simp only [Z0d,List.mem_map] at he
 obtain⟨x,_,rfl⟩:=he
 exact .agg (j2q x)
theorem K3j (t:Tag) (l:List (List Ivl)):Tame (.sl t (encM l)):= .sl fun e he=>by
 simp only [encM,List.mem_map] at he
 obtain⟨x,_,rfl⟩:=he
 exact v2y _ x
theorem v2o (w:List UInt64):Wordy (.sl .no (encW w)):= .sl _ fun j hj=>by
 have hj':j<w.length:=by simpa [encW] using hj
 exact⟨_,⟨_,.inl rfl⟩,by simp only [encW,List.getD_eq_getElem?_getD,List.getElem?_map,List.getElem?_eq_getElem hj'];rfl⟩
theorem Z2n (x:Nm): ∀c∈encN x,Wordy c:=fun c hc=>by
 simp only [encN,List.mem_cons,List.not_mem_nil,or_false] at hc
 rcases hc with rfl | rfl | rfl
 · exact .sc _
 · exact .sc _
 · exact v2o _
end Go.Pv
end
section
/-Quotients rounded:the greatest value of p bits that is not above the quotient,the least that is not below it. No program in it. -/
namespace Go.Pv
theorem G2q {N B:Nat} (hB:0<B) (j:Int):2*j≤((2*(N/B)+(if N % B=0 then 0 else 1):Nat):Int)↔j*B≤(N:Int):=by
 have h3:j≤((N/B:Nat):Int)↔j*B≤(N:Int):=by
  rw [Int.natCast_ediv]
  exact Int.le_ediv_iff_mul_le (by omega)
 rw [←h3]
 generalize N/B=F
 split<;>omega
theorem G2p {N B:Nat} (hB:0<B) (j:Int):2*j≤ -((2*(N/B)+(if N % B=0 then 0 else 1):Nat):Int)↔j*B≤ -(N:Int):=by
 have h1:=Nat.div_add_mod N B
 have h2:=Nat.mod_lt N hB
 generalize N/B=F at*
 generalize N % B=r at*
 have hB':(0:Int)<B:=by exact_mod_cast hB
 have h1':(B:Int)*F+r=N:=by exact_mod_cast h1
 have h2':(r:Int)<B:=by exact_mod_cast h2
 clear h1 h2
 have up: ∀i:Int,i≤j→i*B≤j*B:=fun i hi=>Int.mul_le_mul_of_nonneg_right hi (Int.le_of_lt hB')
 have dn: ∀i:Int,j≤i→j*B≤i*B:=fun i hi=>Int.mul_le_mul_of_nonneg_right hi (Int.le_of_lt hB')
 have e0: -(F:Int)*B= -((B:Int)*F):=by rw [Int.neg_mul,Int.mul_comm]
 have e1:(-(F:Int)-1)*B= -((B:Int)*F)-B:=by rw [Int.sub_mul,e0,Int.one_mul]
 have e2:(-(F:Int)+1)*B= -((B:Int)*F)+B:=by rw [Int.add_mul,e0,Int.one_mul]
 generalize (B:Int)*F=Z at*
 have u0:=up (-(F:Int))
 have u2:=up (-(F:Int)+1)
 have d0:=dn (-(F:Int))
 have d1:=dn (-(F:Int)-1)
 rw [e0] at u0 d0
 rw [e1] at d1
 rw [e2] at u2
 generalize j*(B:Int)=W at*
 clear up dn e0 e1 e2
 split
 · constructor
   · intro h;have:=d0 (by omega);omega
   · intro h
     refine Int.not_lt.1 fun hn=> ?_
     have:=u2 (by omega);omega
 · constructor
   · intro h;have:=d1 (by omega);omega
   · intro h
     refine Int.not_lt.1 fun hn=> ?_
     have:=u0 (by omega);omega
theorem Q3q {p:Nat} {x:Rat} (h:Y1l p x) (g:Int):(∃j:Int,x=qM j g)∨(qM (-((2^p:Nat):Int)) g≤x∧x≤qM ((2^p:Nat):Int) g):=by
 obtain⟨m,e,rfl,hm⟩:=h
 by_cases he:g≤e
 · exact .inl ⟨_,z1x m e g he⟩
 · right
   have hpos:(1:Int)≤2^(g-e).toNat:=by
    have:0<2^(g-e).toNat:=Nat.two_pow_pos _
    exact_mod_cast this
   rw [z1x _ g e (by omega),z1x _ g e (by omega),qM_le,qM_le,Int.neg_mul]
   generalize 2^p=P at*
   have h1:(P:Int)≤P*2^(g-e).toNat:=by
    calc (P:Int)=P*1:=(Int.mul_one _).symm
     _≤_:=Int.mul_le_mul_of_nonneg_left hpos (Int.natCast_nonneg _)
   generalize (P:Int)*2^(g-e).toNat=Z at*
   omega
theorem H2u {A B p:Nat} (hA:A≠0):2^(p+1)*B≤A*2^J0y A B p:=by
 have h1:=k0x hA
 have h2:=Nat.le_of_lt (Z0c B)
 have h0:1≤Q0h A:=by unfold Q0h;rw [if_neg hA];omega
 unfold J0y
 calc 2^(p+1)*B≤2^(p+1)*2^Q0h B:=Nat.mul_le_mul_left _ h2
  _=2^(p+1+Q0h B):=by rw [←Nat.pow_add]
  _≤2^((Q0h A-1)+(p+2+Q0h B-Q0h A)):=Nat.pow_le_pow_right (by decide) (by omega)
  _=2^(Q0h A-1)*2^(p+2+Q0h B-Q0h A):=Nat.pow_add ..
  _≤A*2^(p+2+Q0h B-Q0h A):=Nat.mul_le_mul_right _ h1
theorem K3u {a b:Vl} {p:Nat} (hb:b.neg=false) (hB:0<b.m) {x:Rat} (hx:Y1l p x):x≤qV (ratV a b p)↔x*qV b≤qV a:=by
 have hqb:qV b=qM (b.m:Int) b.e:=by unfold qV J0a;rw [hb];rfl
 have hb0:0<qV b:=by
  rw [hqb,←K0w b.e,qM_lt];omega
 by_cases hA:a.m=0
 · have e1:qV (ratV a b p)=0:=by unfold ratV;rw [if_pos hA];exact K0w 0
   rw [e1,G1o hA]
   constructor
   · intro h;have:=Rat.mul_le_mul_of_nonneg_right h (Rat.le_of_lt hb0);rwa [Rat.zero_mul] at this
   · intro h;exact Rat.le_of_mul_le_mul_right (by rwa [Rat.zero_mul]) hb0
 · obtain⟨t,ht⟩: ∃t,J0y a.m b.m p=t:=⟨_,rfl⟩
   have big:=H2u (B:=b.m) (p:=p) hA
   rw [ht] at big
   have hv:qV (ratV a b p)=qM (if a.neg=true then -((2*(a.m*2^t/b.m)+(if a.m*2^t % b.m=0 then 0 else 1):Nat):Int) else((2*(a.m*2^t/b.m)+(if a.m*2^t % b.m=0 then 0 else 1):Nat):Int)) (a.e-b.e-(t:Int)-1):=by
    unfold ratV q0v
    rw [if_neg hA,k0t,hb,ht,Bool.bne_false]
   have ha:qV a=qM (if a.neg=true then -((a.m*2^t:Nat):Int) else((a.m*2^t:Nat):Int)) (a.e-(t:Int)):=by
    have e1:(if a.neg=true then -((a.m*2^t:Nat):Int) else((a.m*2^t:Nat):Int))=J0a a*2^t:=by
     unfold J0a;cases a.neg<;>simp [Int.neg_mul]
    rw [e1,U0v]
    unfold qV;congr 1;omega
   rw [hqb] at hb0
   rw [hv,ha,hqb]
   generalize a.m*2^t=N at*
   have hg: ∀j:Int,qM j (a.e-b.e-(t:Int))*qM (b.m:Int) b.e=qM (j*b.m) (a.e-(t:Int)):=fun j=>by rw [←J2i];congr 1;omega
   have hg2: ∀j:Int,qM j (a.e-b.e-(t:Int))=qM (2*j) (a.e-b.e-(t:Int)-1):=fun j=>by
    rw [Int.mul_comm,show(2:Int)=2^1 from rfl,U0v];congr 1;omega
   rcases Q3q hx (a.e-b.e-(t:Int)) with ⟨j,rfl⟩ | ⟨l1,l2⟩
   · rw [hg,hg2,qM_le,qM_le]
     cases a.neg
     · exact G2q hB j
     · exact G2p hB j
   · have hF:2^(p+1)≤N/b.m:=(Nat.le_div_iff_mul_le hB).2 big
     have hP:=Nat.two_pow_pos p
     rw [Nat.pow_succ] at hF big
     generalize 2^p=P at*
     have big2:2*((P:Int)*b.m)≤N:=by
      have:P*2*b.m≤N:=big
      have e:P*2*b.m=2*(P*b.m):=by rw [Nat.mul_comm P 2,Nat.mul_assoc]
      rw [e] at this
      exact_mod_cast this
     have hPB:(0:Int)<(P:Int)*b.m:=by
      have:=Nat.mul_pos hP hB
      exact_mod_cast this
     cases hn:a.neg
     · rw [if_neg Bool.false_ne_true,if_neg Bool.false_ne_true]
       refine⟨fun _=> ?_,fun _=> ?_⟩
       · refine Rat.le_trans (Rat.mul_le_mul_of_nonneg_right l2 (Rat.le_of_lt hb0)) ?_
         rw [hg,qM_le];omega
       · refine Rat.le_trans l2 ?_
         rw [hg2,qM_le];omega
     · rw [if_pos rfl,if_pos rfl]
       constructor
       · intro h;exfalso
         have:=Rat.le_trans l1 h
         rw [hg2,qM_le] at this
         omega
       · intro h;exfalso
         have:=Rat.le_trans (Rat.mul_le_mul_of_nonneg_right l1 (Rat.le_of_lt hb0)) h
         rw [hg,qM_le,Int.neg_mul] at this
         omega
theorem U2l (a:Vl) {b:Vl} (p:Nat) (hb:b.neg=false):qV (ratV (K0q a) b p)= -qV (ratV a b p):=by
 by_cases h0:a.m=0
 · have e:K0q a=a:=by unfold K0q;rw [if_pos h0]
   have e1:qV (ratV a b p)=0:=by unfold ratV;rw [if_pos h0];exact K0w 0
   rw [e,e1];rfl
 · have e3:(K0q a).neg= !a.neg:=by unfold K0q;rw [if_neg h0]
   unfold ratV
   rw [w0h,w0i,e3,if_neg h0,if_neg h0,k0t,k0t,←y0t,hb]
   congr 1
   cases a.neg<;>simp
theorem H1n {p:Nat} {x:Rat} (hx:Y1l p x):Y1l p (-x):=by
 obtain⟨m,e,rfl,h⟩:=hx
 exact⟨-m,e,(y0t _ _).symm,by rw [Int.natAbs_neg];exact h⟩
theorem K3v {a b:Vl} {p:Nat} (hb:b.neg=false) (hB:0<b.m) {x:Rat} (hx:Y1l p x):qV (ratV a b p)≤x↔qV a≤x*qV b:=by
 have:=K3u (a:=K0q a) hb hB (H1n hx)
 rw [U2l a p hb,G0j,Rat.neg_mul] at this
 constructor
 · intro h;have:=this.1 (by grind);grind
 · intro h;have:=this.2 (by grind);grind
theorem Q3o (v:Vl) (p:Nat):Y1l p (qV (Z0h v p true)):=by rw [y1i];exact H1n (Q3p _ _)
end Go.Pv
end
