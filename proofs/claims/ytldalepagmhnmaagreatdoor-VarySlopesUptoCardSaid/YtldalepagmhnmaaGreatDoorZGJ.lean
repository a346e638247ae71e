/- Parts of the walk: M99, PvBq, M100, M101, M102, M103. -/
import Derived.Test.YtldalepagmhnmaaGreatDoorZGI
import Derived.Test.YtldalepagmhnmaaGreatDoorZGD
set_option linter.unusedVariables false
set_option linter.unusedSimpArgs false
section
namespace Go.Pv
def wE (jac:List (List (List Mn)))(n:Nat)(X:Nat->Nat->Rat):Nat->Nat->Nat->Nat->Rat
 | 0=>fun i j _=>V1h i j
 | k+1=>fun i j m=>if m=k+1 then sumR (fun l=>Z1v (polD jac n X i l) (wE jac n X k l j) k) n else wE jac n X k i j m
def varW (jac:List (List (List Mn)))(n:Nat)(X:Nat->Nat->Rat)(i j m:Nat):Rat:=wE jac n X m i j m
theorem K3a {jac:List (List (List Mn))}{n:Nat}{X:Nat->Nat->Rat}{i j m:Nat} : ∀k,m<=k->wE jac n X k i j m=varW jac n X i j m
 | 0,h=>by obtain rfl:m=0:=by omega
           rfl
 | k+1,h=>by by_cases e:m=k+1;rw[e];rfl;show(if m=k+1 then _ else wE jac n X k i j m)=_;rw[if_neg e];exact K3a k (by omega)
theorem Y2q (jac:List (List (List Mn)))(n:Nat)(X:Nat->Nat->Rat)(i j k:Nat):varW jac n X i j (k+1)=sumR (fun l=>Z1v (polD jac n X i l) (varW jac n X l j) k) n:=by show(if k+1=k+1 then sumR (fun l=>Z1v (polD jac n X i l) (wE jac n X k l j) k) n else wE jac n X k i j (k+1))=_;rw[if_pos rfl];exact Q0y fun l _=>K1h (fun _ _=>rfl) fun q hq=>K3a k hq
theorem K3e (jac:List (List (List Mn)))(n:Nat)(X:Nat->Nat->Rat)(K:Nat):varD jac n X (varW jac n X) K:=⟨fun i j _ _=>rfl,fun k _ i j _ _=>Y2q jac n X i j k⟩
section
variable {st S S':Q0e} {B O n:Nat} {rid cr:Nat->Nat} {val:Nat->Nat->List Vl}
end
def derC (c:Nat->Rat)(k:Nat):Rat:=c (k+1)*((k+1:Nat):Rat)
theorem H1j {c:Nat->Rat}{d:Nat}(h:sup c d):sup (derC c) d:=fun k hk=>by unfold derC;rw[h (k+1) (by omega)];grind
def PD (d:Nat)(φ ψ:Rat->Rat):Prop:= ∃c,sup c d/\(∀s,φ s=pv c d s)/\ ∀s,ψ s=pv (derC c) d s
theorem PD.mono {d e:Nat}{φ ψ:Rat->Rat}(h:PD d φ ψ)(hd:d<=e):PD e φ ψ:=by obtain⟨c,h1,h2,h3⟩:=h;exact⟨c,fun k hk=>h1 k (by omega),fun s=>by rw[h2,k0n h1 s hd],fun s=>by rw[h3,k0n (H1j h1) s hd]⟩
theorem PD.congr {d:Nat}{φ ψ φ' ψ':Rat->Rat}(h:PD d φ ψ)(h1: ∀s,φ s=φ' s)(h2: ∀s,ψ s=ψ' s):PD d φ' ψ':=by obtain⟨c,g1,g2,g3⟩:=h;exact⟨c,g1,fun s=>by rw[<-h1,g2],fun s=>by rw[<-h2,g3]⟩
theorem PD.const (x:Rat):PD 0 (fun _=>x) (fun _=>0):=
 ⟨fun k=>if k=0 then x else 0,fun k hk=>by show(if k=0 then x else 0)=0;rw[if_neg (by omega)],fun s=>by
  unfold pv;rw[sumR,sumR];show x=0+(if 0=0 then x else 0)*s^0;rw[if_pos rfl];grind,fun s=>by
  unfold pv;rw[sumR,sumR];show 0=0+((if 0+1=0 then x else 0)*_)*s^0;rw[if_neg (by omega)];grind⟩
theorem PD.line (a b:Rat):PD 1 (fun s=>a+s*b) (fun _=>b):=
 ⟨fun k=>if k=0 then a else if k=1 then b else 0,fun k hk=>by show(if k=0 then a else if k=1 then b else 0)=0;rw[if_neg (by omega),if_neg (by omega)],fun s=>by
  unfold pv;simp only[sumR];show a+s*b=0+(if 0=0 then a else if 0=1 then b else 0)*s^0+(if 1=0 then a else if 1=1 then b else 0)*s^1;rw[if_pos rfl,if_neg (by omega),if_pos rfl];grind,fun s=>by
  unfold pv;simp only[sumR];show b=0+((if 0+1=0 then a else if 0+1=1 then b else 0)*((0+1:Nat):Rat))*s^0+((if 1+1=0 then a else if 1+1=1 then b else 0)*((1+1:Nat):Rat))*s^1;rw[if_neg (by omega),if_pos (by omega),if_neg (by omega),if_neg (by omega)];have:((0+1:Nat):Rat)=1:=rfl;rw[this];grind⟩
theorem PD.add {d:Nat}{φ ψ φ' ψ':Rat->Rat}(h:PD d φ ψ)(h':PD d φ' ψ'):PD d (fun s=>φ s+φ' s) (fun s=>ψ s+ψ' s):=by obtain⟨c,h1,h2,h3⟩:=h;obtain⟨e,g1,g2,g3⟩:=h';refine⟨fun k=>c k+e k,fun k hk=>by show c k+e k=0;rw[h1 k hk,g1 k hk];grind,fun s=>by show φ s+φ' s=_;rw[h2,g2,y0w],fun s=> ?_⟩;show ψ s+ψ' s=_;rw[h3,g3,<-y0w];refine j0f s fun k _=> ?_;unfold derC;grind
theorem K2b (g:Nat->Rat)(n:Nat)(h:g 0=0):sumR (fun i=>g (i+1)) n=sumR g (n+1):=by rw[x0v,h];grind
theorem j2d (a b:Nat->Rat)(k:Nat):derC (J0m a b) k=J0m (derC a) b k+J0m a (derC b) k:=by
 have h1:J0m (derC a) b k=sumR (fun i=>(i:Rat)*(a i*b (k+1-i))) (k+2):=by unfold J0m;rw[<-K2b (fun i=>(i:Rat)*(a i*b (k+1-i))) (k+1) (by show((0:Nat):Rat)*_=0;rw[show((0:Nat):Rat)=0 from rfl];grind)];refine Q0y fun i hi=> ?_;unfold derC;rw[show k+1-(i+1)=k-i by omega];grind
 have h2:J0m a (derC b) k=sumR (fun i=>((k+1-i:Nat):Rat)*(a i*b (k+1-i))) (k+2):=by
  rw[sumR];have e:((k+1-(k+1):Nat):Rat)*(a (k+1)*b (k+1-(k+1)))=0:=by rw[Nat.sub_self,show((0:Nat):Rat)=0 from rfl];grind
  rw[e];unfold J0m;rw[show sumR (fun i=>a i*derC b (k-i)) (k+1)=sumR (fun i=>((k+1-i:Nat):Rat)*(a i*b (k+1-i))) (k+1) from Q0y fun i hi=>by unfold derC;rw[show k-i+1=k+1-i by omega];grind];grind
 rw[h1,h2,<-Y0k];unfold derC J0m;rw[show sumR (fun i=>a i*b (k+1-i)) (k+1+1)*((k+1:Nat):Rat)=((k+1:Nat):Rat)*sumR (fun i=>a i*b (k+1-i)) (k+2) by grind,<-K0x];refine Q0y fun i hi=> ?_;have e:((k+1:Nat):Rat)=(i:Rat)+((k+1-i:Nat):Rat):=by rw[<-Rat.natCast_add];congr 1;omega
 rw[e];grind
theorem PD.mul {d d':Nat}{φ ψ φ' ψ':Rat->Rat}(h:PD d φ ψ)(h':PD d' φ' ψ'):PD (d+d') (fun s=>φ s*φ' s) (fun s=>ψ s*φ' s+φ s*ψ' s):=by obtain⟨c,h1,h2,h3⟩:=h;obtain⟨e,g1,g2,g3⟩:=h';refine⟨J0m c e,j1w h1 g1,fun s=>by show φ s*φ' s=_;rw[h2,g2,U1j g1 s d c h1 _ (Nat.le_refl _)],fun s=> ?_⟩;show ψ s*φ' s+φ s*ψ' s=_;rw[j0f s fun k _=>j2d c e k,y0w,U1j g1 s d _ (H1j h1) _ (Nat.le_refl _),U1j (H1j g1) s d c h1 _ (Nat.le_refl _),h2,h3,g2,g3]
theorem G1m (a b:Rat): ∀n:Nat,(a*b)^n=a^n*b^n
 | 0=>by rw[Rat.pow_zero,Rat.pow_zero,Rat.pow_zero];grind
 | n+1=>by rw[Rat.pow_succ,Rat.pow_succ,Rat.pow_succ,G1m a b n];grind
theorem Z2t : ∀n:Nat,(1:Rat)^n=1
 | 0=>Rat.pow_zero _
 | n+1=>by rw[Rat.pow_succ,Z2t n];grind
theorem Q2t : ∀n (c:Nat->Rat),(∀t:Rat,sumR (fun m=>c m*t^m) n=0)-> ∀m,m<n->c m=0
 | 0,_,_=>fun m hm=>absurd hm (Nat.not_lt_zero _)
 | n+1,c,h=>by
  have key: ∀m,m<n->c m*(2^m-2^n:Rat)=0:=Q2t n (fun m=>c m*(2^m-2^n:Rat)) fun t=>by
   have a:=h (2*t);have b:=h t;rw[sumR] at a b;have e:sumR (fun m=>c m*(2^m-2^n:Rat)*t^m) n=sumR (fun m=>c m*(2*t)^m) n-2^n*sumR (fun m=>c m*t^m) n:=by have:=Y0k (fun m=>c m*(2*t)^m) (fun m=>(-(2^n:Rat))*(c m*t^m)) n;rw[K0x] at this;rw[show sumR (fun m=>c m*(2^m-2^n:Rat)*t^m) n=sumR (fun i=>c i*(2*t)^i+(-(2^n:Rat))*(c i*t^i)) n from Q0y fun i _=>by rw[G1m];grind,this];grind
   rw[e];rw[G1m] at a;grind
  have low: ∀m,m<n->c m=0:=fun m hm=>by
   have k:=key m hm;have hne:(2^m-2^n:Rat)≠0:=fun e=>by
    have:(2^m:Nat)<2^n:=Nat.pow_lt_pow_right (by decide) hm;have e2:((2^m:Nat):Rat)=((2^n:Nat):Rat):=by rw[Rat.natCast_pow,Rat.natCast_pow];show(2:Rat)^m=2^n;grind
    have:=Rat.natCast_inj.1 e2;omega
   rcases Rat.mul_eq_zero.1 k with k | k;exact k;exact absurd k hne
  intro m hm;by_cases e:m=n;have a:=h 1;rw[sumR,G0x n fun i hi=>by rw[low i hi];grind] at a;rw[e];have:(1:Rat)^n=1:=Z2t n;grind;exact low m (by omega)
theorem K3r {c e:Nat->Rat}{d:Nat}(h: ∀t,pv c d t=pv e d t): ∀k,k<=d->c k=e k:=fun k hk=>by have:=Q2t (d+1) (fun m=>c m+(-1)*e m) (fun t=>by have a:=h t;unfold pv at a;have b:=Y0k (fun m=>c m*t^m) (fun m=>(-1)*(e m*t^m)) (d+1);rw[K0x] at b;rw[show sumR (fun m=>(c m+(-1)*e m)*t^m) (d+1)=sumR (fun i=>c i*t^i+(-1)*(e i*t^i)) (d+1) from Q0y fun i _=>by grind,b,a];grind) k (by omega);have this:c k+(-1)*e k=0:=this;grind
theorem PD.uniq {d d':Nat}{φ ψ ψ':Rat->Rat}(h:PD d φ ψ)(h':PD d' φ ψ'): ∀s,ψ s=ψ' s:=by have h:=h.mono (Nat.le_max_left d d');have h':=h'.mono (Nat.le_max_right d d');generalize max d d'=D at h h';obtain⟨c,h1,h2,h3⟩:=h;obtain⟨e,g1,g2,g3⟩:=h';have hce:=K3r (c:=c) (e:=e) (d:=D) fun t=>(by rw[<-h2,<-g2]);intro s;rw[h3,g3];refine j0f s fun k hk=> ?_;unfold derC;by_cases e1:k+1<=D;rw[hce _ e1];rw[h1 _ (by omega),g1 _ (by omega)]
theorem PD.sum {d:Nat}{φ ψ:Nat->Rat->Rat} : ∀n,(∀i,i<n->PD d (φ i) (ψ i))->PD d (fun s=>sumR (fun i=>φ i s) n) (fun s=>sumR (fun i=>ψ i s) n)
 | 0,_=>(PD.const 0).mono (Nat.zero_le _)
 | n+1,h=>(PD.sum n fun i hi=>h i (by omega)).add (h n (by omega))
theorem PD.scale {d:Nat}{φ ψ:Rat->Rat}(h:PD d φ ψ)(x:Rat):PD d (fun s=>φ s*x) (fun s=>ψ s*x):=by obtain⟨c,h1,h2,h3⟩:=h;refine⟨fun k=>x*c k,fun k hk=>by show x*c k=0;rw[h1 k hk];grind,fun s=>by show φ s*x=_;rw[h2,G1b];grind,fun s=> ?_⟩;show ψ s*x=_;rw[h3,show pv (derC fun k=>x*c k) d s=pv (fun k=>x*derC c k) d s from j0f s fun k _=>by unfold derC;grind,G1b];grind
theorem PD.pow {d:Nat}{φ ψ:Rat->Rat}(h:PD d φ ψ): ∀n:Nat,PD (n*d) (fun s=>powQ (φ s) n) (fun s=>(n:Rat)*powQ (φ s) (n-1)*ψ s)
 | 0=>by rw[Nat.zero_mul];refine(PD.const 1).congr (fun s=>rfl) fun s=> ?_;show(0:Rat)=((0:Nat):Rat)*_*_;rw[show((0:Nat):Rat)=0 from rfl];grind
 | n+1=>by
  rw[Nat.succ_mul];refine((PD.pow h n).mul h).congr (fun s=>rfl) fun s=> ?_;show(n:Rat)*powQ (φ s) (n-1)*ψ s*φ s+powQ (φ s) n*ψ s=((n+1:Nat):Rat)*powQ (φ s) (n+1-1)*ψ s;rw[Rat.natCast_add,Nat.add_sub_cancel,show((1:Nat):Rat)=1 from rfl];cases n with
  | zero=>rw[show((0:Nat):Rat)=0 from rfl];grind
  | succ m=>
   rw[Nat.add_sub_cancel];show _+(powQ (φ s) m*φ s)*ψ s=(_+1)*(powQ (φ s) m*φ s)*ψ s;grind
theorem PD.term {m:Mn}{n d:Nat}{φ ψ:Nat->Rat->Rat}(hl:m.ks.length=n)(hk: ∀j,j<n->0<=m.ks.getD j 0)(h: ∀j,j<n->PD d (φ j) (ψ j)):
 ∀i,i<=n-> ∃D,PD D (fun s=>z0j m (fun j=>φ j s) i) (fun s=>sumR (fun j=>H0f m j (fun j=>φ j s) i*ψ j s) i)
 | 0,_=>⟨0,PD.const _⟩
 | i+1,hi=>by obtain⟨D,ih⟩:=PD.term hl hk h i (by omega);refine⟨_,(ih.mul ((h i (by omega)).pow (m.ks.getD i 0).toNat)).congr (fun s=>rfl) fun s=> ?_⟩;show sumR (fun j=>H0f m j (fun j=>φ j s) i*ψ j s) i*powQ (φ i s) (m.ks.getD i 0).toNat+z0j m (fun j=>φ j s) i*(((m.ks.getD i 0).toNat:Rat)*powQ (φ i s) ((m.ks.getD i 0).toNat-1)*ψ i s)=_;rw[sumR];congr 1;rw[show sumR (fun j=>H0f m j (fun j=>φ j s) (i+1)*ψ j s) i=sumR (fun j=>powQ (φ i s) (m.ks.getD i 0).toNat*(H0f m j (fun j=>φ j s) i*ψ j s)) i from Q0y fun j hj=>by rw[y1f hj (by omega)];grind,K0x];grind;have k0:=hk i (by omega);unfold H0f;rw[z0j,Z1a i (Nat.le_refl _) (by omega)];show _=((m.ks.getD i 0:Int):Rat)*(z0j m (fun j=>φ j s) i*powQ (φ i s) ((decK m.ks i).getD i 0).toNat)*ψ i s;rw[w0v _ _ _ (by omega),if_pos rfl,show(m.ks.getD i 0-1).toNat=(m.ks.getD i 0).toNat-1 by omega];have e:((m.ks.getD i 0:Int):Rat)=((m.ks.getD i 0).toNat:Rat):=(by rw[show((m.ks.getD i 0).toNat:Rat)=(((m.ks.getD i 0).toNat:Int):Rat) from rfl,Int.toNat_of_nonneg k0]);rw[e];grind
theorem PD.val {q:List Mn}{n d:Nat}{φ ψ:Nat->Rat->Rat}(hq: ∀i,i<q.length->(q.getD i default).ks.length=n/\ ∀j,j<n->0<=(q.getD i default).ks.getD j 0)(h: ∀j,j<n->PD d (φ j) (ψ j)):
 ∀i,i<=q.length-> ∃D,PD D (fun s=>valQ q (fun j=>φ j s) n i) (fun s=>sumR (fun l=>Q1q q l (fun j=>φ j s) n i*ψ l s) n)
 | 0,_=>⟨0,(PD.const 0).congr (fun _=>rfl) fun s=>by rw[q1g fun j hj=>by show(0:Rat)*_=0;grind]⟩
 | i+1,hi=>by obtain⟨D,ih⟩:=PD.val hq h i (by omega);obtain⟨h1,h2⟩:=hq i (by omega);obtain⟨E,it⟩:=PD.term h1 h2 h n (Nat.le_refl _);refine⟨max D E,((ih.mono (Nat.le_max_left D E)).add (it.mono (Nat.le_max_right D E))).congr (fun s=>rfl) fun s=> ?_⟩;show sumR _ n+sumR _ n=_;rw[<-Y0k];refine Q0y fun l _=> ?_;show _=(Q1q q l _ n i+H0f (q.getD i default) l _ n)*ψ l s;grind
def ED (d:Nat)(φ:Rat->Rat):Prop:= ∃ψ,PD d φ ψ
theorem ED.mono {d e:Nat}{φ:Rat->Rat}(h:ED d φ)(hd:d<=e):ED e φ:=⟨_,h.choose_spec.mono hd⟩
theorem ED.mul {d e:Nat}{φ ψ:Rat->Rat}(h:ED d φ)(h':ED e ψ):ED (d+e) (fun s=>φ s*ψ s):=⟨_,h.choose_spec.mul h'.choose_spec⟩
theorem ED.add {d:Nat}{φ ψ:Rat->Rat}(h:ED d φ)(h':ED d ψ):ED d (fun s=>φ s+ψ s):=⟨_,h.choose_spec.add h'.choose_spec⟩
theorem ED.sum {d:Nat}{φ:Nat->Rat->Rat} : ∀n,(∀i,i<n->ED d (φ i))->ED d (fun s=>sumR (fun i=>φ i s) n)
 | 0,_=>⟨_,(PD.const 0).mono (Nat.zero_le _)⟩
 | n+1,h=>(ED.sum n fun i hi=>h i (by omega)).add (h n (by omega))
theorem ED.coef {a b k:Nat}{G H:Rat->Nat->Rat}(hg: ∀q,q<=k->ED (2*q+a) fun s=>G s q)(hh: ∀q,q<=k->ED (2*q+b) fun s=>H s q): ∀q,q<=k->ED (2*q+(a+b)) fun s=>J0m (G s) (H s) q:=fun q hq=>
 ED.sum (q+1) fun i hi=>((hg i (by omega)).mul (hh (q-i) (by omega))).mono (by omega)
theorem ED.pow {a k:Nat}{G X:Rat->Nat->Rat}(hg: ∀q,q<=k->ED (2*q+a) fun s=>G s q)(hx: ∀q,q<=k->ED (2*q+1) fun s=>X s q): ∀n q,q<=k->ED (2*q+(a+n)) fun s=>powR (G s) (X s) n q
 | 0=>hg
 | n+1=>fun q hq=>(ED.coef (ED.pow hg hx n) hx q hq).mono (by omega)
theorem ED.mon {k n:Nat}{c:Rat}{ks:List Int}{C:Rat->Nat->Nat->Rat}(hc: ∀j,j<n-> ∀q,q<=k->ED (2*q+1) fun s=>C s j q): ∀i,i<=n-> ∀q,q<=k->ED (2*q+sumE ks i) fun s=>monR c ks (C s) i q
 | 0,_=>fun q hq=>⟨_,(PD.const (if q=0 then c else 0)).mono (Nat.zero_le _)⟩
 | i+1,hi=>fun q hq=>ED.pow (ED.mon hc i (by omega)) (hc i (by omega)) _ q hq
theorem ED.pol {k n E:Nat}{p:List Mn}{C:Rat->Nat->Nat->Rat}(hp: ∀i,i<p.length->sumE (p.getD i default).ks n<=E)(hc: ∀j,j<n-> ∀q,q<=k->ED (2*q+1) fun s=>C s j q): ∀i,i<=p.length-> ∀q,q<=k->ED (2*q+E) fun s=>polR p n (C s) q i
 | 0,_=>fun q hq=>⟨_,(PD.const 0).mono (Nat.zero_le _)⟩
 | i+1,hi=>fun q hq=>(ED.pol hp hc i (by omega) q hq).add ((ED.mon hc n (Nat.le_refl _) q hq).mono (Nat.add_le_add_left (hp i (by omega)) _))
def cutR (k:Nat)(C:Rat->Nat->Nat->Rat)(s:Rat)(i q:Nat):Rat:=if q<=k then C s i q else 0
theorem X2q (k:Nat)(C:Rat->Nat->Nat->Rat)(s:Rat)(i:Nat):sup (cutR k C s i) k:=fun q hq=>if_neg (by omega)
theorem w0w {k:Nat}{C:Rat->Nat->Nat->Rat}{s:Rat}{i q:Nat}(h:q<=k):cutR k C s i q=C s i q:=if_pos h
def okD (p:List Mn)(n:Nat):Prop:= ∀i,i<p.length->(p.getD i default).ks.length=n/\(∀j,j<n->0<=(p.getD i default).ks.getD j 0)/\sumE (p.getD i default).ks n<=3
theorem K3y {p:List Mn}{n k:Nat}{C:Rat->Nat->Nat->Rat}(h:okD p n)(s t:Rat):sup (fun q=>polR p n (cutR k C s) q p.length) (3*k)/\ ∀D,3*k<=D->pv (fun q=>polR p n (cutR k C s) q p.length) D t=valQ p (fun j=>pv (cutR k C s j) k t) n p.length:=
 K3x (d:=k) (fun i hi=>⟨Nat.mul_le_mul_right _ (h i hi).2.2,fun j hj=> .inr (X2q k C s j)⟩) t _ (Nat.le_refl _)
section
variable {f:List (List Mn)} {J:List (List (List Mn))} {n K:Nat} {C Y:Rat->Nat->Nat->Rat}
theorem W2s (hf: ∀i,i<n->okD (f.getD i []) n)(hJ: ∀i,i<n-> ∀l,l<n->okD ((J.getD i []).getD l []) n)(hd: ∀i,i<n-> ∀l,l<n-> ∀X,valQ ((J.getD i []).getD l []) X n ((J.getD i []).getD l []).length=Q1q (f.getD i []) l X n (f.getD i []).length)
 {k:Nat} (ih: ∀q,q<=k-> ∀i,i<n->PD (2*q+1) (fun s=>C s i q) fun s=>Y s i q) {i:Nat} (hi:i<n):
 PD (2*k+3) (fun s=>polR (f.getD i []) n (C s) k (f.getD i []).length) fun s=>sumR (fun l=>J0m (polJ J n (C s) i l) (Y s l) k) n:=by
 have hC: ∀j,j<n-> ∀q,PD (2*q+1) (fun s=>cutR k C s j q) fun s=>cutR k Y s j q:=fun j hj q=>by by_cases c:q<=k;exact(ih q c j hj).congr (fun s=>(w0w c).symm) fun s=>(w0w c).symm;exact((PD.const 0).mono (Nat.zero_le _)).congr (fun s=>(if_neg c).symm) fun s=>(if_neg c).symm
 have hE: ∀q,∃Z,PD (2*q+3) (fun s=>polR (f.getD i []) n (cutR k C s) q (f.getD i []).length) Z:=fun q=>
  ED.pol (k:=q) (E:=3) (C:=cutR k C) (fun m hm=>(hf i hi m hm).2.2) (fun j hj q' hq=>⟨_,hC j hj q'⟩) _ (Nat.le_refl _) q (Nat.le_refl _)
 obtain⟨Z,hZ⟩:=Classical.axiomOfChoice hE;have hφ: ∀t:Rat,∀j,j<n->PD (2*k+1) (fun s=>pv (cutR k C s j) k t) fun s=>pv (cutR k Y s j) k t:=fun t j hj=>
  PD.sum (k+1) (φ:=fun q s=>cutR k C s j q*t^q) (ψ:=fun q s=>cutR k Y s j q*t^q) fun q hq=>((hC j hj q).mono (by omega)).scale (t^q)
 have key: ∀s t,pv (fun q=>Z q s) (4*k) t=pv (fun q=>sumR (fun l=>J0m (fun q=>polR ((J.getD i []).getD l []) n (cutR k C s) q ((J.getD i []).getD l []).length) (cutR k Y s l) q) n) (4*k) t:=fun s t=>by
  obtain⟨D,hD⟩:=PD.val (q:=f.getD i []) (fun m hm=>⟨(hf i hi m hm).1,(hf i hi m hm).2.1⟩) (hφ t) _ (Nat.le_refl _);have h1:PD (8*k+3) (fun s=>pv (fun q=>polR (f.getD i []) n (cutR k C s) q (f.getD i []).length) (4*k) t) fun s=>pv (fun q=>Z q s) (4*k) t:=
   PD.sum (4*k+1) (φ:=fun q s=>polR (f.getD i []) n (cutR k C s) q (f.getD i []).length*t^q) (ψ:=fun q s=>Z q s*t^q) fun q hq=>((hZ q).mono (by omega)).scale (t^q)
  have h2:=h1.congr (fun s=>(K3y (hf i hi) s t).2 _ (by omega)) fun s=>rfl;rw[h2.uniq hD s];have e: ∀l,l<n->Q1q (f.getD i []) l (fun j=>pv (cutR k C s j) k t) n (f.getD i []).length*pv (cutR k Y s l) k t=pv (J0m (fun q=>polR ((J.getD i []).getD l []) n (cutR k C s) q ((J.getD i []).getD l []).length) (cutR k Y s l)) (4*k) t:=fun l hl=>by obtain⟨g1,g2⟩:=K3y (k:=k) (C:=C) (hJ i hi l hl) s t;rw[<-hd i hi l hl,U1j (X2q k Y s l) t _ _ g1 _ (by omega),g2 _ (Nat.le_refl _)]
  rw[Q0y e];have hsw: ∀m,sumR (fun l=>pv (J0m (fun q=>polR ((J.getD i []).getD l []) n (cutR k C s) q ((J.getD i []).getD l []).length) (cutR k Y s l)) (4*k) t) m=pv (fun q=>sumR (fun l=>J0m (fun q=>polR ((J.getD i []).getD l []) n (cutR k C s) q ((J.getD i []).getD l []).length) (cutR k Y s l) q) m) (4*k) t:=fun m=>by
   induction m with
   | zero=>exact(G0x _ fun q _=>by show(0:Rat)*_=0;grind).symm
   | succ m ihm=>rw[sumR,ihm,<-y0w];rfl
  exact hsw n
 have hk: ∀s,Z k s=sumR (fun l=>J0m (polJ J n (C s) i l) (Y s l) k) n:=fun s=>by rw[K3r (key s) k (by omega)];refine Q0y fun l _=>Q0y fun q hq=> ?_;rw[w0w (show k-q<=k by omega)];congr 1;exact y0x (fun j _ m hm=>w0w (by omega)) _
 exact(hZ k).congr (fun s=>y0x (fun j _ m hm=>w0w hm) _) hk
end
theorem k1a {f:List (List Mn)}{J:List (List (List Mn))}{n K:Nat}{C:Rat->Nat->Nat->Rat}{W:Rat->Nat->Nat->Nat->Rat}{a b:Nat->Rat}(hn:f.length=n)
 (hf: ∀i,i<n->okD (f.getD i []) n) (hJ: ∀i,i<n-> ∀l,l<n->okD ((J.getD i []).getD l []) n) (hd: ∀i,i<n-> ∀l,l<n-> ∀X,valQ ((J.getD i []).getD l []) X n ((J.getD i []).getD l []).length=Q1q (f.getD i []) l X n (f.getD i []).length)
 (hC: ∀s,serR f (C s) K) (hW: ∀s,varR J n (C s) (W s) K) (h0: ∀s i,i<n->C s i 0=a i+s*b i):
 ∀k,k<=K-> ∀q,q<=k-> ∀i,i<n->PD (2*q+1) (fun s=>C s i q) fun s=>sumR (fun j=>W s i j q*b j) n
 | 0,_=>fun q hq i hi=>by
  obtain rfl:q=0:=(by omega);refine(PD.line (a i) (b i)).congr (fun s=>(h0 s i hi).symm) fun s=> ?_;rw[Q0y fun j hj=>by rw[(hW s).1 i j hi hj]];have: ∀m,sumR (fun j=>V1h i j*b j) m=if i<m then b i else 0:=fun m=>by
   induction m with
   | zero=>rfl
   | succ m ihm=>
    rw[sumR,ihm];unfold V1h;by_cases e:i=m;rw[if_neg (by omega),if_pos e,if_pos (by omega),e];grind;rw[if_neg e];by_cases e2:i<m;rw[if_pos e2,if_pos (by omega)];grind;rw[if_neg e2,if_neg (by omega)];grind
  rw[this,if_pos hi]
 | k+1,hk=>fun q hq i hi=>by
  have ih:=k1a hn hf hJ hd hC hW h0 k (by omega);by_cases e:q<=k;exact ih q e i hi;obtain rfl:q=k+1:=(by omega);have st:=W2s (C:=C) (Y:=fun s i q=>sumR (fun j=>W s i j q*b j) n) hf hJ hd (k:=k) ih hi;have hne:((k+1:Nat):Rat)≠0:=fun e=>by have:=Rat.natCast_inj.1 (e.trans (show(0:Rat)=((0:Nat):Rat) from rfl));omega
  refine(st.scale (1/((k+1:Nat):Rat))).congr (fun s=> ?_) fun s=> ?_;have h1:=hC s k (by omega) i (by omega);rw[hn] at h1;show polR _ _ _ _ _*_=_;rw[<-h1];generalize ((k+1:Nat):Rat)=N at*
  grind;show sumR _ n*_=_;have e1: ∀l,l<n->J0m (polJ J n (C s) i l) (fun q=>sumR (fun j=>W s l j q*b j) n) k=sumR (fun j=>J0m (polJ J n (C s) i l) (W s l j) k*b j) n:=fun l _=>by
   unfold J0m;have: ∀m,sumR (fun q=>polJ J n (C s) i l q*sumR (fun j=>W s l j (k-q)*b j) n) m=sumR (fun j=>sumR (fun q=>polJ J n (C s) i l q*W s l j (k-q)) m*b j) n:=fun m=>by
    induction m with
    | zero=>exact(G0x _ fun j _=>by show(0:Rat)*_=0;grind).symm
    | succ m ihm=>
     rw[sumR,ihm,<-K0x,<-Y0k];refine Q0y fun j _=> ?_;rw[sumR];grind
   exact this (k+1)
  rw[show sumR (fun l=>J0m (polJ J n (C s) i l) (fun q=>sumR (fun j=>W s l j q*b j) n) k) n=sumR (fun l=>sumR (fun j=>J0m (polJ J n (C s) i l) (W s l j) k*b j) n) n from Q0y e1];have sw: ∀m,sumR (fun l=>sumR (fun j=>J0m (polJ J n (C s) i l) (W s l j) k*b j) n) m=sumR (fun j=>sumR (fun l=>J0m (polJ J n (C s) i l) (W s l j) k) m*b j) n:=fun m=>by
   induction m with
   | zero=>exact(G0x _ fun j _=>by show(0:Rat)*_=0;grind).symm
   | succ m ihm=>
    rw[sumR,ihm,<-Y0k];refine Q0y fun j _=> ?_;rw[sumR];grind
  rw[sw n];have e2: ∀j,j<n->sumR (fun l=>J0m (polJ J n (C s) i l) (W s l j) k) n=W s i j (k+1)*((k+1:Nat):Rat):=fun j hj=>((hW s).2 k (by omega) i j hi hj).symm;rw[show sumR (fun j=>sumR (fun l=>J0m (polJ J n (C s) i l) (W s l j) k) n*b j) n=sumR (fun j=>((k+1:Nat):Rat)*(W s i j (k+1)*b j)) n from Q0y fun j hj=>by rw[e2 j hj];grind,K0x];generalize ((k+1:Nat):Rat)=N at*
  grind
theorem x1b (g:Nat->Rat->Rat)(b:Nat->Rat)(t:Rat): ∀n,Z1u (fun s=>sumR (fun j=>g j s*b j) n) t=sumR (fun j=>Z1u (g j) t*b j) n
 | 0=>by unfold Z1u;simp only[sumR];grind
 | n+1=>by rw[sumR,<-x1b g b t n];unfold Z1u;simp only[sumR];grind
theorem v1h {f:List (List Mn)}{J:List (List (List Mn))}{n K:Nat}{C:Rat->Nat->Nat->Rat}{W:Rat->Nat->Nat->Nat->Rat}{a b:Nat->Rat}(hn:f.length=n)
 (hf: ∀i,i<n->okD (f.getD i []) n) (hJ: ∀i,i<n-> ∀l,l<n->okD ((J.getD i []).getD l []) n) (hd: ∀i,i<n-> ∀l,l<n-> ∀X,valQ ((J.getD i []).getD l []) X n ((J.getD i []).getD l []).length=Q1q (f.getD i []) l X n (f.getD i []).length)
 (hC: ∀s,serR f (C s) K) (hW: ∀s,varR J n (C s) (W s) K) (h0: ∀s i,i<n->C s i 0=a i+s*b i) {k i:Nat} (hk:k<=K) (hk6:k<=3) (hi:i<n):
 C 1 i k-C 0 i k=sumR (fun j=>Z1u (fun s=>W s i j k) 1*b j) n:=by
 obtain⟨c,h1,h2,h3⟩:=(k1a hn hf hJ hd hC hW h0 k hk k (Nat.le_refl _) i hi).mono (show 2*k+1<=7 by omega);have e0:pv c 7 0=c 0:=by rw[X1f];grind
 have e1:=U3g c 1;have e2:Z1u (fun s=>pv (fun k=>c (k+1)*((k+1:Nat):Rat)) 6 s) 1=Z1u (fun s=>sumR (fun j=>W s i j k*b j) n) 1:=by
  congr 1;funext s;refine Eq.trans ?_ (h3 s).symm;have hs:sup (derC c) 6:=fun q hq=>by unfold derC;rw[h1 (q+1) (by omega)];grind
  exact(k0n hs s (by omega)).symm
 rw[e2,x1b (fun j s=>W s i j k) b 1 n] at e1;have g1:C 1 i k=pv c 7 1:=h2 1;have g0:C 0 i k=pv c 7 0:=h2 0;rw[g1,g0,e0,e1];grind
def xE (f:List (List Mn))(x0:Nat->Rat):Nat->Nat->Nat->Rat
 | 0=>fun i _=>x0 i
 | k+1=>fun i m=>if m=k+1 then polL (f.getD i []) f.length (xE f x0 k) k (f.getD i []).length else xE f x0 k i m
def derX (f:List (List Mn))(x0:Nat->Rat)(i m:Nat):Rat:=xE f x0 m i m
theorem J3y {f:List (List Mn)}{x0:Nat->Rat}{i m:Nat} : ∀k,m<=k->xE f x0 k i m=derX f x0 i m
 | 0,h=>by obtain rfl:m=0:=by omega
           rfl
 | k+1,h=>by by_cases e:m=k+1;rw[e];rfl;show(if m=k+1 then _ else xE f x0 k i m)=_;rw[if_neg e];exact J3y k (by omega)
theorem W3d (f:List (List Mn))(x0:Nat->Rat)(K:Nat):derR f (derX f x0) K:=fun k _ i _=>by show(if k+1=k+1 then polL (f.getD i []) f.length (xE f x0 k) k (f.getD i []).length else xE f x0 k i (k+1))=_;rw[if_pos rfl];exact H0y (fun j _ q hq=>J3y k hq) _
theorem V1g {f:List (List Mn)}{x0:Nat->Rat}{X:Nat->Nat->Rat}{K:Nat}(h:derR f X K)(h0: ∀i,i<f.length->X i 0=x0 i): ∀k,k<=K-> ∀q,q<=k-> ∀i,i<f.length->X i q=derX f x0 i q
 | 0,_=>fun q hq i hi=>by obtain rfl:q=0:=by omega
                          exact h0 i hi
 | k+1,hk=>fun q hq i hi=>by have ih:=V1g h h0 k (by omega);by_cases e:q<=k;exact ih q e i hi;obtain rfl:q=k+1:=(by omega);rw[h k (by omega) i hi,W3d f x0 (k+1) k (by omega) i hi];exact H0y (fun j hj q hq=>ih q hq j hj) _
theorem Q3g {a b s lo hi:Rat}(ha:lo<=a/\a<=hi)(hb:lo<=b/\b<=hi)(h0:0<=s)(h1:s<=1):lo<=a+s*(b-a)/\a+s*(b-a)<=hi:=by have p1:=Rat.mul_nonneg h0 (show 0<=b-lo by grind);have p2:=Rat.mul_nonneg (show(0:Rat)<=1-s by grind) (show 0<=a-lo by grind);have p3:=Rat.mul_nonneg h0 (show 0<=hi-b by grind);have p4:=Rat.mul_nonneg (show(0:Rat)<=1-s by grind) (show 0<=hi-a by grind);constructor<;>grind
theorem U2l {f:List (List Mn)}{J:List (List (List Mn))}{n o:Nat}{x:Nat->Ivl}{M:Nat->Nat->Nat->Ivl}{U V:Nat->Nat->Rat}{a b:Nat->Rat}(ho:o<=3)(hn:f.length=n)
 (hf: ∀i,i<n->okD (f.getD i []) n) (hJ: ∀i,i<n-> ∀l,l<n->okD ((J.getD i []).getD l []) n) (hd: ∀i,i<n-> ∀l,l<n-> ∀X,valQ ((J.getD i []).getD l []) X n ((J.getD i []).getD l []).length=Q1q (f.getD i []) l X n (f.getD i []).length)
 (hmem: ∀X:Nat->Nat->Rat,(∀i,i<n->memI (X i 0) (x i))->derR f X o-> ∀m,m<=o-> ∀i j,i<n->j<n->memI (varW J n X i j m/(fctN m:Rat)) (M m i j))
 (hU:derR f U o) (hV:derR f V o) (hu: ∀i,i<n->U i 0=a i/\memI (a i) (x i)) (hv: ∀i,i<n->V i 0=b i/\memI (b i) (x i)) {k i:Nat} (hk:k<=o) (hi:i<n):
 ∃μ:Nat->Rat,(∀j,j<n->memI (μ j) (M k i j))/\(V i k-U i k)/(fctN k:Rat)=sumR (fun j=>μ j*(b j-a j)) n:=by
 have hX:=fun s:Rat=>W3d f (fun i=>a i+s*(b i-a i)) o;have hsl:=v1h (K:=o) (C:=fun s=>G0y (derX f fun i=>a i+s*(b i-a i))) (W:=fun s i j k=>varW J n (derX f fun i=>a i+s*(b i-a i)) i j k/(fctN k:Rat)) (a:=a) (b:=fun i=>b i-a i) hn hf hJ hd
  (fun s=>j2c (by omega) (hX s)) (fun s=>Q2m (by omega) (K3e J n _ o)) (fun s i _=>y0o _ i) hk (by omega) hi
 refine⟨_,fun j hj=> ?_,Eq.trans ?_ hsl⟩;refine Q3h (by grind) fun s h0 h1=> ?_;exact hmem (derX f fun i=>a i+s*(b i-a i)) (fun i hi=>show memI (a i+s*(b i-a i)) (x i) from Q3g (hu i hi).2 (hv i hi).2 h0 h1) (hX s) k hk i j hi hj;have e1:=V1g hV (x0:=fun i=>a i+1*(b i-a i)) (fun i hi=>by rw[(hv i (by omega)).1];grind) o (Nat.le_refl _) k hk i (by omega);have e0:=V1g hU (x0:=fun i=>a i+0*(b i-a i)) (fun i hi=>by rw[(hu i (by omega)).1];grind) o (Nat.le_refl _) k hk i (by omega);show _=derX f _ i k/(fctN k:Rat)-derX f _ i k/(fctN k:Rat);rw[<-e1,<-e0];grind
end Go.Pv
end
