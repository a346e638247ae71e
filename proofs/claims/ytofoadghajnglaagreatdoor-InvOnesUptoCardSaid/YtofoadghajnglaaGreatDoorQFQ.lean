/- Parts of the walk: M94, M95. -/
import Derived.Test.YtofoadghajnglaaGreatDoorQFF
set_option linter.unusedVariables false
set_option linter.unusedSimpArgs false
section
/-The inverse for sure of a matrix of ones in any order:that of the order turned round,without any width. No program in it. -/
namespace Go.Pv
def bP (b:Bool):Ivl:=⟨bN b,bN b⟩
def tabB (n:Nat) (f:Nat→Nat→Bool):List (List Bool):=(List.range n).map fun i=>(List.range n).map fun j=>f i j
theorem W1k (n:Nat) (f:Nat→Nat→Bool):(tabB n f).length=n:=by simp [tabB]
theorem j1w {n:Nat} {f:Nat→Nat→Bool} {i j:Nat} (hi:i<n) (hj:j<n):bEnt (tabB n f) i j=f i j:=by
 unfold bEnt tabB
 rw [List.getD_eq_getElem?_getD,List.getD_eq_getElem?_getD,List.getElem?_map,List.getElem?_range hi]
 show(Option.getD (List.map (fun j=>f i j) (List.range n))[j]? false)=_
 rw [List.getElem?_map,List.getElem?_range hj];rfl
theorem V0e (n:Nat) (f:Nat→Nat→Bool):sqR n (btQ (tabB n f)):=Z2e (W1k n f) fun r hr=>by
 simp only [tabB,List.mem_map] at hr
 obtain⟨i,_,rfl⟩:=hr
 simp
theorem w0f {n:Nat} {f:Nat→Nat→Bool} {i j:Nat} (hi:i<n) (hj:j<n):atM (ofM (btQ (tabB n f))) i j=bP (f i j):=by
 have h:=V0e n f
 rw [J1x (by rw [h.1];exact hi) (by rw [(h.row hi).1];exact hj),H0j,j1w hi hj];rfl
theorem Z1v {n:Nat} {f:Nat→Nat→Bool} {G:Nat→Nat→Ivl×Int} (h: ∀i j,i<n→j<n→G i j=(bP (f i j),0)):V0j G n=(ofM (btQ (tabB n f)),0):=by
 rw [H1s fun i j hi hj=>by rw [h i j hi hj]]
 refine Prod.ext ?_ rfl
 show Y0m G n=ofM (btQ (tabB n f))
 unfold Y0m ofM btQ tabB
 rw [List.map_map,List.map_map]
 refine List.map_congr_left fun i hi=> ?_
 show _=ofB (List.map bN (List.map _ _))
 unfold ofB
 rw [List.map_map,List.map_map]
 refine List.map_congr_left fun j hj=> ?_
 rw [List.mem_range] at hi hj
 rw [h i j hi hj];rfl
theorem G3d {p:Int} (hp:Z0b p=true):8≤p.toNat:=by
 unfold Z0b at hp
 simp only [Bool.and_eq_true,decide_eq_true_eq] at hp
 omega
theorem v1o {k:Nat} {a b:Ivl} {p:Int} (ha:Q0v a=true) (hb:Q0v b=true) (hp:Z0b p=true) (h1:Q0g (loV k (ofN a.lo) (ofN a.hi) (ofN b.lo) (ofN b.hi)).m≤8) (h2:Q0g (hiV k (ofN a.lo) (ofN a.hi) (ofN b.lo) (ofN b.hi)).m≤8):
 opI k a b p=w0s (loV k (ofN a.lo) (ofN a.hi) (ofN b.lo) (ofN b.hi)) (hiV k (ofN a.lo) (ofN a.hi) (ofN b.lo) (ofN b.hi)):=by
 have:=G3d hp
 unfold opI
 rw [if_pos ⟨ha,hb,hp⟩,j0c (Nat.le_trans h1 this),j0c (Nat.le_trans h2 this)]
theorem G0g (b:Bool):Q0v (bP b)=true:=by cases b<;>decide+kernel
theorem q2p {x y:Bool} {p:Int} (hp:Z0b p=true) (h:y=false∨x=true):opI 1 (bP x) (bP y) p=(bP (x&& !y),0):=by
 cases x<;>cases y<;>first | (exact absurd h (by decide)) | (rw [v1o (G0g _) (G0g _) hp (by decide+kernel) (by decide+kernel)];decide+kernel)
theorem q2r {x y:Bool} {p:Int} (hp:Z0b p=true) (h:(x&&y)=false):opI 0 (bP x) (bP y) p=(bP (x||y),0):=by
 cases x<;>cases y<;>first | (exact absurd h (by decide)) | (rw [v1o (G0g _) (G0g _) hp (by decide+kernel) (by decide+kernel)];decide+kernel)
theorem q2q {x y:Bool} {p:Int} (hp:Z0b p=true):opI 2 (bP x) (bP y) p=(bP (x&&y),0):=by
 cases x<;>cases y<;>(rw [v1o (G0g _) (G0g _) hp (by decide+kernel) (by decide+kernel)];decide+kernel)
def dotB (f g:Nat→Bool):Nat→Option Bool
 | 0=>some false
 | k+1=>(dotB f g k).bind fun b=>if b&&(f k&&g k) then none else some (b||(f k&&g k))
theorem V1j {x y:Nat→Ivl} {f g:Nat→Bool} {p:Int} (hp:Z0b p=true): ∀n,(∀k,k<n→x k=bP (f k)∧y k=bP (g k))→ ∀b,dotB f g n=some b→dotF x y p n=(bP b,0)
 | 0,_,b,h=>by cases h;rfl
 | k+1,hx,b,h=>by
  unfold dotB at h
  cases hd:dotB f g k with
  | none=>rw [hd] at h;cases h
  | some c=>
   have h:=(congrArg (Option.bind · _) hd).symm.trans h
   have ih:=V1j hp k (fun j hj=>hx j (by omega)) c hd
   have hm:opI 2 (x k) (y k) p=(bP (f k&&g k),0):=by rw [(hx k (by omega)).1,(hx k (by omega)).2,q2q hp]
   have h':(if (c&&(f k&&g k))=true then none else some (c||(f k&&g k)))=some b:=h
   split at h'
   · cases h'
   rename_i hc
   cases h'
   unfold dotF
   rw [ih,if_neg (by simp),hm,if_neg (by simp)]
   by_cases hk:k=0
   · subst hk
     cases hd
     rw [if_pos rfl,Bool.false_or]
   · have ha:=q2r (x:=c) (y:=f k&&g k) hp (by simpa using hc)
     rw [if_neg hk,ha,if_neg (by simp)]
theorem w1d {n:Nat} {f g h:Nat→Nat→Bool} {p:Int} (hp:Z0b p=true) (h1:1≤n) (h4:n≤4) (hd: ∀i j,i<n→j<n→dotB (f i) (fun k=>g k j) n=some (h i j)):
 mulM (ofM (btQ (tabB n f))) (ofM (btQ (tabB n g))) p=(ofM (btQ (tabB n h)),0):=by
 have l1: ∀f,(ofM (btQ (tabB n f))).length=n:=fun f=>by rw [show(ofM (btQ (tabB n f))).length=(btQ (tabB n f)).length from List.length_map _,(V0e n f).1]
 unfold mulM
 rw [if_pos ⟨(V0e n f).rightM h1 h4,(V0e n g).rightM h1 h4,by rw [l1,l1],hp⟩,l1]
 exact Z1v fun i j hi hj=>V1j hp n (fun k hk=>⟨w0f hi hk,w0f hk hj⟩) _ (hd i j hi hj)
theorem k1b {n:Nat} {f g:Nat→Nat→Bool} {p:Int} (hp:Z0b p=true) (h1:1≤n) (h4:n≤4) (hd: ∀i j,i<n→j<n→g i j=false∨f i j=true):
 opM 1 (ofM (btQ (tabB n f))) (ofM (btQ (tabB n g))) p=(ofM (btQ (tabB n fun i j=>f i j&& !(g i j))),0):=by
 have l1: ∀f,(ofM (btQ (tabB n f))).length=n:=fun f=>by rw [show(ofM (btQ (tabB n f))).length=(btQ (tabB n f)).length from List.length_map _,(V0e n f).1]
 unfold opM
 rw [if_pos ⟨(V0e n f).rightM h1 h4,(V0e n g).rightM h1 h4,by rw [l1,l1],hp⟩,l1]
 refine Z1v fun i j hi hj=> ?_
 rw [w0f hi hj,w0f hi hj]
 exact q2p hp (hd i j hi hj)
theorem z2u {n:Nat} (h1:1≤n) (h4:n≤4):idM (n:Int)=ofM (btQ (tabB n fun i j=>decide (i=j))):=by
 unfold idM ofM btQ tabB
 rw [if_pos ⟨by omega,by omega⟩,Int.toNat_natCast,List.map_map,List.map_map]
 refine List.map_congr_left fun i hi=> ?_
 show _=ofB (List.map bN (List.map _ _))
 unfold ofB
 rw [List.map_map,List.map_map]
 refine List.map_congr_left fun j hj=> ?_
 show _=bP (decide (i=j))
 by_cases e:i=j
 · rw [if_pos e,decide_eq_true e];rfl
 · rw [if_neg e,decide_eq_false e];rfl
theorem H1m (b:Bool):magI (bP b)=bN b:=by cases b<;>decide+kernel
def sumB (f:Nat→Bool):Nat→Option Bool
 | 0=>some (f 0)
 | j+1=>(sumB f j).bind fun b=>if b&&f (j+1) then none else some (b||f (j+1))
theorem X1w {r:Nat→Ivl} {f:Nat→Bool} {p:Int} (hp:Z0b p=true): ∀n,(∀k,k≤n→r k=bP (f k))→ ∀b,sumB f n=some b→sumF r p n=(bN b,0)
 | 0,hx,b,h=>by cases h;unfold sumF;rw [hx 0 (by omega),H1m]
 | k+1,hx,b,h=>by
  unfold sumB at h
  cases hd:sumB f k with
  | none=>rw [hd] at h;cases h
  | some c=>
   have h:=(congrArg (Option.bind · _) hd).symm.trans h
   have ih:=X1w hp k (fun j hj=>hx j (by omega)) c hd
   have h':(if (c&&f (k+1))=true then none else some (c||f (k+1)))=some b:=h
   split at h'
   · cases h'
   rename_i hc
   cases h'
   unfold sumF
   rw [ih,if_neg (by simp),hx (k+1) (by omega),H1m]
   exact G1r hp (by simpa using hc)
def Y1i (f:Nat→Nat→Bool) (n:Nat):Nat→Option Bool
 | 0=>some false
 | i+1=>(Y1i f n i).bind fun a=>(sumB (f i) (n-1)).bind fun b=>some (b||a)
theorem x1j (a b:Bool):(if cmpR (bN b) (bN a)>0 then((bN b,0):Nm×Int) else(bN a,0))=(bN (b||a),0):=by cases a<;>cases b<;>decide+kernel
theorem y0g {n:Nat} {f:Nat→Nat→Bool} {p:Int} (hp:Z0b p=true) (h1:1≤n): ∀i,i≤n→ ∀b,Y1i f n i=some b→J0s (ofM (btQ (tabB n f))) p i=(bN b,0)
 | 0,_,b,h=>by cases h;rfl
 | i+1,hi,b,h=>by
  have l1:(ofM (btQ (tabB n f))).length=n:=by rw [show(ofM (btQ (tabB n f))).length=(btQ (tabB n f)).length from List.length_map _,(V0e n f).1]
  unfold Y1i at h
  cases ha:Y1i f n i with
  | none=>rw [ha] at h;cases h
  | some a=>
   have h:=(congrArg (Option.bind · _) ha).symm.trans h
   have h:((sumB (f i) (n-1)).bind fun b=>some (b||a))=some b:=h
   cases hs:sumB (f i) (n-1) with
   | none=>rw [hs] at h;cases h
   | some c=>
    have h:=(congrArg (Option.bind · _) hs).symm.trans h
    have h:some (c||a)=some b:=h
    cases h
    have ih:=y0g hp h1 i (by omega) a ha
    have is:=X1w (r:=atM (ofM (btQ (tabB n f))) i) hp (n-1) (fun k hk=>w0f (by omega) (by omega)) c hs
    unfold J0s
    rw [ih,if_neg (by simp),l1,is,if_neg (by simp)]
    exact x1j a c
theorem K1b {n:Nat} {f:Nat→Nat→Bool} {p:Int} {b:Bool} (hp:Z0b p=true) (h1:1≤n) (h4:n≤4) (h:Y1i f n n=some b):X0a (ofM (btQ (tabB n f))) p=(bN b,0):=by
 have l1:(ofM (btQ (tabB n f))).length=n:=by rw [show(ofM (btQ (tabB n f))).length=(btQ (tabB n f)).length from List.length_map _,(V0e n f).1]
 unfold X0a
 rw [if_pos ⟨(V0e n f).rightM h1 h4,hp⟩,l1]
 exact y0g hp h1 n (Nat.le_refl _) b h
theorem J2j {x:Bool} {p:Int} {up:Bool} (hp:Z0b p=true):W0w (bN x) (bN true) p up=(bN x,0):=by
 unfold W0w
 rw [if_neg (by decide)]
 exact div_one hp
theorem q2m :allP (fun s=>(List.range s.length).all fun i=>(List.range s.length).all fun j=>decide (dotB (fun k=>decide (i=s.getD k 0)) (fun k=>decide (j=s.getD k 0)) s.length=some (decide (i=j))))=true:=by decide+kernel
theorem H1a :allP (fun s=>decide (Y1i (fun i j=>decide (i=s.getD j 0)) s.length s.length=some true)&&decide (Y1i (fun _ _=>false) s.length s.length=some false))=true:=by decide+kernel
theorem k1u {s:List Nat} {p:Int} (hs:q0m s=true) (hp:Z0b p=true):X0s (btQ (ordT s)) (btQ (ordM s)) p=(bN false,0):=by
 obtain⟨h1,h4⟩:=k0v hs
 have hd:=X1e q2m hs
 simp only [List.all_eq_true,List.mem_range,decide_eq_true_eq] at hd
 have hn:=X1e H1a hs
 rw [Bool.and_eq_true,decide_eq_true_eq,decide_eq_true_eq] at hn
 have hm:mulM (ofM (btQ (ordT s))) (ofM (btQ (ordM s))) p=_:=w1d (f:=fun i j=>decide (i=s.getD j 0)) (g:=fun i j=>decide (j=s.getD i 0)) (h:=fun i j=>decide (i=j)) hp h1 h4 fun i j hi hj=>hd i hi j hj
 have hl:((btQ (ordT s)).length:Int)=(s.length:Int):=by rw [V0n,k0y]
 have ho:opM 1 (idM (s.length:Int)) (ofM (btQ (tabB s.length fun i j=>decide (i=j)))) p=(ofM (btQ (tabB s.length fun _ _=>false)),0):=by
  rw [z2u h1 h4,k1b hp h1 h4 fun i j _ _=>by cases decide (i=j)<;>simp]
  refine Prod.ext ?_ rfl
  show ofM (btQ (tabB _ _))=_
  congr 3
  funext i j
  cases decide (i=j)<;>rfl
 unfold X0s
 rw [hm,hl,if_neg (by simp),ho,if_neg (by simp)]
 exact K1b hp h1 h4 hn.2
theorem J2i {s:List Nat} {p:Int} (hs:q0m s=true) (hp:Z0b p=true):radQ (btQ (ordT s)) (bN false) p=(bN false,0):=by
 obtain⟨h1,h4⟩:=k0v hs
 have hn:=X1e H1a hs
 rw [Bool.and_eq_true,decide_eq_true_eq,decide_eq_true_eq] at hn
 have a1:Q0p 1 oneN (bN false) p false=(bN true,0):=G1q (x:=true) hp rfl
 have a2:X0a (ofM (btQ (ordT s))) p=(bN true,0):=K1b (f:=fun i j=>decide (i=s.getD j 0)) hp h1 h4 hn.1
 have a3:Q0p 2 (bN true) (bN false) p true=(bN false,0):=J2h hp
 unfold radQ
 rw [a1,a2,if_neg (by simp),if_neg (by simp),a3,if_neg (by simp)]
 exact J2j hp
theorem q1y {y:Bool} {p:Int} (hp:Z0b p=true):X0z (bN y) (bN false) p=(bP y,0):=by
 have a1:Q0p 1 (bN y) (bN false) p false=(bN y,0):=G1q hp rfl
 have a2:Q0p 0 (bN y) (bN false) p true=(bN y,0):=by rw [G1r hp (Bool.and_false _),Bool.or_false]
 unfold X0z
 rw [a1,a2,if_neg (by simp)];rfl
theorem j1x {s:List Nat} {p:Int} (hs:q0m s=true) (hp:Z0b p=true):J0d (btQ (ordM s)) p=(ofM (btQ (ordT s)),0):=by
 unfold J0d
 rw [w0g hs hp,if_neg (by simp),k1u hs hp,if_neg (by simp),if_neg (by decide+kernel),J2i hs hp,if_neg (by simp),V0n,V0r]
 refine Z1v (f:=fun i j=>decide (i=s.getD j 0)) fun i j hi hj=> ?_
 have e:entQ (btQ (ordT s)) i j=bN (decide (i=s.getD j 0)):=by
  rw [H0j]
  exact congrArg bN (j1w (f:=fun i j=>decide (i=s.getD j 0)) hi hj)
 show X0z (entQ (btQ (ordT s)) i j) (bN false) p=_
 rw [e,q1y hp]
end Go.Pv
end
section
/-A matrix of ones in any order is made row by row:the plain side. No program in it. -/
namespace Go.Pv
theorem U0s {n:Nat} {f g:Nat→Nat→Bool} (h: ∀x y,x<n→y<n→f x y=g x y):tabB n f=tabB n g:=by
 unfold tabB
 refine List.map_congr_left fun i hi=>List.map_congr_left fun j hj=>h i j (List.mem_range.1 hi) (List.mem_range.1 hj)
theorem k1k {n i j:Nat} {f:Nat→Nat→Bool} (hi:i<n) (hj:j<n):(btQ (tabB n f)).set i (((btQ (tabB n f)).getD i []).set j oneN)=btQ (tabB n fun x y=>(decide (x=i)&&decide (y=j))||f x y):=by
 have hr:(btQ (tabB n f)).getD i []=(List.range n).map fun y=>bN (f i y):=by
  rw [w0c]
  unfold tabB
  rw [List.getD_eq_getElem?_getD,List.getElem?_map,List.getElem?_range hi]
  show((List.range n).map fun j=>f i j).map bN=_
  rw [List.map_map];rfl
 rw [hr]
 refine List.ext_getElem (by simp [btQ,tabB]) fun x h1 h2=> ?_
 have hx:x<n:=by simpa [btQ,tabB] using h2
 rw [List.getElem_set]
 by_cases e:i=x
 · subst e
   rw [if_pos rfl]
   refine List.ext_getElem (by simp [btQ,tabB]) fun y h3 h4=> ?_
   rw [List.getElem_set]
   simp only [btQ,tabB,List.getElem_map,List.getElem_range]
   by_cases e2:j=y
   · subst e2;rw [if_pos rfl];simp;rfl
   · rw [if_neg e2];simp [show¬y=j from fun h=>e2 h.symm]
 · rw [if_neg e]
   simp only [btQ,tabB,List.getElem_map,List.getElem_range]
   rw [decide_eq_false (fun h=>e h.symm)];simp
def matA (n:Nat) (s:List Nat):List (List Nm):=btQ (tabB n fun x y=>decide (x<s.length)&&decide (y=s.getD x 0))
def matT (n:Nat) (s:List Nat):List (List Nm):=btQ (tabB n fun x y=>decide (y<s.length)&&decide (x=s.getD y 0))
theorem w1q (n:Nat):matA n []=List.replicate n (List.replicate n default):=by
 refine List.ext_getElem (by simp [matA,btQ,tabB]) fun x h1 h2=> ?_
 refine List.ext_getElem (by simp [matA,btQ,tabB]) fun y h3 h4=> ?_
 simp [matA,btQ,tabB];rfl
theorem w1j (n:Nat):matT n []=List.replicate n (List.replicate n default):=by
 refine List.ext_getElem (by simp [matT,btQ,tabB]) fun x h1 h2=> ?_
 refine List.ext_getElem (by simp [matT,btQ,tabB]) fun y h3 h4=> ?_
 simp [matT,btQ,tabB];rfl
theorem z0x (s:List Nat) (j x:Nat):(s++ [j]).getD x 0=if x=s.length then j else s.getD x 0:=by
 split
 · rename_i e
   subst e
   rw [Q0h _ _ _ _ (Nat.le_refl _),Nat.sub_self];rfl
 · rename_i e
   by_cases h:x<s.length
   · rw [Q0f _ _ _ _ h]
   · rw [Q0h _ _ _ _ (by omega),List.getD_eq_getElem?_getD,List.getD_eq_getElem?_getD,List.getElem?_eq_none (by simp;omega),List.getElem?_eq_none (by omega)]
theorem G1g (s:List Nat) (j x y:Nat):((decide (x=s.length)&&decide (y=j))||(decide (x<s.length)&&decide (y=s.getD x 0)))=(decide (x<(s++ [j]).length)&&decide (y=(s++ [j]).getD x 0)):=by
 rw [z0x,List.length_append,List.length_singleton]
 by_cases e:x=s.length
 · subst e
   rw [if_pos rfl];simp
 · rw [if_neg e]
   by_cases h:x<s.length
   · simp [e,h,show x<s.length+1 by omega]
   · simp [e,h,show¬x<s.length+1 by omega]
theorem w1r {n j:Nat} {s:List Nat} (hs:s.length<n) (hj:j<n):(matA n s).set s.length (((matA n s).getD s.length []).set j oneN)=matA n (s++ [j]):=by
 unfold matA
 rw [k1k hs hj]
 congr 1
 exact U0s fun x y _ _=>G1g s j x y
theorem w1k {n j:Nat} {s:List Nat} (hs:s.length<n) (hj:j<n):(matT n s).set j (((matT n s).getD j []).set s.length oneN)=matT n (s++ [j]):=by
 unfold matT
 rw [k1k hj hs]
 congr 1
 refine U0s fun x y _ _=> ?_
 rw [Bool.and_comm (decide (x=j))]
 exact G1g s j y x
theorem K2v (s:List Nat):matA s.length s=btQ (ordM s):=by
 unfold matA
 congr 1
 refine(U0s (g:=fun x y=>decide (y=s.getD x 0)) fun x y hx hy=> ?_).trans rfl
 rw [decide_eq_true hx,Bool.true_and]
theorem K2q (s:List Nat):matT s.length s=btQ (ordT s):=by
 unfold matT
 congr 1
 refine(U0s (g:=fun x y=>decide (x=s.getD y 0)) fun x y hx hy=> ?_).trans rfl
 rw [decide_eq_true hy,Bool.true_and]
theorem Y1p (n:Nat) (s:List Nat):sqR n (matA n s):=V0e n _
theorem Y1n (n:Nat) (s:List Nat):sqR n (matT n s):=V0e n _
theorem v1h {n at':Nat} {s left:List Nat} (h:(s++left).Perm (List.range n)) (ha:at'<left.length):((s++ [left.getD at' 0])++(left.take at'++left.drop (at'+1))).Perm (List.range n):=by
 refine List.Perm.trans ?_ h
 have e:left=left.take at'++left.getD at' 0::left.drop (at'+1):=by
  rw [List.getD_eq_getElem?_getD,List.getElem?_eq_getElem ha]
  show left=_++left[at']::_
  rw [List.getElem_cons_drop,List.take_append_drop]
 generalize left.take at'=u at*
 generalize left.drop (at'+1)=v at*
 generalize left.getD at' 0=j at*
 subst e
 rw [List.append_assoc]
 refine List.Perm.append_left s ?_
 show(j::(u++v)).Perm _
 exact List.perm_middle.symm
theorem q2l {n at':Nat} {s left:List Nat} (h:(s++left).Perm (List.range n)) (ha:at'<left.length):left.getD at' 0<n:=by
 have:left.getD at' 0∈s++left:=List.mem_append_right _ (Q0m _ _ _ ha)
 exact List.mem_range.1 (h.mem_iff.1 this)
theorem G1z {n:Nat} {s left:List Nat} (h:(s++left).Perm (List.range n)):s.length+left.length=n:=by
 have:=h.length_eq
 rw [List.length_append,List.length_range] at this
 exact this
theorem J2t {n:Nat} {s:List Nat} (h1:1≤n) (h4:n≤4) (h:s.Perm (List.range n)):q0m s=true:=by
 have hl:s.length=n:=by have:=h.length_eq;rwa [List.length_range] at this
 have hnd:s.Nodup:=h.nodup_iff.2 List.nodup_range
 unfold q0m
 rw [hl]
 simp only [Bool.and_eq_true,List.all_eq_true,List.mem_range,decide_eq_true_eq,Bool.or_eq_true]
 refine⟨⟨h1,h4⟩,fun i hi=>⟨List.mem_range.1 (h.mem_iff.1 (Q0m _ _ _ (by omega))),fun j hj=> ?_⟩⟩
 by_cases e:i=j
 · exact .inl e
 · refine .inr fun e2=>e ?_
   rw [List.getD_eq_getElem?_getD,List.getElem?_eq_getElem (by omega),List.getD_eq_getElem?_getD,List.getElem?_eq_getElem (by omega)] at e2
   exact(List.getElem_inj hnd).1 e2
end Go.Pv
end
