/- Parts of the walk: M76. -/
import Derived.Test.YthichlfphjbadaaGreatZR
import Derived.Test.YthichlfphjbadaaGreatZY
import Derived.Test.YthichlfphjbadaaGreatZE
set_option linter.unusedVariables false
set_option linter.unusedSimpArgs false
section
/-Pieces and states as bytes:putting,reading;reading inverts putting,one form. No program in it. -/
namespace Go.Pv
structure Fm where
 m:List Nm
 a:List (List Nm)
 r:List Ivl
 deriving DecidableEq
instance : Inhabited Fm:=⟨⟨[],[],[]⟩⟩
structure Sx where
 idx:Int
 t:Nm
 h:Nm
 f:Fm
 deriving DecidableEq
instance : Inhabited Sx:=⟨⟨0,default,default,default⟩⟩
def Z0l (l:List Nm) (n:Nat):Bool:=l.all Q0f&&decide (l.length=n)
def X0m (f:Fm):Bool:=decide (1≤f.m.length)&&decide (f.m.length≤4)&&Z0l f.m f.m.length&&decide (f.a.length=f.m.length)&&decide (f.r.length=f.m.length)&&
 f.a.all (fun x=>Z0l x f.m.length)&&f.r.all (fun x=>hasI x default)
def Z0g (s:Sx):Bool:=decide (0≤s.idx)&&decide (s.idx≤4096)&&Q0f s.t&&Q0f s.h&& !s.t.neg&&decide (0<s.h.w.length)&& !s.h.neg&&X0m s.f
def segB (s:Sg):List UInt8×Int:=if X0d s=true then(uvar s.fr.toNat++(uvar s.to.toNat++(numB s.t0++(numB s.t1++boxB s.box))),0) else([],1)
def nsB (l:List Nm):List UInt8:=l.flatMap numB
def V0n (l:List (List Nm)):List UInt8:=l.flatMap nsB
def stB (s:Sx):List UInt8×Int:=if Z0g s=true then(uvar s.idx.toNat++(numB s.t++(numB s.h++(uvar s.f.m.length++(nsB s.f.m++(V0n s.f.a++boxB s.f.r))))),0) else([],1)
def Q0v :Nat→List UInt8→Int→List Nm→List Nm×List UInt8×Int
 | 0,l,e,o=>(o,l,e)
 | n+1,l,e,o=>if e=0 then Q0v n (Q0m l e).2.1 (Q0m l e).2.2 (o++ [(Q0m l e).1]) else(o,l,e)
def Z0v (m:Nat):Nat→List UInt8→Int→List (List Nm)→List (List Nm)×List UInt8×Int
 | 0,l,e,o=>(o,l,e)
 | n+1,l,e,o=>if e=0 then Z0v m n (Q0v m l e []).2.1 (Q0v m l e []).2.2 (o++ [(Q0v m l e []).1]) else(o,l,e)
def Z0o :Nat→List UInt8→Int→List Nm→List Nm×List UInt8×Int
 | 0,l,e,o=>(o,l,e)
 | n+1,l,e,o=>Z0o n (Q0m l e).2.1 (Q0m l e).2.2 (o++ [(Q0m l e).1])
def V0v (m:Nat):Nat→List UInt8→Int→List (List Nm)→List (List Nm)×List UInt8×Int
 | 0,l,e,o=>(o,l,e)
 | n+1,l,e,o=>V0v m n (Z0o m l e []).2.1 (Z0o m l e []).2.2 (o++ [(Z0o m l e []).1])
theorem v0v (n:Nat) (l:List UInt8) (e:Int) (o:List Nm) (h:e≠0):Q0v n l e o=(o,l,e):=by
 cases n with
 | zero=>rfl
 | succ n=>rw [Q0v,if_neg h]
theorem v0u (m n:Nat) (l:List UInt8) (e:Int) (o:List (List Nm)) (h:e≠0):Z0v m n l e o=(o,l,e):=by
 cases n with
 | zero=>rfl
 | succ n=>rw [Z0v,if_neg h]
theorem G1v : ∀(n:Nat) (l:List UInt8) (e:Int) (o:List Nm),e≠0→(Z0o n l e o).2=(l,e)
 | 0,l,e,o,h=>rfl
 | n+1,l,e,o,h=>by rw [Z0o,Y0b l e h];exact G1v n l e _ h
theorem G1q (m:Nat): ∀(n:Nat) (l:List UInt8) (e:Int) (o:List (List Nm)),e≠0→(V0v m n l e o).2=(l,e)
 | 0,l,e,o,h=>rfl
 | n+1,l,e,o,h=>by rw [V0v,G1v m l e [] h];exact G1q m n l e _ h
theorem J1o : ∀(n:Nat) (l:List UInt8) (e:Int) (o:List Nm),(Z0o n l e o).2=(Q0v n l e o).2∧((Q0v n l e o).2.2=0→Z0o n l e o=Q0v n l e o)
 | 0,l,e,o=>⟨rfl,fun _=>rfl⟩
 | n+1,l,e,o=>by
  by_cases h:e=0
  · subst h
    rw [Z0o,Q0v,if_pos rfl]
    exact J1o n _ _ _
  · rw [v0v _ _ _ _ h,G1v _ _ _ _ h]
    exact⟨rfl,fun h2=>absurd h2 h⟩
theorem z1r (m:Nat): ∀(n:Nat) (l:List UInt8) (e:Int) (o:List (List Nm)),(V0v m n l e o).2=(Z0v m n l e o).2∧((Z0v m n l e o).2.2=0→V0v m n l e o=Z0v m n l e o)
 | 0,l,e,o=>⟨rfl,fun _=>rfl⟩
 | n+1,l,e,o=>by
  by_cases h:e=0
  · subst h
    rw [V0v,Z0v,if_pos rfl]
    obtain⟨h1,h2⟩:=J1o m l 0 []
    rw [h1]
    by_cases h3:(Q0v m l 0 []).2.2=0
    · rw [h2 h3]
      exact z1r m n _ _ _
    · rw [v0u _ _ _ _ _ h3,G1q _ _ _ _ _ h3]
      exact⟨rfl,fun h4=>absurd h4 h3⟩
  · rw [v0u _ _ _ _ _ h,G1q _ _ _ _ _ h]
    exact⟨rfl,fun h2=>absurd h2 h⟩
theorem y0v : ∀(xs:List Nm) (l:List UInt8) (o:List Nm),xs.all Q0f=true→Q0v xs.length (nsB xs++l) 0 o=(o++xs,l,0)
 | [],l,o,_=>by simp [Q0v,nsB]
 | x::xs,l,o,h=>by
  simp only [List.all_cons,Bool.and_eq_true] at h
  have e:nsB (x::xs)++l=numB x++(nsB xs++l):=by simp [nsB]
  rw [List.length_cons,Q0v,if_pos rfl,e,U0x x _ h.1]
  show Q0v xs.length (nsB xs++l) 0 (o++ [x])=_
  rw [y0v xs l _ h.2]
  simp
theorem Y1i (m:Nat): ∀(xs:List (List Nm)) (l:List UInt8) (o:List (List Nm)),xs.all (fun x=>Z0l x m)=true→Z0v m xs.length (V0n xs++l) 0 o=(o++xs,l,0)
 | [],l,o,_=>by simp [Z0v,V0n]
 | x::xs,l,o,h=>by
  simp only [List.all_cons,Bool.and_eq_true] at h
  obtain⟨h1,h2⟩:=h
  unfold Z0l at h1
  simp only [Bool.and_eq_true,decide_eq_true_eq] at h1
  have e:V0n (x::xs)++l=nsB x++(V0n xs++l):=by simp [V0n]
  rw [List.length_cons,Z0v,if_pos rfl,e,←h1.2,y0v x _ [] h1.1]
  show Z0v x.length xs.length (V0n xs++l) 0 (o++ [[]++x])=_
  rw [h1.2,Y1i m xs l _ h2]
  simp
theorem y0w : ∀(n:Nat) (l:List UInt8) (e:Int) (o:List Nm),(Q0v n l e o).2.2=0→e=0∧ ∃xs,(Q0v n l e o).1=o++xs∧xs.length=n∧xs.all Q0f=true∧l=nsB xs++(Q0v n l e o).2.1
 | 0,l,e,o,h=>⟨h,[],by simp [Q0v],rfl,rfl,by simp [Q0v,nsB]⟩
 | n+1,l,e,o,h=>by
  by_cases he:e=0
  · subst he
    refine⟨rfl,?_⟩
    rw [Q0v,if_pos rfl] at h⊢
    obtain⟨h1,xs,x1,x2,x3,x4⟩:=y0w n _ _ _ h
    obtain⟨a1,a2⟩:=Y0t l h1
    refine⟨(Q0m l 0).1::xs,by rw [x1];simp,by simp [x2],by simp [a1];simpa using x3,?_⟩
    have e2:nsB ((Q0m l 0).1::xs)=numB (Q0m l 0).1++nsB xs:=by simp [nsB]
    rw [e2,List.append_assoc,←x4,←a2]
  · rw [v0v _ _ _ _ he] at h;exact absurd h he
theorem x0x (m:Nat): ∀(n:Nat) (l:List UInt8) (e:Int) (o:List (List Nm)),(Z0v m n l e o).2.2=0→e=0∧ ∃xs,(Z0v m n l e o).1=o++xs∧xs.length=n∧xs.all (fun x=>Z0l x m)=true∧l=V0n xs++(Z0v m n l e o).2.1
 | 0,l,e,o,h=>⟨h,[],by simp [Z0v],rfl,rfl,by simp [Z0v,V0n]⟩
 | n+1,l,e,o,h=>by
  by_cases he:e=0
  · subst he
    refine⟨rfl,?_⟩
    rw [Z0v,if_pos rfl] at h⊢
    obtain⟨h1,xs,x1,x2,x3,x4⟩:=x0x m n _ _ _ h
    obtain⟨_,y,y1,y2,y3,y4⟩:=y0w m l 0 [] h1
    rw [List.nil_append] at y1
    refine⟨y::xs,by rw [x1,y1];simp,by simp [x2],?_,?_⟩
    · rw [List.all_cons,x3,Z0l,y3,y2];simp
    · have e2:V0n (y::xs)=nsB y++V0n xs:=by simp [V0n]
      rw [e2,List.append_assoc,←x4,←y4]
  · rw [v0u _ _ _ _ _ he] at h;exact absurd h he
def segR (b:List UInt8):Sg×Int:=
 let u:=Q0k b 0
 let v:=Q0k u.2.1 u.2.2
 let x:=Q0m v.2.1 v.2.2
 let y:=Q0m x.2.1 x.2.2
 let z:=X0b y.2.1 y.2.2
 if z.2.2≠0 then(default,z.2.2)
 else if u.1≤4096∧v.1≤4096∧z.2.1.length=0∧X0d ⟨u.1,v.1,x.1,y.1,z.1⟩=true then(⟨u.1,v.1,x.1,y.1,z.1⟩,0) else(default,11)
def stR (b:List UInt8):Sx×Int:=
 let u:=Q0k b 0
 let x:=Q0m u.2.1 u.2.2
 let y:=Q0m x.2.1 x.2.2
 let n:=Q0k y.2.1 y.2.2
 if n.2.2≠0 then(default,n.2.2)
 else if n.1<1∨4<n.1 then(default,11)
 else
  let m:=Q0v n.1 n.2.1 n.2.2 []
  let a:=Z0v n.1 n.1 m.2.1 m.2.2 []
  let z:=X0b a.2.1 a.2.2
  if z.2.2≠0 then(default,z.2.2)
  else if u.1≤4096∧z.2.1.length=0∧Z0g ⟨u.1,x.1,y.1,⟨m.1,a.1,z.1⟩⟩=true then(⟨u.1,x.1,y.1,⟨m.1,a.1,z.1⟩⟩,0) else(default,11)
theorem Q2c {l:List UInt8} {e:Int} (h:(Q0k l e).2.2=0):e=0:=by
 by_cases he:e=0
 · exact he
 · rw [k0h l e he] at h;exact absurd h he
theorem Z1o {l:List UInt8} {e:Int} (h:(Q0m l e).2.2=0):e=0:=by
 by_cases he:e=0
 · exact he
 · rw [Y0b l e he] at h;exact absurd h he
theorem G1w {l:List UInt8} {e:Int} (h:(X0b l e).2.2=0):e=0:=by
 by_cases he:e=0
 · exact he
 · rw [z0k l e he] at h;exact absurd h he
theorem G1d {n:Int} (h1:0≤n) (h2:n≤4096):n.toNat<18446744073709551616∧((n.toNat:Nat):Int)=n∧n.toNat≤4096:=by omega
theorem G1j (s:Sg) (h:X0d s=true):segR (segB s).1=(s,0):=by
 obtain⟨h1,h2,h3,h4,h5,_,_,h6⟩:=Y0o h
 obtain⟨a1,a2,a3⟩:=G1d (n:=s.fr) (by omega) (by omega)
 obtain⟨b1,b2,b3⟩:=G1d (n:=s.to) (by omega) (by omega)
 rw [segB,if_pos h]
 have e:X0b (boxB s.box) 0=(s.box,[],0):=by have:=z1t s.box [] h6;rwa [List.append_nil] at this
 unfold segR
 simp only [Y0a _ _ a1,Y0a _ _ b1,U0x _ _ h4,U0x _ _ h5,e]
 rw [if_neg (by simp),if_pos ⟨a3,b3,rfl,by rw [a2,b2];exact h⟩,a2,b2]
theorem Z0s {f:Fm} (h:X0m f=true):1≤f.m.length∧f.m.length≤4∧f.m.all Q0f=true∧f.a.length=f.m.length∧f.r.length=f.m.length∧f.a.all (fun x=>Z0l x f.m.length)=true∧rightB f.r=true:=by
 unfold X0m at h
 simp only [Bool.and_eq_true,decide_eq_true_eq] at h
 obtain⟨⟨⟨⟨⟨⟨h1,h2⟩,h3⟩,h4⟩,h5⟩,h6⟩,h7⟩:=h
 unfold Z0l at h3
 simp only [Bool.and_eq_true,decide_eq_true_eq] at h3
 refine⟨h1,h2,h3.1,h4,h5,h6,?_⟩
 unfold rightB
 simp only [Bool.and_eq_true,decide_eq_true_eq]
 refine⟨⟨?_,by omega⟩,by omega⟩
 rw [List.all_eq_true] at h7⊢
 intro x hx
 have:=h7 x hx
 unfold hasI at this
 simp only [Bool.and_eq_true] at this
 exact this.1.1.1
theorem Z0z {s:Sx} (h:Z0g s=true):0≤s.idx∧s.idx≤4096∧Q0f s.t=true∧Q0f s.h=true∧X0m s.f=true:=by
 unfold Z0g at h
 simp only [Bool.and_eq_true,decide_eq_true_eq] at h
 exact⟨h.1.1.1.1.1.1.1,h.1.1.1.1.1.1.2,h.1.1.1.1.1.2,h.1.1.1.1.2,h.2⟩
theorem k1y (s:Sx) (h:Z0g s=true):stR (stB s).1=(s,0):=by
 obtain⟨h1,h2,h3,h4,h5⟩:=Z0z h
 obtain⟨f1,f2,f3,f4,f5,f6,f7⟩:=Z0s h5
 obtain⟨a1,a2,a3⟩:=G1d (n:=s.idx) (by omega) (by omega)
 rw [stB,if_pos h]
 have e:X0b (boxB s.f.r) 0=(s.f.r,[],0):=by have:=z1t s.f.r [] f7;rwa [List.append_nil] at this
 have e2: ∀l,Q0v s.f.m.length (nsB s.f.m++l) 0 []=(s.f.m,l,0):=fun l=>y0v s.f.m l [] f3
 have e3: ∀l,Z0v s.f.m.length s.f.m.length (V0n s.f.a++l) 0 []=(s.f.a,l,0):=fun l=>by
  have:=Y1i s.f.m.length s.f.a l [] f6
  rwa [f4] at this
 unfold stR
 simp only [Y0a _ _ a1,Y0a _ _ (by omega:s.f.m.length<18446744073709551616),U0x _ _ h3,U0x _ _ h4,e,e2,e3]
 rw [if_neg (by simp),if_neg (by omega),if_neg (by simp),if_pos ⟨a3,rfl,by rw [a2];exact h⟩,a2]
theorem y1s (b:List UInt8) (h:(segR b).2=0):X0d (segR b).1=true∧segB (segR b).1=(b,0):=by
 unfold segR at h⊢
 simp only at h⊢
 split at h
 · exact absurd h (by assumption)
 · rename_i hz
   split at h
   · rename_i hc
     rw [if_neg hz,if_pos hc]
     obtain⟨c1,c2,c3,c4⟩:=hc
     have z0:(X0b (Q0m (Q0m (Q0k (Q0k b 0).2.1 (Q0k b 0).2.2).2.1 (Q0k (Q0k b 0).2.1 (Q0k b 0).2.2).2.2).2.1 (Q0m (Q0k (Q0k b 0).2.1 (Q0k b 0).2.2).2.1 (Q0k (Q0k b 0).2.1 (Q0k b 0).2.2).2.2).2.2).2.1 (Q0m (Q0m (Q0k (Q0k b 0).2.1 (Q0k b 0).2.2).2.1 (Q0k (Q0k b 0).2.1 (Q0k b 0).2.2).2.2).2.1 (Q0m (Q0k (Q0k b 0).2.1 (Q0k b 0).2.2).2.1 (Q0k (Q0k b 0).2.1 (Q0k b 0).2.2).2.2).2.2).2.2).2.2=0:=Classical.byContradiction hz
     have y0:=G1w z0
     have x0:=Z1o y0
     have v0:=Z1o x0
     have u0:=Q2c v0
     rw [u0] at v0 x0 y0 z0 c3 c4⊢
     rw [v0] at x0 y0 z0 c3 c4⊢
     rw [x0] at y0 z0 c3 c4⊢
     rw [y0] at z0 c3 c4⊢
     refine⟨c4,?_⟩
     rw [segB,if_pos c4]
     obtain⟨_,k5⟩:=v0w _ z0
     obtain⟨_,k4⟩:=Y0t _ y0
     obtain⟨_,k3⟩:=Y0t _ x0
     have k2:=U0w _ v0
     have k1:=U0w _ u0
     rw [List.length_eq_zero_iff.1 c3,List.append_nil] at k5
     show(uvar (Q0k b 0).1++(uvar (Q0k (Q0k b 0).2.1 0).1++(numB _++(numB _++boxB _))),(0:Int))=(b,0)
     rw [←k5,←k4,←k3,←k2,←k1]
   · exact absurd h (by decide)
theorem W2p (b:List UInt8) (h:(stR b).2=0):Z0g (stR b).1=true∧stB (stR b).1=(b,0):=by
 unfold stR at h⊢
 simp only at h⊢
 split at h
 · exact absurd h (by assumption)
 · rename_i hn
   split at h
   · exact absurd h (by decide)
   · rename_i hn2
     split at h
     · exact absurd h (by assumption)
     · rename_i hz
       split at h
       · rename_i hc
         rw [if_neg hn,if_neg hn2,if_neg hz,if_pos hc]
         obtain⟨c1,c3,c4⟩:=hc
         have n0:=Classical.byContradiction hn
         have z0:=Classical.byContradiction hz
         have a0:=G1w z0
         obtain⟨m0,_⟩:=x0x _ _ _ _ _ a0
         have y0:=Q2c n0
         have x0:=Z1o y0
         have u0:=Z1o x0
         rw [u0] at x0 y0 n0 m0 a0 z0 c3 c4 hn2⊢
         rw [x0] at y0 n0 m0 a0 z0 c3 c4 hn2⊢
         rw [y0] at n0 m0 a0 z0 c3 c4 hn2⊢
         rw [n0] at m0 a0 z0 c3 c4⊢
         rw [m0] at a0 z0 c3 c4⊢
         rw [a0] at z0 c3 c4⊢
         refine⟨c4,?_⟩
         rw [stB,if_pos c4]
         obtain⟨_,k7⟩:=v0w _ z0
         obtain⟨_,xs,p1,p2,p3,k6⟩:=x0x _ _ _ _ _ a0
         obtain⟨_,ys,q1,q2,q3,k5⟩:=y0w _ _ _ _ m0
         have k4:=U0w _ n0
         obtain⟨_,k3⟩:=Y0t _ y0
         obtain⟨_,k2⟩:=Y0t _ x0
         have k1:=U0w _ u0
         rw [List.nil_append] at p1 q1
         rw [←p1] at k6
         rw [←q1] at k5 q2
         rw [List.length_eq_zero_iff.1 c3,List.append_nil] at k7
         refine Prod.ext ?_ rfl
         show uvar (Q0k b 0).1++(numB _++(numB _++(uvar (List.length _)++(nsB _++(V0n _++boxB _)))))=b
         rw [q2,←k7,←k6,←k5,←k4,←k3,←k2,←k1]
       · exact absurd h (by decide)
end Go.Pv
end
