/- Parts of the walk: M76. -/
import Derived.Test.YthichlfphjbadaaGreatZR
import Derived.Test.YthichlfphjbadaaGreatZY
import Derived.Test.YthichlfphjbadaaGreatZE
set_option linter.unusedVariables false
set_option linter.unusedSimpArgs false
section
/-Pieces and states as bytes:putting,reading;reading inverts putting,one form. No program in it. -/
namespace Go.Pv
structure Fm where
 m:List Nm
 a:List (List Nm)
 r:List Ivl
 deriving DecidableEq
instance : Inhabited Fm:=⟨⟨[],[],[]⟩⟩
structure Sx where
 idx:Int
 t:Nm
 h:Nm
 f:Fm
 deriving DecidableEq
instance : Inhabited Sx:=⟨⟨0,default,default,default⟩⟩
def Z0k (l:List Nm) (n:Nat):Bool:=l.all Q0f&&decide (l.length=n)
def X0i (f:Fm):Bool:=decide (1≤f.m.length)&&decide (f.m.length≤4)&&Z0k f.m f.m.length&&decide (f.a.length=f.m.length)&&decide (f.r.length=f.m.length)&&
 f.a.all (fun x=>Z0k x f.m.length)&&f.r.all (fun x=>hasI x default)
def Q0z (s:Sx):Bool:=decide (0≤s.idx)&&decide (s.idx≤4096)&&Q0f s.t&&Q0f s.h&& !s.t.neg&&decide (0<s.h.w.length)&& !s.h.neg&&X0i s.f
def segB (s:Sg):List UInt8×Int:=if K0y s=true then(uvar s.fr.toNat++(uvar s.to.toNat++(numB s.t0++(numB s.t1++boxB s.box))),0) else([],1)
def nsB (l:List Nm):List UInt8:=l.flatMap numB
def K0h (l:List (List Nm)):List UInt8:=l.flatMap nsB
def stB (s:Sx):List UInt8×Int:=if Q0z s=true then(uvar s.idx.toNat++(numB s.t++(numB s.h++(uvar s.f.m.length++(nsB s.f.m++(K0h s.f.a++boxB s.f.r))))),0) else([],1)
def Z0i :Nat→List UInt8→Int→List Nm→List Nm×List UInt8×Int
 | 0,l,e,o=>(o,l,e)
 | n+1,l,e,o=>if e=0 then Z0i n (Q0r l e).2.1 (Q0r l e).2.2 (o++ [(Q0r l e).1]) else(o,l,e)
def X0n (m:Nat):Nat→List UInt8→Int→List (List Nm)→List (List Nm)×List UInt8×Int
 | 0,l,e,o=>(o,l,e)
 | n+1,l,e,o=>if e=0 then X0n m n (Z0i m l e []).2.1 (Z0i m l e []).2.2 (o++ [(Z0i m l e []).1]) else(o,l,e)
def Z0j :Nat→List UInt8→Int→List Nm→List Nm×List UInt8×Int
 | 0,l,e,o=>(o,l,e)
 | n+1,l,e,o=>Z0j n (Q0r l e).2.1 (Q0r l e).2.2 (o++ [(Q0r l e).1])
def V0o (m:Nat):Nat→List UInt8→Int→List (List Nm)→List (List Nm)×List UInt8×Int
 | 0,l,e,o=>(o,l,e)
 | n+1,l,e,o=>V0o m n (Z0j m l e []).2.1 (Z0j m l e []).2.2 (o++ [(Z0j m l e []).1])
theorem w1b (n:Nat) (l:List UInt8) (e:Int) (o:List Nm) (h:e≠0):Z0i n l e o=(o,l,e):=by
 cases n with
 | zero=>rfl
 | succ n=>rw [Z0i,if_neg h]
theorem U1a (m n:Nat) (l:List UInt8) (e:Int) (o:List (List Nm)) (h:e≠0):X0n m n l e o=(o,l,e):=by
 cases n with
 | zero=>rfl
 | succ n=>rw [X0n,if_neg h]
theorem U1f : ∀(n:Nat) (l:List UInt8) (e:Int) (o:List Nm),e≠0→(Z0j n l e o).2=(l,e)
 | 0,l,e,o,h=>rfl
 | n+1,l,e,o,h=>by rw [Z0j,q0s l e h];exact U1f n l e _ h
theorem U1b (m:Nat): ∀(n:Nat) (l:List UInt8) (e:Int) (o:List (List Nm)),e≠0→(V0o m n l e o).2=(l,e)
 | 0,l,e,o,h=>rfl
 | n+1,l,e,o,h=>by rw [V0o,U1f m l e [] h];exact U1b m n l e _ h
theorem X1c : ∀(n:Nat) (l:List UInt8) (e:Int) (o:List Nm),(Z0j n l e o).2=(Z0i n l e o).2∧((Z0i n l e o).2.2=0→Z0j n l e o=Z0i n l e o)
 | 0,l,e,o=>⟨rfl,fun _=>rfl⟩
 | n+1,l,e,o=>by
  by_cases h:e=0
  · subst h
    rw [Z0j,Z0i,if_pos rfl]
    exact X1c n _ _ _
  · rw [w1b _ _ _ _ h,U1f _ _ _ _ h]
    exact⟨rfl,fun h2=>absurd h2 h⟩
theorem H1y (m:Nat): ∀(n:Nat) (l:List UInt8) (e:Int) (o:List (List Nm)),(V0o m n l e o).2=(X0n m n l e o).2∧((X0n m n l e o).2.2=0→V0o m n l e o=X0n m n l e o)
 | 0,l,e,o=>⟨rfl,fun _=>rfl⟩
 | n+1,l,e,o=>by
  by_cases h:e=0
  · subst h
    rw [V0o,X0n,if_pos rfl]
    obtain⟨h1,h2⟩:=X1c m l 0 []
    rw [h1]
    by_cases h3:(Z0i m l 0 []).2.2=0
    · rw [h2 h3]
      exact H1y m n _ _ _
    · rw [U1a _ _ _ _ _ h3,U1b _ _ _ _ _ h3]
      exact⟨rfl,fun h4=>absurd h4 h3⟩
  · rw [U1a _ _ _ _ _ h,U1b _ _ _ _ _ h]
    exact⟨rfl,fun h2=>absurd h2 h⟩
theorem w0q : ∀(xs:List Nm) (l:List UInt8) (o:List Nm),xs.all Q0f=true→Z0i xs.length (nsB xs++l) 0 o=(o++xs,l,0)
 | [],l,o,_=>by simp [Z0i,nsB]
 | x::xs,l,o,h=>by
  simp only [List.all_cons,Bool.and_eq_true] at h
  have e:nsB (x::xs)++l=numB x++(nsB xs++l):=by simp [nsB]
  rw [List.length_cons,Z0i,if_pos rfl,e,U0o x _ h.1]
  show Z0i xs.length (nsB xs++l) 0 (o++ [x])=_
  rw [w0q xs l _ h.2]
  simp
theorem V1r (m:Nat): ∀(xs:List (List Nm)) (l:List UInt8) (o:List (List Nm)),xs.all (fun x=>Z0k x m)=true→X0n m xs.length (K0h xs++l) 0 o=(o++xs,l,0)
 | [],l,o,_=>by simp [X0n,K0h]
 | x::xs,l,o,h=>by
  simp only [List.all_cons,Bool.and_eq_true] at h
  obtain⟨h1,h2⟩:=h
  unfold Z0k at h1
  simp only [Bool.and_eq_true,decide_eq_true_eq] at h1
  have e:K0h (x::xs)++l=nsB x++(K0h xs++l):=by simp [K0h]
  rw [List.length_cons,X0n,if_pos rfl,e,←h1.2,w0q x _ [] h1.1]
  show X0n x.length xs.length (K0h xs++l) 0 (o++ [[]++x])=_
  rw [h1.2,V1r m xs l _ h2]
  simp
theorem V1v : ∀(n:Nat) (l:List UInt8) (e:Int) (o:List Nm),(Z0i n l e o).2.2=0→e=0∧ ∃xs,(Z0i n l e o).1=o++xs∧xs.length=n∧xs.all Q0f=true∧l=nsB xs++(Z0i n l e o).2.1
 | 0,l,e,o,h=>⟨h,[],by simp [Z0i],rfl,rfl,by simp [Z0i,nsB]⟩
 | n+1,l,e,o,h=>by
  by_cases he:e=0
  · subst he
    refine⟨rfl,?_⟩
    rw [Z0i,if_pos rfl] at h⊢
    obtain⟨h1,xs,x1,x2,x3,x4⟩:=V1v n _ _ _ h
    obtain⟨a1,a2⟩:=k0z l h1
    refine⟨(Q0r l 0).1::xs,by rw [x1];simp,by simp [x2],by simp [a1];simpa using x3,?_⟩
    have e2:nsB ((Q0r l 0).1::xs)=numB (Q0r l 0).1++nsB xs:=by simp [nsB]
    rw [e2,List.append_assoc,←x4,←a2]
  · rw [w1b _ _ _ _ he] at h;exact absurd h he
theorem V1s (m:Nat): ∀(n:Nat) (l:List UInt8) (e:Int) (o:List (List Nm)),(X0n m n l e o).2.2=0→e=0∧ ∃xs,(X0n m n l e o).1=o++xs∧xs.length=n∧xs.all (fun x=>Z0k x m)=true∧l=K0h xs++(X0n m n l e o).2.1
 | 0,l,e,o,h=>⟨h,[],by simp [X0n],rfl,rfl,by simp [X0n,K0h]⟩
 | n+1,l,e,o,h=>by
  by_cases he:e=0
  · subst he
    refine⟨rfl,?_⟩
    rw [X0n,if_pos rfl] at h⊢
    obtain⟨h1,xs,x1,x2,x3,x4⟩:=V1s m n _ _ _ h
    obtain⟨_,y,y1,y2,y3,y4⟩:=V1v m l 0 [] h1
    rw [List.nil_append] at y1
    refine⟨y::xs,by rw [x1,y1];simp,by simp [x2],?_,?_⟩
    · rw [List.all_cons,x3,Z0k,y3,y2];simp
    · have e2:K0h (y::xs)=nsB y++K0h xs:=by simp [K0h]
      rw [e2,List.append_assoc,←x4,←y4]
  · rw [U1a _ _ _ _ _ he] at h;exact absurd h he
def segR (b:List UInt8):Sg×Int:=
 let u:=Q0s b 0
 let v:=Q0s u.2.1 u.2.2
 let x:=Q0r v.2.1 v.2.2
 let y:=Q0r x.2.1 x.2.2
 let z:=X0s y.2.1 y.2.2
 if z.2.2≠0 then(default,z.2.2)
 else if u.1≤4096∧v.1≤4096∧z.2.1.length=0∧K0y ⟨u.1,v.1,x.1,y.1,z.1⟩=true then(⟨u.1,v.1,x.1,y.1,z.1⟩,0) else(default,11)
def stR (b:List UInt8):Sx×Int:=
 let u:=Q0s b 0
 let x:=Q0r u.2.1 u.2.2
 let y:=Q0r x.2.1 x.2.2
 let n:=Q0s y.2.1 y.2.2
 if n.2.2≠0 then(default,n.2.2)
 else if n.1<1∨4<n.1 then(default,11)
 else
  let m:=Z0i n.1 n.2.1 n.2.2 []
  let a:=X0n n.1 n.1 m.2.1 m.2.2 []
  let z:=X0s a.2.1 a.2.2
  if z.2.2≠0 then(default,z.2.2)
  else if u.1≤4096∧z.2.1.length=0∧Q0z ⟨u.1,x.1,y.1,⟨m.1,a.1,z.1⟩⟩=true then(⟨u.1,x.1,y.1,⟨m.1,a.1,z.1⟩⟩,0) else(default,11)
theorem q2x {l:List UInt8} {e:Int} (h:(X0s l e).2.2=0):e=0:=by
 by_cases he:e=0
 · exact he
 · rw [X1d l e he] at h;exact absurd h he
theorem Y1m {n:Int} (h1:0≤n) (h2:n≤4096):n.toNat<18446744073709551616∧((n.toNat:Nat):Int)=n∧n.toNat≤4096:=by omega
theorem q2e (s:Sg) (h:K0y s=true):segR (segB s).1=(s,0):=by
 obtain⟨h1,h2,h3,h4,h5,_,_,h6⟩:=y0p h
 obtain⟨a1,a2,a3⟩:=Y1m (n:=s.fr) (by omega) (by omega)
 obtain⟨b1,b2,b3⟩:=Y1m (n:=s.to) (by omega) (by omega)
 rw [segB,if_pos h]
 have e:X0s (boxB s.box) 0=(s.box,[],0):=by have:=H1z s.box [] h6;rwa [List.append_nil] at this
 unfold segR
 simp only [W0s _ _ a1,W0s _ _ b1,U0o _ _ h4,U0o _ _ h5,e]
 rw [if_neg (by simp),if_pos ⟨a3,b3,rfl,by rw [a2,b2];exact h⟩,a2,b2]
theorem Z0u {f:Fm} (h:X0i f=true):1≤f.m.length∧f.m.length≤4∧f.m.all Q0f=true∧f.a.length=f.m.length∧f.r.length=f.m.length∧f.a.all (fun x=>Z0k x f.m.length)=true∧rightB f.r=true:=by
 unfold X0i at h
 simp only [Bool.and_eq_true,decide_eq_true_eq] at h
 obtain⟨⟨⟨⟨⟨⟨h1,h2⟩,h3⟩,h4⟩,h5⟩,h6⟩,h7⟩:=h
 unfold Z0k at h3
 simp only [Bool.and_eq_true,decide_eq_true_eq] at h3
 refine⟨h1,h2,h3.1,h4,h5,h6,?_⟩
 unfold rightB
 simp only [Bool.and_eq_true,decide_eq_true_eq]
 refine⟨⟨?_,by omega⟩,by omega⟩
 rw [List.all_eq_true] at h7⊢
 intro x hx
 have:=h7 x hx
 unfold hasI at this
 simp only [Bool.and_eq_true] at this
 exact this.1.1.1
theorem X0a {s:Sx} (h:Q0z s=true):0≤s.idx∧s.idx≤4096∧Q0f s.t=true∧Q0f s.h=true∧X0i s.f=true:=by
 unfold Q0z at h
 simp only [Bool.and_eq_true,decide_eq_true_eq] at h
 exact⟨h.1.1.1.1.1.1.1,h.1.1.1.1.1.1.2,h.1.1.1.1.1.2,h.1.1.1.1.2,h.2⟩
theorem Q3r (s:Sx) (h:Q0z s=true):stR (stB s).1=(s,0):=by
 obtain⟨h1,h2,h3,h4,h5⟩:=X0a h
 obtain⟨f1,f2,f3,f4,f5,f6,f7⟩:=Z0u h5
 obtain⟨a1,a2,a3⟩:=Y1m (n:=s.idx) (by omega) (by omega)
 rw [stB,if_pos h]
 have e:X0s (boxB s.f.r) 0=(s.f.r,[],0):=by have:=H1z s.f.r [] f7;rwa [List.append_nil] at this
 have e2: ∀l,Z0i s.f.m.length (nsB s.f.m++l) 0 []=(s.f.m,l,0):=fun l=>w0q s.f.m l [] f3
 have e3: ∀l,X0n s.f.m.length s.f.m.length (K0h s.f.a++l) 0 []=(s.f.a,l,0):=fun l=>by
  have:=V1r s.f.m.length s.f.a l [] f6
  rwa [f4] at this
 unfold stR
 simp only [W0s _ _ a1,W0s _ _ (by omega:s.f.m.length<18446744073709551616),U0o _ _ h3,U0o _ _ h4,e,e2,e3]
 rw [if_neg (by simp),if_neg (by omega),if_neg (by simp),if_pos ⟨a3,rfl,by rw [a2];exact h⟩,a2]
end Go.Pv
end
