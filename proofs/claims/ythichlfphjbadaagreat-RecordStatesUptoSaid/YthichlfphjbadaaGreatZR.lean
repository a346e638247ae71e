/- Parts of the walk: M20, M21, M22, C10, C11, C12, C13. -/
import Derived.Test.YthichlfphjbadaaGreatZQ
import Derived.Test.YthichlfphjbadaaGreatZE
import Derived.Test.YthichlfphjbadaaGreatZP
import Derived.Test.YthichlfphjbadaaGreatZF
import Derived.Test.YthichlfphjbadaaGreatZH
import Derived.Test.YthichlfphjbadaaGreatZK
set_option linter.unusedVariables false
set_option linter.unusedSimpArgs false
section
/-What is read of bytes:numbers. No program in it. -/
namespace Go.Pv
def W0l :Nat→List UInt8→List UInt64→List UInt64×List UInt8×Int
 | 0,l,w=>(w,l,0)
 | n+1,l,w=>if l.length<8 then(w++ [0],l,10) else W0l n (l.drop 8) (w++ [UInt64.ofNat (W0p l 8)])
def rp1 (l:List UInt8):Nat×List UInt8×Int:=((Q0s l 0).1,(Q0s l 0).2.1,if 64<(Q0s l 0).1/2∧(Q0s l 0).2.2=0 then 11 else(Q0s l 0).2.2)
def rp2 (u:Nat) (l:List UInt8) (e:Int):Int×List UInt8×Int:=if e=0∧1<u then(H1a (Q0s l 0).1,(Q0s l 0).2.1,(Q0s l 0).2.2) else(0,l,e)
def rp3 (u:Nat) (l:List UInt8) (e:Int):List UInt64×List UInt8×Int:=if e=0 then W0l (u/2) l [] else([],l,e)
def rp4 (x:Nm) (l:List UInt8) (e:Int):Nm×List UInt8×Int:=(x,l,if e=0∧Q0f x=false then 11 else e)
def Z0s (l:List UInt8):Nm×List UInt8×Int:=
 let u:=rp1 l
 let i:=rp2 u.1 u.2.1 u.2.2
 let ws:=rp3 u.1 i.2.1 i.2.2
 rp4 ⟨decide (u.1 % 2=1),i.1,ws.1⟩ ws.2.1 ws.2.2
def Q0r (l:List UInt8) (e:Int):Nm×List UInt8×Int:=
 if e≠0 then(default,l,e) else if (Z0s l).2.2=0 then Z0s l else(default,l,(Z0s l).2.2)
theorem X1b (l:List UInt8) (e:Int) (h:(Q0s l e).2.2≠0):(Q0s l e).1=0:=by
 unfold Q0s at h⊢
 split
 · rfl
 · rename_i he
   rw [if_neg he] at h
   split
   · rename_i h2;rw [if_pos h2] at h;exact absurd rfl h
   · rfl
theorem w0p : ∀(n:Nat) (l:List UInt8) (w:List UInt64),(W0l n l w).2.1.length≤l.length∧(W0l n l w).1.length≤w.length+n
 | 0,l,w=>by simp [W0l]
 | n+1,l,w=>by
  unfold W0l
  split
  · simp
  · have:=w0p n (l.drop 8) (w++ [UInt64.ofNat (W0p l 8)])
    simp at this⊢
    omega
end Go.Pv
end
section
/-Reading inverts putting,and each number has one form:digits,words. No program in it. -/
namespace Go.Pv
theorem w2a (n:Nat) (h:n<256):(UInt8.ofNat n).toNat=n:=by simp;omega
theorem X2d : ∀(n i v:Nat) (l:List UInt8),i≤9→n*2^(7*i)<18446744073709551616→(0<i→0<n)→K0i i v (uvar n++l)=(v+n*2^(7*i),i+(uvar n).length,0):=by
 intro n
 induction n using Nat.strongRecOn with
 | _ n ih=>
  intro i v l hi hb h0
  by_cases hn:n<128
  · rw [K0b hn,List.singleton_append,K0i,w2a n (by omega),if_neg (by omega),if_neg (by omega),if_neg ?_]
    · rfl
    · rintro(h | ⟨rfl,h⟩)
      · omega
      · have h2:=Nat.mul_le_mul_right (2^(7*9)) (by omega:2≤n)
        omega
  · have hi9:i≠9:=by
     rintro rfl
     have h2:=Nat.mul_le_mul_right (2^(7*9)) (by omega:128≤n)
     omega
    have e:2^(7*(i+1))=128*2^(7*i):=by rw [show 7*(i+1)=7*i+7 from by omega,Nat.pow_add,Nat.mul_comm]
    have hd:n=n % 128+128*(n/128):=by omega
    have hs:n*2^(7*i)=n % 128*2^(7*i)+n/128*2^(7*(i+1)):=by
     rw [e]
     conv=>lhs;rw [hd]
     rw [Nat.add_mul,Nat.mul_comm 128 (n/128),Nat.mul_assoc]
    rw [k0k (by omega),List.cons_append,K0i,w2a _ (by omega),if_neg (by omega),if_pos (by omega),ih (n/128) (by omega) _ _ _ (by omega) (by omega) (by omega)]
    refine Prod.ext ?_ (Prod.ext ?_ rfl)
    · show v+(n % 128+128) % 128*2^(7*i)+n/128*2^(7*(i+1))=_
      rw [Nat.add_mod_right,Nat.mod_mod];omega
    · simp only [List.length_cons];omega
theorem W0s (n:Nat) (l:List UInt8) (h:n<18446744073709551616):Q0s (uvar n++l) 0=(n,l,0):=by
 rw [Q0s,if_neg (by simp),X2d n 0 0 l (by omega) (by omega) (by omega),if_pos rfl]
 simp
def Pre (p l:List UInt8):Prop:=p<+:l∧p.length<l.length
theorem Pre.append {p a b:List UInt8} (h:Pre p (a++b)):Pre p a∨ ∃q,p=a++q∧Pre q b:=by
 obtain⟨h1,h2⟩:=h
 by_cases hl:p.length<a.length
 · exact .inl ⟨List.prefix_of_prefix_length_le h1 (List.prefix_append a b) (by omega),hl⟩
 · have h3:a<+:p:=List.prefix_of_prefix_length_le (List.prefix_append a b) h1 (by omega)
   obtain⟨q,rfl⟩:=h3
   refine .inr ⟨q,rfl,?_,?_⟩
   · exact(List.prefix_append_right_inj a).1 h1
   · simp at h2;exact h2
theorem Pre.nil {p:List UInt8} (h:Pre p []):False:=by have:=h.2;simp at this
theorem z1b : ∀(l:List UInt8) (i v:Nat),(K0i i v l).2.2=0→ ∃n r,(K0i i v l).1=v+n*2^(7*i)∧(K0i i v l).2.1=i+(uvar n).length∧l=uvar n++r∧(0<i→0<n)
 | [],i,v,h=>by
  rw [K0i] at h
  by_cases h10:10≤i<;>simp [h10] at h
 | c::l,i,v,h=>by
  have hc:=c.toNat_lt
  rw [K0i] at h⊢
  split at h
  · simp at h
  · rename_i h10
    rw [if_neg h10]
    split at h
    · rename_i hc1
      rw [if_pos hc1]
      obtain⟨n,r,e1,e2,e3,e4⟩:=z1b l (i+1) _ h
      refine⟨c.toNat % 128+128*n,r,?_,?_,?_,fun _=>by have:=e4 (by omega);omega⟩
      · rw [e1,Nat.add_mul,show 2^(7*(i+1))=128*2^(7*i) from by rw [show 7*(i+1)=7*i+7 from by omega,Nat.pow_add,Nat.mul_comm],Nat.mul_comm 128 n,Nat.mul_assoc]
        omega
      · have hn:=e4 (by omega)
        rw [e2,k0k (n:=c.toNat % 128+128*n) (by omega),show(c.toNat % 128+128*n)/128=n from by omega,List.length_cons];omega
      · have hn:=e4 (by omega)
        rw [k0k (n:=c.toNat % 128+128*n) (by omega),show(c.toNat % 128+128*n)/128=n from by omega,List.cons_append,←e3]
        congr 1
        rw [show(c.toNat % 128+128*n) % 128+128=c.toNat from by omega]
        simp
    · rename_i hc1
      rw [if_neg hc1]
      split at h
      · simp at h
      · rename_i hc2
        rw [if_neg hc2]
        refine⟨c.toNat,l,rfl,?_,?_,fun hi=>by omega⟩
        · rw [K0b (by omega)];rfl
        · rw [K0b (by omega)];simp
theorem X1a (l:List UInt8) (h:(Q0s l 0).2.2=0):l=uvar (Q0s l 0).1++(Q0s l 0).2.1:=by
 have e:Q0s l 0=Q0s l 0:=rfl
 conv at e=>rhs;unfold Q0s
 rw [if_neg (by simp)] at e
 by_cases h0:(K0i 0 0 l).2.2=0
 · rw [if_pos h0] at e
   obtain⟨n,r,e1,e2,e3,e4⟩:=z1b l 0 0 h0
   rw [e]
   simp only [e1,e2]
   simp only [Nat.zero_add,Nat.mul_zero,Nat.pow_zero,Nat.mul_one]
   conv=>lhs;rw [e3]
   conv=>rhs;rw [e3]
   simp
 · rw [if_neg h0] at e;rw [e] at h;exact absurd h h0
theorem K1x (w n i:Nat) (h:i<n):(U0a w n).getD i 0=UInt8.ofNat (w/2^(8*i)):=by
 rw [U0a,List.getD_eq_getElem?_getD];simp [h]
theorem Z1a (w:Nat) (l:List UInt8): ∀n m,n≤m→W0p (U0a w m++l) n=w % 2^(8*n)
 | 0,m,_=>by simp [W0p,Nat.mod_one]
 | n+1,m,h=>by
  rw [W0p,Z1a w l n m (by omega),List.getD_eq_getElem?_getD,List.getElem?_append_left (by rw [X0c];omega),←List.getD_eq_getElem?_getD,K1x w m n (by omega)]
  have e:2^(8*(n+1))=2^(8*n)*256:=by rw [show 8*(n+1)=8*n+8 from by omega,Nat.pow_add]
  rw [e,Nat.mod_mul]
  simp [Nat.mul_comm]
theorem x1u (l:List UInt8) (h:8≤l.length):l=U0a (W0p l 8) 8++l.drop 8:=by
 have key: ∀n i,i<n→W0p l n/2^(8*i) % 256=(l.getD i 0).toNat:=by
  intro n
  induction n with
  | zero=>intro i hi;omega
  | succ n ih=>
   intro i hi
   have h1:=z0p l n
   have h2:=(l.getD n 0).toNat_lt
   rw [W0p]
   by_cases e:i=n
   · subst e
     rw [Nat.add_mul_div_right _ _ (Nat.two_pow_pos _),Nat.div_eq_of_lt h1];omega
   · have h3:2^(8*n)=2^(8*i)*(256*2^(8*(n-i-1))):=by
      rw [show(256:Nat)=2^8 from rfl,←Nat.pow_add,←Nat.pow_add];congr 1;omega
     rw [h3,show(l.getD n 0).toNat*(2^(8*i)*(256*2^(8*(n-i-1))))=2^(8*i)*((l.getD n 0).toNat*2^(8*(n-i-1))*256) from by
      rw [Nat.mul_left_comm,←Nat.mul_assoc (l.getD n 0).toNat,Nat.mul_right_comm],Nat.add_mul_div_left _ _ (Nat.two_pow_pos _),Nat.add_mul_mod_self_right]
     exact ih i (by omega)
 conv=>lhs;rw [←List.take_append_drop 8 l]
 congr 1
 refine List.ext_getElem (by rw [List.length_take,X0c];omega) fun i h1 h2=> ?_
 rw [X0c] at h2
 have e1:=K1x (W0p l 8) 8 i h2
 rw [List.getD_eq_getElem?_getD,List.getElem?_eq_getElem (by rw [X0c];omega),Option.getD_some] at e1
 rw [e1,List.getElem_take]
 have e2:=key 8 i h2
 rw [List.getD_eq_getElem?_getD,List.getElem?_eq_getElem (by omega),Option.getD_some] at e2
 apply UInt8.toNat_inj.1
 rw [←e2]
 simp
theorem j0f (w:UInt64) (ws:List UInt64):Z0w (w::ws)=U0a w.toNat 8++Z0w ws:=by simp [Z0w]
theorem k0y : ∀(ws:List UInt64) (l:List UInt8) (acc:List UInt64),W0l ws.length (Z0w ws++l) acc=(acc++ws,l,0)
 | [],l,acc=>by simp [W0l,Z0w]
 | w::ws,l,acc=>by
  rw [List.length_cons,W0l,if_neg (by rw [j0f];simp [X0c]),j0f,List.append_assoc,Z1a _ _ 8 8 (by omega),Nat.mod_eq_of_lt w.toNat_lt,
   List.drop_append_of_le_length (by rw [X0c];omega),List.drop_eq_nil_of_le (by rw [X0c];omega),List.nil_append,k0y ws l]
  simp
theorem V1q : ∀(n:Nat) (l:List UInt8) (acc:List UInt64),(W0l n l acc).2.2=0→ ∃ws,(W0l n l acc).1=acc++ws∧ws.length=n∧l=Z0w ws++(W0l n l acc).2.1
 | 0,l,acc,h=>⟨[],by simp [W0l],rfl,by simp [W0l,Z0w]⟩
 | n+1,l,acc,h=>by
  rw [W0l] at h⊢
  split at h
  · simp at h
  · rename_i h8
    rw [if_neg h8]
    obtain⟨ws,e1,e2,e3⟩:=V1q n _ _ h
    refine⟨UInt64.ofNat (W0p l 8)::ws,by rw [e1];simp,by simp [e2],?_⟩
    rw [j0f,List.append_assoc,←e3]
    have:=z0p l 8
    rw [show(UInt64.ofNat (W0p l 8)).toNat=W0p l 8 from by simp;omega]
    exact x1u l (by omega)
end Go.Pv
end
section
/-Reading inverts putting,and each number has one form:numbers,intervals,boxes. No program in it. -/
namespace Go.Pv
theorem H1l {x:Nm} (h:Q0f x=true): -65536≤x.exp∧x.exp≤65536∧x.w.length≤64∧(x.w= []→x.neg=false∧x.exp=0):=by
 unfold Q0f at h
 split at h
 · rename_i hw
   simp at h
   rw [hw];simp;exact⟨by omega,by omega,h.1,h.2⟩
 · rename_i hw
   simp only [Bool.and_eq_true,decide_eq_true_eq] at h
   exact⟨by omega,by omega,by omega,fun e=>absurd e hw⟩
theorem J1c {x:Nm} (hl:x.w.length≤64):J0c x<18446744073709551616∧J0c x/2=x.w.length∧decide (J0c x % 2=1)=x.neg:=by
 unfold J0c
 cases x.neg<;>simp<;>omega
theorem q2j (u:Nat) (l:List UInt8) (h:u<18446744073709551616) (h2:u/2≤64):rp1 (uvar u++l)=(u,l,0):=by
 unfold rp1
 rw [W0s u l h]
 simp only
 rw [if_neg (by omega)]
theorem U1d (x:Nm) (l:List UInt8) (h:Q0f x=true):Z0s (numB x++l)=(x,l,0):=by
 obtain⟨r1,r2,r3,r4⟩:=H1l h
 obtain⟨h1,h2,h3⟩:=J1c r3
 unfold Z0s numB
 rw [if_pos h,List.append_assoc,q2j _ _ h1 (by omega)]
 by_cases hw:x.w= []
 · obtain⟨n1,n2⟩:=r4 hw
   have h0:J0c x=0:=by unfold J0c;rw [hw,n1];rfl
   have hx:(⟨false,0,[]⟩:Nm)=x:=by cases x;simp at hw n1 n2;simp [hw,n1,n2]
   have e2:rp2 0 l 0=(0,l,0):=by rw [rp2,if_neg (by omega)]
   have e3:rp3 0 l 0=([],l,0):=by rw [rp3,if_pos rfl];rfl
   simp only [h0,if_pos hw,List.nil_append,e2,e3,rp4]
   rw [if_neg (by rintro⟨_,h4⟩;rw [show(⟨decide (0 % 2=1),0,[]⟩:Nm)=x from hx,h] at h4;simp at h4)]
   rw [show(⟨decide (0 % 2=1),0,[]⟩:Nm)=x from hx]
 · have hp:0<x.w.length:=by have:=mt List.length_eq_zero_iff.1 hw;omega
   have hz:=Q1y (i:=x.exp) (by omega) (by omega)
   have e2:rp2 (J0c x) (uvar (zig x.exp)++Z0w x.w++l) 0=(x.exp,Z0w x.w++l,0):=by
    rw [rp2,if_pos ⟨rfl,by omega⟩,List.append_assoc,W0s _ _ hz,J2u]
   have e3:rp3 (J0c x) (Z0w x.w++l) 0=(x.w,l,0):=by
    rw [rp3,if_pos rfl,h2,k0y];simp
   rw [if_neg hw]
   simp only [e2,e3,h3,rp4]
   rw [if_neg (by rintro⟨_,h4⟩;rw [show(⟨x.neg,x.exp,x.w⟩:Nm)=x from rfl,h] at h4;simp at h4)]
theorem U0o (x:Nm) (l:List UInt8) (h:Q0f x=true):Q0r (numB x++l) 0=(x,l,0):=by
 rw [Q0r,if_neg (by simp),U1d x l h,if_pos rfl]
theorem q0s (l:List UInt8) (e:Int) (h:e≠0):Q0r l e=(default,l,e):=by rw [Q0r,if_pos h]
theorem V2j (l:List UInt8) (e:Int) (h:e≠0):Q0s l e=(0,l,e):=by rw [Q0s,if_pos h]
theorem V2k (l:List UInt8) (e:Int) (h:(Q0r l e).2.2≠0):Q0r l e=(default,l,(Q0r l e).2.2):=by
 have e1:Q0r l e=Q0r l e:=rfl
 conv at e1=>rhs;unfold Q0r
 split at e1
 · rw [e1]
 · split at e1
   · rename_i h2;rw [e1] at h;exact absurd h2 h
   · rw [e1]
theorem Q3x {x:Nm} {l:List UInt8} {e:Int} (h:(rp4 x l e).2.2=0):e=0∧Q0f x=true∧rp4 x l e=(x,l,0):=by
 unfold rp4 at h⊢
 simp only at h
 split at h
 · simp at h
 · rename_i hn
   cases hq:Q0f x
   · exact absurd ⟨h,hq⟩ hn
   · exact⟨h,rfl,by simp [h]⟩
theorem Q3y {u:Nat} {l:List UInt8} {e:Int} (h:(rp3 u l e).2.2=0):e=0∧(rp3 u l e).1.length=u/2∧l=Z0w (rp3 u l e).1++(rp3 u l e).2.1:=by
 unfold rp3 at h⊢
 split at h
 · rename_i he
   rw [if_pos he]
   obtain⟨ws,w1,w2,w3⟩:=V1q _ _ _ h
   rw [List.nil_append] at w1
   exact⟨he,by rw [w1,w2],by rw [w1];exact w3⟩
 · rename_i he;exact absurd h he
theorem Q3z {u:Nat} {l:List UInt8} {e:Int} (h:(rp2 u l e).2.2=0):e=0∧(if 1<u then l=uvar (zig (rp2 u l e).1)++(rp2 u l e).2.1 else(rp2 u l e).1=0∧l=(rp2 u l e).2.1):=by
 unfold rp2 at h⊢
 split at h
 · rename_i he
   rw [if_pos he,if_pos he.2]
   have:=X1a l h
   exact⟨he.1,by rw [J2k];exact this⟩
 · rename_i he
   rw [if_neg he]
   have h0:e=0:=h
   rw [if_neg (fun h1=>he ⟨h0,h1⟩)]
   exact⟨h0,rfl,rfl⟩
theorem Z3a {l:List UInt8} (h:(rp1 l).2.2=0):(rp1 l).1/2≤64∧l=uvar (rp1 l).1++(rp1 l).2.1:=by
 unfold rp1 at h⊢
 simp only at h⊢
 split at h
 · simp at h
 · rename_i he
   have:=X1a l h
   exact⟨by omega,this⟩
theorem U1c (l:List UInt8) (h:(Z0s l).2.2=0):Q0f (Z0s l).1=true∧l=numB (Z0s l).1++(Z0s l).2.1:=by
 unfold Z0s at h⊢
 simp only at h⊢
 obtain⟨a1,a2,a3⟩:=Q3x h
 rw [a3]
 simp only
 refine⟨a2,?_⟩
 obtain⟨b1,b2,b3⟩:=Q3y a1
 obtain⟨c1,c2⟩:=Q3z b1
 obtain⟨d1,d2⟩:=Z3a c1
 rw [numB,if_pos a2]
 generalize rp1 l=U at*
 obtain⟨u,l1,e1⟩:=U
 simp only at*
 generalize rp2 u l1 e1=V at*
 obtain⟨v,l2,e2⟩:=V
 simp only at*
 generalize rp3 u l2 e2=T at*
 obtain⟨w,l3,e3⟩:=T
 simp only at*
 have hh:J0c ⟨decide (u % 2=1),v,w⟩=u:=by
  unfold J0c;simp only [b2,decide_eq_true_eq];split<;>omega
 rw [hh]
 by_cases hu:1<u
 · rw [if_pos hu] at c2
   have hne:w≠ []:=fun e0=>by rw [e0] at b2;simp at b2;omega
   rw [if_neg hne,List.append_assoc,List.append_assoc,←b3,←c2]
   exact d2
 · rw [if_neg hu] at c2
   have h0:w= []:=List.length_eq_zero_iff.1 (by rw [b2];omega)
   rw [if_pos h0,List.append_nil]
   rw [h0] at b3
   simp [Z0w] at b3
   rw [←b3,←c2.2]
   exact d2
theorem k0z (l:List UInt8) (h:(Q0r l 0).2.2=0):Q0f (Q0r l 0).1=true∧l=numB (Q0r l 0).1++(Q0r l 0).2.1:=by
 by_cases h0:(Z0s l).2.2=0
 · rw [Q0r,if_neg (by simp),if_pos h0];exact U1c l h0
 · rw [Q0r,if_neg (by simp),if_neg h0] at h;exact absurd h h0
def Y0j (l:List UInt8):Ivl×List UInt8×Int:=
 let a:=Q0r l 0
 let b:=Q0r a.2.1 a.2.2
 (⟨a.1,b.1⟩,b.2.1,if b.2.2=0∧Q0l ⟨a.1,b.1⟩=false then 11 else b.2.2)
def V0r (l:List UInt8) (e:Int):Ivl×List UInt8×Int:=
 if e≠0 then(default,l,e) else if (Y0j l).2.2=0 then Y0j l else(default,l,(Y0j l).2.2)
theorem H1o {a:Ivl} (h:Q0l a=true):Q0f a.lo=true∧Q0f a.hi=true:=by
 unfold Q0l at h;simp only [Bool.and_eq_true] at h;exact h.1
theorem q2w (a:Ivl) (l:List UInt8) (h:Q0l a=true):V0r (ivB a++l) 0=(a,l,0):=by
 obtain⟨h1,h2⟩:=H1o h
 have e:Y0j (ivB a++l)=(a,l,0):=by
  unfold Y0j ivB
  rw [if_pos h,List.append_assoc,U0o _ _ h1]
  simp only [U0o _ _ h2]
  rw [if_neg (by rintro⟨_,h3⟩;simp [h] at h3)]
 rw [V0r,if_neg (by simp),e,if_pos rfl]
theorem Z3c (l:List UInt8) (e:Int) (h:e≠0):V0r l e=(default,l,e):=by rw [V0r,if_pos h]
theorem V2l (l:List UInt8) (h:(V0r l 0).2.2=0):Q0l (V0r l 0).1=true∧l=ivB (V0r l 0).1++(V0r l 0).2.1:=by
 by_cases h0:(Y0j l).2.2=0
 · rw [V0r,if_neg (by simp),if_pos h0]
   unfold Y0j at h0⊢
   simp only at h0⊢
   by_cases h1:(Q0r l 0).2.2=0
   · obtain⟨a1,a2⟩:=k0z l h1
     rw [h1] at h0⊢
     split at h0
     · simp at h0
     · rename_i h3
       obtain⟨b1,b2⟩:=k0z _ h0
       have hr:Q0l ⟨(Q0r l 0).1,(Q0r (Q0r l 0).2.1 0).1⟩=true:=by
        cases hq:Q0l ⟨(Q0r l 0).1,(Q0r (Q0r l 0).2.1 0).1⟩
        · exact absurd ⟨h0,hq⟩ h3
        · rfl
       refine⟨hr,?_⟩
       rw [ivB,if_pos hr,List.append_assoc]
       simp only
       rw [←b2,←a2]
   · rw [q0s _ _ h1] at h0
     rw [if_neg (by rintro⟨h2,_⟩;exact h1 h2)] at h0
     exact absurd h0 h1
 · rw [V0r,if_neg (by simp),if_neg h0] at h;exact absurd h h0
def G0e :Nat→List UInt8→List Ivl→List Ivl×List UInt8×Int
 | 0,l,o=>(o,l,0)
 | n+1,l,o=>if (V0r l 0).2.2=0 then G0e n (V0r l 0).2.1 (o++ [(V0r l 0).1]) else(o++ [(V0r l 0).1],(V0r l 0).2.1,(V0r l 0).2.2)
def pb1 (l:List UInt8):Nat×List UInt8×Int:=((Q0s l 0).1,(Q0s l 0).2.1,if ((Q0s l 0).1<1∨4<(Q0s l 0).1)∧(Q0s l 0).2.2=0 then 11 else(Q0s l 0).2.2)
def pb2 (n:Nat) (l:List UInt8) (e:Int):List Ivl×List UInt8×Int:=if e=0 then G0e n l [] else([],l,e)
def Y0k (l:List UInt8):List Ivl×List UInt8×Int:=pb2 (pb1 l).1 (pb1 l).2.1 (pb1 l).2.2
def X0s (l:List UInt8) (e:Int):List Ivl×List UInt8×Int:=
 if e≠0 then([],l,e) else if (Y0k l).2.2=0 then Y0k l else([],l,(Y0k l).2.2)
theorem V1x : ∀(b:List Ivl) (l:List UInt8) (o:List Ivl),b.all Q0l=true→G0e b.length (b.flatMap ivB++l) o=(o++b,l,0)
 | [],l,o,_=>by simp [G0e]
 | a::b,l,o,h=>by
  simp only [List.all_cons,Bool.and_eq_true] at h
  rw [List.length_cons,G0e,List.flatMap_cons,List.append_assoc,q2w a _ h.1,if_pos rfl,V1x b l _ h.2]
  simp
theorem y0r {b:List Ivl} (h:rightB b=true):b.all Q0l=true∧1≤b.length∧b.length≤4:=by
 unfold rightB at h;simp only [Bool.and_eq_true,decide_eq_true_eq] at h;exact⟨h.1.1,h.1.2,h.2⟩
theorem z2p (n:Nat) (l:List UInt8) (h1:1≤n) (h2:n≤4):pb1 (uvar n++l)=(n,l,0):=by
 unfold pb1
 rw [W0s _ _ (by omega)]
 simp only
 rw [if_neg (by omega)]
theorem H1z (b:List Ivl) (l:List UInt8) (h:rightB b=true):X0s (boxB b++l) 0=(b,l,0):=by
 obtain⟨h1,h2,h3⟩:=y0r h
 have e:Y0k (boxB b++l)=(b,l,0):=by
  unfold Y0k boxB
  rw [if_pos h,List.append_assoc,z2p _ _ h2 h3]
  simp only
  rw [pb2,if_pos rfl,V1x b l [] h1,List.nil_append]
 rw [X0s,if_neg (by simp),e,if_pos rfl]
theorem X1d (l:List UInt8) (e:Int) (h:e≠0):X0s l e=([],l,e):=by rw [X0s,if_pos h]
theorem V2o (l:List UInt8) (e:Int) (h:(X0s l e).2.2≠0):X0s l e=([],l,(X0s l e).2.2):=by
 have e1:X0s l e=X0s l e:=rfl
 conv at e1=>rhs;unfold X0s
 split at e1
 · rw [e1]
 · split at e1
   · rename_i h2;rw [e1] at h;exact absurd h2 h
   · rw [e1]
theorem V1w : ∀(n:Nat) (l:List UInt8) (o:List Ivl),(G0e n l o).2.2=0→ ∃b,(G0e n l o).1=o++b∧b.length=n∧b.all Q0l=true∧l=b.flatMap ivB++(G0e n l o).2.1
 | 0,l,o,h=>⟨[],by simp [G0e],rfl,rfl,by simp [G0e]⟩
 | n+1,l,o,h=>by
  rw [G0e] at h⊢
  by_cases h1:(V0r l 0).2.2=0
  · rw [if_pos h1] at h⊢
    obtain⟨b,b1,b2,b3,b4⟩:=V1w n _ _ h
    obtain⟨a1,a2⟩:=V2l l h1
    refine⟨(V0r l 0).1::b,by rw [b1];simp,by simp [b2],by simp [a1];simpa using b3,?_⟩
    rw [List.flatMap_cons,List.append_assoc,←b4,←a2]
  · rw [if_neg h1] at h;exact absurd h h1
theorem V2n (l:List UInt8) (h:(X0s l 0).2.2=0):rightB (X0s l 0).1=true∧l=boxB (X0s l 0).1++(X0s l 0).2.1:=by
 by_cases h0:(Y0k l).2.2=0
 · rw [X0s,if_neg (by simp),if_pos h0]
   unfold Y0k at h0⊢
   have h1:(pb1 l).2.2=0:=by
    refine Classical.byContradiction fun h1=> ?_
    rw [pb2,if_neg h1] at h0;exact h1 h0
   rw [h1,pb2,if_pos rfl] at h0⊢
   obtain⟨b,b1,b2,b3,b4⟩:=V1w _ _ _ h0
   rw [List.nil_append] at b1
   have hn:1≤(pb1 l).1∧(pb1 l).1≤4∧l=uvar (pb1 l).1++(pb1 l).2.1:=by
    unfold pb1 at h1⊢
    simp only at h1⊢
    split at h1
    · simp at h1
    · have:=X1a l h1
      exact⟨by omega,by omega,this⟩
   have hr:rightB b=true:=by unfold rightB;simp only [Bool.and_eq_true,decide_eq_true_eq];exact⟨⟨b3,by omega⟩,by omega⟩
   rw [b1]
   refine⟨hr,?_⟩
   rw [boxB,if_pos hr,List.append_assoc,b2,←b4]
   exact hn.2.2
 · rw [X0s,if_neg (by simp),if_neg h0] at h;exact absurd h h0
theorem w1w (x:Nm):(numB x).length≤532:=by
 unfold numB
 split
 · rename_i h
   obtain⟨r1,r2,r3,r4⟩:=H1l h
   have q1:=Z0l (J1c r3).1
   have q2:=Z0l (Q1y (i:=x.exp) (by omega) (by omega))
   have q3:=K0u x.w
   split
   · simp;omega
   · simp;omega
 · simp
theorem X3o (a:Ivl):(ivB a).length≤1064:=by
 unfold ivB
 have h1:=w1w a.lo
 have h2:=w1w a.hi
 split
 · simp;omega
 · simp
theorem y1o : ∀l:List Ivl,(l.flatMap ivB).length≤1064*l.length
 | []=>by simp
 | a::l=>by
  have h1:=y1o l
  have h2:=X3o a
  rw [List.flatMap_cons,List.length_append,List.length_cons];omega
theorem k2n (b:List Ivl):(boxB b).length≤4270:=by
 unfold boxB
 split
 · rename_i h
   obtain⟨h1,h2,h3⟩:=y0r h
   have q1:=Z0l (v:=b.length) (by omega)
   have q2:=y1o b
   simp only [List.length_append];omega
 · simp
end Go.Pv
end
section
/-The reader's number. -/
set_option maxRecDepth 100000
namespace Go.Pv
open Go.Proofs
theorem k2x (u:Nat) (h:u<18446744073709551616):bAnd .u64 (u:Int) 1=((u % 2:Nat):Int):=by
 rw [show(1:Int)=((1:Nat):Int) from rfl,W0g _ _ h (by omega),show u&&&1=u % 2 from Nat.and_two_pow_sub_one_eq_mod u 1]
theorem U3d (l:List UInt8):(rp1 l).1<18446744073709551616:=H0m l 0
theorem K2z (l:List UInt8):(rp1 l).2.1.length≤l.length:=Y0h l 0
theorem K2y (l:List UInt8) (h:(rp1 l).2.2=0):(rp1 l).1/2≤64:=by
 unfold rp1 at h⊢
 simp only at h⊢
 split at h
 · simp at h
 · omega
theorem K2x (u:Nat) (l:List UInt8) (e:Int):(rp2 u l e).2.1.length≤l.length:=by
 unfold rp2;split
 · exact Y0h l 0
 · simp
theorem U3c {u:Nat} {l:List UInt8} {e:Int} (h:(rp2 u l e).2.2=0):e=0:=by
 unfold rp2 at h;split at h
 · rename_i he;exact he.1
 · exact h
set_option maxHeartbeats 1000000 in
theorem x2b (l:List UInt8) (k:Nat) (st:Q0g) (h:atR st k l 0) (hl:l.length≤1000000000000):PCalls Tryz.prog 151 [.gp k 0] st
 (fun r st'=>r= .agg (encN (Z0s l).1)∧st'=st.set k (rd (Z0s l).2.1 (Z0s l).2.2)):=by
 refine Q0b none Tryz.func151 rfl fun E=>Q0h (Q0a ?_)
 simp -dsimp only [go_sem]
 refine Q0h (Q0a ?_)
 simp -dsimp only [go_sem]
 refine(v0a l 0 k st h hl).mono ?_
 rintro r st' ⟨rfl,rfl⟩
 simp -dsimp only [go_sem]
 have hu1:=U3d l
 have hu2:=K2z l
 have s1:bShr .u64 ((Q0s l 0).1:Int) 1=(((Q0s l 0).1/2:Nat):Int):=U0h .u64 _ 1 (by decide)
 refine Z0y [true,false,true,true] 1 0 (fun s=>s=⟨[.gp k 0,.junk,.lp 0 0,.sc (.int .u64 ((rp1 l).1:Nat))]++List.replicate 51 .junk,[[.sc (.bool false),.sc (.int .i64 0),.sl .full []]],[],st.set k (rd (rp1 l).2.1 (rp1 l).2.2)⟩) ?_ ?_
 · simp -dsimp only [go_sem,s1]
   refine ck (fun h1=> ?_) (fun h1=> ?_)
   · have hb:64<(Q0s l 0).1/2:=by have:=of_decide_eq_true h1;omega
     have he:(Q0s l 0).2.2=0:=by
      refine Classical.byContradiction fun he=> ?_
      rw [X1b l 0 he] at hb;omega
     simp -dsimp only [go_sem]
     refine(U0m _ _ 11 k _ (h.set (Q0s l 0).2.1 (Q0s l 0).2.2)).mono ?_
     rintro r st' ⟨rfl,rfl⟩
     simp -dsimp only [go_sem,V0v]
     unfold rp1
     rw [if_pos he,if_pos ⟨hb,he⟩]
   · have hb: ¬64<(Q0s l 0).1/2:=by have:=of_decide_eq_false h1;omega
     simp -dsimp only [go_sem]
     unfold rp1
     rw [if_neg (fun h2=>hb h2.1)]
 rintro s rfl
 refine Q0h (Q0a ?_)
 have h2:=h.set (rp1 l).2.1 (rp1 l).2.2
 have hsm:=K2y l
 have hp:Z0s l=rp4 ⟨decide ((rp1 l).1 % 2=1),(rp2 (rp1 l).1 (rp1 l).2.1 (rp1 l).2.2).1,(rp3 (rp1 l).1 (rp2 (rp1 l).1 (rp1 l).2.1 (rp1 l).2.2).2.1 (rp2 (rp1 l).1 (rp1 l).2.1 (rp1 l).2.2).2.2).1⟩
  (rp3 (rp1 l).1 (rp2 (rp1 l).1 (rp1 l).2.1 (rp1 l).2.2).2.1 (rp2 (rp1 l).1 (rp1 l).2.1 (rp1 l).2.2).2.2).2.1 (rp3 (rp1 l).1 (rp2 (rp1 l).1 (rp1 l).2.1 (rp1 l).2.2).2.1 (rp2 (rp1 l).1 (rp1 l).2.1 (rp1 l).2.2).2.2).2.2:=rfl
 rw [hp]
 clear hp
 generalize rp1 l=U at*
 obtain⟨u,l1,e1⟩:=U
 simp only at hu1 hu2 hsm h2⊢
 have s2:bAnd .u64 (u:Int) 1=((u % 2:Nat):Int):=k2x u hu1
 have s3:(((u % 2:Nat):Int)==1)=decide (u % 2=1):=by
  rw [show(1:Int)=((1:Nat):Int) from rfl,Bool.eq_iff_iff];simp;omega
 simp -dsimp only [go_sem,s2,s3]
 have g2:(st.set k (rd l1 e1)).getD k []= [.sl .no (encB l1),.sc (.int .i64 e1)]:=h2
 refine Z0y [true,false,true,true,true] 2 0 (fun s=>s=⟨[.gp k 0,.junk,.lp 0 0,.sc (.int .u64 (u:Nat)),.lp 1 0]++List.replicate 50 .junk,
  [[.sc (.bool false),.sc (.int .i64 0),.sl .full []],[.sc (.bool (decide (u % 2=1))),.sc (.int .i64 (rp2 u l1 e1).1),.sl .full []]],[],st.set k (rd (rp2 u l1 e1).2.1 (rp2 u l1 e1).2.2)⟩) ?_ ?_
 · simp -dsimp only [go_sem,g2]
   have no: ¬(e1=0∧1<u)→rp2 u l1 e1=(0,l1,e1):=fun hn=>by rw [rp2,if_neg hn]
   refine gkT (fun h1=> ?_) (fun h1=> ?_)
   · have he:e1=0:=by simpa using h1
     subst he
     simp -dsimp only [go_sem,h1]
     refine ck (fun h3=> ?_) (fun h3=> ?_)
     · have hb:1<u:=by have:=of_decide_eq_true h3;omega
       simp -dsimp only [go_sem]
       refine(Z3d l1 0 k _ h2 (by omega)).mono ?_
       rintro r st' ⟨rfl,rfl⟩
       simp -dsimp only [go_sem,V0v]
       rw [rp2,if_pos ⟨rfl,hb⟩]
     · have hb: ¬1<u:=by have:=of_decide_eq_false h3;omega
       simp -dsimp only [go_sem]
       rw [no (fun h=>hb h.2)]
   · have he:e1≠0:=by simpa using h1
     simp -dsimp only [go_sem,h1]
     rw [no (fun h=>he h.1)]
 rintro s rfl
 have hsm2:(rp2 u l1 e1).2.2=0→u/2≤64:=fun h3=>hsm (U3c h3)
 have hl2:=K2x u l1 e1
 have h4:atR (st.set k (rd (rp2 u l1 e1).2.1 (rp2 u l1 e1).2.2)) k (rp2 u l1 e1).2.1 (rp2 u l1 e1).2.2:=h.set _ _
 generalize rp2 u l1 e1=V at*
 obtain⟨v,l2,e2⟩:=V
 simp only at hsm2 hl2 h4⊢
 have g3: ∀(l:List UInt8) (e:Int),(st.set k (rd l e)).getD k []= [.sl .no (encB l),.sc (.int .i64 e)]:=fun l e=>h.set l e
 have s4:bShr .u64 (u:Int) 1=((u/2:Nat):Int):=U0h .u64 u 1 (by decide)
 refine Z0y [true,false,true,true,true] 2 1 (fun s=> ∃len,s=⟨[.gp k 0,.junk,.lp 0 0,.sc (.int .u64 (u:Nat)),.lp 1 0]++List.replicate 50 .junk,
  [[.sc (.bool false),.sc (.int .i64 0),.sl .full []],[.sc (.bool (decide (u % 2=1))),.sc (.int .i64 v),.sl (.own 0) (encW (rp3 u l2 e2).1)]],[(len,1)],st.set k (rd (rp3 u l2 e2).2.1 (rp3 u l2 e2).2.2)⟩) ?_ ?_
 · simp -dsimp only [go_sem]
   refine q0u 1 2 1 ?_
   simp -dsimp only [go_sem]
   refine Q0e [true,false,true,true,true,true] 2 1 (fun n s=> ∃i w l' e',n=u/2-i∧i≤u/2∧i≤64∧w.length=i∧l'.length≤l2.length∧(e'=0→u/2≤64)∧(e'=0→W0l (u/2-i) l' w=rp3 u l2 e2)∧(e'≠0→(w,l',e')=rp3 u l2 e2)∧
    s=⟨[.gp k 0,.junk,.lp 0 0,.sc (.int .u64 (u:Nat)),.lp 1 0,.sc (.int .u64 (i:Nat))]++List.replicate 49 .junk,
     [[.sc (.bool false),.sc (.int .i64 0),.sl .full []],[.sc (.bool (decide (u % 2=1))),.sc (.int .i64 v),.sl (.own 0) (encW w)]],[(w.length,1)],st.set k (rd l' e')⟩) (u/2) ?_ ?_
   · simp -dsimp only [go_sem]
     refine⟨0,[],l2,e2,by omega,by omega,by omega,rfl,by omega,hsm2,fun h5=> ?_,fun h5=> ?_,rfl⟩
     · rw [rp3,if_pos h5];rfl
     · rw [rp3,if_neg h5]
   · rintro n s ⟨i,w,l',e',rfl,hi,hi64,hw,hl',hsm3,hk0,hk1,rfl⟩
     have g4:=g3 l' e'
     simp -dsimp only [go_sem,s4,g4]
     refine gkT (fun h5=> ?_) (fun h5=> ?_)
     · have hlt:i<u/2:=by have:=of_decide_eq_true h5;omega
       simp -dsimp only [go_sem,h5,s4,g4]
       refine ck (fun h6=> ?_) (fun h6=> ?_)
       · have he:e'=0:=by simpa using h6
         subst he
         have hk:=hk0 rfl
         have h64:=hsm3 rfl
         rw [show u/2-i=(u/2-(i+1))+1 from by omega,W0l] at hk
         have x1:IntKind.u64.wrap ((i:Int)+1)=((i+1:Nat):Int):=by rw [show((i:Int)+1)=((i+1:Nat):Int) from rfl,Z0c _ (by omega)]
         simp -dsimp only [go_sem]
         refine Q0m Z0t 55 (.step 0 [] (.step 1 [] (.step 2 [] (.step 3 [1] (.step 4 [] (.step 5 [] (.step 6 [] (.step 7 [] (.done))))))))) (by decide+kernel) (by simp) ?_
         simp -dsimp only [go_sem]
         refine(Y3e l' k _ (h.set l' 0) (by omega)).mono ?_
         rintro r st' ⟨rfl,rfl⟩
         simp -dsimp only [go_sem,V0v]
         by_cases h8:l'.length<8
         · rw [if_pos h8] at hk
           simp -dsimp only [go_sem,V0v,if_pos h8,x1]
           refine⟨⟨by omega,by omega⟩,u/2-(i+1),by omega,i+1,w++ [0],l',10,rfl,by omega,by omega,by simp [hw],hl',fun h9=>absurd h9 (by decide),fun h9=>absurd h9 (by decide),fun _=>hk,?_⟩
           simp [encW]
         · rw [if_neg h8] at hk
           have hv:=z0p l' 8
           simp -dsimp only [go_sem,V0v,if_neg h8,x1]
           refine⟨⟨by omega,by omega⟩,u/2-(i+1),by omega,i+1,w++ [UInt64.ofNat (W0p l' 8)],l'.drop 8,0,rfl,by omega,by omega,by simp [hw],by simp;omega,fun _=>h64,fun _=>hk,fun h9=>absurd rfl h9,?_⟩
           have hn:(UInt64.ofNat (W0p l' 8)).toNat=W0p l' 8:=by simp;omega
           simp [encW]
           omega
       · have he:e'≠0:=by simpa using h6
         have hk:=hk1 he
         simp -dsimp only [go_sem]
         rw [←hk]
         exact⟨w.length,rfl⟩
     · have hge:i=u/2:=by have:=of_decide_eq_false h5;omega
       simp -dsimp only [go_sem,h5]
       by_cases he:e'=0
       · subst he
         have hk:=hk0 rfl
         rw [hge,Nat.sub_self,W0l] at hk
         rw [←hk]
         exact⟨w.length,rfl⟩
       · have hk:=hk1 he
         rw [←hk]
         exact⟨w.length,rfl⟩
 rintro s ⟨len,rfl⟩
 refine y0u 1 ?_
 simp -dsimp only [go_sem]
 refine Q0a ?_
 simp -dsimp only [go_sem]
 have hlen:(rp3 u l2 e2).1.length≤64:=by
  unfold rp3
  split
  · rename_i he
    have h7:=(w0p (u/2) l2 []).2
    have h8:=hsm2 he
    simp at h7
    omega
  · simp
 refine(X0x ⟨decide (u % 2=1),v,(rp3 u l2 e2).1⟩ _ (by simp only;omega)).mono ?_
 rintro r st' ⟨rfl,rfl⟩
 simp -dsimp only [go_sem]
 refine ck (fun h5=> ?_) (fun h5=> ?_)
 · have hr:Q0f ⟨decide (u % 2=1),v,(rp3 u l2 e2).1⟩=false:=by simpa using h5
   simp -dsimp only [go_sem]
   refine(U0m _ _ 11 k _ (h.set (rp3 u l2 e2).2.1 (rp3 u l2 e2).2.2)).mono ?_
   rintro r st' ⟨rfl,rfl⟩
   simp -dsimp only [go_sem,V0v]
   unfold rp4
   refine⟨rfl,?_⟩
   by_cases h0:(rp3 u l2 e2).2.2=0
   · rw [if_pos h0,if_pos ⟨h0,hr⟩]
   · rw [if_neg h0,if_neg (fun h2=>h0 h2.1)]
 · have hr:Q0f ⟨decide (u % 2=1),v,(rp3 u l2 e2).1⟩=true:=by simpa using h5
   simp -dsimp only [go_sem]
   unfold rp4
   exact⟨rfl,by rw [if_neg (fun h2=>by rw [hr] at h2;exact absurd h2.2 (by decide))]⟩
end Go.Pv
end
section
/-The reader's Num,Iv. -/
set_option maxRecDepth 100000
namespace Go.Pv
open Go.Proofs
theorem H2q (l:List UInt8) (k:Nat) (st:Q0g) (h:atR st k l 0) (hl:l.length≤1000000000000):PCalls Tryz.prog 150 [.gp k 0,.fn (.func 151) [.gp k 0] []] st
 (fun r st'=>r= .agg (encN (Q0r l 0).1)∧st'=st.set k (rd (Q0r l 0).2.1 (Q0r l 0).2.2)):=by
 have h':=h
 unfold atR rd at h
 refine Q0b none Tryz.func150 rfl fun E=>Q0a ?_
 simp -dsimp only [go_sem,h]
 refine(x2b l k st h' hl).mono ?_
 rintro r st' ⟨rfl,rfl⟩
 have h3:(st.set k (rd (Z0s l).2.1 (Z0s l).2.2)).getD k []= [.sl .no (encB (Z0s l).2.1),.sc (.int .i64 (Z0s l).2.2)]:=h'.set _ _
 simp -dsimp only [go_sem,h3]
 rw [Q0r,if_neg (by simp)]
 refine ck (fun h1=> ?_) (fun h1=> ?_)
 · have he:(Z0s l).2.2=0:=by simpa using h1
   simp -dsimp only [go_sem]
   rw [if_pos he]
   exact⟨rfl,rfl⟩
 · have he:(Z0s l).2.2≠0:=by simpa using h1
   simp -dsimp only [go_sem,h3]
   rw [if_neg he]
   exact⟨rfl,V0v _ _ _ _ _ _⟩
theorem U1g (l:List UInt8) (e:Int) (k:Nat) (st:Q0g) (h:atR st k l e) (hl:l.length≤1000000000000):PCalls Tryz.prog 111 [.gp k 0] st
 (fun r st'=>r= .agg (encN (Q0r l e).1)∧st'=st.set k (rd (Q0r l e).2.1 (Q0r l e).2.2)):=by
 have h':=h
 unfold atR rd at h
 refine Q0b none Tryz.func111 rfl fun E=>Q0a ?_
 simp -dsimp only [go_sem,h]
 refine ck (fun h1=> ?_) (fun h1=> ?_)
 · have he:e≠0:=by simpa using h1
   simp -dsimp only [go_sem]
   rw [q0s l e he]
   exact⟨rfl,h'.same.symm⟩
 · have he:e=0:=by simpa using h1
   subst he
   simp -dsimp only [go_sem]
   refine(H2q l k st h' hl).mono ?_
   rintro r st' ⟨rfl,rfl⟩
   simp -dsimp only [go_sem]
theorem U1e (l:List UInt8):(Z0s l).2.1.length≤l.length:=by
 have h1:=K2z l
 have h2:=K2x (rp1 l).1 (rp1 l).2.1 (rp1 l).2.2
 have h3: ∀u l e,(rp3 u l e).2.1.length≤l.length:=fun u l e=>by
  unfold rp3;split
  · exact(w0p _ l []).1
  · simp
 have h4:=h3 (rp1 l).1 (rp2 (rp1 l).1 (rp1 l).2.1 (rp1 l).2.2).2.1 (rp2 (rp1 l).1 (rp1 l).2.1 (rp1 l).2.2).2.2
 show(rp3 (rp1 l).1 (rp2 (rp1 l).1 (rp1 l).2.1 (rp1 l).2.2).2.1 (rp2 (rp1 l).1 (rp1 l).2.1 (rp1 l).2.2).2.2).2.1.length≤_
 omega
theorem V0y (l:List UInt8) (e:Int):(Q0r l e).2.1.length≤l.length:=by
 unfold Q0r
 split
 · simp
 · split
   · exact U1e l
   · simp
theorem V1j :Q0f default=true:=by decide
theorem V0g (l:List UInt8) (e:Int):Q0f (Q0r l e).1=true:=by
 by_cases he:e=0
 · subst he
   by_cases h:(Q0r l 0).2.2=0
   · exact(k0z l h).1
   · rw [V2k l 0 h];exact V1j
 · rw [q0s l e he];exact V1j
theorem q1q (l:List UInt8):Y0j l=(⟨(Q0r l 0).1,(Q0r (Q0r l 0).2.1 (Q0r l 0).2.2).1⟩,(Q0r (Q0r l 0).2.1 (Q0r l 0).2.2).2.1,
 if (Q0r (Q0r l 0).2.1 (Q0r l 0).2.2).2.2=0∧Q0l ⟨(Q0r l 0).1,(Q0r (Q0r l 0).2.1 (Q0r l 0).2.2).1⟩=false then 11 else(Q0r (Q0r l 0).2.1 (Q0r l 0).2.2).2.2):=rfl
set_option maxHeartbeats 1000000 in
theorem X2i (l:List UInt8) (k:Nat) (st:Q0g) (h:atR st k l 0) (hl:l.length≤1000000000000):PCalls Tryz.prog 187 [.gp k 0] st
 (fun r st'=>r= .agg (encI (Y0j l).1)∧st'=st.set k (rd (Y0j l).2.1 (Y0j l).2.2)):=by
 have h':=h
 refine Q0b none Tryz.func187 rfl fun E=>Q0a ?_
 simp -dsimp only [go_sem]
 refine(U1g l 0 k st h hl).mono ?_
 rintro r st' ⟨rfl,rfl⟩
 simp -dsimp only [go_sem]
 have hl2:=V0y l 0
 have w1:=Z0g (V0g l 0)
 refine Q0m Z0t 17 (.step 0 [] (.step 1 [] (.alt (.step 2 [0] (.step 3 [] (.step 4 [0] (.step 5 [] (.done))))) (.step 4 [0] (.step 2 [0] (.step 3 [] (.step 5 [] (.done)))))))) (by decide+kernel) (by simp) ?_
 simp -dsimp only [go_sem]
 refine And.intro ?_ ?_
 all_goals
  refine(U1g _ _ k _ (h'.set (Q0r l 0).2.1 (Q0r l 0).2.2) (by omega)).mono ?_
  rintro r st' ⟨rfl,rfl⟩
  simp -dsimp only [go_sem,V0v]
  have w2:=Z0g (V0g (Q0r l 0).2.1 (Q0r l 0).2.2)
  refine(v0o ⟨(Q0r l 0).1,(Q0r (Q0r l 0).2.1 (Q0r l 0).2.2).1⟩ _ ⟨w1,w2⟩).mono ?_
  rintro r st' ⟨rfl,rfl⟩
  simp -dsimp only [go_sem]
  refine ck (fun h1=> ?_) (fun h1=> ?_)
  · have hr:Q0l ⟨(Q0r l 0).1,(Q0r (Q0r l 0).2.1 (Q0r l 0).2.2).1⟩=false:=by simpa using h1
    simp -dsimp only [go_sem]
    refine(U0m _ _ 11 k _ (h'.set (Q0r (Q0r l 0).2.1 (Q0r l 0).2.2).2.1 (Q0r (Q0r l 0).2.1 (Q0r l 0).2.2).2.2)).mono ?_
    rintro r st' ⟨rfl,rfl⟩
    simp -dsimp only [go_sem,V0v]
    refine⟨rfl,?_⟩
    rw [q1q]
    simp only
    by_cases h0:(Q0r (Q0r l 0).2.1 (Q0r l 0).2.2).2.2=0
    · rw [if_pos h0,if_pos ⟨h0,hr⟩]
    · rw [if_neg h0,if_neg (fun h2=>h0 h2.1)]
  · have hr:Q0l ⟨(Q0r l 0).1,(Q0r (Q0r l 0).2.1 (Q0r l 0).2.2).1⟩=true:=by simpa using h1
    simp -dsimp only [go_sem]
    refine⟨rfl,?_⟩
    rw [q1q]
    simp only
    rw [if_neg (fun h2=>by rw [hr] at h2;exact absurd h2.2 (by decide))]
end Go.Pv
end
section
/-The reader's Iv,list,Box. -/
set_option maxRecDepth 100000
namespace Go.Pv
open Go.Proofs
theorem H2r (l:List UInt8) (k:Nat) (st:Q0g) (h:atR st k l 0) (hl:l.length≤1000000000000):PCalls Tryz.prog 186 [.gp k 0,.fn (.func 187) [.gp k 0] []] st
 (fun r st'=>r= .agg (encI (V0r l 0).1)∧st'=st.set k (rd (V0r l 0).2.1 (V0r l 0).2.2)):=by
 have h':=h
 unfold atR rd at h
 refine Q0b none Tryz.func186 rfl fun E=>Q0a ?_
 simp -dsimp only [go_sem,h]
 refine(X2i l k st h' hl).mono ?_
 rintro r st' ⟨rfl,rfl⟩
 have h3:(st.set k (rd (Y0j l).2.1 (Y0j l).2.2)).getD k []= [.sl .no (encB (Y0j l).2.1),.sc (.int .i64 (Y0j l).2.2)]:=h'.set _ _
 simp -dsimp only [go_sem,h3]
 rw [V0r,if_neg (by simp)]
 refine ck (fun h1=> ?_) (fun h1=> ?_)
 · have he:(Y0j l).2.2=0:=by simpa using h1
   simp -dsimp only [go_sem]
   rw [if_pos he]
   exact⟨rfl,rfl⟩
 · have he:(Y0j l).2.2≠0:=by simpa using h1
   simp -dsimp only [go_sem,h3]
   rw [if_neg he]
   exact⟨rfl,V0v _ _ _ _ _ _⟩
theorem U3h (l:List UInt8) (e:Int) (k:Nat) (st:Q0g) (h:atR st k l e) (hl:l.length≤1000000000000):PCalls Tryz.prog 176 [.gp k 0] st
 (fun r st'=>r= .agg (encI (V0r l e).1)∧st'=st.set k (rd (V0r l e).2.1 (V0r l e).2.2)):=by
 have h':=h
 unfold atR rd at h
 refine Q0b none Tryz.func176 rfl fun E=>Q0a ?_
 simp -dsimp only [go_sem,h]
 refine ck (fun h1=> ?_) (fun h1=> ?_)
 · have he:e≠0:=by simpa using h1
   simp -dsimp only [go_sem]
   rw [Z3c l e he]
   exact⟨rfl,h'.same.symm⟩
 · have he:e=0:=by simpa using h1
   subst he
   simp -dsimp only [go_sem]
   refine(H2r l k st h' hl).mono ?_
   rintro r st' ⟨rfl,rfl⟩
   simp -dsimp only [go_sem]
theorem V2m (l:List UInt8) (e:Int):(V0r l e).2.1.length≤l.length:=by
 unfold V0r
 split
 · simp
 · split
   · have h1:=V0y l 0
     have h2:=V0y (Q0r l 0).2.1 (Q0r l 0).2.2
     show(Q0r (Q0r l 0).2.1 (Q0r l 0).2.2).2.1.length≤_
     omega
   · simp
theorem U3u (l:List UInt8):(pb1 l).1<18446744073709551616:=H0m l 0
theorem Z3p (l:List UInt8):(pb1 l).2.1.length≤l.length:=Y0h l 0
theorem W2c (l:List UInt8) (h:(pb1 l).2.2=0):(pb1 l).1≤4:=by
 unfold pb1 at h⊢
 simp only at h⊢
 split at h
 · simp at h
 · omega
set_option maxHeartbeats 1000000 in
theorem G3g (l:List UInt8) (k:Nat) (st:Q0g) (h:atR st k l 0) (hl:l.length≤1000000000000):PCalls Tryz.prog 153 [.gp k 0] st
 (fun r st'=>r= .sl .no (Q0t (Y0k l).1)∧st'=st.set k (rd (Y0k l).2.1 (Y0k l).2.2)):=by
 refine Q0b none Tryz.func153 rfl fun E=>Q0h (Q0a ?_)
 simp -dsimp only [go_sem]
 refine Q0h (Q0a ?_)
 simp -dsimp only [go_sem]
 refine(v0a l 0 k st h hl).mono ?_
 rintro r st' ⟨rfl,rfl⟩
 simp -dsimp only [go_sem]
 have hu1:=U3u l
 have hu2:=Z3p l
 refine Z0y [true,false,false,true] 0 0 (fun s=>s=⟨[.gp k 0,.junk,.junk,.sc (.int .u64 ((pb1 l).1:Nat))]++List.replicate 33 .junk,[],[],st.set k (rd (pb1 l).2.1 (pb1 l).2.2)⟩) ?_ ?_
 · simp -dsimp only [go_sem]
   have bad:((Q0s l 0).1<1∨4<(Q0s l 0).1)→st.set k (rd (Q0s l 0).2.1 (if (Q0s l 0).2.2=0 then 11 else(Q0s l 0).2.2))=st.set k (rd (pb1 l).2.1 (pb1 l).2.2):=fun hb=>by
    unfold pb1
    by_cases he:(Q0s l 0).2.2=0
    · rw [if_pos he,if_pos ⟨hb,he⟩]
    · rw [if_neg he,if_neg (fun h2=>he h2.2)]
   refine gkF (fun h1=> ?_) (fun h1=> ?_)
   · have hb1: ¬(Q0s l 0).1<1:=by have:=of_decide_eq_false h1;omega
     simp -dsimp only [go_sem,h1]
     refine ck (fun h2=> ?_) (fun h2=> ?_)
     · have hb:4<(Q0s l 0).1:=by have:=of_decide_eq_true h2;omega
       simp -dsimp only [go_sem]
       refine(U0m _ _ 11 k _ (h.set (Q0s l 0).2.1 (Q0s l 0).2.2)).mono ?_
       rintro r st' ⟨rfl,rfl⟩
       simp -dsimp only [go_sem,V0v]
       rw [bad (.inr hb)];rfl
     · have hb: ¬4<(Q0s l 0).1:=by have:=of_decide_eq_false h2;omega
       simp -dsimp only [go_sem]
       unfold pb1
       rw [if_neg (by rintro⟨h3,_⟩;omega)]
   · have hb1:(Q0s l 0).1<1:=by have:=of_decide_eq_true h1;omega
     simp -dsimp only [go_sem,h1]
     refine(U0m _ _ 11 k _ (h.set (Q0s l 0).2.1 (Q0s l 0).2.2)).mono ?_
     rintro r st' ⟨rfl,rfl⟩
     simp -dsimp only [go_sem,V0v]
     rw [bad (.inl hb1)];rfl
 rintro s rfl
 have hsm:=W2c l
 have hp:Y0k l=pb2 (pb1 l).1 (pb1 l).2.1 (pb1 l).2.2:=rfl
 rw [hp]
 clear hp
 generalize pb1 l=U at*
 obtain⟨u,l1,e1⟩:=U
 simp only at hu1 hu2 hsm⊢
 have g3: ∀(l:List UInt8) (e:Int),(st.set k (rd l e)).getD k []= [.sl .no (encB l),.sc (.int .i64 e)]:=fun l e=>h.set l e
 refine Q0a ?_
 simp -dsimp only [go_sem]
 refine X0k 4 6 ?_
 simp -dsimp only [go_sem]
 refine Q0e [true,false,false,true,true,true,true] 0 1 (fun n s=> ∃i o l' e',n=u-i∧i≤u∧i≤4∧o.length=i∧l'.length≤l1.length∧(e'=0→u≤4)∧(e'=0→G0e (u-i) l' o=pb2 u l1 e1)∧(e'≠0→(o,l',e')=pb2 u l1 e1)∧
  s=⟨[.gp k 0,.junk,.junk,.sc (.int .u64 (u:Nat)),.sl (.own 0) (Q0t o),.fn (.func 176) [.gp k 0] [],.sc (.int .u64 (i:Nat))]++List.replicate 30 .junk,[],[(o.length,6)],st.set k (rd l' e')⟩) u ?_ ?_
 · simp -dsimp only [go_sem]
   refine⟨0,[],l1,e1,by omega,by omega,by omega,rfl,by omega,hsm,fun h5=> ?_,fun h5=> ?_,rfl⟩
   · rw [pb2,if_pos h5];rfl
   · rw [pb2,if_neg h5]
 · rintro n s ⟨i,o,l',e',rfl,hi,hi4,ho,hl',hsm3,hk0,hk1,rfl⟩
   have g4:=g3 l' e'
   have fin:(e'≠0∨i=u)→pb2 u l1 e1=(o,l',e'):=fun hf=>by
    by_cases he:e'=0
    · subst he
      have hge:i=u:=hf.resolve_left (fun h=>h rfl)
      rw [←hk0 rfl,hge,Nat.sub_self,G0e]
    · exact(hk1 he).symm
   simp -dsimp only [go_sem,g4]
   refine gkT (fun h5=> ?_) (fun h5=> ?_)
   · have hlt:i<u:=by have:=of_decide_eq_true h5;omega
     simp -dsimp only [go_sem,h5,g4]
     refine ck (fun h6=> ?_) (fun h6=> ?_)
     · have he:e'=0:=by simpa using h6
       subst he
       have hk:=hk0 rfl
       have h64:=hsm3 rfl
       rw [show u-i=(u-(i+1))+1 from by omega,G0e] at hk
       have x1:IntKind.u64.wrap ((i:Int)+1)=((i+1:Nat):Int):=by rw [show((i:Int)+1)=((i+1:Nat):Int) from rfl,Z0c _ (by omega)]
       simp -dsimp only [go_sem]
       refine(U3h l' 0 k _ (h.set l' 0) (by omega)).mono ?_
       rintro r st' ⟨rfl,rfl⟩
       have hlen:=V2m l' 0
       simp -dsimp only [go_sem,V0v,x1]
       refine⟨⟨by omega,by omega⟩,u-(i+1),by omega,i+1,o++ [(V0r l' 0).1],(V0r l' 0).2.1,(V0r l' 0).2.2,rfl,by omega,by omega,by simp [ho],by omega,fun _=>h64,fun h9=> ?_,fun h9=> ?_,?_⟩
       · rw [if_pos h9] at hk;exact hk
       · rw [if_neg h9] at hk;exact hk
       · simp [Q0t,encI]
     · have he:e'≠0:=by simpa using h6
       simp -dsimp only [go_sem]
       refine V0b [false,false,false,false,true] (Q0a ?_)
       simp -dsimp only [go_sem]
       rw [fin (.inl he)]
       exact⟨rfl,rfl⟩
   · have hge:i=u:=by have:=of_decide_eq_false h5;omega
     simp -dsimp only [go_sem,h5]
     refine V0b [false,false,false,false,true] (Q0a ?_)
     simp -dsimp only [go_sem]
     rw [fin (.inr hge)]
     exact⟨rfl,rfl⟩
theorem H2s (l:List UInt8) (k:Nat) (st:Q0g) (h:atR st k l 0) (hl:l.length≤1000000000000):PCalls Tryz.prog 152 [.gp k 0,.fn (.func 153) [.gp k 0] []] st
 (fun r st'=>r= .sl .no (Q0t (X0s l 0).1)∧st'=st.set k (rd (X0s l 0).2.1 (X0s l 0).2.2)):=by
 have h':=h
 unfold atR rd at h
 refine Q0b none Tryz.func152 rfl fun E=>Q0a ?_
 simp -dsimp only [go_sem,h]
 refine(G3g l k st h' hl).mono ?_
 rintro r st' ⟨rfl,rfl⟩
 have h3:(st.set k (rd (Y0k l).2.1 (Y0k l).2.2)).getD k []= [.sl .no (encB (Y0k l).2.1),.sc (.int .i64 (Y0k l).2.2)]:=h'.set _ _
 simp -dsimp only [go_sem,h3]
 rw [X0s,if_neg (by simp)]
 refine ck (fun h1=> ?_) (fun h1=> ?_)
 · have he:(Y0k l).2.2=0:=by simpa using h1
   simp -dsimp only [go_sem]
   rw [if_pos he]
   exact⟨rfl,rfl⟩
 · have he:(Y0k l).2.2≠0:=by simpa using h1
   simp -dsimp only [go_sem,h3]
   rw [if_neg he]
   exact⟨rfl,V0v _ _ _ _ _ _⟩
theorem Z3e (l:List UInt8) (e:Int) (k:Nat) (st:Q0g) (h:atR st k l e) (hl:l.length≤1000000000000):PCalls Tryz.prog 113 [.gp k 0] st
 (fun r st'=>r= .sl .no (Q0t (X0s l e).1)∧st'=st.set k (rd (X0s l e).2.1 (X0s l e).2.2)):=by
 have h':=h
 unfold atR rd at h
 refine Q0b none Tryz.func113 rfl fun E=>Q0a ?_
 simp -dsimp only [go_sem,h]
 refine ck (fun h1=> ?_) (fun h1=> ?_)
 · have he:e≠0:=by simpa using h1
   simp -dsimp only [go_sem]
   rw [X1d l e he]
   exact⟨rfl,h'.same.symm⟩
 · have he:e=0:=by simpa using h1
   subst he
   simp -dsimp only [go_sem]
   refine(H2s l k st h' hl).mono ?_
   rintro r st' ⟨rfl,rfl⟩
   simp -dsimp only [go_sem]
end Go.Pv
end
section
/-What the laws of layer 22 know beforehand. -/
set_option maxRecDepth 100000
namespace Go.Pv
open Go.Proofs
def kBox :List Ivl:= [⟨default,kOne⟩]
theorem Q4k :Q0f kOne=true:=by decide
end Go.Pv
end
