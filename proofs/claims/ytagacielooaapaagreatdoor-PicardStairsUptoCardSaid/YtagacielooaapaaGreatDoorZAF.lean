/- Parts of the walk: N17, N18, N19, N20, N21, N22, N24, N25, N23, N26. -/
import Derived.Test.YtagacielooaapaaGreatDoorZAE
import Derived.Test.YtagacielooaapaaGreatDoorZAA
import Derived.Test.YtagacielooaapaaGreatDoorZY
import Derived.Test.YtagacielooaapaaGreatDoorZH
import Derived.Test.YtagacielooaapaaGreatDoorZM
set_option linter.unusedVariables false
set_option linter.unusedSimpArgs false
section
/-The document's Wide,Mid,least,greatest,ends,Op. -/
set_option maxRecDepth 100000
namespace Go.Pv
open Go.Proofs
theorem X1z {v:Vl} {n k:Nat} (h:bdV n k v) (h1:n≤1000000000000) (h2:k≤100000000000):smV v:=⟨by have:=h.1;omega,by have:=h.2.1;omega,by have:=h.2.2;omega⟩
theorem Z3w {x:Nm} (h:Q0g x=true):x.w.length≤1000000000000:=by have:=(X0e h).1;omega
end Go.Pv
end
section
/-The document's boxes:MeetBox,widest,WideBox,Blow;Nums. -/
set_option maxRecDepth 100000
namespace Go.Pv
open Go.Proofs
def q4o (o:List Nm):Nm:=if o.length=0 then default else o.getD (amax o o.length) default
end Go.Pv
end
section
/-The law's parts and reckons. -/
set_option maxRecDepth 100000
namespace Go.Pv
open Go.Proofs
theorem j1l {α β:Type} (F:Nat→α→β×Int) (P:β→Prop) (hp: ∀i x,x∈([]:List α)∨P (F i x).1): ∀(l:List α) (i:Nat) (acc:List β),(∀y,y∈acc→P y)→(∀y,y∈(W0e F i l acc).1→P y)∧(W0e F i l acc).1.length≤acc.length+l.length
 | [],i,acc,h=>⟨h,by simp [W0e]⟩
 | x::l,i,acc,h=>by
  unfold W0e
  split
  · exact⟨fun y hy=>by simp at hy,by simp⟩
  · obtain⟨h1,h2⟩:=j1l F P hp l (i+1) (acc++ [(F i x).1]) (fun y hy=>by
     rcases List.mem_append.1 hy with h3 | h3
     · exact h y h3
     · rw [List.mem_singleton.1 h3];rcases hp i x with h4 | h4
       · simp at h4
       · exact h4)
    exact⟨h1,by simp at h2⊢;omega⟩
theorem H1f (F:Nat→Ivl→Ivl×Int) (hF: ∀i x,wI (F i x).1) (l:List Ivl) (hl:l.length≤100000000000):wB (W0e F 0 l []).1:=by
 obtain⟨h1,h2⟩:=j1l F wI (fun i x=> .inr (hF i x)) l 0 [] (fun y hy=>by simp at hy)
 exact⟨by simp at h2;omega,fun i hi=>h1 _ (Q0t _ i default hi)⟩
theorem z3c (k:Nat) (a b:Ivl) (p:Int):wI (opI k a b p).1:=U1g (w0k k a b p)
theorem Q3y (a:Ivl) (p:Int):wI (V0g a p).1:=by
 unfold V0g
 split
 · exact x0q
 · split
   · exact x0q
   · split
     · exact x0q
     · exact⟨q0h (Q0u (q0j _ _ _ _ _)),q0h (Q0u (q0j _ _ _ _ _))⟩
theorem K4y (k:Nat) (a b:List Ivl) (p:Int) (ha:wB a):wB (opB k a b p).1:=by
 unfold opB
 split
 · exact H1f _ (fun i x=>z3c _ _ _ _) a ha.1
 · exact v0j
theorem x2x (x:Ivl) (b:List Ivl) (p:Int) (hb:wB b):wB (J0r x b p).1:=by
 unfold J0r
 split
 · exact H1f _ (fun i x=>z3c _ _ _ _) b hb.1
 · exact v0j
theorem K3h (b:List Ivl) (p:Int) (hb:wB b):wB (G0i b p).1:=by
 unfold G0i
 split
 · exact H1f _ (fun i x=>Q3y _ _) b hb.1
 · exact v0j
end Go.Pv
end
section
/-The law's known and light. -/
set_option maxRecDepth 100000
namespace Go.Pv
open Go.Proofs
def k1 :Nm:=⟨false,0,[1]⟩
def k2 :Nm:=⟨false,1,[1]⟩
def k4 :Nm:=⟨false,2,[1]⟩
def kB :List Ivl:= [⟨default,k1⟩,⟨default,k4⟩]
def kX :List Ivl:= [⟨default,k1⟩,⟨default,k2⟩]
def kY :List Ivl:= [⟨default,k1⟩,⟨k2,k4⟩]
def kSm :List Ivl:= [⟨default,k2⟩,⟨k2,⟨false,1,[3]⟩⟩]
def kM :List Nm:= [⟨false, -1,[1]⟩,k2]
def kZ :List Ivl:= [⟨⟨true, -2,[1]⟩,⟨false, -2,[5]⟩⟩,⟨⟨true,0,[1]⟩,⟨false,0,[5]⟩⟩]
theorem j0m (i:Nat) (h:i<100000000000000):IntKind.i64.wrap ((i:Int)+1)=((i+1:Nat):Int):=by rw [Q0j _ (by omega) (by omega)];omega
def H4n (l:List (List Ivl)):List PV:=l.map fun c=> .sl .no (Q0m c)
end Go.Pv
end
section
/-The deck:In,Part,InBox,PartBox,Prec. -/
set_option maxRecDepth 100000
namespace Go.Pv
open Go.Proofs
theorem x3u (l:List UInt64) (i k:Nat) (st:Q0e) (h:atD st k l i) (hi:i≤1000000000):PCalls Tryz.prog 19 [.gp k 0] st
 (fun r st'=> ∃(p j:Nat),8≤p∧p≤256∧i≤j∧j≤i+2∧r= .sc (.int .i64 p)∧st'=st.set k (dk l j)):=by
 refine Q0b none Tryz.func19 rfl fun E=>Q0a ?_
 simp -dsimp only [go_sem]
 refine(H0h l i k 6 st h (by omega) (by omega) (by omega)).mono ?_
 rintro r st' ⟨rfl,rfl⟩
 simp -dsimp only [go_sem]
 refine ck (fun h1=> ?_) (fun h1=> ?_)
 · simp -dsimp only [go_sem]
   exact⟨8,i+1,by omega,by omega,by omega,by omega,rfl,rfl⟩
 · simp -dsimp only [go_sem]
   refine ck (fun h2=> ?_) (fun h2=> ?_)
   · simp -dsimp only [go_sem]
     exact⟨256,i+1,by omega,by omega,by omega,by omega,rfl,rfl⟩
   · simp -dsimp only [go_sem]
     refine(H0h l (i+1) k 60 _ (h.set (i+1)) (by omega) (by omega) (by omega)).mono ?_
     rintro r st' ⟨rfl,rfl⟩
     have n1:=G1k l (i+1) (n:=60) (by omega)
     have x1:IntKind.i64.wrap (12+(nx l (i+1) 60:Int))=((12+nx l (i+1) 60:Nat):Int):=by rw [show(12+(nx l (i+1) 60:Int))=((12+nx l (i+1) 60:Nat):Int) from by omega,Q0k _ (by omega)]
     simp -dsimp only [go_sem,Z1c,x1]
     exact⟨12+nx l (i+1) 60,i+2,by omega,by omega,by omega,by omega,rfl,rfl⟩
set_option maxHeartbeats 1000000 in
theorem Q3f (l:List UInt64) (i k:Nat) (a:Ivl) (st:Q0e) (h:atD st k l i) (hi:i≤1000000000) (ha:Q0h a=true):PCalls Tryz.prog 41 [.gp k 0,.agg (encI a)] st
 (fun r st'=>r= .agg (encN (inN a (nx l i 9)))∧st'=st.set k (dk l (i+1))):=by
 have hlt:=G1k l i (n:=9) (by omega)
 obtain⟨a1,a2,_⟩:=Q0n ha
 have d1:=y1g a1
 have d2:=y1g a2
 refine Q0b none Tryz.func41 rfl fun E=>Q0a ?_
 simp -dsimp only [go_sem]
 refine(H0h l i k 9 st h (by omega) (by omega) (by omega)).mono ?_
 rintro r st' ⟨rfl,rfl⟩
 generalize nx l i 9=n at*
 unfold inN
 have x0:IntKind.i64.wrap (n:Int)=(n:Int):=Q0k _ (by omega)
 simp -dsimp only [go_sem,x0]
 refine ck (fun h1=> ?_) (fun h1=> ?_)
 · have h0:n=0:=Y0q (b:=0) h1
   rw [if_pos h0]
   simp -dsimp only [go_sem]
 · have h0:n≠0:=z0f (b:=0) h1
   rw [if_neg h0]
   simp -dsimp only [go_sem]
   refine ck (fun h2=> ?_) (fun h2=> ?_)
   · have h8:n=8:=Y0q (b:=8) h2
     rw [if_pos h8]
     simp -dsimp only [go_sem]
   · have h8:n≠8:=z0f (b:=8) h2
     rw [if_neg h8]
     have x1:IntKind.i64.wrap (8-(n:Int))=((8-n:Nat):Int):=by rw [show 8-(n:Int)=((8-n:Nat):Int) from by omega,Q0k _ (by omega)]
     have w1:=y0n (k:=8-n) (by omega)
     have w2:=y0n (k:=n) (by omega)
     have b1:=X2m d1 w1
     have b2:=X2m d2 w2
     have b3:=X2l b1 b2
     have b4:=U1a b3
     have hin:inV a n=G0f (K0o (byV (ofN a.lo) (oddV false (8-n) 0)) (byV (ofN a.hi) (oddV false n 0))):=rfl
     rw [hin]
     simp -dsimp only [go_sem]
     refine U1x Z0x 50 [0,1,2,3,4,5,6,7,8,9,10,11,12,13] [14] [15] (.step 0 [] (.step 1 [] (.step 3 [] (.step 4 [] (.step 7 [] (.step 8 [] (.step 10 [] (.step 2 [8] (.step 5 [8] (.step 6 [8] (.step 9 [] (.step 11 [1] (.step 12 [1] (.step 13 [] (.done))))))))))))))) (.step 15 [] (.done)) (by decide+kernel) (by simp) ?_
     simp -dsimp only [go_sem,x1]
     refine(of_c a.lo _ (Z3w a1)).mono ?_
     rintro r st' ⟨rfl,rfl⟩
     simp -dsimp only [go_sem,x1]
     refine(q0g (8-n) _ (by omega)).mono ?_
     rintro r st' ⟨rfl,rfl⟩
     simp -dsimp only [go_sem,x1]
     refine(by_c _ _ _ (X1z d1 (by omega) (by omega)) (X1z w1 (by omega) (by omega))).mono ?_
     rintro r st' ⟨rfl,rfl⟩
     simp -dsimp only [go_sem]
     refine(of_c a.hi _ (Z3w a2)).mono ?_
     rintro r st' ⟨rfl,rfl⟩
     simp -dsimp only [go_sem]
     refine(q0g n _ (by omega)).mono ?_
     rintro r st' ⟨rfl,rfl⟩
     simp -dsimp only [go_sem]
     refine(by_c _ _ _ (X1z d2 (by omega) (by omega)) (X1z w2 (by omega) (by omega))).mono ?_
     rintro r st' ⟨rfl,rfl⟩
     simp -dsimp only [go_sem]
     refine(W1u _ _ _ (X1z b1 (by omega) (by omega)) (X1z b2 (by omega) (by omega))).mono ?_
     rintro r st' ⟨rfl,rfl⟩
     generalize K0o (byV (ofN a.lo) (oddV false (8-n) 0)) (byV (ofN a.hi) (oddV false n 0))=v at*
     have x2:IntKind.i64.wrap (v.e-3)=v.e-3:=Q0j _ (by have:=b3.2.1;omega) (by have:=b3.2.2;omega)
     simp -dsimp only [go_sem]
     refine(U1p v _).mono ?_
     rintro r st' ⟨rfl,rfl⟩
     simp -dsimp only [go_sem]
     refine ck (fun h3=> ?_) (fun h3=> ?_)
     case' refine_1=>
      have hz:=V0p h3
      have he:G0f v= { v with e:=v.e-3 } :=if_pos hz
      rw [he] at b4⊢
      generalize hzz:({ v with e:=v.e-3 } :Vl)=z at*
      have z1:v.neg=z.neg:=by rw [←hzz]
      have z2:v.m=z.m:=by rw [←hzz]
      have z3:v.e-3=z.e:=by rw [←hzz]
      simp -dsimp only [go_sem,x2]
      rw [z1,z2,z3]
     case' refine_2=>
      have hz:=W0y h3
      have he:G0f v=v:=if_neg (fun e=>e hz)
      rw [he] at b4⊢
      generalize v=z at*
      simp -dsimp only [go_sem]
     all_goals
      refine(W2n z _ (U1b b4 (by omega))).mono ?_
      rintro r st' ⟨rfl,rfl⟩
      simp -dsimp only [go_sem]
      refine ck (fun h4=> ?_) (fun h4=> ?_)
      · have hne:=V0p h4
        rw [if_pos hne]
        simp -dsimp only [go_sem]
      · have hne:=W0y h4
        rw [if_neg (fun e=>e hne)]
        simp -dsimp only [go_sem]
theorem w2y (l:List UInt64) (i k:Nat) (b:List Ivl) (st:Q0e) (h:atD st k l i) (hi:i≤100000000) (hl:b.length≤1000000) (hb: ∀j,j<b.length→Q0h (b.getD j default)=true):PCalls Tryz.prog 24 [.gp k 0,.sl .no (Q0m b)] st
 (fun r st'=> ∃q,q.length=b.length∧(∀j,j<b.length→ ∃n,n≤8∧q.getD j default=inN (b.getD j default) n)∧r= .sl .no (J0h q)∧st'=st.set k (dk l (i+b.length))):=by
 refine Q0b none Tryz.func24 rfl fun E=>Q0a ?_
 simp -dsimp only [go_sem]
 refine X0y 5 3 ?_
 simp -dsimp only [go_sem]
 refine Q0f [true,true,false,false,false,true,true] 0 1 (fun m s=> ∃q,m=b.length-q.length∧q.length≤b.length∧(∀j,j<q.length→ ∃n,n≤8∧q.getD j default=inN (b.getD j default) n)∧
  s=⟨[.gp k 0,.sl .no (Q0m b),.junk,.junk,.junk,.sl (.own 0) (J0h q),.sc (.int .i64 (q.length:Nat))]++List.replicate 16 .junk,[],[(q.length,3)],st.set k (dk l (i+q.length))⟩) b.length ?_ ?_
 · simp -dsimp only [go_sem]
   refine⟨[],by simp,by simp,(fun j hj=>by simp at hj),?_⟩
   show _=PFS.mk _ _ _ (st.set k (dk l i))
   rw [h.same];rfl
 · rintro m s ⟨q,rfl,hq,hr,rfl⟩
   simp -dsimp only [go_sem]
   refine ck (fun h1=> ?_) (fun h1=> ?_)
   · have hlt:q.length<b.length:=by have:=of_decide_eq_true h1;omega
     have e1:=K0t b q.length hlt
     have x1:IntKind.i64.wrap ((q.length:Int)+1)=((q.length+1:Nat):Int):=by
      rw [show((q.length:Int)+1)=((q.length+1:Nat):Int) from rfl,Q0k _ (by omega)]
     have n1:=G1k l (i+q.length) (n:=9) (by omega)
     simp -dsimp only [go_sem,e1]
     refine⟨⟨by omega,hlt⟩,?_⟩
     refine(Q3f l (i+q.length) k _ _ (h.set (i+q.length)) (by omega) (hb _ hlt)).mono ?_
     rintro r st' ⟨rfl,rfl⟩
     simp -dsimp only [go_sem,Z1c,x1]
     refine⟨by omega,b.length-(q.length+1),by omega,q++ [inN (b.getD q.length default) (nx l (i+q.length) 9)],by simp,by simp;omega,fun j hj=> ?_,by simp [J0h,encN,Nat.add_assoc]⟩
     by_cases hj2:j<q.length
     · rw [q1h _ _ _ _ hj2];exact hr j hj2
     · have e:j=q.length:=by simp at hj;omega
       rw [e,Z1b];exact⟨_,by omega,rfl⟩
   · have hge:q.length=b.length:=by have:=of_decide_eq_false h1;omega
     simp -dsimp only [go_sem]
     refine V0c [false,false,false,false,false,true] (Q0a ?_)
     simp -dsimp only [go_sem]
     exact⟨q,hge,fun j hj=>hr j (by omega),rfl,by rw [hge]⟩
end Go.Pv
end
