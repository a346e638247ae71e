/- Parts of the walk: N117, N118, N126, N125. -/
import Derived.Test.YthichlfphjbadaaGreatZEC
import Derived.Test.YthichlfphjbadaaGreatZP
import Derived.Test.YthichlfphjbadaaGreatZH
import Derived.Test.YthichlfphjbadaaGreatZAF
import Derived.Test.YthichlfphjbadaaGreatZAR
set_option linter.unusedVariables false
set_option linter.unusedSimpArgs false
section
/-Frames and states:are they right?-/
set_option maxRecDepth 100000
namespace Go.Pv
open Go.Proofs
theorem J1j (l:List Nm) (n:Nat) (st:Q0g) (hw:wNs' l) (hn:n≤1000000000000):PCalls Tryz.prog 97 [.sl .no (Q0w l),.sc (.int .i64 n)] st (fun r st'=>r= .sc (.bool (Z0k l n))∧st'=st):=by
 obtain⟨hl,hw⟩:=hw
 refine Q0b none Tryz.func97 rfl fun E=>Q0a ?_
 simp -dsimp only [go_sem]
 refine Q0e [true,true,false,false,false,false,false,true,true,true] 0 0 (fun m s=> ∃i,m=l.length-i∧i≤l.length∧(∀j,j<i→Q0f (l.getD j default)=true)∧
  s=⟨[.sl .no (Q0w l),.sc (.int .i64 n),.junk,.junk,.junk,.junk,.junk,.sl .no (Q0w l),.sc (.int .i64 l.length),.sc (.int .i64 (i:Nat))]++List.replicate 11 .junk,[],[],st⟩) l.length ?_ ?_
 · simp -dsimp only [go_sem]
   exact⟨0,by omega,by omega,fun j hj=>absurd hj (Nat.not_lt_zero j),rfl⟩
 · rintro m s ⟨i,rfl,hi,hr,rfl⟩
   simp -dsimp only [go_sem]
   refine ck (fun h1=> ?_) (fun h1=> ?_)
   · have hlt:i<l.length:=by have:=of_decide_eq_true h1;omega
     have g1:=J0r l i hlt
     have wi:=hw i hlt
     unfold wN at wi
     have x1:IntKind.i64.wrap ((i:Int)+1)=((i+1:Nat):Int):=by rw [show((i:Int)+1)=((i+1:Nat):Int) from rfl,Q0k _ (by omega)]
     simp -dsimp only [go_sem,g1]
     refine⟨by omega,?_⟩
     refine(X0x (l.getD i default) st (by omega)).mono ?_
     rintro r st ⟨rfl,rfl⟩
     simp -dsimp only [go_sem]
     refine ck (fun h2=> ?_) (fun h2=> ?_)
     · have hf:Q0f (l.getD i default)=false:=by simpa using h2
       simp -dsimp only [go_sem]
       have:Z0k l n=false:=Bool.eq_false_iff.2 fun e=>by
        unfold Z0k at e
        rw [Bool.and_eq_true] at e
        rw [(x0q l Q0f).1 e.1 i hlt] at hf;cases hf
       rw [this]
     · have ht:Q0f (l.getD i default)=true:=by simpa using h2
       simp -dsimp only [go_sem,x1]
       refine⟨l.length-(i+1),by omega,i+1,rfl,by omega,fun j hj=> ?_,rfl⟩
       by_cases e:j=i
       · subst e;exact ht
       · exact hr j (by omega)
   · have hge:i=l.length:=by have:=of_decide_eq_false h1;omega
     simp -dsimp only [go_sem]
     refine Q0a ?_
     simp -dsimp only [go_sem]
     have ha:l.all Q0f=true:=(x0q l Q0f).2 fun j hj=>hr j (by omega)
     have e:((l.length:Int)==(n:Int))=decide (l.length=n):=by rw [Bool.eq_iff_iff];simp;omega
     rw [e,Z0k,ha,Bool.true_and]
theorem z1j (f:Fm) (st:Q0g) (hw:wFm f):PCalls Tryz.prog 52 [.agg (G0a f)] st (fun r st'=>r= .sc (.bool (X0i f))∧st'=st):=by
 obtain⟨wm,⟨wal,wa⟩,wr⟩:=hw
 have wml:=wm.1
 have wrl:=wr.1
 have no: ¬X0i f=true→X0i f=false:=fun h=>by simpa using h
 refine Q0b none Tryz.func52 rfl fun E=>Q0a ?_
 by_cases h1:1≤f.m.length
 rotate_left
 · have d1:decide ((f.m.length:Int)<1)=true:=decide_eq_true (by omega)
   simp -dsimp only [go_sem,d1]
   rw [no fun e=>h1 (Z0u e).1]
 have d1:decide ((f.m.length:Int)<1)=false:=decide_eq_false (by omega)
 by_cases h2:f.m.length≤4
 rotate_left
 · have d2:decide ((f.m.length:Int)>4)=true:=decide_eq_true (by omega)
   simp -dsimp only [go_sem,d1,d2]
   rw [no fun e=>h2 (Z0u e).2.1]
 have d2:decide ((f.m.length:Int)>4)=false:=decide_eq_false (by omega)
 simp -dsimp only [go_sem,d1,d2]
 refine(J1j f.m f.m.length st wm (by omega)).mono ?_
 rintro r st ⟨rfl,rfl⟩
 cases h3:Z0k f.m f.m.length with
 | false=>
  simp -dsimp only [go_sem,d1,d2]
  rw [no fun e=>by unfold X0i at e;rw [h3] at e;simp at e]
 | true=>
 by_cases h4:f.a.length=f.m.length
 rotate_left
 · have d4:((f.a.length:Int) !=(f.m.length:Int))=true:=bne_iff_ne.2 (by omega)
   simp -dsimp only [go_sem,d1,d2,d4]
   rw [no fun e=>h4 (Z0u e).2.2.2.1]
 have d4:((f.a.length:Int) !=(f.m.length:Int))=false:=by rw [h4];simp
 by_cases h5:f.r.length=f.m.length
 rotate_left
 · have d5:((f.r.length:Int) !=(f.m.length:Int))=true:=bne_iff_ne.2 (by omega)
   simp -dsimp only [go_sem,d1,d2,d4,d5]
   rw [no fun e=>h5 (Z0u e).2.2.2.2.1]
 have d5:((f.r.length:Int) !=(f.m.length:Int))=false:=by rw [h5];simp
 simp -dsimp only [go_sem,d1,d2,d4,d5]
 have key:X0i f=true↔ ∀j,j<f.m.length→Z0k (f.a.getD j []) f.m.length=true∧hasI (f.r.getD j default) default=true:=by
  unfold X0i
  simp only [Bool.and_eq_true,decide_eq_true_eq,h1,h2,h3,h4,h5,true_and,List.all_eq_true]
  refine⟨fun⟨q1,q2⟩ j hj=>⟨q1 _ ?_,q2 _ ?_⟩,fun h=>⟨fun x hx=> ?_,fun x hx=> ?_⟩⟩
  · rw [List.getD_eq_getElem?_getD,List.getElem?_eq_getElem (by omega)];exact List.getElem_mem _
  · rw [List.getD_eq_getElem?_getD,List.getElem?_eq_getElem (by omega)];exact List.getElem_mem _
  · obtain⟨i,hi,rfl⟩:=List.mem_iff_getElem.1 hx
    have:=(h i (by omega)).1
    rwa [List.getD_eq_getElem?_getD,List.getElem?_eq_getElem hi] at this
  · obtain⟨i,hi,rfl⟩:=J1g hx
    exact(h i (by omega)).2
 refine Q0e [false,true,false,true,false,false,false,false,false,false,false,false,false,false,false,false,false,false,false,false,false,false,false,false,false,false,false,false,false,false,false,false,false,false,false,true,true] 1 0
  (fun m s=> ∃i,m=f.m.length-i∧i≤f.m.length∧(∀j,j<i→Z0k (f.a.getD j []) f.m.length=true∧hasI (f.r.getD j default) default=true)∧
   s=⟨[.junk,.lp 0 0,.junk,.sc (.int .i64 f.m.length)]++(List.replicate 31 .junk++([.sc (.int .i64 f.m.length),.sc (.int .i64 (i:Nat))]++List.replicate 21 .junk)),[G0a f],[],st⟩) f.m.length ?_ ?_
 · simp -dsimp only [go_sem]
   exact⟨0,by omega,by omega,fun j hj=>absurd hj (Nat.not_lt_zero j),rfl⟩
 · rintro m s ⟨i,rfl,hi,hr,rfl⟩
   simp -dsimp only [go_sem]
   refine ck (fun h6=> ?_) (fun h6=> ?_)
   · have hlt:i<f.m.length:=by have:=of_decide_eq_true h6;omega
     have g1:=H0y f.a i (by omega)
     have g2:=J0e f.r i (by omega)
     have x1:IntKind.i64.wrap ((i:Int)+1)=((i+1:Nat):Int):=by rw [show((i:Int)+1)=((i+1:Nat):Int) from rfl,Q0k _ (by omega)]
     simp -dsimp only [go_sem,g1]
     refine⟨by omega,?_⟩
     refine(J1j (f.a.getD i []) f.m.length st (wa i (by omega)) (by omega)).mono ?_
     rintro r st ⟨rfl,rfl⟩
     cases h7:Z0k (f.a.getD i []) f.m.length with
     | false=>
      simp -dsimp only [go_sem]
      rw [no fun e=>by have:=(key.1 e i hlt).1;rw [h7] at this;cases this]
     | true=>
      simp -dsimp only [go_sem,g2]
      refine⟨by omega,?_⟩
      refine(X3n (f.r.getD i default) default st (wr.2 i (by omega)) (by show([]:List UInt64).length≤_;simp)).mono ?_
      rintro r st ⟨rfl,rfl⟩
      cases h8:hasI (f.r.getD i default) default with
      | false=>
       simp -dsimp only [go_sem]
       rw [no fun e=>by have:=(key.1 e i hlt).2;rw [h8] at this;cases this]
      | true=>
       simp -dsimp only [go_sem,x1]
       refine⟨f.m.length-(i+1),by omega,i+1,rfl,by omega,fun j hj=> ?_,rfl⟩
       by_cases e:j=i
       · subst e;exact⟨h7,h8⟩
       · exact hr j (by omega)
   · have hge:i=f.m.length:=by have:=of_decide_eq_false h6;omega
     simp -dsimp only [go_sem]
     refine Q0a ?_
     simp -dsimp only [go_sem]
     rw [key.2 fun j hj=>hr j (by omega)]
theorem H1h {x:Nm} (h:Q0f x=true):(0<sgnN (ownN x))↔(0<x.w.length∧x.neg=false):=by
 rw [ownN,if_pos h]
 unfold sgnN
 by_cases hw:x.w.length=0
 · have:x.w= []:=List.length_eq_zero_iff.1 hw
   have e0:valW ([]:List UInt64)=0:=by decide
   rw [this,e0,if_pos rfl];simp
 · have hv:valW x.w≠0:=fun e=>y3m h hw (by unfold qN;rw [show mant x=0 from by unfold mant;rw [e];simp];exact J0m _)
   rw [if_neg hv]
   cases hn:x.neg<;>simp<;>omega
theorem Y0f (s:Sx) (st:Q0g) (hw:wSx s):PCalls Tryz.prog 20 [.agg (J0h s)] st (fun r st'=>r= .sc (.bool (Q0z s))∧st'=st):=by
 obtain⟨w0,w1,wf⟩:=hw
 unfold wN at w0 w1
 refine Q0b none Tryz.func20 rfl fun E=>Q0a ?_
 have no: ¬Q0z s=true→Q0z s=false:=fun h=>by simpa using h
 by_cases h1:0≤s.idx
 rotate_left
 · have d1:decide (s.idx<0)=true:=decide_eq_true (by omega)
   simp -dsimp only [go_sem,d1]
   rw [no fun e=>h1 (X0a e).1]
 have d1:decide (s.idx<0)=false:=decide_eq_false (by omega)
 by_cases h2:s.idx≤4096
 rotate_left
 · have d2:decide (s.idx>4096)=true:=decide_eq_true (by omega)
   simp -dsimp only [go_sem,d1,d2]
   rw [no fun e=>h2 (X0a e).2.1]
 have d2:decide (s.idx>4096)=false:=decide_eq_false (by omega)
 simp -dsimp only [go_sem,d1,d2]
 refine(X0x s.t st (by omega)).mono ?_
 rintro r st ⟨rfl,rfl⟩
 cases h3:Q0f s.t with
 | false=>
  simp -dsimp only [go_sem,d1,d2]
  rw [no fun e=>by have:=(X0a e).2.2.1;rw [h3] at this;cases this]
 | true=>
 simp -dsimp only [go_sem,d1,d2]
 refine(X0x s.h st (by omega)).mono ?_
 rintro r st ⟨rfl,rfl⟩
 cases h4:Q0f s.h with
 | false=>
  simp -dsimp only [go_sem,d1,d2]
  rw [no fun e=>by have:=(X0a e).2.2.2.1;rw [h4] at this;cases this]
 | true=>
 simp -dsimp only [go_sem,d1,d2]
 refine(X1u s.t st (by omega)).mono ?_
 rintro r st ⟨rfl,rfl⟩
 cases h5:s.t.neg with
 | true=>
  have d5:decide (sgnN (ownN s.t)≥0)=false:=decide_eq_false fun e=>by have:=(w0c h3).1 e;rw [h5] at this;cases this
  simp -dsimp only [go_sem,d5]
  rw [no fun e=>by unfold Q0z at e;simp [h5] at e]
 | false=>
 have d5:decide (sgnN (ownN s.t)≥0)=true:=decide_eq_true ((w0c h3).2 h5)
 simp -dsimp only [go_sem,d5]
 refine(X1u s.h st (by omega)).mono ?_
 rintro r st ⟨rfl,rfl⟩
 by_cases h6:0<s.h.w.length∧s.h.neg=false
 rotate_left
 · have d6:decide (sgnN (ownN s.h)>0)=false:=decide_eq_false fun e=>h6 ((H1h h4).1 e)
   simp -dsimp only [go_sem,d5,d6]
   rw [no fun e=>h6 (by unfold Q0z at e;simp at e;exact⟨e.1.1.2,e.1.2⟩)]
 have d6:decide (sgnN (ownN s.h)>0)=true:=decide_eq_true ((H1h h4).2 h6)
 simp -dsimp only [go_sem,d5,d6]
 refine(z1j s.f st wf).mono ?_
 rintro r st ⟨rfl,rfl⟩
 simp -dsimp only [go_sem,d5,d6]
 have:Q0z s=X0i s.f:=by unfold Q0z;simp [h1,h2,h3,h4,h5,h6.1,h6.2]
 rw [this]
def x0z (a:List (List Nm)):Bool:=(a.all fun r=>Z0k r a.length)&&decide (1≤a.length)&&decide (a.length≤4)
theorem rightQ_iff {a:List (List Nm)} :x0z a=true↔(∀j,j<a.length→Z0k (a.getD j []) a.length=true)∧1≤a.length∧a.length≤4:=by
 unfold x0z
 simp only [Bool.and_eq_true,decide_eq_true_eq,List.all_eq_true]
 constructor
 · rintro⟨⟨h,h1⟩,h2⟩
   exact⟨fun j hj=>h _ (by rw [List.getD_eq_getElem?_getD,List.getElem?_eq_getElem hj];exact List.getElem_mem _),h1,h2⟩
 · rintro⟨h,h1,h2⟩
   refine⟨⟨fun x hx=> ?_,h1⟩,h2⟩
   obtain⟨i,hi,rfl⟩:=List.mem_iff_getElem.1 hx
   have:=h i hi
   rwa [List.getD_eq_getElem?_getD,List.getElem?_eq_getElem hi] at this
set_option maxHeartbeats 1000000 in
theorem Y1x (a:List (List Nm)) (st:Q0g) (hw:wQs a):PCalls Tryz.prog 99 [.sl .no (encQ a)] st (fun r st'=>r= .sc (.bool (x0z a))∧st'=st):=by
 obtain⟨hl,hw⟩:=hw
 refine Q0b none Tryz.func99 rfl fun E=>Q0a ?_
 simp -dsimp only [go_sem]
 refine Q0e [true,false,false,true] 0 0 (fun n s=> ∃i,n=a.length-i∧i≤a.length∧(∀j,j<i→Z0k (a.getD j []) a.length=true)∧s=⟨[.sl .no (encQ a),.junk,.junk,.sc (.int .i64 (i:Nat))]++List.replicate 45 .junk,[],[],st⟩) a.length ?_ ?_
 · simp -dsimp only [go_sem]
   exact⟨0,by omega,by omega,fun j hj=>by omega,rfl⟩
 · rintro n s ⟨i,rfl,hi,hr,rfl⟩
   have fin:i=a.length∨ ¬(i:Int)<4→decide ((a.length:Int)>0)=true→decide ((a.length:Int)≤4)=x0z a:=fun h h1=>by
    have h1:=of_decide_eq_true h1
    rw [Bool.eq_iff_iff,rightQ_iff,decide_eq_true_iff]
    exact⟨fun h4=>⟨fun j hj=>hr j (by omega),by omega,by omega⟩,fun hh=>by omega⟩
   have fin0:decide ((a.length:Int)>0)=false→x0z a=false:=fun h=>Bool.eq_false_iff.2 fun e=>by
    have:=of_decide_eq_false h
    have:=(rightQ_iff.1 e).2.1
    omega
   simp -dsimp only [go_sem]
   refine gkT (fun h=> ?_) (fun h=> ?_)
   · have hlt:i<a.length:=by have:=of_decide_eq_true h;omega
     simp -dsimp only [go_sem,h]
     refine ck (fun h4=> ?_) (fun h4=> ?_)
     · have e1:=H0y a i hlt
       have e3:=Y0r i (by omega)
       have wi:=hw i hlt
       have wil:=wi.1
       simp -dsimp only [go_sem,e1]
       refine⟨by omega,?_⟩
       refine ck (fun h2=> ?_) (fun h2=> ?_)
       · have hn:=W1e h2
         simp -dsimp only [go_sem]
         have:x0z a=false:=Bool.eq_false_iff.2 fun e=>hn (by have:=(rightQ_iff.1 e).1 i hlt;unfold Z0k at this;simp at this;exact this.2)
         rw [this]
       · have hn:=v0j h2
         simp -dsimp only [go_sem]
         refine Q0e [true,false,false,true,true] 0 0 (fun n s=> ∃k,n=(a.getD i []).length-k∧k≤(a.getD i []).length∧(∀j,j<k→Q0f ((a.getD i []).getD j default)=true)∧s=⟨[.sl .no (encQ a),.junk,.junk,.sc (.int .i64 (i:Nat)),.sc (.int .i64 (k:Nat))]++List.replicate 44 .junk,[],[],st⟩) (a.getD i []).length ?_ ?_
         · simp -dsimp only [go_sem]
           exact⟨0,by omega,by omega,fun j hj=>by omega,rfl⟩
         · rintro n s ⟨k,rfl,hk,hrk,rfl⟩
           simp -dsimp only [go_sem,e1]
           refine⟨by omega,?_⟩
           refine ck (fun h5=> ?_) (fun h5=> ?_)
           · have hklt:k<(a.getD i []).length:=by have:=of_decide_eq_true h5;omega
             have e2:=J0r (a.getD i []) k hklt
             have e4:=Y0r k (by omega)
             have wk:=wi.2 k hklt
             unfold wN at wk
             simp -dsimp only [go_sem,e1,e2]
             refine⟨by omega,by omega,?_⟩
             refine(Z0m _ st (by omega)).mono ?_
             rintro r st ⟨rfl,rfl⟩
             simp -dsimp only [go_sem]
             refine ck (fun h6=> ?_) (fun h6=> ?_)
             · have hf:Q0f ((a.getD i []).getD k default)=false:=by simpa using h6
               simp -dsimp only [go_sem]
               have:x0z a=false:=Bool.eq_false_iff.2 fun e=>by
                have:=(rightQ_iff.1 e).1 i hlt
                unfold Z0k at this
                rw [Bool.and_eq_true] at this
                rw [(x0q _ Q0f).1 this.1 k hklt] at hf;cases hf
               rw [this]
             · have ht:Q0f ((a.getD i []).getD k default)=true:=by simpa using h6
               simp -dsimp only [go_sem,e4]
               refine⟨(a.getD i []).length-(k+1),by omega,k+1,rfl,by omega,fun j hj=> ?_,rfl⟩
               by_cases e:j=k
               · subst e;exact ht
               · exact hrk j (by omega)
           · have hge:k=(a.getD i []).length:=by have:=of_decide_eq_false h5;omega
             simp -dsimp only [go_sem]
             refine Q0a ?_
             simp -dsimp only [go_sem,e3]
             refine⟨a.length-(i+1),by omega,i+1,rfl,by omega,fun j hj=> ?_,rfl⟩
             by_cases e:j=i
             · subst e
               unfold Z0k
               rw [(x0q _ Q0f).2 fun j hj=>hrk j (by omega),decide_eq_true hn];rfl
             · exact hr j (by omega)
     · have h4':=of_decide_eq_false h4
       simp -dsimp only [go_sem]
       refine Q0a ?_
       simp -dsimp only [go_sem]
       refine gkT (fun h=> ?_) (fun h=> ?_)
       · simp -dsimp only [go_sem,h]
         rw [fin (.inr h4') h]
       · simp -dsimp only [go_sem,h]
         rw [fin0 h]
   · have hge:i=a.length:=by have:=of_decide_eq_false h;omega
     simp -dsimp only [go_sem,h]
     refine Q0a ?_
     simp -dsimp only [go_sem]
     refine gkT (fun h=> ?_) (fun h=> ?_)
     · simp -dsimp only [go_sem,h]
       rw [fin (.inl hge) h]
     · simp -dsimp only [go_sem,h]
       rw [fin0 h]
end Go.Pv
end
section
/-The document's RightFrame,RightState. -/
set_option maxRecDepth 100000
namespace Go.Pv
open Go.Proofs
theorem H1p (f:Fm) (st:Q0g) (hw:wFm f):PCalls Tryz.prog 54 [.agg (G0a f)] st (fun r st'=>r= .sc (.bool (X0i f))∧st'=st):=by
 obtain⟨wm,wa,wr⟩:=hw
 have wml:=wm.1
 have wal:=wa.1
 have wrl:=wr.1
 have no: ¬X0i f=true→X0i f=false:=fun h=>by simpa using h
 refine Q0b none Tryz.func54 rfl fun E=>Q0a ?_
 by_cases h1:1≤f.m.length
 rotate_left
 · have d1:decide ((f.m.length:Int)<1)=true:=decide_eq_true (by omega)
   simp -dsimp only [go_sem,d1]
   rw [no fun e=>h1 (Z0u e).1]
 have d1:decide ((f.m.length:Int)<1)=false:=decide_eq_false (by omega)
 by_cases h2:f.m.length≤4
 rotate_left
 · have d2:decide ((f.m.length:Int)>4)=true:=decide_eq_true (by omega)
   simp -dsimp only [go_sem,d1,d2]
   rw [no fun e=>h2 (Z0u e).2.1]
 have d2:decide ((f.m.length:Int)>4)=false:=decide_eq_false (by omega)
 by_cases h4:f.a.length=f.m.length
 rotate_left
 · have d4:((f.a.length:Int) !=(f.m.length:Int))=true:=bne_iff_ne.2 (by omega)
   simp -dsimp only [go_sem,d1,d2,d4]
   rw [no fun e=>h4 (Z0u e).2.2.2.1]
 have d4:((f.a.length:Int) !=(f.m.length:Int))=false:=by rw [h4];simp
 by_cases h5:f.r.length=f.m.length
 rotate_left
 · have d5:((f.r.length:Int) !=(f.m.length:Int))=true:=bne_iff_ne.2 (by omega)
   simp -dsimp only [go_sem,d1,d2,d4,d5]
   rw [no fun e=>h5 (Z0u e).2.2.2.2.1]
 have d5:((f.r.length:Int) !=(f.m.length:Int))=false:=by rw [h5];simp
 simp -dsimp only [go_sem,d1,d2,d4,d5]
 have key:X0i f=true↔x0z f.a=true∧rightB f.r=true∧ ∀j,j<f.m.length→Q0f (f.m.getD j default)=true∧hasI (f.r.getD j default) default=true:=by
  constructor
  · intro h
    obtain⟨p1,p2,p3,p4,p5,p6,p7⟩:=Z0u h
    refine⟨?_,p7,fun j hj=>⟨(x0q _ Q0f).1 p3 j hj,?_⟩⟩
    · unfold x0z;rw [h4,p6];simp;omega
    · unfold X0i at h
      simp only [Bool.and_eq_true,List.all_eq_true] at h
      refine h.2 _ ?_
      rw [List.getD_eq_getElem?_getD,List.getElem?_eq_getElem (by omega)];exact List.getElem_mem _
  · rintro⟨q1,q2,q3⟩
    refine V1k h1 h2 (fun i hi=>(q3 i hi).1) h4 h5 (fun i hi=> ?_) fun i hi=>(q3 i (by omega)).2
    have:=(rightQ_iff.1 q1).1 i hi
    unfold Z0k at this
    simp only [Bool.and_eq_true,decide_eq_true_eq] at this
    exact⟨by omega,fun j hj=>(x0q _ Q0f).1 this.1 j (by omega)⟩
 refine(Y1x f.a st wa).mono ?_
 rintro r st ⟨rfl,rfl⟩
 cases h3:x0z f.a with
 | false=>
  simp -dsimp only [go_sem,d1,d2,d4,d5]
  rw [no fun e=>by have:=(key.1 e).1;rw [h3] at this;cases this]
 | true=>
 simp -dsimp only [go_sem,d1,d2,d4,d5]
 refine(U0i f.r st wr).mono ?_
 rintro r st ⟨rfl,rfl⟩
 cases h9:rightB f.r with
 | false=>
  simp -dsimp only [go_sem,d1,d2,d4,d5]
  rw [no fun e=>by have:=(key.1 e).2.1;rw [h9] at this;cases this]
 | true=>
 simp -dsimp only [go_sem,d1,d2,d4,d5]
 refine Q0e [false,true,false,true,true] 1 0
  (fun m s=> ∃i,m=f.m.length-i∧i≤f.m.length∧(∀j,j<i→Q0f (f.m.getD j default)=true∧hasI (f.r.getD j default) default=true)∧
   s=⟨[.junk,.lp 0 0,.junk,.sc (.int .i64 f.m.length),.sc (.int .i64 (i:Nat))]++List.replicate 57 .junk,[G0a f],[],st⟩) f.m.length ?_ ?_
 · simp -dsimp only [go_sem]
   exact⟨0,by omega,by omega,fun j hj=>absurd hj (Nat.not_lt_zero j),rfl⟩
 · rintro m s ⟨i,rfl,hi,hr,rfl⟩
   simp -dsimp only [go_sem]
   refine ck (fun h6=> ?_) (fun h6=> ?_)
   · have hlt:i<f.m.length:=by have:=of_decide_eq_true h6;omega
     have g1:=J0r f.m i (by omega)
     have g2:=J0e f.r i (by omega)
     have x1:=Y0r i (by omega)
     have wi:=wm.2 i hlt
     unfold wN at wi
     simp -dsimp only [go_sem,g1]
     refine⟨by omega,?_⟩
     refine(Z0m (f.m.getD i default) st (by omega)).mono ?_
     rintro r st ⟨rfl,rfl⟩
     cases h7:Q0f (f.m.getD i default) with
     | false=>
      simp -dsimp only [go_sem]
      rw [no fun e=>by have:=((key.1 e).2.2 i hlt).1;rw [h7] at this;cases this]
     | true=>
      simp -dsimp only [go_sem,g2]
      refine⟨by omega,?_⟩
      refine(q2p (f.r.getD i default) default st (wr.2 i (by omega)) (by show([]:List UInt64).length≤_;simp)).mono ?_
      rintro r st ⟨rfl,rfl⟩
      cases h8:hasI (f.r.getD i default) default with
      | false=>
       simp -dsimp only [go_sem]
       rw [no fun e=>by have:=((key.1 e).2.2 i hlt).2;rw [h8] at this;cases this]
      | true=>
       simp -dsimp only [go_sem,x1]
       refine⟨f.m.length-(i+1),by omega,i+1,rfl,by omega,fun j hj=> ?_,rfl⟩
       by_cases e:j=i
       · subst e;exact⟨h7,h8⟩
       · exact hr j (by omega)
   · have hge:i=f.m.length:=by have:=of_decide_eq_false h6;omega
     simp -dsimp only [go_sem]
     refine Q0a ?_
     simp -dsimp only [go_sem]
     rw [key.2 ⟨h3,h9,fun j hj=>hr j (by omega)⟩]
theorem U0n (s:Sx) (st:Q0g) (hw:wSx s):PCalls Tryz.prog 21 [.agg (J0h s)] st (fun r st'=>r= .sc (.bool (Q0z s))∧st'=st):=by
 obtain⟨w0,w1,wf⟩:=hw
 unfold wN at w0 w1
 refine Q0b none Tryz.func21 rfl fun E=>Q0a ?_
 have no: ¬Q0z s=true→Q0z s=false:=fun h=>by simpa using h
 by_cases h1:0≤s.idx
 rotate_left
 · have d1:decide (s.idx≥0)=false:=decide_eq_false (by omega)
   simp -dsimp only [go_sem,d1]
   rw [no fun e=>h1 (X0a e).1]
 have d1:decide (s.idx≥0)=true:=decide_eq_true (by omega)
 by_cases h2:s.idx≤4096
 rotate_left
 · have d2:decide (s.idx≤4096)=false:=decide_eq_false (by omega)
   simp -dsimp only [go_sem,d1,d2]
   rw [no fun e=>h2 (X0a e).2.1]
 have d2:decide (s.idx≤4096)=true:=decide_eq_true (by omega)
 simp -dsimp only [go_sem,d1,d2]
 refine(Z0m s.t st (by omega)).mono ?_
 rintro r st ⟨rfl,rfl⟩
 cases h3:Q0f s.t with
 | false=>
  simp -dsimp only [go_sem,d1,d2]
  rw [no fun e=>by have:=(X0a e).2.2.1;rw [h3] at this;cases this]
 | true=>
 simp -dsimp only [go_sem,d1,d2]
 refine(Z0m s.h st (by omega)).mono ?_
 rintro r st ⟨rfl,rfl⟩
 cases h4:Q0f s.h with
 | false=>
  simp -dsimp only [go_sem,d1,d2]
  rw [no fun e=>by have:=(X0a e).2.2.2.1;rw [h4] at this;cases this]
 | true=>
 cases h5:s.t.neg with
 | true=>
  simp -dsimp only [go_sem,d1,d2]
  rw [no fun e=>by unfold Q0z at e;simp [h5] at e]
 | false=>
 by_cases h6:0<s.h.w.length
 rotate_left
 · have d6:decide ((s.h.w.length:Int)>0)=false:=decide_eq_false (by omega)
   simp -dsimp only [go_sem,d1,d2,d6]
   rw [no fun e=>h6 (by unfold Q0z at e;simp at e;exact e.1.1.2)]
 have d6:decide ((s.h.w.length:Int)>0)=true:=decide_eq_true (by omega)
 cases h7:s.h.neg with
 | true=>
  simp -dsimp only [go_sem,d1,d2,d6]
  rw [no fun e=>by unfold Q0z at e;simp [h7] at e]
 | false=>
 simp -dsimp only [go_sem,d1,d2,d6]
 have hh:PCalls Tryz.prog 54 [.agg (G0a s.f)] st (fun r st'=>r= .sc (.bool (X0i s.f))∧st'=st):=H1p s.f st wf
 refine hh.mono ?_
 rintro r st ⟨rfl,rfl⟩
 simp -dsimp only [go_sem,d1,d2,d6]
 have:Q0z s=X0i s.f:=by unfold Q0z;simp [h1,h2,h3,h4,h5,h6,h7]
 rw [this]
end Go.Pv
end
section
/-The document's FrameOf,RightProblem,Begin. -/
set_option maxRecDepth 100000
namespace Go.Pv
open Go.Proofs
theorem y2t {q:List Nm} (h:wNs q):wB (ofB q):=by
 obtain⟨h1,h2⟩:=h
 refine⟨by simpa [ofB] using h1,fun i hi=> ?_⟩
 have hi':i<q.length:=by simpa [ofB] using hi
 have e:(ofB q).getD i default=⟨q.getD i default,q.getD i default⟩:=by simp [ofB,List.getD_eq_getElem?_getD,hi']
 rw [e]
 exact⟨h2 i hi',h2 i hi'⟩
theorem x2k {b:List Ivl} {p:Int} (h:(midB b p).2=0):1≤b.length∧b.length≤4:=by
 unfold midB at h
 split at h
 · rename_i hc;have:=W0r hc.1;exact⟨this.1,this.2⟩
 · exact absurd h (by decide)
theorem U2c (b:List Ivl) (p:Int) (st:Q0g) (hb:wB b):PCalls Tryz.prog 92 [.sl .no (Q0t b),.sc (.int .i64 p)] st
 (fun r st'=>r= .tup [.agg (G0a (W0b b p).1),.sc (.int .i64 (W0b b p).2)]∧st'=st):=by
 refine Q0b none Tryz.func92 rfl fun E=>Q0h (Q0a ?_)
 have wm:=y2s b p hb
 have wo:=y2t wm
 simp -dsimp only [go_sem]
 refine Q0h (Q0a ?_)
 simp -dsimp only [go_sem]
 refine(x2j b p st hb).mono ?_
 rintro r st ⟨rfl,rfl⟩
 simp -dsimp only [go_sem]
 refine Q0h (Q0a ?_)
 unfold W0b
 by_cases h1:(midB b p).2=0
 rotate_left
 · have d1:((midB b p).2 !=0)=true:=bne_iff_ne.2 h1
   rw [if_pos h1]
   simp -dsimp only [go_sem,d1]
   rfl
 have d1:((midB b p).2 !=0)=false:=by rw [h1];rfl
 have c1: ¬((midB b p).2≠0):=fun h=>h h1
 rw [if_neg c1]
 simp -dsimp only [go_sem,d1]
 refine Q0h (Q0a ?_)
 simp -dsimp only [go_sem]
 refine(z2m (midB b p).1 st wm).plain.mono ?_
 rintro r st ⟨rfl,rfl⟩
 simp -dsimp only [go_sem]
 refine(z2t b (ofB (midB b p).1) p st hb wo).mono ?_
 rintro r st ⟨rfl,rfl⟩
 simp -dsimp only [go_sem]
 refine Q0h (Q0a ?_)
 by_cases h2:(opB 1 b (ofB (midB b p).1) p).2=0
 rotate_left
 · have d2:((opB 1 b (ofB (midB b p).1) p).2 !=0)=true:=bne_iff_ne.2 h2
   rw [if_pos h2]
   simp -dsimp only [go_sem,d2]
   rfl
 have d2:((opB 1 b (ofB (midB b p).1) p).2 !=0)=false:=by rw [h2];rfl
 have c2: ¬((opB 1 b (ofB (midB b p).1) p).2≠0):=fun h=>h h2
 rw [if_neg c2]
 simp -dsimp only [go_sem,d2]
 refine Q0a ?_
 simp -dsimp only [go_sem]
 refine(y3t (b.length:Int) st).mono ?_
 rintro r st ⟨rfl,rfl⟩
 simp -dsimp only [go_sem]
 have hl:=x2k h1
 have e:oneQ (b.length:Int)=z2u b.length:=by rw [oneQ,if_pos (by omega)];rfl
 rw [e]
set_option maxHeartbeats 1000000 in
theorem K1k (p:Pb) (st:Q0g) (hw:wPb p):PCalls Tryz.prog 91 [.agg (K1s p)] st (fun r st'=>r= .sc (.bool (G0n p))∧st'=st):=by
 obtain⟨wf,wb,w1,w2,w3⟩:=hw
 have wfl:=wf.1
 have wbl:=wb.1
 unfold wN at w1 w2 w3
 have wz:(default:Nm).w.length≤100000000000:=by show([]:List UInt64).length≤_;simp
 have no: ¬G0n p=true→G0n p=false:=fun h=>by simpa using h
 have parts:G0n p=true↔V0x p.fld=true∧rightB p.box=true∧p.box.length=p.fld.length∧Q0f p.until'=true∧Q0f p.most=true∧Q0f p.least=true∧0<cmpR p.until' default∧0<cmpR p.least default∧0≤cmpR p.most p.least∧Z0q p.prec=true∧2≤p.order∧p.order≤10∧1≤p.budget∧p.budget≤4096:=by
  unfold G0n;simp only [Bool.and_eq_true,decide_eq_true_eq,and_assoc]
 refine Q0b none Tryz.func91 rfl fun E=>Q0h (Q0a ?_)
 simp -dsimp only [go_sem]
 refine Q0h (Q0a ?_)
 simp -dsimp only [go_sem]
 refine(j1i p.fld st wf).mono ?_
 rintro r st ⟨rfl,rfl⟩
 cases q1:V0x p.fld with
 | false=>
  simp -dsimp only [go_sem]
  rw [no fun e=>by have:=(parts.1 e).1;rw [q1] at this;cases this]
 | true=>
 simp -dsimp only [go_sem]
 refine(U0i p.box st wb).mono ?_
 rintro r st ⟨rfl,rfl⟩
 cases q2:rightB p.box with
 | false=>
  simp -dsimp only [go_sem]
  rw [no fun e=>by have:=(parts.1 e).2.1;rw [q2] at this;cases this]
 | true=>
 by_cases q3:p.box.length=p.fld.length
 rotate_left
 · have d3:((p.box.length:Int) !=(p.fld.length:Int))=true:=bne_iff_ne.2 (by omega)
   simp -dsimp only [go_sem,d3]
   rw [no fun e=>q3 (parts.1 e).2.2.1]
 have d3:((p.box.length:Int) !=(p.fld.length:Int))=false:=by rw [q3];simp
 simp -dsimp only [go_sem,d3]
 refine(Z0m p.until' st (by omega)).mono ?_
 rintro r st ⟨rfl,rfl⟩
 cases q4:Q0f p.until' with
 | false=>
  simp -dsimp only [go_sem,d3]
  rw [no fun e=>by have:=(parts.1 e).2.2.2.1;rw [q4] at this;cases this]
 | true=>
 simp -dsimp only [go_sem,d3]
 refine(Z0m p.most st (by omega)).mono ?_
 rintro r st ⟨rfl,rfl⟩
 cases q5:Q0f p.most with
 | false=>
  simp -dsimp only [go_sem,d3]
  rw [no fun e=>by have:=(parts.1 e).2.2.2.2.1;rw [q5] at this;cases this]
 | true=>
 simp -dsimp only [go_sem,d3]
 refine(Z0m p.least st (by omega)).mono ?_
 rintro r st ⟨rfl,rfl⟩
 cases q6:Q0f p.least with
 | false=>
  simp -dsimp only [go_sem,d3]
  rw [no fun e=>by have:=(parts.1 e).2.2.2.2.2.1;rw [q6] at this;cases this]
 | true=>
 simp -dsimp only [go_sem,d3]
 refine Q0h (Q0a ?_)
 simp -dsimp only [go_sem]
 refine Q0a ?_
 simp -dsimp only [go_sem]
 refine(x0n p.until' default st (by omega) (by omega)).mono ?_
 rintro r st ⟨rfl,rfl⟩
 by_cases q7:0<cmpR p.until' default
 rotate_left
 · have d7:decide (cmpR p.until' default>0)=false:=decide_eq_false (by omega)
   simp -dsimp only [go_sem,d7]
   rw [no fun e=>q7 (parts.1 e).2.2.2.2.2.2.1]
 have d7:decide (cmpR p.until' default>0)=true:=decide_eq_true (by omega)
 simp -dsimp only [go_sem,d7]
 refine(x0n p.least default st (by omega) (by omega)).mono ?_
 rintro r st ⟨rfl,rfl⟩
 by_cases q8:0<cmpR p.least default
 rotate_left
 · have d8:decide (cmpR p.least default>0)=false:=decide_eq_false (by omega)
   simp -dsimp only [go_sem,d7,d8]
   rw [no fun e=>q8 (parts.1 e).2.2.2.2.2.2.2.1]
 have d8:decide (cmpR p.least default>0)=true:=decide_eq_true (by omega)
 simp -dsimp only [go_sem,d7,d8]
 refine(x0n p.most p.least st (by omega) (by omega)).mono ?_
 rintro r st ⟨rfl,rfl⟩
 by_cases q9:0≤cmpR p.most p.least
 rotate_left
 · have d9:decide (cmpR p.most p.least≥0)=false:=decide_eq_false (by omega)
   simp -dsimp only [go_sem,d7,d8,d9]
   rw [no fun e=>q9 (parts.1 e).2.2.2.2.2.2.2.2.1]
 have d9:decide (cmpR p.most p.least≥0)=true:=decide_eq_true (by omega)
 simp -dsimp only [go_sem,d7,d8,d9]
 refine(V2x p.prec st).mono ?_
 rintro r st ⟨rfl,rfl⟩
 cases q10:Z0q p.prec with
 | false=>
  simp -dsimp only [go_sem,d7,d8,d9]
  rw [no fun e=>by have:=(parts.1 e).2.2.2.2.2.2.2.2.2.1;rw [q10] at this;cases this]
 | true=>
 by_cases q11:2≤p.order
 rotate_left
 · have d11:decide (p.order≥2)=false:=decide_eq_false (by omega)
   simp -dsimp only [go_sem,d7,d8,d9,d11]
   rw [no fun e=>q11 (parts.1 e).2.2.2.2.2.2.2.2.2.2.1]
 have d11:decide (p.order≥2)=true:=decide_eq_true (by omega)
 by_cases q12:p.order≤10
 rotate_left
 · have d12:decide (p.order≤10)=false:=decide_eq_false (by omega)
   simp -dsimp only [go_sem,d7,d8,d9,d11,d12]
   rw [no fun e=>q12 (parts.1 e).2.2.2.2.2.2.2.2.2.2.2.1]
 have d12:decide (p.order≤10)=true:=decide_eq_true (by omega)
 by_cases q13:1≤p.budget
 rotate_left
 · have d13:decide (p.budget≥1)=false:=decide_eq_false (by omega)
   simp -dsimp only [go_sem,d7,d8,d9,d11,d12,d13]
   rw [no fun e=>q13 (parts.1 e).2.2.2.2.2.2.2.2.2.2.2.2.1]
 have d13:decide (p.budget≥1)=true:=decide_eq_true (by omega)
 by_cases q14:p.budget≤4096
 rotate_left
 · have d14:decide (p.budget≤4096)=false:=decide_eq_false (by omega)
   simp -dsimp only [go_sem,d7,d8,d9,d11,d12,d13,d14]
   rw [no fun e=>q14 (parts.1 e).2.2.2.2.2.2.2.2.2.2.2.2.2]
 have d14:decide (p.budget≤4096)=true:=decide_eq_true (by omega)
 simp -dsimp only [go_sem,d7,d8,d9,d11,d12,d13,d14]
 rw [parts.2 ⟨q1,q2,q3,q4,q5,q6,q7,q8,q9,q10,q11,q12,q13,q14⟩]
theorem Z2k (p:Pb) (st:Q0g) (hw:wPb p):PCalls Tryz.prog 49 [.agg (K1s p)] st
 (fun r st'=>r= .tup [.agg (J0h (w0a p).1),.sc (.int .i64 (w0a p).2)]∧st'=st):=by
 refine Q0b none Tryz.func49 rfl fun E=>Q0h (Q0a ?_)
 simp -dsimp only [go_sem]
 refine Q0h (Q0a ?_)
 simp -dsimp only [go_sem]
 have c0:PCalls Tryz.prog 91 [.agg (K1s p)] st (fun r st'=>r= .sc (.bool (G0n p))∧st'=st):=K1k p st hw
 refine c0.mono ?_
 rintro r st ⟨rfl,rfl⟩
 unfold w0a
 cases h1:G0n p with
 | false=>
  rw [if_neg (by simp)]
  simp -dsimp only [go_sem]
  rfl
 | true=>
  rw [if_pos rfl]
  simp -dsimp only [go_sem]
  refine Q0h (Q0a ?_)
  simp -dsimp only [go_sem]
  refine(U2c p.box p.prec st hw.2.1).mono ?_
  rintro r st ⟨rfl,rfl⟩
  simp -dsimp only [go_sem]
  refine Q0h (Q0a ?_)
  by_cases h2:(W0b p.box p.prec).2=0
  rotate_left
  · have d2:((W0b p.box p.prec).2 !=0)=true:=bne_iff_ne.2 h2
    rw [if_pos h2]
    simp -dsimp only [go_sem,d2]
    rfl
  have d2:((W0b p.box p.prec).2 !=0)=false:=by rw [h2];rfl
  have c2: ¬((W0b p.box p.prec).2≠0):=fun h=>h h2
  rw [if_neg c2]
  simp -dsimp only [go_sem,d2]
  refine Q0a ?_
  simp -dsimp only [go_sem]
  rfl
end Go.Pv
end
section
/-The document's SameFrame,SameState. -/
set_option maxRecDepth 100000
namespace Go.Pv
open Go.Proofs
theorem w2b {a b:List Nm} (h:a.length=b.length) (he: ∀i,i<a.length→a.getD i default=b.getD i default):a=b:=by
 refine List.ext_getElem h fun i h1 h2=> ?_
 have:=he i h1
 rwa [List.getD_eq_getElem?_getD,List.getD_eq_getElem?_getD,List.getElem?_eq_getElem h1,List.getElem?_eq_getElem h2] at this
theorem U3j {a b:List (List Nm)} (h:a.length=b.length) (he: ∀i,i<a.length→a.getD i []=b.getD i []):a=b:=by
 refine List.ext_getElem h fun i h1 h2=> ?_
 have:=he i h1
 rwa [List.getD_eq_getElem?_getD,List.getD_eq_getElem?_getD,List.getElem?_eq_getElem h1,List.getElem?_eq_getElem h2] at this
set_option maxHeartbeats 2000000 in
theorem j1d (a b:Fm) (st:Q0g) (ha:wFm a) (hb:wFm b):PCalls Tryz.prog 68 [.agg (G0a a),.agg (G0a b)] st (fun r st'=>r= .sc (.bool (decide (a=b)))∧st'=st):=by
 obtain⟨⟨am,am2⟩,⟨aa,aa2⟩,ar⟩:=ha
 obtain⟨⟨bm,bm2⟩,⟨ba,ba2⟩,br⟩:=hb
 have no: ¬a=b→decide (a=b)=false:=fun h=>decide_eq_false h
 refine Q0b none Tryz.func68 rfl fun E=>Q0h (Q0a ?_)
 simp -dsimp only [go_sem]
 refine Q0h (Q0a ?_)
 by_cases h1:a.m.length=b.m.length
 rotate_left
 · have d1:((a.m.length:Int) !=(b.m.length:Int))=true:=bne_iff_ne.2 (by omega)
   simp -dsimp only [go_sem,d1]
   rw [no fun e=>h1 (by rw [e])]
 have d1:((a.m.length:Int) !=(b.m.length:Int))=false:=by rw [h1];simp
 by_cases h2:a.a.length=b.a.length
 rotate_left
 · have d2:((a.a.length:Int) !=(b.a.length:Int))=true:=bne_iff_ne.2 (by omega)
   simp -dsimp only [go_sem,d1,d2]
   rw [no fun e=>h2 (by rw [e])]
 have d2:((a.a.length:Int) !=(b.a.length:Int))=false:=by rw [h2];simp
 simp -dsimp only [go_sem,d1,d2]
 refine(K2w a.r b.r st ar br).mono ?_
 rintro r st ⟨rfl,rfl⟩
 by_cases h3:a.r=b.r
 rotate_left
 · simp -dsimp only [go_sem,d1,d2,decide_eq_false h3]
   rw [no fun e=>h3 (by rw [e])]
 simp -dsimp only [go_sem,d1,d2,decide_eq_true h3]
 refine Z0y [false,false,true,true] 2 0 (fun s=>a.m=b.m∧s=⟨[.junk,.junk,.lp 0 0,.lp 1 0]++List.replicate 95 .junk,[G0a a,G0a b],[],st⟩) ?_ ?_
 · simp -dsimp only [go_sem]
   refine Q0e [false,false,true,true,false,true] 2 0 (fun c s=> ∃i,c=a.m.length-i∧i≤a.m.length∧(∀j,j<i→a.m.getD j default=b.m.getD j default)∧s=⟨[.junk,.junk,.lp 0 0,.lp 1 0,.junk,.sc (.int .i64 (i:Nat))]++List.replicate 93 .junk,[G0a a,G0a b],[],st⟩) a.m.length ?_ ?_
   · simp -dsimp only [go_sem]
     exact⟨0,by omega,by omega,fun j hj=>absurd hj (Nat.not_lt_zero j),rfl⟩
   · rintro c s ⟨i,rfl,hi,hr,rfl⟩
     simp -dsimp only [go_sem]
     refine ck (fun h4=> ?_) (fun h4=> ?_)
     · have hlt:i<a.m.length:=by have:=of_decide_eq_true h4;omega
       have g1:=J0r a.m i hlt
       have g2:=J0r b.m i (by omega)
       have x1:=Y0r i (by omega)
       have w1:=am2 i hlt
       have w2:=bm2 i (by omega)
       unfold wN at w1 w2
       simp -dsimp only [go_sem]
       refine Q0m Z0t 99 (.step 0 [] (.step 1 [] (.step 2 [] (.step 3 [] (.step 4 [] (.step 5 [] (.step 6 [] (.step 7 [] (.step 8 [] (.step 9 [] (.step 10 [] (.step 11 [] (.done))))))))))))) (by decide+kernel) (by simp) ?_
       simp -dsimp only [go_sem,g1,g2]
       refine⟨by omega,by omega,?_⟩
       refine(H0a (a.m.getD i default) (b.m.getD i default) st (by omega) (by omega)).mono ?_
       rintro r st ⟨rfl,rfl⟩
       by_cases h5:a.m.getD i default=b.m.getD i default
       · simp -dsimp only [go_sem,decide_eq_true h5,x1]
         refine⟨a.m.length-(i+1),by omega,i+1,rfl,by omega,fun j hj=> ?_,rfl⟩
         by_cases e:j=i
         · subst e;exact h5
         · exact hr j (by omega)
       · simp -dsimp only [go_sem,decide_eq_false h5]
         rw [no fun e=>h5 (by rw [e])]
     · have hge:i=a.m.length:=by have:=of_decide_eq_false h4;omega
       simp -dsimp only [go_sem]
       exact w2b h1 fun j hj=>hr j (by omega)
 rintro s ⟨hm,rfl⟩
 refine Q0a ?_
 simp -dsimp only [go_sem]
 refine Q0e [false,false,true,true,false,false,true] 2 0 (fun c s=> ∃i,c=a.a.length-i∧i≤a.a.length∧(∀j,j<i→a.a.getD j []=b.a.getD j [])∧s=⟨[.junk,.junk,.lp 0 0,.lp 1 0,.junk,.junk,.sc (.int .i64 (i:Nat))]++List.replicate 92 .junk,[G0a a,G0a b],[],st⟩) a.a.length ?_ ?_
 · simp -dsimp only [go_sem]
   exact⟨0,by omega,by omega,fun j hj=>absurd hj (Nat.not_lt_zero j),rfl⟩
 · rintro c s ⟨i,rfl,hi,hr,rfl⟩
   simp -dsimp only [go_sem]
   refine ck (fun h4=> ?_) (fun h4=> ?_)
   · have hlt:i<a.a.length:=by have:=of_decide_eq_true h4;omega
     have g1:=H0y a.a i hlt
     have g2:=H0y b.a i (by omega)
     have x1:=Y0r i (by omega)
     obtain⟨w1,w1'⟩:=aa2 i hlt
     obtain⟨w2,w2'⟩:=ba2 i (by omega)
     simp -dsimp only [go_sem]
     refine Q0m Z0t 99 (.step 0 [] (.step 1 [] (.step 2 [] (.step 3 [] (.step 4 [] (.step 5 [] (.step 6 [] (.step 7 [] (.step 8 [] (.step 9 [] (.step 10 [] (.step 11 [] (.step 12 [] (.done)))))))))))))) (by decide+kernel) (by simp) ?_
     simp -dsimp only [go_sem,g1,g2]
     refine⟨by omega,by omega,?_⟩
     refine ck (fun h5=> ?_) (fun h5=> ?_)
     · have hne:=W1e h5
       simp -dsimp only [go_sem]
       rw [no fun e=>hne (by rw [e])]
     · have heq:=v0j h5
       simp -dsimp only [go_sem]
       refine Q0e [false,false,true,true,false,false,true,true] 2 0 (fun c s=> ∃k,c=(a.a.getD i []).length-k∧k≤(a.a.getD i []).length∧(∀j,j<k→(a.a.getD i []).getD j default=(b.a.getD i []).getD j default)∧s=⟨[.junk,.junk,.lp 0 0,.lp 1 0,.junk,.junk,.sc (.int .i64 (i:Nat)),.sc (.int .i64 (k:Nat))]++List.replicate 91 .junk,[G0a a,G0a b],[],st⟩) (a.a.getD i []).length ?_ ?_
       · simp -dsimp only [go_sem]
         exact⟨0,by omega,by omega,fun j hj=>absurd hj (Nat.not_lt_zero j),rfl⟩
       · rintro c s ⟨k,rfl,hk,hrk,rfl⟩
         simp -dsimp only [go_sem,g1]
         refine⟨by omega,?_⟩
         refine ck (fun h6=> ?_) (fun h6=> ?_)
         · have hklt:k<(a.a.getD i []).length:=by have:=of_decide_eq_true h6;omega
           have e1:=J0r (a.a.getD i []) k hklt
           have e2:=J0r (b.a.getD i []) k (by omega)
           have x2:=Y0r k (by omega)
           have v1:=w1' k hklt
           have v2:=w2' k (by omega)
           unfold wN at v1 v2
           simp -dsimp only [go_sem]
           refine Q0m Z0t 99 (.step 0 [] (.step 1 [] (.step 2 [] (.step 3 [] (.step 4 [] (.step 5 [] (.step 6 [] (.step 7 [] (.step 8 [] (.step 9 [] (.step 10 [] (.step 11 [] (.step 12 [] (.step 13 [] (.step 14 [] (.step 15 [] (.step 16 [1,9] (.step 17 [] (.done))))))))))))))))))) (by decide+kernel) (by simp) ?_
           simp -dsimp only [go_sem,g1,g2,e1,e2]
           refine⟨by omega,by omega,by omega,by omega,?_⟩
           refine(H0a ((a.a.getD i []).getD k default) ((b.a.getD i []).getD k default) st (by omega) (by omega)).mono ?_
           rintro r st ⟨rfl,rfl⟩
           by_cases h7:(a.a.getD i []).getD k default=(b.a.getD i []).getD k default
           · simp -dsimp only [go_sem,decide_eq_true h7,x2]
             refine⟨(a.a.getD i []).length-(k+1),by omega,k+1,rfl,by omega,fun j hj=> ?_,rfl⟩
             by_cases e:j=k
             · subst e;exact h7
             · exact hrk j (by omega)
           · simp -dsimp only [go_sem,decide_eq_false h7]
             rw [no fun e=>h7 (by rw [e])]
         · have hge:k=(a.a.getD i []).length:=by have:=of_decide_eq_false h6;omega
           simp -dsimp only [go_sem]
           refine Q0a ?_
           simp -dsimp only [go_sem,x1]
           refine⟨a.a.length-(i+1),by omega,i+1,rfl,by omega,fun j hj=> ?_,rfl⟩
           by_cases e:j=i
           · subst e;exact w2b heq fun j hj=>hrk j (by omega)
           · exact hr j (by omega)
   · have hge:i=a.a.length:=by have:=of_decide_eq_false h4;omega
     simp -dsimp only [go_sem]
     refine Q0a ?_
     simp -dsimp only [go_sem]
     rw [decide_eq_true (fm_eq.2 ⟨hm,U3j h2 fun j hj=>hr j (by omega),h3⟩)]
theorem j1c (a b:Sx) (st:Q0g) (ha:wSx a) (hb:wSx b):PCalls Tryz.prog 27 [.agg (J0h a),.agg (J0h b)] st (fun r st'=>r= .sc (.bool (decide (a=b)))∧st'=st):=by
 obtain⟨a1,a2,a3⟩:=ha
 obtain⟨b1,b2,b3⟩:=hb
 unfold wN at a1 a2 b1 b2
 have no: ¬a=b→decide (a=b)=false:=fun h=>decide_eq_false h
 refine Q0b none Tryz.func27 rfl fun E=>Q0a ?_
 by_cases h1:a.idx=b.idx
 rotate_left
 · have d1:(a.idx==b.idx)=false:=beq_eq_false_iff_ne.2 h1
   simp -dsimp only [go_sem,d1]
   rw [no fun e=>h1 (by rw [e])]
 have d1:(a.idx==b.idx)=true:=beq_iff_eq.2 h1
 simp -dsimp only [go_sem,d1]
 refine(H0a a.t b.t st (by omega) (by omega)).mono ?_
 rintro r st ⟨rfl,rfl⟩
 by_cases h2:a.t=b.t
 rotate_left
 · simp -dsimp only [go_sem,d1,decide_eq_false h2]
   rw [no fun e=>h2 (by rw [e])]
 simp -dsimp only [go_sem,d1,decide_eq_true h2]
 refine(H0a a.h b.h st (by omega) (by omega)).mono ?_
 rintro r st ⟨rfl,rfl⟩
 by_cases h3:a.h=b.h
 rotate_left
 · simp -dsimp only [go_sem,d1,decide_eq_true h2,decide_eq_false h3]
   rw [no fun e=>h3 (by rw [e])]
 simp -dsimp only [go_sem,d1,decide_eq_true h2,decide_eq_true h3]
 have hh:PCalls Tryz.prog 68 [.agg (G0a a.f),.agg (G0a b.f)] st (fun r st'=>r= .sc (.bool (decide (a.f=b.f)))∧st'=st):=j1d a.f b.f st a3 b3
 refine hh.mono ?_
 rintro r st ⟨rfl,rfl⟩
 simp -dsimp only [go_sem,d1,decide_eq_true h2,decide_eq_true h3]
 have:decide (a.f=b.f)=decide (a=b):=decide_eq_decide.2 ⟨fun e=>sx_eq.2 ⟨h1,h2,h3,e⟩,fun e=>by rw [e]⟩
 rw [this]
end Go.Pv
end
