/- Parts of the walk: M78, PvBb, N117. -/
import Derived.Test.YtofoadghajnglaaGreatDoorZEA
import Derived.Test.YtofoadghajnglaaGreatDoorZAL
import Derived.Test.YtofoadghajnglaaGreatDoorZBA
import Derived.Test.YtofoadghajnglaaGreatDoorZBE
import Derived.Test.YtofoadghajnglaaGreatDoorZBR
import Derived.Test.YtofoadghajnglaaGreatDoorZM
set_option linter.unusedVariables false
set_option linter.unusedSimpArgs false
section
/-Problems,and their states:what the document's Begin and the drawn states are. No program in it. -/
namespace Go.Pv
structure Pb where
 fld:List (List Mn)
 box:List Ivl
 until':Nm
 most:Nm
 least:Nm
 prec:Int
 order:Int
 budget:Int
instance : Inhabited Pb:=⟨⟨[],[],default,default,default,0,0,0⟩⟩
end Go.Pv
end
section
/-Frames,states,problems as plain values. -/
namespace Go.Pv
open Go.Proofs
def x3v (f:Fm):List PV:= [.sl .no (Z0b f.m),.sl .no (encQ f.a),.sl .no (Z0d f.r)]
attribute [go_sem] x3v
def x3p (s:Sx):List PV:= [.sc (.int .i64 s.idx),.sc (.bool s.t.neg),.sc (.int .i64 s.t.exp),.sl .no (encW s.t.w),.sc (.bool s.h.neg),.sc (.int .i64 s.h.exp),.sl .no (encW s.h.w),.sl .no (Z0b s.f.m),.sl .no (encQ s.f.a),.sl .no (Z0d s.f.r)]
attribute [go_sem] x3p
def x3s (p:Pb):List PV:= [.sl .no (Y0i p.fld),.sl .no (Z0d p.box),.sc (.bool p.until'.neg),.sc (.int .i64 p.until'.exp),.sl .no (encW p.until'.w),.sc (.bool p.most.neg),.sc (.int .i64 p.most.exp),.sl .no (encW p.most.w),
 .sc (.bool p.least.neg),.sc (.int .i64 p.least.exp),.sl .no (encW p.least.w),.sc (.int .i64 p.prec),.sc (.int .i64 p.order),.sc (.int .i64 p.budget)]
attribute [go_sem] x3s
def wNs' (l:List Nm):Prop:=l.length≤100000000000∧ ∀i,i<l.length→wN (l.getD i default)
def wQs (l:List (List Nm)):Prop:=l.length≤100000000000∧ ∀i,i<l.length→wNs' (l.getD i [])
end Go.Pv
end
section
/-Frames and states:are they right?-/
set_option maxRecDepth 100000
namespace Go.Pv
open Go.Proofs
def V0v (a:List (List Nm)):Bool:=(a.all fun r=>Y0f r a.length)&&decide (1≤a.length)&&decide (a.length≤4)
theorem rightQ_iff {a:List (List Nm)} :V0v a=true↔(∀j,j<a.length→Y0f (a.getD j []) a.length=true)∧1≤a.length∧a.length≤4:=by
 unfold V0v
 simp only [Bool.and_eq_true,decide_eq_true_eq,List.all_eq_true]
 constructor
 · rintro⟨⟨h,h1⟩,h2⟩
   exact⟨fun j hj=>h _ (by rw [List.getD_eq_getElem?_getD,List.getElem?_eq_getElem hj];exact List.getElem_mem _),h1,h2⟩
 · rintro⟨h,h1,h2⟩
   refine⟨⟨fun x hx=> ?_,h1⟩,h2⟩
   obtain⟨i,hi,rfl⟩:=List.mem_iff_getElem.1 hx
   have:=h i hi
   rwa [List.getD_eq_getElem?_getD,List.getElem?_eq_getElem hi] at this
set_option maxHeartbeats 1000000 in
theorem W1n (a:List (List Nm)) (st:Q0f) (hw:wQs a):PCalls Tryz.prog 122 [.sl .no (encQ a)] st (fun r st'=>r= .sc (.bool (V0v a))∧st'=st):=by
 obtain⟨hl,hw⟩:=hw
 refine Q0b none Tryz.func122 rfl fun E=>Q0a ?_
 simp -dsimp only [go_sem]
 refine Q0e [true,false,false,true] 0 0 (fun n s=> ∃i,n=a.length-i∧i≤a.length∧(∀j,j<i→Y0f (a.getD j []) a.length=true)∧s=⟨[.sl .no (encQ a),.junk,.junk,.sc (.int .i64 (i:Nat))]++List.replicate 45 .junk,[],[],st⟩) a.length ?_ ?_
 · simp -dsimp only [go_sem]
   exact⟨0,by omega,by omega,fun j hj=>by omega,rfl⟩
 · rintro n s ⟨i,rfl,hi,hr,rfl⟩
   have fin:i=a.length∨ ¬(i:Int)<4→decide ((a.length:Int)>0)=true→decide ((a.length:Int)≤4)=V0v a:=fun h h1=>by
    have h1:=of_decide_eq_true h1
    rw [Bool.eq_iff_iff,rightQ_iff,decide_eq_true_iff]
    exact⟨fun h4=>⟨fun j hj=>hr j (by omega),by omega,by omega⟩,fun hh=>by omega⟩
   have fin0:decide ((a.length:Int)>0)=false→V0v a=false:=fun h=>Bool.eq_false_iff.2 fun e=>by
    have:=of_decide_eq_false h
    have:=(rightQ_iff.1 e).2.1
    omega
   simp -dsimp only [go_sem]
   refine gkT (fun h=> ?_) (fun h=> ?_)
   · have hlt:i<a.length:=by have:=of_decide_eq_true h;omega
     simp -dsimp only [go_sem,h]
     refine ck (fun h4=> ?_) (fun h4=> ?_)
     · have e1:=V0f a i hlt
       have e3:=X0y i (by omega)
       have wi:=hw i hlt
       have wil:=wi.1
       simp -dsimp only [go_sem,e1]
       refine⟨by omega,?_⟩
       refine ck (fun h2=> ?_) (fun h2=> ?_)
       · have hn:=z0a h2
         simp -dsimp only [go_sem]
         have:V0v a=false:=Bool.eq_false_iff.2 fun e=>hn (by have:=(rightQ_iff.1 e).1 i hlt;unfold Y0f at this;simp at this;exact this.2)
         rw [this]
       · have hn:=q0d h2
         simp -dsimp only [go_sem]
         refine Q0e [true,false,false,true,true] 0 0 (fun n s=> ∃k,n=(a.getD i []).length-k∧k≤(a.getD i []).length∧(∀j,j<k→Q0j ((a.getD i []).getD j default)=true)∧s=⟨[.sl .no (encQ a),.junk,.junk,.sc (.int .i64 (i:Nat)),.sc (.int .i64 (k:Nat))]++List.replicate 44 .junk,[],[],st⟩) (a.getD i []).length ?_ ?_
         · simp -dsimp only [go_sem]
           exact⟨0,by omega,by omega,fun j hj=>by omega,rfl⟩
         · rintro n s ⟨k,rfl,hk,hrk,rfl⟩
           simp -dsimp only [go_sem,e1]
           refine⟨by omega,?_⟩
           refine ck (fun h5=> ?_) (fun h5=> ?_)
           · have hklt:k<(a.getD i []).length:=by have:=of_decide_eq_true h5;omega
             have e2:=J0w (a.getD i []) k hklt
             have e4:=X0y k (by omega)
             have wk:=wi.2 k hklt
             unfold wN at wk
             simp -dsimp only [go_sem,e1,e2]
             refine⟨by omega,by omega,?_⟩
             refine(W0i _ st (by omega)).mono ?_
             rintro r st ⟨rfl,rfl⟩
             simp -dsimp only [go_sem]
             refine ck (fun h6=> ?_) (fun h6=> ?_)
             · have hf:Q0j ((a.getD i []).getD k default)=false:=by simpa using h6
               simp -dsimp only [go_sem]
               have:V0v a=false:=Bool.eq_false_iff.2 fun e=>by
                have:=(rightQ_iff.1 e).1 i hlt
                unfold Y0f at this
                rw [Bool.and_eq_true] at this
                rw [(Q1q _ Q0j).1 this.1 k hklt] at hf;cases hf
               rw [this]
             · have ht:Q0j ((a.getD i []).getD k default)=true:=by simpa using h6
               simp -dsimp only [go_sem,e4]
               refine⟨(a.getD i []).length-(k+1),by omega,k+1,rfl,by omega,fun j hj=> ?_,rfl⟩
               by_cases e:j=k
               · subst e;exact ht
               · exact hrk j (by omega)
           · have hge:k=(a.getD i []).length:=by have:=of_decide_eq_false h5;omega
             simp -dsimp only [go_sem]
             refine Q0a ?_
             simp -dsimp only [go_sem,e3]
             refine⟨a.length-(i+1),by omega,i+1,rfl,by omega,fun j hj=> ?_,rfl⟩
             by_cases e:j=i
             · subst e
               unfold Y0f
               rw [(Q1q _ Q0j).2 fun j hj=>hrk j (by omega),decide_eq_true hn];rfl
             · exact hr j (by omega)
     · have h4':=of_decide_eq_false h4
       simp -dsimp only [go_sem]
       refine Q0a ?_
       simp -dsimp only [go_sem]
       refine gkT (fun h=> ?_) (fun h=> ?_)
       · simp -dsimp only [go_sem,h]
         rw [fin (.inr h4') h]
       · simp -dsimp only [go_sem,h]
         rw [fin0 h]
   · have hge:i=a.length:=by have:=of_decide_eq_false h;omega
     simp -dsimp only [go_sem,h]
     refine Q0a ?_
     simp -dsimp only [go_sem]
     refine gkT (fun h=> ?_) (fun h=> ?_)
     · simp -dsimp only [go_sem,h]
       rw [fin (.inl hge) h]
     · simp -dsimp only [go_sem,h]
       rw [fin0 h]
end Go.Pv
end
