/- Parts of the walk: M78, PvBb, N117, G8. -/
import Derived.Test.YtofoadghajnglaaGreatDoorZEA
import Derived.Test.YtofoadghajnglaaGreatDoorZAO
import Derived.Test.YtofoadghajnglaaGreatDoorZBA
import Derived.Test.YtofoadghajnglaaGreatDoorZBE
import Derived.Test.YtofoadghajnglaaGreatDoorZBR
import Derived.Test.YtofoadghajnglaaGreatDoorZM
import Derived.Test.YtofoadghajnglaaGreatDoorZBD
import Derived.Test.YtofoadghajnglaaGreatDoorZAQ
import Derived.Test.YtofoadghajnglaaGreatDoorZAH
import Derived.Test.YtofoadghajnglaaGreatDoorZY
import Derived.Test.YtofoadghajnglaaGreatDoorZL
set_option linter.unusedVariables false
set_option linter.unusedSimpArgs false
section
/-Problems,and their states:what the document's Begin and the drawn states are. No program in it. -/
namespace Go.Pv
structure Pb where
 fld:List (List Mn)
 box:List Ivl
 until':Nm
 most:Nm
 least:Nm
 prec:Int
 order:Int
 budget:Int
instance : Inhabited Pb:=⟨⟨[],[],default,default,default,0,0,0⟩⟩
end Go.Pv
end
section
/-Frames,states,problems as plain values. -/
namespace Go.Pv
open Go.Proofs
def y3a (f:Fm):List PV:= [.sl .no (Z0c f.m),.sl .no (encQ f.a),.sl .no (Z0d f.r)]
attribute [go_sem] y3a
def w3u (s:Sx):List PV:= [.sc (.int .i64 s.idx),.sc (.bool s.t.neg),.sc (.int .i64 s.t.exp),.sl .no (encW s.t.w),.sc (.bool s.h.neg),.sc (.int .i64 s.h.exp),.sl .no (encW s.h.w),.sl .no (Z0c s.f.m),.sl .no (encQ s.f.a),.sl .no (Z0d s.f.r)]
attribute [go_sem] w3u
def w3x (p:Pb):List PV:= [.sl .no (W0x p.fld),.sl .no (Z0d p.box),.sc (.bool p.until'.neg),.sc (.int .i64 p.until'.exp),.sl .no (encW p.until'.w),.sc (.bool p.most.neg),.sc (.int .i64 p.most.exp),.sl .no (encW p.most.w),
 .sc (.bool p.least.neg),.sc (.int .i64 p.least.exp),.sl .no (encW p.least.w),.sc (.int .i64 p.prec),.sc (.int .i64 p.order),.sc (.int .i64 p.budget)]
attribute [go_sem] w3x
def wNs' (l:List Nm):Prop:=l.length≤100000000000∧ ∀i,i<l.length→wN (l.getD i default)
def wQs (l:List (List Nm)):Prop:=l.length≤100000000000∧ ∀i,i<l.length→wNs' (l.getD i [])
def wFm (f:Fm):Prop:=wNs' f.m∧wQs f.a∧wB f.r
def wSx (s:Sx):Prop:=wN s.t∧wN s.h∧wFm s.f
def wPb (p:Pb):Prop:=wF p.fld∧wB p.box∧wN p.until'∧wN p.most∧wN p.least
end Go.Pv
end
section
/-Frames and states:are they right?-/
set_option maxRecDepth 100000
namespace Go.Pv
open Go.Proofs
def V0p (a:List (List Nm)):Bool:=(a.all fun r=>Y0a r a.length)&&decide (1≤a.length)&&decide (a.length≤4)
theorem rightQ_iff {a:List (List Nm)} :V0p a=true↔(∀j,j<a.length→Y0a (a.getD j []) a.length=true)∧1≤a.length∧a.length≤4:=by
 unfold V0p
 simp only [Bool.and_eq_true,decide_eq_true_eq,List.all_eq_true]
 constructor
 · rintro⟨⟨h,h1⟩,h2⟩
   exact⟨fun j hj=>h _ (by rw [List.getD_eq_getElem?_getD,List.getElem?_eq_getElem hj];exact List.getElem_mem _),h1,h2⟩
 · rintro⟨h,h1,h2⟩
   refine⟨⟨fun x hx=> ?_,h1⟩,h2⟩
   obtain⟨i,hi,rfl⟩:=List.mem_iff_getElem.1 hx
   have:=h i hi
   rwa [List.getD_eq_getElem?_getD,List.getElem?_eq_getElem hi] at this
set_option maxHeartbeats 1000000 in
theorem W1e (a:List (List Nm)) (st:Q0f) (hw:wQs a):PCalls Tryz.prog 122 [.sl .no (encQ a)] st (fun r st'=>r= .sc (.bool (V0p a))∧st'=st):=by
 obtain⟨hl,hw⟩:=hw
 refine Q0b none Tryz.func122 rfl fun E=>Q0a ?_
 simp -dsimp only [go_sem]
 refine Q0e [true,false,false,true] 0 0 (fun n s=> ∃i,n=a.length-i∧i≤a.length∧(∀j,j<i→Y0a (a.getD j []) a.length=true)∧s=⟨[.sl .no (encQ a),.junk,.junk,.sc (.int .i64 (i:Nat))]++List.replicate 45 .junk,[],[],st⟩) a.length ?_ ?_
 · simp -dsimp only [go_sem]
   exact⟨0,by omega,by omega,fun j hj=>by omega,rfl⟩
 · rintro n s ⟨i,rfl,hi,hr,rfl⟩
   have fin:i=a.length∨ ¬(i:Int)<4→decide ((a.length:Int)>0)=true→decide ((a.length:Int)≤4)=V0p a:=fun h h1=>by
    have h1:=of_decide_eq_true h1
    rw [Bool.eq_iff_iff,rightQ_iff,decide_eq_true_iff]
    exact⟨fun h4=>⟨fun j hj=>hr j (by omega),by omega,by omega⟩,fun hh=>by omega⟩
   have fin0:decide ((a.length:Int)>0)=false→V0p a=false:=fun h=>Bool.eq_false_iff.2 fun e=>by
    have:=of_decide_eq_false h
    have:=(rightQ_iff.1 e).2.1
    omega
   simp -dsimp only [go_sem]
   refine gkT (fun h=> ?_) (fun h=> ?_)
   · have hlt:i<a.length:=by have:=of_decide_eq_true h;omega
     simp -dsimp only [go_sem,h]
     refine ck (fun h4=> ?_) (fun h4=> ?_)
     · have e1:=V0j a i hlt
       have e3:=X0u i (by omega)
       have wi:=hw i hlt
       have wil:=wi.1
       simp -dsimp only [go_sem,e1]
       refine⟨by omega,?_⟩
       refine ck (fun h2=> ?_) (fun h2=> ?_)
       · have hn:=q0t h2
         simp -dsimp only [go_sem]
         have:V0p a=false:=Bool.eq_false_iff.2 fun e=>hn (by have:=(rightQ_iff.1 e).1 i hlt;unfold Y0a at this;simp at this;exact this.2)
         rw [this]
       · have hn:=H0x h2
         simp -dsimp only [go_sem]
         refine Q0e [true,false,false,true,true] 0 0 (fun n s=> ∃k,n=(a.getD i []).length-k∧k≤(a.getD i []).length∧(∀j,j<k→Q0h ((a.getD i []).getD j default)=true)∧s=⟨[.sl .no (encQ a),.junk,.junk,.sc (.int .i64 (i:Nat)),.sc (.int .i64 (k:Nat))]++List.replicate 44 .junk,[],[],st⟩) (a.getD i []).length ?_ ?_
         · simp -dsimp only [go_sem]
           exact⟨0,by omega,by omega,fun j hj=>by omega,rfl⟩
         · rintro n s ⟨k,rfl,hk,hrk,rfl⟩
           simp -dsimp only [go_sem,e1]
           refine⟨by omega,?_⟩
           refine ck (fun h5=> ?_) (fun h5=> ?_)
           · have hklt:k<(a.getD i []).length:=by have:=of_decide_eq_true h5;omega
             have e2:=J0q (a.getD i []) k hklt
             have e4:=X0u k (by omega)
             have wk:=wi.2 k hklt
             unfold wN at wk
             simp -dsimp only [go_sem,e1,e2]
             refine⟨by omega,by omega,?_⟩
             refine(W0a _ st (by omega)).mono ?_
             rintro r st ⟨rfl,rfl⟩
             simp -dsimp only [go_sem]
             refine ck (fun h6=> ?_) (fun h6=> ?_)
             · have hf:Q0h ((a.getD i []).getD k default)=false:=by simpa using h6
               simp -dsimp only [go_sem]
               have:V0p a=false:=Bool.eq_false_iff.2 fun e=>by
                have:=(rightQ_iff.1 e).1 i hlt
                unfold Y0a at this
                rw [Bool.and_eq_true] at this
                rw [(Q1k _ Q0h).1 this.1 k hklt] at hf;cases hf
               rw [this]
             · have ht:Q0h ((a.getD i []).getD k default)=true:=by simpa using h6
               simp -dsimp only [go_sem,e4]
               refine⟨(a.getD i []).length-(k+1),by omega,k+1,rfl,by omega,fun j hj=> ?_,rfl⟩
               by_cases e:j=k
               · subst e;exact ht
               · exact hrk j (by omega)
           · have hge:k=(a.getD i []).length:=by have:=of_decide_eq_false h5;omega
             simp -dsimp only [go_sem]
             refine Q0a ?_
             simp -dsimp only [go_sem,e3]
             refine⟨a.length-(i+1),by omega,i+1,rfl,by omega,fun j hj=> ?_,rfl⟩
             by_cases e:j=i
             · subst e
               unfold Y0a
               rw [(Q1k _ Q0h).2 fun j hj=>hrk j (by omega),decide_eq_true hn];rfl
             · exact hr j (by omega)
     · have h4':=of_decide_eq_false h4
       simp -dsimp only [go_sem]
       refine Q0a ?_
       simp -dsimp only [go_sem]
       refine gkT (fun h=> ?_) (fun h=> ?_)
       · simp -dsimp only [go_sem,h]
         rw [fin (.inr h4') h]
       · simp -dsimp only [go_sem,h]
         rw [fin0 h]
   · have hge:i=a.length:=by have:=of_decide_eq_false h;omega
     simp -dsimp only [go_sem,h]
     refine Q0a ?_
     simp -dsimp only [go_sem]
     refine gkT (fun h=> ?_) (fun h=> ?_)
     · simp -dsimp only [go_sem,h]
       rw [fin (.inl hge) h]
     · simp -dsimp only [go_sem,h]
       rw [fin0 h]
end Go.Pv
end
section
/-The type of rows of numbers. -/
namespace Go.Pv
open Go.Proofs
theorem J2d {k k':Nat} {l:List (List Nm)} (h:okL (okL okN) k l) (hk:k≤k'):okL (okL okN) k' l:=⟨Nat.le_trans h.1 hk,fun i hi=>G1f (h.2 i hi) hk⟩
theorem tyQs :Ty Tryz.prog 22 1 (fun l:List (List Nm)=> [.sl .no (encQ l)]) (okL (okL okN)):=
 j1r (V1t Tryz.underlying22 (by kernel_rfl) K3q (by decide) (fun c=> .sl .no (Z0c c)) (fun _=>rfl)) id (fun _=>rfl) (fun _=>rfl) (fun _ _ h=>h) (fun h hk=>J2d h hk)
theorem K3g {k:Nat} (hk:k≤2000000) {l:List (List Nm)} (h:okL (okL okN) k l):wQs l:=by
 refine⟨by have:=h.1;omega,fun i hi=> ?_⟩
 have hi2:okL okN k (l.getD i []):=h.2 i hi
 exact⟨by have:=hi2.1;omega,fun j hj=>j3u hk (hi2.2 j hj)⟩
end Go.Pv
end
