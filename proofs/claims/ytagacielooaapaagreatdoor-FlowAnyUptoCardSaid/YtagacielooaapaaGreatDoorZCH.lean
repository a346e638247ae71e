/- Parts of the walk: N98. -/
import Derived.Test.YtagacielooaapaaGreatDoorZCF
set_option linter.unusedVariables false
set_option linter.unusedSimpArgs false
section
/-Layer 15:FlowAny. -/
set_option maxRecDepth 100000
namespace Go.Pv
open Go.Proofs
set_option maxHeartbeats 8000000 in
theorem q2v (f:List (List Mn)) (x:List Ivl) (h:Ivl) (order p:Int) (st:Q0g) (hf:wF f) (hx:wB x) (hh:wI h):
 PCalls Tryz.prog 4 [.sl .no (Z0x f),.sl .no (Q0n x),.agg (encI h),.sc (.int .i64 order),.sc (.int .i64 p)] st
 (fun r st'=>r= .sc (.bool true)∧st'=st):=by
 refine Q0b none Tryz.func4 rfl fun E=>Q0a ?_
 simp -dsimp only [go_sem]
 refine(V1a st).mono ?_
 rintro r st ⟨rfl,rfl⟩
 simp -dsimp only [go_sem]
 cases b1:decide ((f.length:Int)>6) with
 | true=>simp -dsimp only [go_sem]
 | false=>
 simp -dsimp only [go_sem]
 cases b2:decide ((x.length:Int)>6) with
 | true=>simp -dsimp only [go_sem]
 | false=>
 simp -dsimp only [go_sem]
 cases b3:decide ((h.lo.w.length:Int)>10) with
 | true=>simp -dsimp only [go_sem]
 | false=>
 simp -dsimp only [go_sem]
 cases b4:decide ((h.hi.w.length:Int)>10) with
 | true=>simp -dsimp only [go_sem]
 | false=>
 simp -dsimp only [go_sem]
 refine Q0e [true,true,false,true,true,false,false,true,false,false,false,true] 1 0 (fun n s=> ∃i,i≤f.length∧n=f.length-i∧
  s=⟨[.sl .no (Z0x f),.sl .no (Q0n x),.junk,.sc (.int .i64 order),.sc (.int .i64 p),.junk,.junk,.lp 0 0,.junk,.junk,.junk,.sc (.int .i64 (i:Nat))]++List.replicate 100 .junk,[encI h],[],st⟩) f.length ?_ ?_
 · simp -dsimp only [go_sem]
   exact⟨0,by omega,by omega,rfl⟩
 · rintro n s ⟨i,hi,rfl,rfl⟩
   simp -dsimp only [go_sem]
   refine ck (fun h'=> ?_) (fun h'=> ?_)
   · have hlt:i<f.length:=by have:=of_decide_eq_true h';omega
     have e1:=x0p f i hlt
     simp -dsimp only [go_sem,e1]
     refine⟨by omega,?_⟩
     refine ck (fun h2=> ?_) (fun h2=> ?_)
     · simp -dsimp only [go_sem]
     have lp:(f.getD i []).length≤6:=by have:=of_decide_eq_false h2;omega
     have lf:f.length≤6:=by have:=of_decide_eq_false b1;omega
     have e3:IntKind.i64.wrap ((i:Int)+1)=((i+1:Nat):Int):=by rw [Q0h _ (by omega) (by omega)];omega
     simp -dsimp only [go_sem]
     refine Q0e [true,true,false,true,true,false,false,true,false,false,false,true,true] 1 0 (fun n s=> ∃k,k≤(f.getD i []).length∧n=(f.getD i []).length-k∧
      s=⟨[.sl .no (Z0x f),.sl .no (Q0n x),.junk,.sc (.int .i64 order),.sc (.int .i64 p),.junk,.junk,.lp 0 0,.junk,.junk,.junk,.sc (.int .i64 (i:Nat)),.sc (.int .i64 (k:Nat))]++List.replicate 99 .junk,[encI h],[],st⟩) (f.getD i []).length ?_ ?_
     · simp -dsimp only [go_sem]
       exact⟨0,by omega,by omega,rfl⟩
     · rintro n s ⟨k,hk,rfl,rfl⟩
       simp -dsimp only [go_sem,e1]
       refine⟨by omega,?_⟩
       refine ck (fun h3=> ?_) (fun h3=> ?_)
       · have hkl:k<(f.getD i []).length:=by have:=of_decide_eq_true h3;omega
         have e2:=Y0t (f.getD i []) k hkl
         have e4:IntKind.i64.wrap ((k:Int)+1)=((k+1:Nat):Int):=by rw [Q0h _ (by omega) (by omega)];omega
         simp -dsimp only [go_sem,e1,e2]
         refine⟨by omega,by omega,?_⟩
         cases c1:decide ((((f.getD i []).getD k default).c.w.length:Int)>5) with
         | true=>simp -dsimp only [go_sem,e1,e2]
         | false=>
         simp -dsimp only [go_sem,e1,e2]
         refine⟨by omega,by omega,?_⟩
         refine ck (fun h5=> ?_) (fun h5=> ?_)
         · simp -dsimp only [go_sem]
         simp -dsimp only [go_sem,e4]
         exact⟨(f.getD i []).length-(k+1),by omega,k+1,by omega,rfl,rfl⟩
       · simp -dsimp only [go_sem,e3]
         refine Q0a ?_
         simp -dsimp only [go_sem,e3]
         exact⟨f.length-(i+1),by omega,i+1,by omega,rfl,rfl⟩
   · simp -dsimp only [go_sem]
     refine Q0a ?_
     simp -dsimp only [go_sem]
     refine Q0e [true,true,false,true,true,false,false,true,false,false,false,false,false,true] 1 0 (fun n s=> ∃m,m≤x.length∧n=x.length-m∧
      s=⟨[.sl .no (Z0x f),.sl .no (Q0n x),.junk,.sc (.int .i64 order),.sc (.int .i64 p),.junk,.junk,.lp 0 0,.junk,.junk,.junk,.junk,.junk,.sc (.int .i64 (m:Nat))]++List.replicate 98 .junk,[encI h],[],st⟩) x.length ?_ ?_
     · simp -dsimp only [go_sem]
       exact⟨0,by omega,by omega,rfl⟩
     · rintro n s ⟨m,hm,rfl,rfl⟩
       simp -dsimp only [go_sem]
       refine ck (fun h7=> ?_) (fun h7=> ?_)
       · have hml:m<x.length:=by have:=of_decide_eq_true h7;omega
         have lx:x.length≤6:=by have:=of_decide_eq_false b2;omega
         have g3:=Z0m x m hml
         have e6:IntKind.i64.wrap ((m:Int)+1)=((m+1:Nat):Int):=by rw [Q0h _ (by omega) (by omega)];omega
         simp -dsimp only [go_sem,g3]
         refine⟨by omega,?_⟩
         cases c1:decide (((x.getD m default).lo.w.length:Int)>5) with
         | true=>simp -dsimp only [go_sem,g3]
         | false=>
         simp -dsimp only [go_sem,g3]
         refine⟨by omega,?_⟩
         refine ck (fun h8=> ?_) (fun h8=> ?_)
         · simp -dsimp only [go_sem]
         simp -dsimp only [go_sem,e6]
         exact⟨x.length-(m+1),by omega,m+1,by omega,rfl,rfl⟩
       · simp -dsimp only [go_sem]
         refine Q0a ?_
         simp -dsimp only [go_sem]
         refine(Q2r f x h order p st hf hx hh).mono ?_
         rintro r st ⟨rfl,rfl⟩
         simp -dsimp only [go_sem]
end Go.Pv
end
