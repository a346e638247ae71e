/- Parts of the walk: C3, C4, C5, C6, C7, C8, C9, M20, M21, M22. -/
import Derived.Test.YthlnpmkcmbohaaaGreatDoorZP
import Derived.Test.YthlnpmkcmbohaaaGreatDoorZH
set_option linter.unusedVariables false
set_option linter.unusedSimpArgs false
section
set_option maxRecDepth 100000
namespace Go.Pv
open Go.Proofs
def rd (l:List UInt8)(e:Int):List PV:= [.sl .no (Z0d l),.sc (.int .i64 e)]
def atR (st:Qf)(k:Nat)(l:List UInt8)(e:Int):Prop:=st.getD k []=rd l e
def Pre (p l:List UInt8):Prop:=p<+:l/\p.length<l.length
theorem Pre.append {p a b:List UInt8}(h:Pre p (a++b)):Pre p a\/ ∃q,p=a++q/\Pre q b:=by obtain⟨h1,h2⟩:=h;by_cases hl:p.length<a.length;exact .inl ⟨List.prefix_of_prefix_length_le h1 (List.prefix_append a b) oG,hl⟩;have h3:a<+:p:=List.prefix_of_prefix_length_le (List.prefix_append a b) h1 oG;obtain⟨q,rfl⟩:=h3;refine .inr ⟨q,rfl,?_,?_⟩;exact(List.prefix_append_right_inj a).1 h1;simp at h2;exact h2
theorem H0j {x:Nm}(h:Qg x=true): -65536<=x.exp/\x.exp<=65536/\x.w.length<=64/\(x.w= []->x.neg=false/\x.exp=0):=by unfold Qg at h;split at h;rename_i hw;simp at h;rw[hw];simp;exact⟨oG,oG,h.1,h.2⟩;rename_i hw;simp only[q_i,BN] at h;exact⟨oG,oG,oG,fun e=>absurd e hw⟩
end Go.Pv
end
