/- Walk. -/
import Derived.Test.YtpfladficeildaaGreatDoorZK
import Derived.Test.YtpfladficeildaaGreatDoorZG
set_option linter.all false
set_option maxHeartbeats 160000000
section
set_option maxRecDepth 100000
namespace Go.Pv
open Go.Proofs
def rd (l:List UInt8)(e:Int):List PV:= [.sl .no (K5 l),.sc (.int .i64 e)]
def atR (st:Qc)(k:Nat)(l:List UInt8)(e:Int):Prop:=st.getD k []=rd l e
theorem atR.lt {st:Qc}{k:Nat}{l:List UInt8}{e:Int}(h:atR st k l e):k<st.length:=by refine ES fun hn=> ?_;unfold atR at h;rw[q_a,C2 hn] at h;cases h
theorem atR.set {st:Qc}{k:Nat}{l:List UInt8}{e:Int}(h:atR st k l e)(l':List UInt8)(e':Int):atR (st.set k (rd l' e')) k l' e':=by unfold atR;rw[Z0 _ _ _ _ h.lt]
def Pre (p l:List UInt8):Prop:=p<+:l/\p.length<l.length
theorem Pre.append {p a b:List UInt8}(h:Pre p (a++b)):Pre p a\/ ∃q,p=a++q/\Pre q b:=by obtain⟨h1,h2⟩:=h;by_cases hl:p.length<a.length;exact .inl ⟨List.prefix_of_prefix_length_le h1 (List.prefix_append a b) oG,hl⟩;have h3:a<+:p:=List.prefix_of_prefix_length_le (List.prefix_append a b) h1 oG;obtain⟨q,rfl⟩:=h3;refine .inr ⟨q,rfl,?_,?_⟩;exact(List.prefix_append_right_inj a).1 h1;simp at h2;exact h2
theorem w0r {x:Nm}(h:Qg x=true): -65536<=x.exp/\x.exp<=65536/\x.w.length<=64/\(x.w= []->x.neg=false/\x.exp=0):=by unfold Qg at h;split at h;rename_i hw;simp at h;rw[hw];simp;exact⟨oG,oG,h.1,h.2⟩;rename_i hw;simp only[q_i,BN] at h;exact⟨oG,oG,oG,fun e=>absurd e hw⟩
structure Fm where
 m:List Nm
 a:List (List Nm)
 r:List Ivl
 deriving DecidableEq
instance : Inhabited Fm:=⟨⟨[],[],[]⟩⟩
structure Sx where
 idx:Int
 t:Nm
 h:Nm
 f:Fm
 deriving DecidableEq
instance : Inhabited Sx:=⟨⟨0,default,default,default⟩⟩
def Zy (l:List Nm)(n:Nat):Bool:=l.all Qg&&decide (l.length=n)
def Z4 (f:Fm):Bool:=decide (1<=f.m.length)&&decide (f.m.length<=4)&&Zy f.m f.m.length&&decide (f.a.length=f.m.length)&&decide (f.r.length=f.m.length)&&
 f.a.all (fun x=>Zy x f.m.length)&&f.r.all (fun x=>Ja x default)
def Yy (s:Sx):Bool:=decide (0<=s.idx)&&decide (s.idx<=4096)&&Qg s.t&&Qg s.h&& !s.t.neg&&decide (0<s.h.w.length)&& !s.h.neg&&Z4 s.f
theorem Kv {f:Fm}(h:Z4 f=true):1<=f.m.length/\f.m.length<=4/\f.m.all Qg=true/\f.a.length=f.m.length/\f.r.length=f.m.length/\f.a.all (fun x=>Zy x f.m.length)=true/\rightB f.r=true:=by unfold Z4 at h;simp only[q_i,BN] at h;obtain⟨⟨⟨⟨⟨⟨h1,h2⟩,h3⟩,h4⟩,h5⟩,h6⟩,h7⟩:=h;unfold Zy at h3;simp only[q_i,BN] at h3;refine⟨h1,h2,h3.1,h4,h5,h6,?_⟩;unfold rightB;simp only[q_i,BN];refine⟨⟨?_,oG⟩,oG⟩;rw[q_d] at h7⊢;intro x hx;have:=h7 x hx;unfold Ja at this;simp only[q_i] at this;exact this.1.1.1
theorem Nq {s:Sx}(h:Yy s=true):0<=s.idx/\s.idx<=4096/\Qg s.t=true/\Qg s.h=true/\Z4 s.f=true:=by unfold Yy at h;simp only[q_i,BN] at h;exact⟨h.1.1.1.1.1.1.1,h.1.1.1.1.1.1.2,h.1.1.1.1.1.2,h.1.1.1.1.2,h.2⟩
end Go.Pv
end
