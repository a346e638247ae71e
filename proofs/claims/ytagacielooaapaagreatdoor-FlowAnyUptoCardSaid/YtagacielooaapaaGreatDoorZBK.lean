/- Parts of the walk: G6. -/
import Derived.Test.YtagacielooaapaaGreatDoorZL
import Derived.Test.YtagacielooaapaaGreatDoorZAE
import Derived.Test.YtagacielooaapaaGreatDoorZBD
set_option linter.unusedVariables false
set_option linter.unusedSimpArgs false
section
/-The type of a field:rows of monomials. -/
namespace Go.Pv
open Go.Proofs
def okZ (_:Nat) (n:Int):Prop:=i64R n
def okM (k:Nat) (x:Mn):Prop:=okN k x.c∧okL okZ k x.ks
theorem x1p {k k':Nat} {l:List Int} (h:okL okZ k l) (hk:k≤k'):okL okZ k' l:=⟨Nat.le_trans h.1 hk,h.2⟩
theorem Z2w {k k':Nat} {x:Mn} (h:okM k x) (hk:k≤k'):okM k' x:=⟨X1s h.1 hk,x1p h.2 hk⟩
theorem U1g {k k':Nat} {l:List Mn} (h:okL okM k l) (hk:k≤k'):okL okM k' l:=⟨Nat.le_trans h.1 hk,fun i hi=>Z2w (h.2 i hi) hk⟩
theorem V2p {k k':Nat} {l:List (List Mn)} (h:okL (okL okM) k l) (hk:k≤k'):okL (okL okM) k' l:=⟨Nat.le_trans h.1 hk,fun i hi=>U1g (h.2 i hi) hk⟩
theorem q3f :Ty Tryz.prog 61 1 (fun l:List Int=> [.sl .no (encZ l)]) (okL okZ):=
 Z1m (v0x Tryz.underlying61 (by kernel_rfl) (Z3h Tryz.underlying3 (by kernel_rfl)) (by decide) (fun c=> .sc (.int .i64 c)) (fun _=>rfl)) id (fun _=>rfl) (fun _=>rfl) (fun _ _ h=>h) (fun h hk=>x1p h hk)
theorem q3e :Ty Tryz.prog 63 4 x0o okM:=
 Z1m (J1k Tryz.underlying63 (by kernel_rfl) (W0b J3y rfl (W0b q3f rfl (Q1y _))))
  (fun p=>(⟨p.1,p.2.1⟩:Mn)) (fun _=>rfl) (fun _=>rfl) (fun k x h=>(⟨h.1,h.2.1⟩:okM k ⟨x.1,x.2.1⟩)) Z2w
theorem J3z :Ty Tryz.prog 60 1 (fun l:List Mn=> [.sl .no (Z0z l)]) (okL okM):=
 Z1m (v0x Tryz.underlying60 (by kernel_rfl) q3e (by decide) (fun c=> .agg (x0o c)) (fun _=>rfl)) id (fun _=>rfl) (fun _=>rfl) (fun _ _ h=>h) (fun h hk=>U1g h hk)
theorem K3a :Ty Tryz.prog 27 1 (fun l:List (List Mn)=> [.sl .no (Z0x l)]) (okL (okL okM)):=
 Z1m (v0x Tryz.underlying27 (by kernel_rfl) J3z (by decide) (fun c=> .sl .no (Z0z c)) (fun _=>rfl)) id (fun _=>rfl) (fun _=>rfl) (fun _ _ h=>h) (fun h hk=>V2p h hk)
theorem X4v {k:Nat} (hk:k≤2000000) {l:List Int} (h:okL okZ k l):wK l:=⟨by have:=h.1;omega,fun i hi=>h.2 i hi⟩
theorem H3v {k:Nat} (hk:k≤2000000) {x:Mn} (h:okM k x):wMn x:=⟨J3p hk h.1,X4v hk h.2⟩
theorem X4u {k:Nat} (hk:k≤2000000) {l:List Mn} (h:okL okM k l):wP l:=⟨by have:=h.1;omega,fun i hi=>H3v hk (h.2 i hi)⟩
theorem X4w {k:Nat} (hk:k≤2000000) {l:List (List Mn)} (h:okL (okL okM) k l):wF l:=⟨by have:=h.1;omega,fun i hi=>X4u hk (h.2 i hi)⟩
end Go.Pv
end
