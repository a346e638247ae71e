/- Parts of the walk: G6. -/
import Derived.Test.YtofoadghajnglaaGreatDoorZK
import Derived.Test.YtofoadghajnglaaGreatDoorZAE
import Derived.Test.YtofoadghajnglaaGreatDoorZBD
set_option linter.unusedVariables false
set_option linter.unusedSimpArgs false
section
namespace Go.Pv
open Go.Proofs
def okZ (_:Nat) (n:Int):Prop:=i64R n
def okM (k:Nat) (x:Mn):Prop:=okN k x.c/\okL okZ k x.ks
theorem H1r {k k':Nat} {l:List Int} (h:okL okZ k l) (hk:k<=k'):okL okZ k' l:=⟨Nat.le_trans h.1 hk,h.2⟩
theorem v1y {k k':Nat} {x:Mn} (h:okM k x) (hk:k<=k'):okM k' x:=⟨Z1d h.1 hk,H1r h.2 hk⟩
theorem V1u {k k':Nat} {l:List Mn} (h:okL okM k l) (hk:k<=k'):okL okM k' l:=⟨Nat.le_trans h.1 hk,fun i hi=>v1y (h.2 i hi) hk⟩
theorem Z2t {k k':Nat} {l:List (List Mn)} (h:okL (okL okM) k l) (hk:k<=k'):okL (okL okM) k' l:=⟨Nat.le_trans h.1 hk,fun i hi=>V1u (h.2 i hi) hk⟩
theorem U3m :Ty Tryz.prog 59 1 (fun l:List Int=> [.sl .no (encZ l)]) (okL okZ):=
 Q1a (v0d Tryz.underlying59 (by kernel_rfl) (y2f Tryz.underlying3 (by kernel_rfl)) (by decide) (fun c=> .sc (.int .i64 c)) (fun _=>rfl)) id (fun _=>rfl) (fun _=>rfl) (fun _ _ h=>h) (fun h hk=>H1r h hk)
theorem U3l :Ty Tryz.prog 68 4 G0m okM:=
 Q1a (Z1v Tryz.underlying68 (by kernel_rfl) (W0g Z3p rfl (W0g U3m rfl (y0q _))))
  (fun p=>(⟨p.1,p.2.1⟩:Mn)) (fun _=>rfl) (fun _=>rfl) (fun k x h=>(⟨h.1,h.2.1⟩:okM k ⟨x.1,x.2.1⟩)) v1y
theorem Z3q :Ty Tryz.prog 66 1 (fun l:List Mn=> [.sl .no (Z0p l)]) (okL okM):=
 Q1a (v0d Tryz.underlying66 (by kernel_rfl) U3l (by decide) (fun c=> .agg (G0m c)) (fun _=>rfl)) id (fun _=>rfl) (fun _=>rfl) (fun _ _ h=>h) (fun h hk=>V1u h hk)
theorem Z3r :Ty Tryz.prog 65 1 (fun l:List (List Mn)=> [.sl .no (Z0n l)]) (okL (okL okM)):=
 Q1a (v0d Tryz.underlying65 (by kernel_rfl) Z3q (by decide) (fun c=> .sl .no (Z0p c)) (fun _=>rfl)) id (fun _=>rfl) (fun _=>rfl) (fun _ _ h=>h) (fun h hk=>Z2t h hk)
theorem y3u {k:Nat} (hk:k<=2000000) {l:List Int} (h:okL okZ k l):wK l:=⟨by have:=h.1;omega,fun i hi=>h.2 i hi⟩
theorem Y3z {k:Nat} (hk:k<=2000000) {x:Mn} (h:okM k x):wMn x:=⟨Z3f hk h.1,y3u hk h.2⟩
theorem y3t {k:Nat} (hk:k<=2000000) {l:List Mn} (h:okL okM k l):wP l:=⟨by have:=h.1;omega,fun i hi=>Y3z hk (h.2 i hi)⟩
theorem y3v {k:Nat} (hk:k<=2000000) {l:List (List Mn)} (h:okL (okL okM) k l):wF l:=⟨by have:=h.1;omega,fun i hi=>y3t hk (h.2 i hi)⟩
end Go.Pv
end
