/- Parts of the walk: N127, N128, N129. -/
import Derived.Test.YtldalepagmhnmaaGreatDoorZEC
import Derived.Test.YtldalepagmhnmaaGreatDoorZEE
set_option linter.unusedVariables false
set_option linter.unusedSimpArgs false
section
set_option maxRecDepth 100000
namespace Go.Pv
open Go.Proofs
theorem z0j (q:List (List Nm)):(encQ q).all PV.quiet=true:=List.all_eq_true.2 fun p hp=>by simp only[encQ,List.mem_map] at hp;obtain⟨x,_,rfl⟩:=hp;rfl
theorem G1s (O:List (List Nm))(R:List PV)(n:Nat)(h:n=O.length):(encQ O++R).take (n*1)=encQ O:=by rw[Nat.mul_one,h,show O.length=(encQ O).length from(W0v O).symm,List.take_left]
theorem j2w (O:List (List Nm))(x:List Nm)(R:List PV):encQ O++(flat [PV.sl .no (Q0u x)]++R)=encQ (O++ [x])++R:=by simp[encQ,flat,PV.cells]
theorem y2v {O:List (List Nm)}{x:List Nm}{R:List PV}{cap n by_:Nat}{id:TypeId}(hn:n=O.length)(hc:n<=cap)(hR:R.length=(cap-n)*1)(hq:R.all PV.quiet=true)(hl:n+1<=1000)(hby:by_<=1000):
 V2k (encQ O++R) n cap [PV.sl .no (Q0u x)] ⟨id,1,by_,false,true,false⟩:=by
 refine⟨rfl,by show 0<1;decide,by show _=cap*1;rw[List.length_append,W0v,hR];omega,by simp;omega,?_,rfl,by rw[List.all_append,z0j,hq];rfl,rfl⟩;show(n+ [PV.sl Tag.no (Q0u x)].length)*by_<=_;have:(n+ [PV.sl Tag.no (Q0u x)].length)*by_<=1000*1000:=Nat.mul_le_mul (by simp;omega) hby;omega
end Go.Pv
end
