/- Parts of the walk: N127, N128, N129. -/
import Derived.Test.YthlnpmkcmbohaaaGreatDoorZEC
import Derived.Test.YthlnpmkcmbohaaaGreatDoorZEE
set_option linter.unusedVariables false
set_option linter.unusedSimpArgs false
section
set_option maxRecDepth 100000
namespace Go.Pv
open Go.Proofs
theorem V0 (q:List (List Nm)):(Z8 q).all PV.quiet=true:=List.all_eq_true.2 fun p hp=>by simp only[Z8,CF] at hp;obtain⟨x,_,rfl⟩:=hp;rfl
theorem xn (O:List (List Nm))(R:List PV)(n:Nat)(h:n=O.length):(Z8 O++R).take (n*1)=Z8 O:=by rw[EK,h,show O.length=(Z8 O).length from(Je O).symm,List.take_left]
theorem j0u (O:List (List Nm))(x:List Nm)(R:List PV):Z8 O++(flat [PV.sl .no (Qy x)]++R)=Z8 (O++ [x])++R:=by simp[Z8,flat,PV.cells]
theorem Q1c {O:List (List Nm)}{x:List Nm}{R:List PV}{cap n by_:Nat}{id:TypeId}(hn:n=O.length)(hc:n<=cap)(hR:R.length=(cap-n)*1)(hq:R.all PV.quiet=true)(hl:n+1<=1000)(hby:by_<=1000):
 K0y (Z8 O++R) n cap [PV.sl .no (Qy x)] ⟨id,1,by_,false,true,false⟩:=by
 refine⟨rfl,by show 0<1;decide,by show _=cap*1;rw[BH,Je,hR];omega,by simp;omega,?_,rfl,by rw[List.all_append,V0,hq];rfl,rfl⟩;show(n+ [PV.sl Tag.no (Qy x)].length)*by_<=_;have:(n+ [PV.sl Tag.no (Qy x)].length)*by_<=1000*1000:=DW (by simp;omega) hby;omega
end Go.Pv
end
