/- Parts of the walk: PvBo, N165. -/
import Derived.Test.YtldalepagmhnmaaGreatDoorZFC
import Derived.Test.YtldalepagmhnmaaGreatDoorZGA
import Derived.Test.YtldalepagmhnmaaGreatDoorZCE
set_option linter.unusedVariables false
set_option linter.unusedSimpArgs false
section
namespace Go.Pv
def SeenRet (st:Q0f)(Q:PV->Prop)(r:PV)(st':Q0f):Prop:= ∃X q e,st'=st++X/\Seen st' e r q/\(∀k,k<st'.length->e.getD k 0<=(st'.getD k []).length)/\(∀k,k<st.length->e.getD k 0=0)/\r.stale=true/\q.stale=true/\Q q
theorem k0f {P:Program}{f:FuncId}{args:List PV}{st:Q0f}{Q:PV->Prop}(h:PCalls P f args st fun r st'=>SeenRet st Q r st'):PCalls P f args st (fun r st'=>Q r/\st'=st):=v1w h
theorem SeenRet.err {st X:Q0f}{Q:PV->Prop}{t:Tag}{e:Value}(h:Q (.tup [.sl t [],.sc e])):SeenRet st Q (.tup [.sl t [],.sc e]) (st++X):=
 ⟨X,_,[],rfl,.tup rfl fun j hj=>by
  match j,hj with
  | 0,_=>exact .same (.sl fun e he=>by cases he)
  | 1,_=>exact .same (.sc e),fun k _=>by simp,fun k _=>by simp,rfl,rfl,h⟩
theorem SeenRet.err0 {st:Q0f}{Q:PV->Prop}{t:Tag}{e:Value}(h:Q (.tup [.sl t [],.sc e])):SeenRet st Q (.tup [.sl t [],.sc e]) st:=by have:=SeenRet.err (st:=st) (X:= []) h;rwa [List.append_nil] at this
def eOne (n O len:Nat):List Nat:=(List.range n).map fun k=>if k=O then len else 0
theorem G1x {n O len k:Nat}(h:k<n):(eOne n O len).getD k 0=if k=O then len else 0:=by unfold eOne;simp[q_a,h]
theorem Y3j {S:Q0f}{O cap:Nat}{ms:List (List (List Ivl))}{R:List PV}(hO:O<S.length)(hc:S.getD O []=X0x ms++R):Seen S (eOne S.length O ms.length) (.gr O ms.length cap) (.sl .no (X0x ms)):=by refine .ms (sz:=1) (.inr ⟨cap,rfl⟩) hO (J0v ms) (fun i hi=>j1d ms i (by rw[J0v];exact hi)) (by rw[G1x hO,if_pos rfl,Nat.mul_one];exact Nat.le_refl _) fun i j hi hj=> ?_;have:j=0:=(by omega);subst this;rw[hc,Nat.mul_one,Nat.add_zero,Q0g _ _ _ _ (by rw[J0v];exact hi),Y0y ms i hi];exact .same (K3e _ _)
theorem H3h {S:Q0f}{O:Nat}{ms:List (List (List Ivl))}{R:List PV}(hc:S.getD O []=X0x ms++R){k:Nat}(hk:k<S.length):(eOne S.length O ms.length).getD k 0<=(S.getD k []).length:=by rw[G1x hk];split;rename_i e;rw[e,hc,List.length_append,J0v];omega;omega
theorem SeenRet.cs {st X:Q0f}{Q:PV->Prop}{O n cap:Nat}{ms:List (List (List Ivl))}{R:List PV}{e:Value}(hn:n=ms.length)(h1:st.length<=O)(hO:O<(st++X).length)(hc:(st++X).getD O []=X0x ms++R)(h:Q (.tup [.sl .no (X0x ms),.sc e])):SeenRet st Q (.tup [.gr O n cap,.sc e]) (st++X):=by
 subst hn;refine⟨X,_,eOne (st++X).length O ms.length,rfl,.tup (ds:= [.sl .no (X0x ms),.sc e]) rfl fun j hj=> ?_,fun k hk=>H3h hc hk,fun k hk=> ?_,rfl,rfl,h⟩
 match j,hj with
 | 0,_=>exact Y3j hO hc
 | 1,_=>exact .same (.sc e)
 rw[G1x (by rw[List.length_append];omega),if_neg (by omega)]
def CsAt (S:Q0f)(B O cap:Nat)(ms:List (List (List Ivl))):Prop:=B<=O/\O<S.length/\ms.length<=cap/\ ∃R,S.getD O []=X0x ms++R/\R.length=(cap-ms.length)*1
theorem CsAt.grow {S S':Q0f}{B O O' cap cap':Nat}{ms:List (List (List Ivl))}{m:List (List Ivl)}(h:CsAt S B O cap ms)(hB:B<=S.length)(hG:GrowTo S O ms.length cap [.sl .no (encM m)] 1 O' cap' S'):CsAt S' B O' cap' (ms++ [m])/\S.length<=S'.length/\ ∀k,k<S.length->k≠O->S'.getD k []=S.getD k []:=by obtain⟨h1,h2,h3,R,h4,h5⟩:=h;obtain⟨R',f1,f2,f3,f4,f5,f6,f7⟩:=GrowTo.facts (es:=X0x ms) hG h2 (by rw[Q1q];exact h4) (by rw[Q1q,J0v,Nat.mul_one]) rfl h5 h3;refine⟨⟨?_,f4,by simpa using f3,R',?_,by simpa using f2⟩,f6,f7⟩;rcases f5 with rfl | rfl;exact h1;exact hB;rw[f1,Q1q];show X0x ms++_=_;rw[<-List.append_assoc,<-V2z];rfl
theorem CsAt.ok {S:Q0f}{B O cap:Nat}{ms:List (List (List Ivl))}(h:CsAt S B O cap ms):(S.getD O []).length=cap*1:=by obtain⟨h1,h2,h3,R,h4,h5⟩:=h;rw[h4,List.length_append,J0v,h5];omega
set_option maxRecDepth 100000
open Go.Proofs
theorem x1c {f:List (List Mn)}(wf:wF f)(h:(jacF f).2=0):wJac (jacF f).1 f.length:=by obtain⟨h1,h2⟩:=w1l h;obtain⟨w1,w2⟩:=G3a f wf.1;refine⟨h1,fun i hi=>⟨(h2 i hi).1,fun l hl=> ?_⟩⟩;have:=w2 _ (Q0t (jacF f).1 i [] (by omega));exact this.2 l (by have:=(h2 i hi).1;omega)
theorem Z2y {f:List (List Mn)}{x:List Ivl}{order p:Int}(h:(W0s f x order p).2=0):K0m f=true/\rightB x=true/\x.length=f.length/\Z0p p=true/\ ∃m:Nat,order=m/\m<=10/\W0s f x order p=Z0o f x p m:=by unfold W0s at h⊢;by_cases c:K0m f=true/\rightB x=true/\x.length=f.length/\0<=order/\order<=10/\Z0p p=true;obtain⟨m,rfl⟩:=Int.eq_ofNat_of_zero_le c.2.2.2.1;exact⟨c.1,c.2.1,c.2.2.1,c.2.2.2.2.2,m,rfl,by omega,by rw[if_pos c];rfl⟩;rw[if_neg c] at h;cases h
theorem K1s {f:List (List Mn)}{x:List Ivl}{p:Int}(hl:x.length=f.length)(hx: ∀a∈x,Q0p a=true): ∀k,k<=10->(Z0o f x p k).2=0-> ∀i,i<x.length->K0k ((Z0o f x p k).1.getD i []) k=true
 | 0,_,_=>fun i hi=>by have e:(Z0o f x p 0).1.getD i []= [x[i]]:=(by simp[Z0o,q_a,hi]);rw[e];exact U0i (by simp) fun j hj=>by obtain rfl:j=0:=(by omega);exact hx _ (List.getElem_mem hi)
 | k+1,hk,h=>fun i hi=>by
  have c:(Z0o f x p k).2=0:=Classical.byContradiction fun c=>by rw[Z0o,if_pos c] at h;exact c h
  have ih:=K1s hl hx k (by omega) c i hi;obtain⟨a1,a2⟩:=z0e hl (fun a ha=>K0p (hx a ha)) k c;rw[Z0o,if_neg (by rw[c];decide)] at h⊢;by_cases d:(J1g f (Z0o f x p k).1 k p).2=0;rotate_left;rw[if_pos d] at h;exact absurd h d;rw[if_neg (by rw[d];decide)];show K0k ((Y0o _ _ _).getD i []) _=true;rw[H0w _ _ i (by omega),if_pos (by omega)];obtain⟨c1,_⟩:=a2 i hi;refine U0i (by rw[List.length_append,c1];simp) fun j hj=> ?_;by_cases hjk:j<=k;rw[Q0g _ _ _ _ (by omega)];exact w0w ih hjk;obtain rfl:j=k+1:=(by omega);rw[Q0k _ _ _ _ (by omega),c1,Nat.sub_self];show Q0p ((J1g f (Z0o f x p k).1 k p).1.getD i default)=true;rw[show(J1g f (Z0o f x p k).1 k p).1.getD i default=(G0v f (Z0o f x p k).1 k p i).1 from(J0t d).2.2 i (by omega)];unfold G0v;split;rfl;obtain⟨p1,p2,p3,_⟩:=z1e (k+1) (by omega) (by omega);obtain⟨q1,_⟩:=Z2c (k+1) (by omega) (by omega);exact U1c q1 p3 p2
end Go.Pv
end
