/- Parts of the walk: PvAl, M37, N31, N32, N33. -/
import Derived.Test.YtldalepagmhnmaaGreatDoorZAN
import Derived.Test.YtldalepagmhnmaaGreatDoorZAF
set_option linter.unusedVariables false
set_option linter.unusedSimpArgs false
section
namespace Go.Pv
@[go_sem] theorem W3c {Q:Exit->PFS->Prop}{s:PFS}{id:Nat} :eblk id Q .normal s=Q .normal s:=(rfl)
@[go_sem] theorem Q4h {Q:Exit->PFS->Prop}{s:PFS}{id:Nat} :eblk id Q .ret s=Q .ret s:=(rfl)
@[go_sem] theorem j3a {Q:Exit->PFS->Prop}{s:PFS}{id:Nat} :eblk id Q (.exit id) s=Q .normal s:=by simp[eblk]
@[go_sem] theorem X3d {Q:Exit->PFS->Prop}{s:PFS}{id id':Nat}(h:id'≠id):eblk id Q (.exit id') s=Q (.exit id') s:=by simp[eblk,h]
@[go_sem] theorem k2x {Q:Exit->PFS->Prop}{s:PFS} :Y1u Q .normal s=Q .normal s:=(rfl)
@[go_sem] theorem H3i {Q:Exit->PFS->Prop}{s:PFS} :Y1u Q .ret s=Q .ret s:=(rfl)
@[go_sem] theorem V3y {Q:Exit->PFS->Prop}{s:PFS}{id:Nat} :Y1u Q (.exit id) s=Q (.exit id) s:=(rfl)
theorem Q0u {P:Program}{E:Ent}{c:Code}{Q:Exit->PFS->Prop}{s:PFS}(bs:List Bool)(nL nT:Nat)(I:Nat->PFS->Prop)(n:Nat)(h0:s.maskOK bs nL nT/\I n (s.mask bs nL nT))
 (round: ∀n s,I n s->PWP P E c (W0r (fun s'=>s'.maskOK bs nL nT/\ ∃m,m<n/\I m (s'.mask bs nL nT)) Q) s):PWP P E (.loop c) Q s:=by
 refine Z2j (fun n s=>s.maskOK bs nL nT/\I n (s.mask bs nL nT)) n h0 fun n s ⟨hm,hI⟩=> ?_;refine J0w (z0o hm) (X1e (round n _ hI) ?_);intro e s hq;cases e with
 | normal=>obtain⟨hm',m,hlt,hI'⟩:=hq;exact⟨m,hlt,hm',hI'⟩
 | _=>exact hq
def tabF {β:Type}(G:Nat->β×Int):Nat->Nat->List β->List β×Int
 | _,0,acc=>(acc,0)
 | i,k+1,acc=>if (G i).2≠0 then([],(G i).2) else tabF G (i+1) k (acc++ [(G i).1])
theorem j1l {α β:Type}[Inhabited α](F:Nat->α->β×Int): ∀(l:List α) (i:Nat) (acc:List β),W2k F i l acc=tabF (fun j=>F j (l.getD (j-i) default)) i l.length acc
 | [],i,acc=>rfl
 | x::l,i,acc=>by
  have e: ∀j,i+1<=j->j<i+1+l.length->F j (l.getD (j-(i+1)) default)=F j ((x::l).getD (j-i) default):=fun j h1 _=>by rw[show j-i=(j-(i+1))+1 from by omega];rfl
  have key: ∀(k i':Nat) (acc:List β),i+1<=i'->i'+k<=i+1+l.length->tabF (fun j=>F j (l.getD (j-(i+1)) default)) i' k acc=tabF (fun j=>F j ((x::l).getD (j-i) default)) i' k acc:=by
   intro k
   induction k with
   | zero=>intro i' acc _ _;rfl
   | succ k ih=>
    intro i' acc h1 h2;simp only[tabF,e i' h1 (by omega)];split;rfl;exact ih _ _ (by omega) (by omega)
  have e0:F i ((x::l).getD (i-i) default)=F i x:=by rw[Nat.sub_self];rfl
  rw[W2k,List.length_cons,tabF,e0,j1l F l (i+1),key _ _ _ (by omega) (by omega)]
theorem j0m {α β:Type}[Inhabited α](F:Nat->α->β×Int)(l:List α):W2k F 0 l []=tabF (fun j=>F j (l.getD j default)) 0 l.length []:=by rw[j1l];simp only[Nat.sub_zero]
theorem U2d {β:Type}[Inhabited β]{G:Nat->β×Int} : ∀(k i:Nat) (acc:List β),(tabF G i k acc).2=0->
 (tabF G i k acc).1.length=acc.length+k/\(∀j,j<k->(G (i+j)).2=0)/\ ∀j,j<acc.length+k->(tabF G i k acc).1.getD j default=if j<acc.length then acc.getD j default else(G (i+(j-acc.length))).1
 | 0,i,acc,_=>by refine⟨rfl,fun j h=>by omega,fun j h=> ?_⟩;rw[if_pos (by omega)];rfl
 | k+1,i,acc,h=>by
  simp only[tabF] at h⊢;by_cases h0:(G i).2≠0;rw[if_pos h0] at h;exact absurd h h0;rw[if_neg h0] at h⊢;obtain⟨a1,a2,a3⟩:=U2d k (i+1) (acc++ [(G i).1]) h;refine⟨by rw[a1];simp;omega,fun j hj=> ?_,fun j hj=> ?_⟩;cases j with
  | zero=>exact Classical.not_not.1 h0
  | succ j=>have:=a2 j (by omega);rw[show i+(j+1)=i+1+j from by omega];exact this
  rw[a3 j (by simp;omega)];simp only[List.length_append,List.length_cons,List.length_nil];by_cases c1:j<acc.length;rw[if_pos (by omega),if_pos c1,q_a,List.getElem?_append_left c1,<-q_a];rw[if_neg c1];by_cases c2:j=acc.length;subst c2;rw[if_pos (by omega),Nat.sub_self,Nat.add_zero];simp[q_a];rw[if_neg (by omega)];rw[show i+1+(j-(acc.length+(0+1)))=i+(j-acc.length) from by omega]
theorem G0w {β:Type}[Inhabited β]{G:Nat->β×Int} : ∀(k i:Nat) (acc:List β),(∀j,i<=j->j<i+k->(G j).2=0)->(tabF G i k acc).2=0
 | 0,i,acc,_=>rfl
 | k+1,i,acc,h=>by simp only[tabF];rw[if_neg (by rw[h i (by omega) (by omega)];decide)];exact G0w k _ _ fun j h1 h2=>h j (by omega) (by omega)
theorem J0j {β:Type}[Inhabited β]{G:Nat->β×Int}{k:Nat}(h:(tabF G 0 k []).2=0):(tabF G 0 k []).1.length=k/\(∀j,j<k->(G j).2=0)/\ ∀j,j<k->(tabF G 0 k []).1.getD j default=(G j).1:=by obtain⟨a1,a2,a3⟩:=U2d k 0 [] h;refine⟨by simpa using a1,fun j hj=>by simpa using a2 j hj,fun j hj=> ?_⟩;have:=a3 j (by simpa using hj);simpa using this
theorem x0u {β:Type}{G:Nat->β×Int} : ∀(k i:Nat) (acc:List β),(tabF G i k acc).1.length<=acc.length+k
 | 0,i,acc=>by simp[tabF]
 | k+1,i,acc=>by simp only[tabF];split;simp;have:=x0u (G:=G) k (i+1) (acc++ [(G i).1]);simp at this;omega
theorem G0v {β:Type}(p:β->Prop){G:Nat->β×Int} : ∀(k i:Nat) (acc:List β),(∀j,i<=j->j<i+k->p (G j).1)->(∀x∈acc,p x)-> ∀x∈(tabF G i k acc).1,p x
 | 0,i,acc,_,h=>h
 | k+1,i,acc,hg,h=>by simp only[tabF];split;intro x hx;cases hx;refine G0v p k _ _ (fun j h1 h2=>hg j (by omega) (by omega)) fun x hx=> ?_;rcases List.mem_append.1 hx with hx | hx;exact h x hx;rw[List.mem_singleton.1 hx];exact hg i (by omega) (by omega)
theorem W0h {β:Type}(G:Nat->β×Int){i n:Nat}(h:i<n)(acc:List β):tabF G i (n-i) acc=if (G i).2≠0 then([],(G i).2) else tabF G (i+1) (n-(i+1)) (acc++ [(G i).1]):=by rw[show n-i=(n-(i+1))+1 from by omega,tabF]
theorem Y0x {β:Type}(G:Nat->β×Int)(n:Nat)(acc:List β):tabF G n (n-n) acc=(acc,0):=by rw[Nat.sub_self];rfl
abbrev Mx :=List (List Ivl)
def wM (m:Mx):Prop:=m.length<=100000000000/\ ∀i,i<m.length->wB (m.getD i [])
def K0c (m:Mx):Bool:=(m.all fun r=>decide (r.length=m.length)&&rightB r)&&decide (1<=m.length)&&decide (m.length<=4)
theorem W0u {m:Mx}(h:K0c m=true):1<=m.length/\m.length<=4:=by unfold K0c at h;simp only[q_i,decide_eq_true_eq] at h;exact⟨h.1.2,h.2⟩
theorem U0g {m:Mx}(h:K0c m=true){i:Nat}(hi:i<m.length):(m.getD i []).length=m.length/\rightB (m.getD i [])=true:=by unfold K0c at h;simp only[q_i,decide_eq_true_eq,q_d] at h;have hm:m.getD i []∈m:=(by simp[q_a,List.getElem?_eq_getElem hi]);have:=h.1.1 _ hm;simpa using this
theorem rightM_iff {m:Mx} :K0c m=true<->(∀i,i<m.length->(m.getD i []).length=m.length/\rightB (m.getD i [])=true)/\1<=m.length/\m.length<=4:=by constructor;intro h;exact⟨fun i hi=>U0g h hi,W0u h⟩;rintro⟨h1,h2,h3⟩;unfold K0c;simp only[q_i,decide_eq_true_eq,q_d];refine⟨⟨fun r hr=> ?_,h2⟩,h3⟩;obtain⟨i,hi,rfl⟩:=List.getElem_of_mem hr;have:=h1 i hi;rw[q_a,List.getElem?_eq_getElem hi] at this;simpa using this
theorem q1y {b:List Ivl}(h:rightB b=true){i:Nat}(hi:i<b.length):Q0o (b.getD i default)=true:=by unfold rightB at h;simp only[q_i,q_d] at h;exact h.1.1 _ (by simp[q_a,List.getElem?_eq_getElem hi])
def atM (m:Mx)(i j:Nat):Ivl:=(m.getD i []).getD j default
def j0w (G:Nat->Nat->Ivl×Int)(n:Nat):Mx×Int:=tabF (fun i=>tabF (fun j=>G i j) 0 n []) 0 n []
def opM (k:Nat)(a b:Mx)(p:Int):Mx×Int:=if K0c a=true/\K0c b=true/\a.length=b.length/\Z0m p=true then j0w (fun i j=>opI k (atM a i j) (atM b i j) p) a.length else([],1)
def G0u (x:Ivl)(m:Mx)(p:Int):Mx×Int:=if K0c m=true/\Q0o x=true/\Z0m p=true then j0w (fun i j=>opI 2 x (atM m i j) p) m.length else([],1)
def dotF (x y:Nat->Ivl)(p:Int):Nat->Ivl×Int
 | 0=>(default,0)
 | k+1=>
  if (dotF x y p k).2≠0 then(default,(dotF x y p k).2) else
  if (opI 2 (x k) (y k) p).2≠0 then(default,(opI 2 (x k) (y k) p).2) else
  if k=0 then opI 2 (x k) (y k) p else
  if (opI 0 (dotF x y p k).1 (opI 2 (x k) (y k) p).1 p).2≠0 then(default,(opI 0 (dotF x y p k).1 (opI 2 (x k) (y k) p).1 p).2) else
  opI 0 (dotF x y p k).1 (opI 2 (x k) (y k) p).1 p
theorem U1a {x x' y y':Nat->Ivl}{p:Int} : ∀n,(∀k,k<n->x k=x' k/\y k=y' k)->dotF x y p n=dotF x' y' p n
 | 0,_=>rfl
 | n+1,h=>by obtain⟨h1,h2⟩:=h n (by omega);simp only[dotF,U1a n (fun k hk=>h k (by omega)),h1,h2]
def vecM (m:Mx)(b:List Ivl)(p:Int):List Ivl×Int:=if K0c m=true/\rightB b=true/\m.length=b.length/\Z0m p=true then tabF (fun i=>dotF (atM m i) (fun k=>b.getD k default) p b.length) 0 m.length [] else([],1)
def oneN :Nm:=⟨false,0,[1]⟩
def idM (n:Int):Mx:=if 1<=n/\n<=4 then(List.range n.toNat).map fun i=>(List.range n.toNat).map fun j=>if i=j then⟨oneN,oneN⟩ else default else []
set_option maxRecDepth 100000
open Go.Proofs
theorem Q1e (m:Mx)(st:Q0e)(hm:wM m):PCalls Tryz.prog 101 [.sl .no (encM m)] st (fun r st'=>r= .sc (.bool (K0c m))/\st'=st):=by
 have hl:=hm.1;refine Q0b none Tryz.func101 rfl fun E=>Q0a ?_;simp-dsimp only[go_sem];refine Q0d [true,false,false,false,false,true,true,true] 0 0
  (fun n s=> ∃i,n=m.length-i/\i<=m.length/\(∀j,j<i->(m.getD j []).length=m.length/\rightB (m.getD j [])=true)/\s=⟨[.sl .no (encM m),.junk,.junk,.junk,.junk,.sl .no (encM m),.sc (.int .i64 m.length),.sc (.int .i64 (i:Nat))]++List.replicate 22 .junk,[],[],st⟩) m.length ?_ ?_
 simp-dsimp only[go_sem];exact⟨0,by omega,by omega,fun j hj=>by omega,rfl⟩;rintro n s ⟨i,rfl,hi,hr,rfl⟩;simp-dsimp only[go_sem];refine ck (fun h'=> ?_) (fun h'=> ?_);have hlt:i<m.length:=(by have:=q_b h';omega);have e1:=U0b m i hlt;have e3:=V0g i (by omega);simp-dsimp only[go_sem,e1];refine⟨by omega,?_⟩;refine gkF (fun h2=> ?_) (fun h2=> ?_);have hn:=K1a h2;simp-dsimp only[go_sem,h2,e1];refine(Q1x _ _ (hm.2 i hlt)).mono ?_;rintro r st ⟨rfl,rfl⟩;simp-dsimp only[go_sem,h2];refine ck (fun h3=> ?_) (fun h3=> ?_);have hf:rightB (m.getD i [])=false:=(by simpa using h3);simp-dsimp only[go_sem];have:K0c m=false:=Bool.eq_false_iff.2 fun e=>by have:=((rightM_iff.1 e).1 i hlt).2;rw[hf] at this;cases this
 rw[this];have ht:rightB (m.getD i [])=true:=(by simpa using h3);simp-dsimp only[go_sem,e3];refine⟨m.length-(i+1),by omega,i+1,rfl,by omega,fun j hj=> ?_,rfl⟩;by_cases e:j=i;subst e;exact⟨hn,ht⟩;exact hr j (by omega);have hn:=z1y h2;simp-dsimp only[go_sem,h2];have:K0c m=false:=Bool.eq_false_iff.2 fun e=>hn ((rightM_iff.1 e).1 i hlt).1;rw[this];have hge:i=m.length:=(by have:=q_c h';omega);simp-dsimp only[go_sem];refine Q0a ?_;simp-dsimp only[go_sem];refine gkT (fun h=> ?_) (fun h=> ?_);have h1:1<=m.length:=(by have:=q_b h;omega);simp-dsimp only[go_sem,h];have:K0c m=decide ((m.length:Int)<=4):=by rw[Bool.eq_iff_iff,rightM_iff,decide_eq_true_iff];exact⟨fun hh=>by omega,fun hh=>⟨fun j hj=>hr j (by omega),h1,by omega⟩⟩
 rw[this];have h1: ¬1<=m.length:=(by have:=q_c h;omega);simp-dsimp only[go_sem,h];have:K0c m=false:=Bool.eq_false_iff.2 fun e=>h1 (rightM_iff.1 e).2.1;rw[this]
def X1t (a b:Mx)(p:Int):Bool:=K0c a&&K0c b&&decide (a.length=b.length)&&Z0m p
theorem validM_iff {a b:Mx}{p:Int} :X1t a b p=true<->K0c a=true/\K0c b=true/\a.length=b.length/\Z0m p=true:=by unfold X1t;simp only[q_i,decide_eq_true_eq];exact⟨fun h=>⟨h.1.1.1,h.1.1.2,h.1.2,h.2⟩,fun h=>⟨⟨⟨h.1,h.2.1⟩,h.2.2.1⟩,h.2.2.2⟩⟩
theorem Q1d (a b:Mx)(p:Int)(st:Q0e)(ha:wM a)(hb:wM b):PCalls Tryz.prog 84 [.sl .no (encM a),.sl .no (encM b),.sc (.int .i64 p)] st (fun r st'=>r= .sc (.bool (X1t a b p))/\st'=st):=by
 refine Q0b none Tryz.func84 rfl fun E=>Q0a ?_;unfold X1t;simp-dsimp only[go_sem];refine(Q1e a st ha).mono ?_;rintro r st ⟨rfl,rfl⟩;cases h:K0c a with
 | false=>simp-dsimp only[go_sem];try rfl
 | true=>
  simp-dsimp only[go_sem];refine(Q1e b st hb).mono ?_;rintro r st ⟨rfl,rfl⟩;cases h':K0c b with
  | false=>simp-dsimp only[go_sem];try rfl
  | true=>
   by_cases hn:a.length=b.length;have f1:((a.length:Int)==(b.length:Int))=true:=(by rw[hn];simp);rw[q_h hn];simp-dsimp only[go_sem,f1];refine(U0f p _).mono ?_;rintro r st ⟨rfl,rfl⟩;simp-dsimp only[go_sem]
   try rfl
   have f1:((a.length:Int)==(b.length:Int))=false:=by rw[beq_eq_false_iff_ne];omega
   rw[q_g hn];simp-dsimp only[go_sem,f1]
   try rfl
theorem k0r (g:FuncId)(caps:List PV)(G:Nat->Nat->Ivl×Int)(n:Nat)(st:Q0e)(hc:Q0c Tryz.prog g=true)(hn:n<=100000)(h1:caps.all PV.closed2=true)(h1':caps.all PV.closed1=true)(h2:caps.map PV.forget2=caps)(h2':caps.map PV.forget1=caps)(hlim: ∀k,caps.all (PV.lim1 0 k)=true)
 (h: ∀i j,i<n->j<n->PCalls Tryz.prog g ([.sc (.int .i64 i),.sc (.int .i64 j)]++caps) st (fun r st'=>r= .tup [.agg (encI (G i j).1),.sc (.int .i64 (G i j).2)]/\st'=st)):
 PCalls Tryz.prog 122 [.sc (.int .i64 n),.fn (.func g) [] caps] st (fun r st'=>r= .tup [.sl .no (encM (j0w G n).1),.sc (.int .i64 (j0w G n).2)]/\st'=st):=by
 refine Q0b none Tryz.func122 rfl fun E=>Q0a ?_;simp-dsimp only[go_sem];refine Z0j 6 1 ?_;simp-dsimp only[go_sem];refine Q0d [true,true,false,false,false,false,true,false,false,false,false,false,true,true] 0 1
  (fun k s=> ∃(i:Nat) (o:Mx),k=n-i/\i<=n/\o.length=i/\j0w G n=tabF (fun i=>tabF (fun j=>G i j) 0 n []) i (n-i) o/\
   s=⟨[.sc (.int .i64 n),.fn (.func g) [] caps,.junk,.junk,.junk,.junk,.sl (.own 0) (encM o),.junk,.junk,.junk,.junk,.junk,.sc (.int .i64 n),.sc (.int .i64 (i:Nat))]++List.replicate 27 .junk,[],[(o.length,1)],st⟩) n ?_ ?_
 simp-dsimp only[go_sem,hlim];exact⟨0,[],by omega,by omega,rfl,rfl,rfl⟩;rintro k s ⟨i,o,rfl,hi,ho,hr,rfl⟩;simp-dsimp only[go_sem];refine ck (fun h'=> ?_) (fun h'=> ?_);have hlt:i<n:=(by have:=q_b h';omega);have e3:=V0g i (by omega);have e4:=W0h (fun i=>tabF (fun j=>G i j) 0 n []) hlt o;simp-dsimp only[go_sem];refine Z0j 8 6 ?_;simp-dsimp only[go_sem];refine Q0d [true,true,false,false,false,false,true,true,true,false,false,false,true,true,false,false,true,true] 0 2
  (fun k s=> ∃(j:Nat) (r:List Ivl),k=n-j/\j<=n/\r.length=j/\tabF (fun j=>G i j) 0 n []=tabF (fun j=>G i j) j (n-j) r/\
   s=⟨[.sc (.int .i64 n),.fn (.func g) [] caps,.junk,.junk,.junk,.junk,.sl (.own 0) (encM o),.sc (.int .i64 (i:Nat)),.sl (.own 1) (Q0t r),.junk,.junk,.junk,.sc (.int .i64 n),.sc (.int .i64 (i:Nat)),.junk,.junk,.sc (.int .i64 n),.sc (.int .i64 (j:Nat))]++List.replicate 23 .junk,[],[(o.length,1),(r.length,6)],st⟩) n ?_ ?_
 simp-dsimp only[go_sem,hlim];exact⟨0,[],by omega,by omega,rfl,rfl,rfl⟩;rintro k s ⟨j,r,rfl,hj,hrl,hrr,rfl⟩;simp-dsimp only[go_sem];refine ck (fun h''=> ?_) (fun h''=> ?_);have hlt2:j<n:=(by have:=q_b h'';omega);have f3:=V0g j (by omega);have f4:=W0h (fun j=>G i j) hlt2 r;simp-dsimp only[go_sem,hc,h1,h2];refine(h i j hlt hlt2).mono ?_;rintro rr st ⟨rfl,rfl⟩;simp-dsimp only[go_sem];refine ck (fun h5=> ?_) (fun h5=> ?_);have hne:=z0b h5;simp-dsimp only[go_sem];have q1:tabF (fun j=>G i j) 0 n []=([],(G i j).2):=(by rw[hrr,f4,if_pos hne]);rw[hr,e4,if_pos (by rw[q1];exact hne),q1];rfl;have he:=z0m h5;simp-dsimp only[go_sem,f3,hlim];refine⟨⟨by omega,by omega⟩,n-(j+1),by omega,j+1,r++ [(G i j).1],rfl,by omega,by simp[hrl],?_,?_⟩;rw[hrr,f4,if_neg (fun hh=>hh he)];simp[Q0t,encI];have hge:j=n:=(by have:=q_c h'';omega);have q1:tabF (fun j=>G i j) 0 n []=(r,0):=(by rw[hrr,hge];exact Y0x _ n r);simp-dsimp only[go_sem];refine Q0a ?_;simp-dsimp only[go_sem];refine⟨⟨by omega,by omega⟩,Q0a ?_⟩;simp-dsimp only[go_sem,e3,hlim];refine⟨n-(i+1),by omega,i+1,o++ [r],rfl,by omega,by simp[ho],?_,?_⟩;rw[hr,e4,q1,if_neg (by simp)];simp;have hge:i=n:=(by have:=q_c h';omega);simp-dsimp only[go_sem];refine Q0a ?_;simp-dsimp only[go_sem];rw[hr,hge,Y0x]
theorem q2i (i j:Nat)(a b:Mx)(p:Int)(st:Q0e)(ha:wM a)(hb:wM b)(ai:i<a.length)(aj:j<(a.getD i []).length)(bi:i<b.length)(bj:j<(b.getD i []).length):
 PCalls Tryz.prog 197 ([.sc (.int .i64 i),.sc (.int .i64 j)]++ [.ep [.sl .no (encM a)] 0,.ep [.sl .no (encM b)] 0,.ep [.sc (.int .i64 p)] 0]) st (fun r st'=>r= .tup [.agg (encI (opI 0 (atM a i j) (atM b i j) p).1),.sc (.int .i64 (opI 0 (atM a i j) (atM b i j) p).2)]/\st'=st):=by
 have e1:=U0b a i ai;have e2:=U0b b i bi;have e3:=X0b (a.getD i []) j aj;have e4:=X0b (b.getD i []) j bj;refine Q0b none Tryz.func197 rfl fun E=>Q0a ?_;simp-dsimp only[go_sem];refine Q0p Z0n 27 (.step 0 [] (.step 1 [] (.step 2 [] (.step 3 [] (.step 4 [] (.step 5 [] (.step 6 [] (.step 7 [] (.step 8 [] (.step 9 [] (.step 10 [] (.step 11 [] (.step 12 [] (.step 13 [] (.step 14 [] (.step 15 [0,7] (.step 16 [] (.step 17 [] (.step 18 [] (.step 19 [] (.done))))))))))))))))))))) (by decide+kernel) (by simp) ?_;simp-dsimp only[go_sem,e1,e2,e3,e4];refine⟨by omega,by omega,by omega,by omega,?_⟩;refine(K1l _ _ p _ ((ha.2 i ai).2 j aj) ((hb.2 i bi).2 j bj)).mono ?_;rintro r st ⟨rfl,rfl⟩;simp-dsimp only[go_sem]
 try rfl
theorem Q3k (a b:Mx)(p:Int)(st:Q0e)(ha:wM a)(hb:wM b):PCalls Tryz.prog 130 [.sl .no (encM a),.sl .no (encM b),.sc (.int .i64 p)] st (fun r st'=>r= .tup [.sl .no (encM (opM 0 a b p).1),.sc (.int .i64 (opM 0 a b p).2)]/\st'=st):=by
 refine Q0b none Tryz.func130 rfl fun E=>Q0g (Q0a ?_);simp-dsimp only[go_sem];refine Z0q 0 ?_ ?_;simp-dsimp only[go_sem];simp-dsimp only[go_sem];refine Z0q 1 ?_ ?_;simp-dsimp only[go_sem];simp-dsimp only[go_sem];refine Z0q 2 ?_ ?_;simp-dsimp only[go_sem];refine Q0a ?_;simp-dsimp only[go_sem];refine(Q1d a b p _ ha hb).mono ?_;rintro r st ⟨rfl,rfl⟩;cases hv:X1t a b p with
 | false=>
  simp-dsimp only[go_sem];rw[opM,if_neg (fun hh=>by rw[validM_iff.2 hh] at hv;cases hv)];rfl
 | true=>
  obtain⟨v1,v2,v3,v4⟩:=validM_iff.1 hv;have hl:=W0u v1;simp-dsimp only[go_sem];refine(k0r _ [.ep [.sl .no (encM a)] 0,.ep [.sl .no (encM b)] 0,.ep [.sc (.int .i64 p)] 0] (fun i j=>opI 0 (atM a i j) (atM b i j) p) a.length st rfl (by omega) rfl rfl rfl rfl (fun _=>rfl) fun i j hi hj=>
   q2i i j a b p st ha hb hi (by rw[(U0g v1 hi).1];exact hj) (by omega) (by rw[(U0g v2 (by omega)).1];omega)).mono ?_
  rintro r st ⟨rfl,rfl⟩;simp-dsimp only[go_sem];rw[opM,if_pos ⟨v1,v2,v3,v4⟩]
theorem w1l (i j:Nat)(x:Ivl)(a:Mx)(p:Int)(st:Q0e)(hx:wI x)(ha:wM a)(ai:i<a.length)(aj:j<(a.getD i []).length):
 PCalls Tryz.prog 196 ([.sc (.int .i64 i),.sc (.int .i64 j)]++ [.ep (encI x) 0,.ep [.sl .no (encM a)] 0,.ep [.sc (.int .i64 p)] 0]) st (fun r st'=>r= .tup [.agg (encI (opI 2 x (atM a i j) p).1),.sc (.int .i64 (opI 2 x (atM a i j) p).2)]/\st'=st):=by
 have e1:=U0b a i ai;have e3:=X0b (a.getD i []) j aj;refine Q0b none Tryz.func196 rfl fun E=>Q0a ?_;simp-dsimp only[go_sem];refine Q0p Z0n 21 (.step 0 [] (.step 1 [] (.step 2 [] (.step 3 [] (.step 4 [] (.step 5 [] (.step 6 [] (.step 7 [] (.step 8 [] (.step 9 [1] (.step 10 [] (.step 11 [] (.step 12 [] (.step 13 [] (.done))))))))))))))) (by decide+kernel) (by simp) ?_;simp-dsimp only[go_sem,e1,e3];refine⟨by omega,by omega,?_⟩;refine(G1r _ _ p _ hx ((ha.2 i ai).2 j aj)).mono ?_;rintro r st ⟨rfl,rfl⟩;simp-dsimp only[go_sem]
 try rfl
theorem V2n (x:Ivl)(a:Mx)(p:Int)(st:Q0e)(hx:wI x)(ha:wM a):PCalls Tryz.prog 129 [.agg (encI x),.sl .no (encM a),.sc (.int .i64 p)] st (fun r st'=>r= .tup [.sl .no (encM (G0u x a p).1),.sc (.int .i64 (G0u x a p).2)]/\st'=st):=by
 refine Q0b none Tryz.func129 rfl fun E=>Q0g (Q0a ?_);simp-dsimp only[go_sem];refine Z0q 0 ?_ ?_;simp-dsimp only[go_sem];simp-dsimp only[go_sem];refine Z0q 1 ?_ ?_;simp-dsimp only[go_sem];simp-dsimp only[go_sem];refine Z0q 2 ?_ ?_;simp-dsimp only[go_sem];refine Q0a ?_;simp-dsimp only[go_sem];refine(U0y x _ hx).mono ?_;rintro r st ⟨rfl,rfl⟩;cases r1:Q0o x with
 | false=>
  simp-dsimp only[go_sem];rw[G0u,if_neg (by simp[r1])];rfl
 | true=>
  simp-dsimp only[go_sem];refine(Q1d a a p _ ha ha).mono ?_;rintro r st ⟨rfl,rfl⟩;cases hv:X1t a a p with
  | false=>
   simp-dsimp only[go_sem];rw[G0u,if_neg (fun hh=>by rw[validM_iff.2 ⟨hh.1,hh.1,rfl,hh.2.2⟩] at hv;cases hv)];rfl
  | true=>
   obtain⟨v1,v2,v3,v4⟩:=validM_iff.1 hv;have hl:=W0u v1;simp-dsimp only[go_sem];refine(k0r _ [.ep (encI x) 0,.ep [.sl .no (encM a)] 0,.ep [.sc (.int .i64 p)] 0] (fun i j=>opI 2 x (atM a i j) p) a.length st rfl (by omega) rfl rfl rfl rfl (fun _=>rfl) fun i j hi hj=>
    w1l i j x a p st hx ha hi (by rw[(U0g v1 hi).1];exact hj)).mono ?_
   rintro r st ⟨rfl,rfl⟩;simp-dsimp only[go_sem];rw[G0u,if_pos ⟨v1,r1,v4⟩]
theorem w1m (g:FuncId)(caps:List PV)(x y:Nat->Ivl)(n:Nat)(p:Int)(st:Q0e)(hc:Q0c Tryz.prog g=true)(hn:n<=100000)(h1:caps.all PV.closed2=true)(h1':caps.all PV.closed1=true)(h2:caps.map PV.forget2=caps)(h2':caps.map PV.forget1=caps)(hlim: ∀k,caps.all (PV.lim1 k 0)=true)
 (hw: ∀k,k<n->wI (x k)/\wI (y k)) (hd: ∀k,wI (dotF x y p k).1)
 (h: ∀k,k<n->PCalls Tryz.prog g ([.sc (.int .i64 k)]++caps) st (fun r st'=>r= .tup [.agg (encI (x k)),.agg (encI (y k))]/\st'=st)):
 PCalls Tryz.prog 86 [.sc (.int .i64 n),.sc (.int .i64 p),.fn (.func g) [] caps] st (fun r st'=>r= .tup [.agg (encI (dotF x y p n).1),.sc (.int .i64 (dotF x y p n).2)]/\st'=st):=by
 refine Q0b none Tryz.func86 rfl fun E=>Q0a ?_;simp-dsimp only[go_sem];refine X0l 1 ?_;simp-dsimp only[go_sem];refine Q0d [false,true,true,false,false,false,true,false,true,false,false,false,false,false,true,true] 2 0
  (fun m s=> ∃k,m=n-k/\k<=n/\(dotF x y p k).2=0/\s=⟨[.junk,.sc (.int .i64 p),.fn (.func g) [] caps,.junk,.junk,.junk,.lp 0 0,.junk,.lp 1 0,.junk,.junk,.junk,.junk,.junk,.sc (.int .i64 n),.sc (.int .i64 (k:Nat))]++List.replicate 35 .junk,
   [[.sc (.bool false),.sc (.int .i64 0),.sl .full [],.sc (.bool false),.sc (.int .i64 0),.sl .full []],encI (dotF x y p k).1],[],st⟩) n ?_ ?_
 simp-dsimp only[go_sem,hlim];exact⟨0,by omega,by omega,rfl,rfl⟩;rintro m s ⟨k,rfl,hk,hz,rfl⟩;simp-dsimp only[go_sem];refine ck (fun h'=> ?_) (fun h'=> ?_);have hlt:k<n:=(by have:=q_b h';omega);have e3:=V0g k (by omega);have hdk:=hd k;have hstep:dotF x y p (k+1)=if (opI 2 (x k) (y k) p).2≠0 then(default,(opI 2 (x k) (y k) p).2) else
  if k=0 then opI 2 (x k) (y k) p else
  if (opI 0 (dotF x y p k).1 (opI 2 (x k) (y k) p).1 p).2≠0 then(default,(opI 0 (dotF x y p k).1 (opI 2 (x k) (y k) p).1 p).2) else
  opI 0 (dotF x y p k).1 (opI 2 (x k) (y k) p).1 p:=by
  rw[dotF,if_neg (by rw[hz];decide)]
 have hend: ∀e,e≠0->dotF x y p (k+1)=(default,e)->dotF x y p n=(default,e):=fun e he h0=>by
  have key: ∀d,dotF x y p (k+1+d)=(default,e):=by
   intro d
   induction d with
   | zero=>exact h0
   | succ d ih=>rw[show k+1+(d+1)=(k+1+d)+1 from by omega,dotF,ih,if_pos he]
  have:=key (n-(k+1));rwa [show k+1+(n-(k+1))=n from by omega] at this
 simp-dsimp only[go_sem,hc,h1,h2];refine(h k hlt).mono ?_;rintro r st ⟨rfl,rfl⟩;simp-dsimp only[go_sem];refine(G1r _ _ p _ (hw k hlt).1 (hw k hlt).2).mono ?_;rintro r st ⟨rfl,rfl⟩;have hmw:wI (opI 2 (x k) (y k) p).1:=J0p (Z0y _ _ _ _);by_cases hm:(opI 2 (x k) (y k) p).2=0;rw[if_neg (fun hh=>hh hm)] at hstep;rw[hm];have z1:((0:Int)==0)=true:=rfl;have z2:((0:Int) !=0)=false:=rfl;by_cases h0:k=0;rw[if_pos h0] at hstep;have g1:decide ((k:Int)>0)=false:=q_g (by omega);simp-dsimp only[go_sem,z1,z2,g1,e3,hlim];refine⟨n-(k+1),by omega,k+1,rfl,by omega,by rw[hstep];exact hm,?_⟩;rw[hstep];rw[if_neg h0] at hstep;have g1:decide ((k:Int)>0)=true:=q_h (by omega);simp-dsimp only[go_sem,z1,z2,g1];refine(K1l _ _ p _ hdk hmw).mono ?_;rintro r st ⟨rfl,rfl⟩;by_cases ha:(opI 0 (dotF x y p k).1 (opI 2 (x k) (y k) p).1 p).2=0;rw[if_neg (fun hh=>hh ha)] at hstep;rw[ha];simp-dsimp only[go_sem,z2,e3,hlim];refine⟨n-(k+1),by omega,k+1,rfl,by omega,by rw[hstep];exact ha,?_⟩;rw[hstep];rw[if_pos ha] at hstep;have hq:=hend _ ha hstep;have g2:((opI 0 (dotF x y p k).1 (opI 2 (x k) (y k) p).1 p).2 !=0)=true:=(by simpa using ha);rw[hq];simp-dsimp only[go_sem,g2];rfl;rw[if_pos hm] at hstep;have hq:=hend _ hm hstep;have g1:((opI 2 (x k) (y k) p).2==0)=false:=(by simpa using hm);have g2:((opI 2 (x k) (y k) p).2 !=0)=true:=(by simpa using hm);rw[hq];simp-dsimp only[go_sem,g1,g2];rfl;have hge:k=n:=(by have:=q_c h';omega);subst hge;simp-dsimp only[go_sem];refine Q0a ?_;simp-dsimp only[go_sem];rw[hz]
theorem Y0d :Q0o default=true:=by decide
theorem W2o (x y:Nat->Ivl)(p:Int): ∀k,Q0o (dotF x y p k).1=true
 | 0=>Y0d
 | k+1=>by unfold dotF;split;exact Y0d;split;exact Y0d;split;exact Z0y _ _ _ _;split;exact Y0d;exact Z0y _ _ _ _
theorem q2h (k:Nat)(r b:List Ivl)(st:Q0e)(ai:k<r.length)(bi:k<b.length):
 PCalls Tryz.prog 87 ([.sc (.int .i64 k)]++ [.ep [.sl .no (Q0t r)] 0,.ep [.sl .no (Q0t b)] 0]) st (fun q st'=>q= .tup [.agg (encI (r.getD k default)),.agg (encI (b.getD k default))]/\st'=st):=by
 have e1:=X0b r k ai;have e2:=X0b b k bi;refine Q0b none Tryz.func87 rfl fun E=>Q0a ?_;simp-dsimp only[go_sem];refine Q0p Z0n 14 (.step 0 [] (.step 1 [] (.step 2 [] (.step 3 [] (.step 4 [] (.step 5 [] (.step 6 [] (.step 7 [] (.step 8 [4,7] (.step 9 [] (.done))))))))))) (by decide+kernel) (by simp) ?_;simp-dsimp only[go_sem,e1,e2];exact⟨by omega,by omega⟩
theorem Q3i (m:Mx)(b:List Ivl)(p:Int)(st:Q0e)(hm:wM m)(hb:wB b):PCalls Tryz.prog 28 [.sl .no (encM m),.sl .no (Q0t b),.sc (.int .i64 p)] st (fun r st'=>r= .tup [.sl .no (Q0t (vecM m b p).1),.sc (.int .i64 (vecM m b p).2)]/\st'=st):=by
 refine Q0b none Tryz.func28 rfl fun E=>Q0g (Q0a ?_);simp-dsimp only[go_sem];refine Z0q 0 ?_ ?_;simp-dsimp only[go_sem];refine Q0a ?_;simp-dsimp only[go_sem];refine(Q1d m m p _ hm hm).mono ?_;rintro r st ⟨rfl,rfl⟩;cases hv:X1t m m p with
 | false=>
  simp-dsimp only[go_sem];rw[vecM,if_neg (fun hh=>by rw[validM_iff.2 ⟨hh.1,hh.1,rfl,hh.2.2.2⟩] at hv;cases hv)];rfl
 | true=>
  obtain⟨v1,v2,v3,v4⟩:=validM_iff.1 hv;have hl:=W0u v1;simp-dsimp only[go_sem];refine(Q1x b _ hb).mono ?_;rintro r st ⟨rfl,rfl⟩;cases r1:rightB b with
  | false=>
   simp-dsimp only[go_sem];rw[vecM,if_neg (fun hh=>by simp[r1] at hh)];rfl
  | true=>
   by_cases hn:m.length=b.length;have f1:((b.length:Int) !=(m.length:Int))=false:=(by rw[hn];simp);have hM:vecM m b p=tabF (fun i=>dotF (atM m i) (fun k=>b.getD k default) p b.length) 0 m.length []:=if_pos ⟨v1,r1,hn,v4⟩;rw[hM];simp-dsimp only[go_sem,f1];refine Z0j 8 6 ?_;simp-dsimp only[go_sem];refine Q0u [false,false,true,false,true,false,false,false,true,false,false,false,false,false,false,false,false,false,false,false,false,false,false,false,false,false,false,false,false,false,true,true,true] 1 1
    (fun k s=> ∃(i:Nat) (o:List Ivl),k=m.length-i/\i<=m.length/\o.length=i/\tabF (fun i=>dotF (atM m i) (fun k=>b.getD k default) p b.length) 0 m.length []=tabF (fun i=>dotF (atM m i) (fun k=>b.getD k default) p b.length) i (m.length-i) o/\
     s=⟨[.junk,.junk,.sc (.int .i64 p),.junk,.ep [.sl .no (Q0t b)] 0,.junk,.junk,.junk,.sl (.own 0) (Q0t o),.junk,.junk,.junk,.junk,.junk,.junk,.junk,.junk,.junk,.junk,.junk,.junk,.junk,.junk,.junk,.junk,.junk,.junk,.junk,.junk,.junk,.sl .no (encM m),.sc (.int .i64 m.length),.sc (.int .i64 (i:Nat))]++List.replicate 20 .junk,[[]],[(o.length,6)],st⟩) m.length ?_ ?_
   simp-dsimp only[go_sem];exact⟨0,[],by omega,by omega,rfl,rfl,rfl⟩;rintro k s ⟨i,o,rfl,hi,ho,hr,rfl⟩;refine Q0g (Q0a ?_);simp-dsimp only[go_sem];refine Q0g (Q0a ?_);simp-dsimp only[go_sem];refine ck (fun h'=> ?_) (fun h'=> ?_);have hlt:i<m.length:=(by have:=q_b h';omega);have e1:=U0b m i hlt;have e3:=V0g i (by omega);have e4:=W0h (fun i=>dotF (atM m i) (fun k=>b.getD k default) p b.length) hlt o;obtain⟨q1,q2⟩:=U0g v1 hlt;simp-dsimp only[go_sem];refine Q0g (Z0v (Q0g (Q0a ?_)));simp-dsimp only[go_sem,e1];refine⟨by omega,?_⟩;refine Z0q 1 ?_ ?_;simp-dsimp only[go_sem];simp-dsimp only[go_sem];refine Q0a ?_;simp-dsimp only[go_sem];refine(w1m _ [.ep [.sl .no (Q0t (m.getD i []))] 0,.ep [.sl .no (Q0t b)] 0] (atM m i) (fun k=>b.getD k default) b.length p st rfl (by omega) rfl rfl rfl rfl (fun _=>rfl)
    (fun k hk=>⟨(hm.2 i hlt).2 k (by omega),hb.2 k hk⟩) (fun k=>J0p (W2o _ _ _ _))
    fun k hk=>q2h k (m.getD i []) b st (by omega) hk).mono ?_
   rintro r st ⟨rfl,rfl⟩;simp-dsimp only[go_sem];refine ck (fun h2=> ?_) (fun h2=> ?_);have hne:=z0b h2;simp-dsimp only[go_sem];rw[hr,e4,if_pos hne];rfl;have he:=z0m h2;simp-dsimp only[go_sem];refine⟨⟨by omega,by omega⟩,Q0a ?_⟩;simp-dsimp only[go_sem,e3];refine⟨m.length-(i+1),by omega,i+1,o++ [(dotF (atM m i) (fun k=>b.getD k default) p b.length).1],rfl,by omega,by simp[ho],?_,?_⟩;rw[hr,e4,if_neg (fun hh=>hh he)];simp[Q0t,encI];have hge:i=m.length:=(by have:=q_c h';omega);simp-dsimp only[go_sem];refine Q0a ?_;simp-dsimp only[go_sem];rw[hr,hge,Y0x];have f1:((b.length:Int) !=(m.length:Int))=true:=(by rw[bne_iff_ne];omega);simp-dsimp only[go_sem,f1];rw[vecM,if_neg (fun hh=>hn hh.2.2.1)];rfl
end Go.Pv
end
