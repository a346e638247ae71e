/- Parts of the walk: N158. -/
import Derived.Test.YtofoadghajnglaaGreatDoorQFL
import Derived.Test.YtofoadghajnglaaGreatDoorQFQ
import Derived.Test.YtofoadghajnglaaGreatDoorQFR
import Derived.Test.YtofoadghajnglaaGreatDoorQAR
import Derived.Test.YtofoadghajnglaaGreatDoorQFE
set_option linter.unusedVariables false
set_option linter.unusedSimpArgs false
section
/-InvOnes. -/
set_option maxRecDepth 100000
namespace Go.Pv
open Go.Proofs
def encK (l:List Nat):List PV:=l.map fun(i:Nat)=>PV.sc (.int .i64 (i:Int))
theorem V0x (l:List Nat):(encK l).length=l.length:=List.length_map _
theorem W2k (l:List Nat) (i:Nat) (h:i<l.length):(encK l).getD i .junk= .sc (.int .i64 ((l.getD i 0:Nat):Int)):=by
 unfold encK
 rw [List.getD_eq_getElem?_getD,List.getElem?_map,List.getD_eq_getElem?_getD,List.getElem?_eq_getElem h];rfl
theorem Z1w (l:List Nat):((encK l).all fun x=>x.cells.length==1)=true:=by
 rw [List.all_eq_true]
 intro x hx
 simp only [encK,List.mem_map] at hx
 obtain⟨i,_,rfl⟩:=hx
 rfl
theorem V1c (l:List Nat):((encK l).all fun x=>x.cells.length==1&&x.cells.all PV.cellOK)=true:=by
 rw [List.all_eq_true]
 intro x hx
 simp only [encK,List.mem_map] at hx
 obtain⟨i,_,rfl⟩:=hx
 rfl
theorem Q2b (w:Nat) (l:List Nat):List.take w (encK l)=encK (l.take w):=by unfold encK;rw [List.map_take]
theorem Q2c (w:Nat) (l:List Nat):List.drop w (List.take l.length (encK l))=encK (l.drop w):=by
 rw [List.take_of_length_le (by rw [V0x];exact Nat.le_refl _)]
 unfold encK;rw [List.map_drop]
theorem W2l (a b:List Nat):encK a++encK b=encK (a++b):=by unfold encK;rw [List.map_append]
theorem w1e {n i:Nat} {ids:List Nat} (h:i<ids.length):(ids.map fun k=>PV.ms true k 0 n).getD i .junk= .ms true (ids.getD i 0) 0 n:=by
 rw [List.getD_eq_getElem?_getD,List.getElem?_map,List.getD_eq_getElem?_getD,List.getElem?_eq_getElem h];rfl
def upR (n:Nat):List Nat:=List.range n
def upK (i:Nat):List PV:=encK (upR i)
theorem X2e (i:Nat):upK i++ [.sc (.int .i64 (i:Int))]=upK (i+1):=by
 unfold upK upR encK
 rw [List.range_succ,List.map_append];rfl
theorem q1n (i:Nat):(upK i).length=i:=by unfold upK upR;rw [V0x,List.length_range]
theorem H2j (i:Nat):((upK i).all fun x=>x.cells.length==1)=true:=Z1w _
def topK (n:Nat) (ids:List Nat):List PV:=(ids.map fun k=>PV.ms true k 0 n)++List.replicate (n-ids.length) (.sl .full [])
def rowZ (n:Nat):List PV:=repC n [.sc (.bool false),.sc (.int .i64 0),.sl .full []]
def topX (n:Nat) (ids:List Nat) (x:PV):List PV:=(ids.map fun k=>PV.ms true k 0 n)++x::List.replicate (n-(ids.length+1)) (.sl .full [])
theorem G0w {n:Nat} {ids:List Nat} (h:ids.length≤n):(topK n ids).length=n:=by unfold topK;simp;omega
theorem X1o {n i:Nat} {ids:List Nat} (x:PV) (hl:ids.length=i) (h:i<n):over (topK n ids) i [x]=topX n ids x:=by
 unfold topK topX over
 rw [List.take_append_of_le_length (by simp [hl]),List.take_of_length_le (by simp [hl]),List.drop_append,List.drop_eq_nil_of_le (by simp [hl]),List.nil_append,List.length_map,hl,List.length_singleton,Nat.add_sub_cancel_left,List.drop_replicate]
 simp [Nat.sub_sub]
theorem X2i {n i k:Nat} {ids:List Nat} (x:PV):(topX n ids x).map (PV.giv i k)=topX n ids (x.giv i k):=by
 unfold topX
 rw [List.map_append,List.map_cons,List.map_replicate,List.map_map];rfl
theorem Q1t {n k:Nat} {ids:List Nat} :topX n ids (.ms true k 0 n)=topK n (ids++ [k]):=by
 unfold topX topK
 simp
theorem U0r {n a b:Nat} {ids:List Nat} {x:PV} (hx:x.lim a b=true):(topX n ids x).all (PV.lim a b)=true:=by
 unfold topX
 rw [List.all_append,List.all_cons,hx,Bool.true_and,Bool.and_eq_true,List.all_eq_true,List.all_eq_true]
 refine⟨fun y hy=> ?_,fun y hy=> ?_⟩
 · simp only [List.mem_map] at hy
   obtain⟨z,_,rfl⟩:=hy
   rfl
 · rw [List.mem_replicate] at hy
   rw [hy.2];rfl
theorem H2x (n:Nat):fzOK (rowZ n)=true:=y1m rfl
theorem H2w {n:Nat} (h:1≤n):rowZ n≠ []:=fun e=>by
 have:=congrArg List.length e
 unfold rowZ at this
 rw [G1p] at this
 simp at this;omega
theorem W1p (n:Nat):(rowZ n).map PV.forget2=rowC (List.replicate n default):=by
 unfold rowZ
 rw [Z1c]
 exact U2h n
theorem J2c (n i k:Nat):(rowZ n).map (PV.giv i k)=rowZ n:=by
 unfold rowZ
 rw [Z1c];rfl
theorem J2b (n a b:Nat):(rowZ n).all (PV.lim a b)=true:=by
 unfold rowZ repC
 rw [List.all_eq_true]
 intro x hx
 rw [List.mem_flatten] at hx
 obtain⟨l,hl,hx⟩:=hx
 rw [List.mem_replicate] at hl
 rw [hl.2] at hx
 simp only [List.mem_cons,List.not_mem_nil,or_false] at hx
 rcases hx with rfl | rfl | rfl<;>rfl
structure Made (Y:Q0c) (n i:Nat) (ia ib:List Nat):Prop where
 len:Y.length=2*i
 row: ∀k,k<2*i→Y.getD k []=rowC (List.replicate n default)
 la:ia.length=i
 lb:ib.length=i
 ids: ∀j,j<i→(ia.getD j 0=2*j∧ib.getD j 0=2*j+1)∨(ia.getD j 0=2*j+1∧ib.getD j 0=2*j)
theorem Made.step {Y:Q0c} {n i a b:Nat} {ia ib:List Nat} (h:Made Y n i ia ib) (hab:(a=Y.length∧b=Y.length+1)∨(a=Y.length+1∧b=Y.length)):
 Made (Y++ [rowC (List.replicate n default)]++ [rowC (List.replicate n default)]) n (i+1) (ia++ [a]) (ib++ [b]):=by
 have hl:=h.len
 refine⟨by simp;omega,fun k hk=> ?_,by simp [h.la],by simp [h.lb],fun j hj=> ?_⟩
 · by_cases e:k<2*i
   · rw [List.append_assoc,Q0f _ _ _ _ (by omega)]
     exact h.row k e
   · rw [List.append_assoc,Q0h _ _ _ _ (by omega)]
     have:k-Y.length=0∨k-Y.length=1:=by omega
     rcases this with e | e<;>rw [e]<;>rfl
 · rw [z0x,z0x,h.la,h.lb]
   by_cases e:j=i
   · rw [if_pos e,if_pos e];omega
   · rw [if_neg e,if_neg e]
     exact h.ids j (by omega)
theorem X1p {n:Nat} {ids:List Nat} (h:ids.length=n):topK n ids=ids.map fun k=>PV.ms true k 0 n:=by
 unfold topK
 rw [h,Nat.sub_self];simp
theorem X2j {n i k:Nat} {ids:List Nat} :(topK n ids).map (PV.giv i k)=topK n ids:=by
 unfold topK
 rw [List.map_append,List.map_replicate,List.map_map];rfl
theorem j0t {n:Nat} {ids:List Nat} (h:ids.length=n):(topK n ids).map PV.forget2=ids.map fun k=>PV.ms true k 0 n:=by
 rw [X1p h,List.map_map];rfl
theorem j1s {n:Nat} {ids:List Nat} (h:ids.length=n):fzOK (topK n ids)=true:=by
 rw [X1p h]
 unfold fzOK
 rw [List.all_eq_true]
 intro x hx
 simp only [List.mem_map] at hx
 obtain⟨z,_,rfl⟩:=hx
 rfl
theorem j1r {n:Nat} {ids:List Nat} (h:ids.length=n) (h1:1≤n):topK n ids≠ []:=fun e=>by
 have:=congrArg List.length e
 rw [G0w (by omega)] at this
 simp at this;omega
theorem Made.pair {Y:Q0c} {n:Nat} {ia ib:List Nat} (h:Made Y n n ia ib):
 PairO 0 n (Y++ [ia.map fun k=>PV.ms true k 0 n]++ [ib.map fun k=>PV.ms true k 0 n]) Y.length ia (Y.length+1) ib (matA n []) (matT n []):=by
 have hl:=h.len
 have hia: ∀j,j<n→ia.getD j 0<2*n∧ia.getD j 0/2=j:=fun j hj=>by have:=h.ids j hj;omega
 have hib: ∀j,j<n→ib.getD j 0<2*n∧ib.getD j 0/2=j:=fun j hj=>by have:=h.ids j hj;omega
 have mem: ∀(l:List Nat),l.length=n→ ∀x∈l,∃j,j<n∧l.getD j 0=x:=fun l hl x hx=>by
  obtain⟨j,hj,he⟩:=List.mem_iff_getElem.1 hx
  exact⟨j,by omega,by rw [List.getD_eq_getElem?_getD,List.getElem?_eq_getElem hj];exact he⟩
 have la:(matA n []).length=n:=(Y1p n []).1
 have lt:(matT n []).length=n:=(Y1n n []).1
 have row: ∀k,k<2*n→RowAt (Y++ [ia.map fun k=>PV.ms true k 0 n]++ [ib.map fun k=>PV.ms true k 0 n]) k (rowC (List.replicate n default)):=fun k hk=>by
  refine⟨by simp;omega,[],?_⟩
  rw [List.append_assoc,Q0f _ _ _ _ (by omega),List.append_nil]
  exact h.row k hk
 have ga: ∀j,j<n→((matA n []).map rowC).getD j []=rowC (List.replicate n default):=fun j hj=>by
  rw [w1q,List.map_replicate,List.getD_eq_getElem?_getD,List.getElem?_replicate,if_pos hj];rfl
 have gt: ∀j,j<n→((matT n []).map rowC).getD j []=rowC (List.replicate n default):=fun j hj=>by
  rw [w1j,List.map_replicate,List.getD_eq_getElem?_getD,List.getElem?_replicate,if_pos hj];rfl
 refine⟨⟨fun r hr=>by rw [la];exact((Y1p n []).2 r hr).1,?_⟩,⟨fun r hr=>by rw [lt];exact((Y1n n []).2 r hr).1,?_⟩,la,lt,by omega,fun hm=> ?_,fun hm=> ?_,fun x hx hx2=> ?_,Nat.zero_le _,Nat.zero_le _,fun _ _=>Nat.zero_le _,fun _ _=>Nat.zero_le _⟩
 · rw [la]
   refine⟨h.la,by rw [List.length_map,la],⟨by simp,[],?_⟩,fun j hj=> ?_,fun hm=> ?_,fun i j hi hj hij e=> ?_⟩
   · rw [List.append_assoc,Q0h _ _ _ _ (Nat.le_refl _),Nat.sub_self,List.append_nil];rfl
   · rw [ga j hj]
     exact row _ (hia j hj).1
   · obtain⟨j,hj,he⟩:=mem ia h.la _ hm
     have:=(hia j hj).1
     omega
   · have h1:=(hia i (by rw [←h.la];exact hi)).2
     have h2:=(hia j (by rw [←h.la];exact hj)).2
     rw [e] at h1;omega
 · rw [lt]
   refine⟨h.lb,by rw [List.length_map,lt],⟨by simp,[],?_⟩,fun j hj=> ?_,fun hm=> ?_,fun i j hi hj hij e=> ?_⟩
   · rw [Q0h _ _ _ _ (by simp),List.append_nil]
     simp
   · rw [gt j hj]
     exact row _ (hib j hj).1
   · obtain⟨j,hj,he⟩:=mem ib h.lb _ hm
     have:=(hib j hj).1
     omega
   · have h1:=(hib i (by rw [←h.lb];exact hi)).2
     have h2:=(hib j (by rw [←h.lb];exact hj)).2
     rw [e] at h1;omega
 · obtain⟨j,hj,he⟩:=mem ib h.lb _ hm
   have:=(hib j hj).1
   omega
 · obtain⟨j,hj,he⟩:=mem ia h.la _ hm
   have:=(hia j hj).1
   omega
 · obtain⟨i,hi,he⟩:=mem ia h.la _ hx
   obtain⟨j,hj,he2⟩:=mem ib h.lb _ hx2
   have h1:=(hia i hi).2
   have h2:=(hib j hj).2
   rw [he] at h1
   rw [he2] at h2
   have e:i=j:=by omega
   subst e
   have:=h.ids i hi
   omega
set_option maxHeartbeats 2000000 in
theorem K1n (k p:Nat) (hk:k<65536) (hp:p<256):PCalls Tryz.prog 7 [.sc (.int .u16 k),.sc (.int .u8 p)] [] (fun r st'=>r= .sc (.bool true)):=by
 obtain⟨n,hn⟩: ∃n,n=1+k % 4:=⟨_,rfl⟩
 obtain⟨q,hq⟩: ∃q,q=8+p % 60:=⟨_,rfl⟩
 have x1:IntKind.i64.wrap ((k:Int))=(k:Int):=Q0u _ (by omega) (by omega)
 have x2:IntKind.i64.wrap ((p:Int))=(p:Int):=Q0u _ (by omega) (by omega)
 have x3:(k:Int).tmod 4=((k % 4:Nat):Int):=(Int.ofNat_tmod _ _).symm
 have x4:(p:Int).tmod 60=((p % 60:Nat):Int):=(Int.ofNat_tmod _ _).symm
 have x5:IntKind.i64.wrap (1+((k % 4:Nat):Int))=(n:Int):=by rw [Q0u _ (by omega) (by omega)];omega
 have x6:IntKind.i64.wrap (8+((p % 60:Nat):Int))=(q:Int):=by rw [Q0u _ (by omega) (by omega)];omega
 have x7:(k:Int).tdiv 4=((k/4:Nat):Int):=(Int.ofNat_tdiv _ _).symm
 have hn1:1≤n:=by omega
 have hn4:n≤4:=by omega
 refine Q0b none Tryz.func7 rfl fun E=>Q0a ?_
 simp -dsimp only [go_sem]
 refine(V2c _).mono ?_
 rintro res st' ⟨rfl,rfl⟩
 simp -dsimp only [go_sem,x1,x2,x3,x4,x5,x6]
 refine Y0y 7 1 ?_
 simp -dsimp only [go_sem]
 refine Q0e [true,false,false,false,false,true,true,true,true] 0 1
  (fun m s=> ∃(i:Nat),m=n-i∧i≤n∧s=⟨[.sc (.int .u16 k),.junk,.junk,.junk,.junk,.sc (.int .i64 n),.sc (.int .i64 q),.sl (.own 0) (upK i),.sc (.int .i64 (i:Nat))]++List.replicate 124 .junk,[],[(i,1)],[]⟩) n ?_ ?_
 · simp -dsimp only [go_sem]
   exact⟨0,by omega,by omega,rfl⟩
 rintro m s ⟨i,rfl,hi,rfl⟩
 simp -dsimp only [go_sem]
 refine ck (fun h1=> ?_) (fun h1=> ?_)
 · have hlt:i<n:=by have:=of_decide_eq_true h1;omega
   have y1:=K0f i (by omega)
   have y2:=X2e i
   have y3:=q1n i
   have y4:=H2j i
   simp -dsimp only [go_sem,y1,y2,y3,y4]
   exact⟨⟨by omega,by omega⟩,n-(i+1),by omega,i+1,rfl,by omega,rfl⟩
 have hge:n=i:=by have:=of_decide_eq_false h1;omega
 subst hge
 simp -dsimp only [go_sem]
 refine J1s [false,false,false,false,false,false,false,true] ?_
 refine Q0a ?_
 simp -dsimp only [go_sem]
 refine⟨⟨by omega,by omega,by omega⟩,⟨by omega,by omega,by omega⟩,?_⟩
 refine X0x [true,false,false,false,false,true,true,true,false,true,true,true] 2 0
  (fun m s=> ∃(i:Nat) (ia ib:List Nat) (Y:Q0c),m=n-i∧i≤n∧Made Y n i ia ib∧s=⟨[.sc (.int .u16 k),.junk,.junk,.junk,.junk,.sc (.int .i64 n),.sc (.int .i64 q),.sl .no (upK n),.junk,.ms false 0 0 n,.ms false 1 0 n,.sc (.int .i64 (i:Nat))]++List.replicate 121 .junk,[topK n ia,topK n ib],[],Y⟩) n ?_ ?_
 · have hl: ∀(l:List Nat),l.length≤n→(List.replicate n (PV.sl .full [])).all (PV.lim 2 0)=true:=fun _ _=>by
    rw [List.all_eq_true]
    intro y hy
    rw [List.mem_replicate] at hy
    rw [hy.2];rfl
   simp -dsimp only [go_sem]
   exact⟨hl [] (by simp),0,[],[],[],by omega,by omega,⟨rfl,fun k hk=>by omega,rfl,rfl,fun j hj=>by omega⟩,rfl⟩
 rintro m s ⟨i,ia,ib,Y,rfl,hi,hM,rfl⟩
 refine Q0l (Q0a ?_)
 simp -dsimp only [go_sem]
 refine ck (fun h1=> ?_) (fun h1=> ?_)
 · have hlt:i<n:=by have:=of_decide_eq_true h1;omega
   have y1:=K0f i (by omega)
   have ea:=G0w (n:=n) (ids:=ia) (by rw [hM.la];omega)
   have eb:=G0w (n:=n) (ids:=ib) (by rw [hM.lb];omega)
   simp -dsimp only [go_sem]
   refine W0e [true,false,false,false,false,true,true,true,false,true,true,true] 4 0
    (fun s=>s=⟨[.sc (.int .u16 k),.junk,.junk,.junk,.junk,.sc (.int .i64 n),.sc (.int .i64 q),.sl .no (upK n),.junk,.ms false 0 0 n,.ms false 1 0 n,.sc (.int .i64 (i:Nat))]++List.replicate 121 .junk,[topX n ia (.ms false 2 0 n),topX n ib (.ms false 3 0 n),rowZ n,rowZ n],[],Y⟩∨s=⟨[.sc (.int .u16 k),.junk,.junk,.junk,.junk,.sc (.int .i64 n),.sc (.int .i64 q),.sl .no (upK n),.junk,.ms false 0 0 n,.ms false 1 0 n,.sc (.int .i64 (i:Nat))]++List.replicate 121 .junk,[topX n ia (.ms false 3 0 n),topX n ib (.ms false 2 0 n),rowZ n,rowZ n],[],Y⟩) ?_ ?_
   · have o1:=fun x=>X1o x hM.la hlt
     have o2:=fun x=>X1o x hM.lb hlt
     simp -dsimp only [go_sem]
     refine Q0q X0b 133 (.step 0 [] (.step 1 [] (.step 2 [] (.step 3 [] (.step 4 [] (.step 6 [] (.alt (.step 5 [] (.step 8 [] (.alt (.step 7 [] (.step 9 [] (.step 10 [] (.step 11 [] (.done))))) (.step 9 [] (.step 7 [] (.step 10 [] (.step 11 [] (.done)))))))) (.step 7 [] (.step 5 [] (.step 8 [] (.step 9 [] (.step 10 [] (.step 11 [] (.done)))))))))))))) (by decide+kernel) (by simp) ?_
     simp -dsimp only [go_sem,ea,eb,o1,o2]
     have l1: ∀ids,(topX n ids (.ms false 2 0 n)).all (PV.lim 4 0)=true:=fun ids=>U0r rfl
     have l2: ∀ids,(topX n ids (.ms false 3 0 n)).all (PV.lim 4 0)=true:=fun ids=>U0r rfl
     have l3:=J2b n 4 0
     repeat' refine And.intro ?_ ?_
     all_goals first
      | omega
      | exact l1 _
      | exact l2 _
      | exact l3
      | exact .inl rfl
      | exact .inr rfl
   have hz:=H2x n
   have hzne:=H2w hn1
   have f1:=W1p n
   have f2:=fun a b=>J2c n a b
   have f3:=fun ids x a b=>X2i (n:=n) (i:=a) (k:=b) (ids:=ids) x
   rintro s (rfl | rfl)
   · refine K0c 2 hz hzne ?_
     simp -dsimp only [go_sem,f1,f2,f3]
     refine K0c 3 hz hzne ?_
     simp -dsimp only [go_sem,f1,f2,f3]
     refine Q0a ?_
     simp -dsimp only [go_sem,y1]
     exact⟨⟨U0r rfl,U0r rfl⟩,n-(i+1),by omega,i+1,_,_,_,rfl,by omega,hM.step (a:=Y.length) (b:=Y.length+1) (.inl ⟨rfl,rfl⟩),by rw [Q1t,Q1t]⟩
   · refine K0c 2 hz hzne ?_
     simp -dsimp only [go_sem,f1,f2,f3]
     refine K0c 3 hz hzne ?_
     simp -dsimp only [go_sem,f1,f2,f3]
     refine Q0a ?_
     simp -dsimp only [go_sem,y1]
     exact⟨⟨U0r rfl,U0r rfl⟩,n-(i+1),by omega,i+1,_,_,_,rfl,by omega,hM.step (a:=Y.length+1) (b:=Y.length) (.inr ⟨rfl,rfl⟩),by rw [Q1t,Q1t]⟩
 have hge:n=i:=by have:=of_decide_eq_false h1;omega
 subst hge
 simp -dsimp only [go_sem]
 have g1:=j1s hM.la
 have g2:=j1r hM.la hn1
 have g3:=j0t hM.la
 have g4:=j1s hM.lb
 have g5:=j1r hM.lb hn1
 have g6:=j0t hM.lb
 have g7:=fun ids a b=>X2j (n:=n) (i:=a) (k:=b) (ids:=ids)
 have hP:=hM.pair
 refine K0c 0 g1 g2 ?_
 simp -dsimp only [go_sem,g3,g7]
 refine K0c 1 g4 g5 ?_
 simp -dsimp only [go_sem,g6,g7]
 refine Q0a ?_
 have x8:IntKind.i64.wrap ((k/4:Nat):Int)=((k/4:Nat):Int):=Q0u _ (by omega) (by omega)
 simp -dsimp only [go_sem,x1,x7,x8]
 have tA:(Y++ [ia.map fun k=>PV.ms true k 0 n]++ [ib.map fun k=>PV.ms true k 0 n]).getD Y.length []=ia.map fun k=>PV.ms true k 0 n:=by
  rw [List.append_assoc,Q0h _ _ _ _ (Nat.le_refl _),Nat.sub_self];rfl
 have tB:(Y++ [ia.map fun k=>PV.ms true k 0 n]++ [ib.map fun k=>PV.ms true k 0 n]).getD (Y.length+1) []=ib.map fun k=>PV.ms true k 0 n:=by
  rw [Q0h _ _ _ _ (by simp)];simp
 revert hP tA tB
 generalize Y++ [ia.map fun k=>PV.ms true k 0 n]++ [ib.map fun k=>PV.ms true k 0 n]=st0
 generalize Y.length=A
 generalize A+1=B
 intro hP tA tB
 refine X0x [false,false,false,false,false,true,true,true,false,true,true,false,true,true] 0 0
  (fun m s=> ∃(i r:Nat) (sg left:List Nat) (st:Q0c),m=n-i∧i≤n∧sg.length=i∧(sg++left).Perm (upR n)∧r≤16384∧PairO 0 n st A ia B ib (matA n sg) (matT n sg)∧(st.getD A []=ia.map fun k=>PV.ms true k 0 n)∧(st.getD B []=ib.map fun k=>PV.ms true k 0 n)∧
   s=⟨[.junk,.junk,.junk,.junk,.junk,.sc (.int .i64 n),.sc (.int .i64 q),.sl .no (encK left),.junk,.ms true A 0 n,.ms true B 0 n,.junk,.sc (.int .i64 (r:Nat)),.sc (.int .i64 (i:Nat))]++List.replicate 119 .junk,[],[],st⟩) n ?_ ?_
 · simp -dsimp only [go_sem]
   exact⟨0,k/4,[],upR n,st0,by omega,by omega,rfl,.refl _,by omega,hP,tA,tB,rfl⟩
 clear hP tA tB
 rintro m s ⟨i,r,sg,left,st,rfl,hi,hsg,hperm,hr,hP,tA,tB,rfl⟩
 refine Q0l (Q0a ?_)
 simp -dsimp only [go_sem]
 refine ck (fun h1=> ?_) (fun h1=> ?_)
 · have hlt:i<n:=by have:=of_decide_eq_true h1;omega
   have y1:=K0f i (by omega)
   have hlen:=G1z hperm
   have hll:0<left.length:=by omega
   have hat':r % left.length<left.length:=Nat.mod_lt _ hll
   have hrd':r/left.length≤r:=Nat.div_le_self _ _
   have z0:=V0x left
   have z1:(r:Int).tmod ((left.length:Nat):Int)=((r % left.length:Nat):Int):=(Int.ofNat_tmod _ _).symm
   have z2:(r:Int).tdiv ((left.length:Nat):Int)=((r/left.length:Nat):Int):=(Int.ofNat_tdiv _ _).symm
   obtain⟨w,hw⟩: ∃w,w=r % left.length:=⟨_,rfl⟩
   obtain⟨r',hr'⟩: ∃w,w=r/left.length:=⟨_,rfl⟩
   rw [←hw] at z1 hat'
   rw [←hr'] at z2 hrd'
   have z3:IntKind.i64.wrap ((r':Nat):Int)=((r':Nat):Int):=Q0u _ (by omega) (by omega)
   have z4:=W2k left w hat'
   have z5:=K0f w (by omega)
   have z6:(((left.length:Nat):Int) !=0)=true:=bne_iff_ne.2 (by omega)
   have z7:=q2l hperm hat'
   have z8:=v1h hperm hat'
   have q1:=Q2b w left
   have q2:=Q2c (w+1) left
   have q3:=W2l (left.take w) (left.drop (w+1))
   have q4:=V0x (left.take w)
   have q5:=V0x (left.drop (w+1))
   have q6:=Z1w left
   have q7:=Z1w (left.take w)
   have q8:=V1c (left.take w)
   have q9:=V1c (left.drop (w+1))
   have q10:(left.take w).length=w:=by rw [List.length_take];omega
   have q11:(left.drop (w+1)).length=left.length-(w+1):=by rw [List.length_drop]
   simp -dsimp only [go_sem]
   refine Q0l (K0y ?_)
   refine Q0l (Q0a ?_)
   simp -dsimp only [go_sem,z0,z1,z6]
   refine Q0l (Q0a ?_)
   simp -dsimp only [go_sem,z0,z2,z3,z6]
   refine Q0l (Q0a ?_)
   simp -dsimp only [go_sem,z0,z4]
   refine⟨⟨by omega,hat'⟩,?_⟩
   refine Q0l (Q0a ?_)
   simp -dsimp only [go_sem]
   refine Q0q X0b 133 (.step 0 [] (.step 1 [] (.step 2 [] (.step 3 [] (.step 5 [] (.step 6 [] (.step 7 [] (.step 8 [] (.step 4 [] (.step 9 [] (.step 10 [] (.done)))))))))))) (by decide+kernel) (by simp) ?_
   simp -dsimp only [go_sem,z0,z5,q1,q2,q3,q4,q5,q6,q7,q8,q9,q10,q11]
   refine⟨⟨⟨by omega,by omega⟩,by omega⟩,⟨⟨by omega,by omega⟩,by omega⟩,⟨by omega,by omega⟩,⟨by omega,by omega⟩,?_⟩
   refine J1s [false,false,false,false,false,false,false,true] ?_
   generalize left.getD w 0=j at*
   have hla:=hP.qa.lid.trans hP.la
   have hlb:=hP.qr.lid.trans hP.lr
   have w1:(st.getD A []).getD i .junk= .ms true (ia.getD i 0) 0 n:=by rw [tA];exact w1e (by omega)
   have w2:(st.getD A []).length=n:=by rw [tA,List.length_map];exact hla
   obtain⟨hk1,R1,hR1⟩:=hP.qa.2.row i (by rw [hP.la];exact hlt)
   have e1:((matA n sg).map rowC).getD i []=rowC ((matA n sg).getD i []):=by
    rw [List.getD_eq_getElem?_getD,List.getElem?_map,List.getD_eq_getElem?_getD,List.getElem?_eq_getElem (show i<(matA n sg).length by rw [hP.la];exact hlt)];rfl
   rw [e1] at hR1
   have l1:((matA n sg).getD i []).length=n:=((Y1p n sg).row hlt).1
   have w3:n*3≤(st.getD (ia.getD i 0) []).length:=by rw [hR1,List.length_append,X0q,l1];omega
   have v1:over (st.getD (ia.getD i 0) []) (j*3) [.sc (.bool false),.sc (.int .i64 0),.sl .no [.sc (.int .u64 1)]]=rowC (((matA n sg).getD i []).set j oneN)++R1:=by
    rw [hR1]
    exact W0v ((matA n sg).getD i []) j R1 oneN (by rw [l1];exact z7)
   refine Q0l (Q0a ?_)
   simp -dsimp only [go_sem,w1,w2]
   refine⟨⟨by omega,hlt⟩,by omega,⟨by omega,z7⟩,⟨by omega,by omega⟩,?_⟩
   generalize hst1:List.set st _ _=st1
   have hia:ia.getD i 0∈ia:=X0n (by omega)
   have hP1:=(hP.setA hlt (x:=((matA n sg).getD i []).set j oneN) (by rw [List.length_set];exact l1) R1).1
   have hstep:=w1r (n:=n) (j:=j) (s:=sg) (by omega) z7
   rw [hsg] at hstep
   rw [v1] at hst1
   rw [hstep,hst1] at hP1
   have tA1:st1.getD A []=ia.map fun k=>PV.ms true k 0 n:=by rw [←hst1,Q0j _ _ _ _ _ (fun e=>hP.qa.2.na (by rw [←e];exact hia))];exact tA
   have tB1:st1.getD B []=ib.map fun k=>PV.ms true k 0 n:=by rw [←hst1,Q0j _ _ _ _ _ (fun e=>hP.bia (by rw [←e];exact hia))];exact tB
   have w4:(st1.getD B []).getD j .junk= .ms true (ib.getD j 0) 0 n:=by rw [tB1];exact w1e (by omega)
   have w5:(st1.getD B []).length=n:=by rw [tB1,List.length_map];exact hlb
   obtain⟨hk2,R2,hR2⟩:=hP1.qr.2.row j (by rw [hP1.lr];exact z7)
   have e2:((matT n sg).map rowC).getD j []=rowC ((matT n sg).getD j []):=by
    rw [List.getD_eq_getElem?_getD,List.getElem?_map,List.getD_eq_getElem?_getD,List.getElem?_eq_getElem (show j<(matT n sg).length by rw [hP1.lr];exact z7)];rfl
   rw [e2] at hR2
   have l2:((matT n sg).getD j []).length=n:=((Y1n n sg).row z7).1
   have w6:n*3≤(st1.getD (ib.getD j 0) []).length:=by rw [hR2,List.length_append,X0q,l2];omega
   have v2:over (st1.getD (ib.getD j 0) []) (i*3) [.sc (.bool false),.sc (.int .i64 0),.sl .no [.sc (.int .u64 1)]]=rowC (((matT n sg).getD j []).set i oneN)++R2:=by
    rw [hR2]
    exact W0v ((matT n sg).getD j []) i R2 oneN (by rw [l2];exact hlt)
   refine Q0a ?_
   simp -dsimp only [go_sem,w4,w5,y1]
   refine⟨⟨by omega,z7⟩,by omega,⟨by omega,hlt⟩,⟨by omega,by omega⟩,?_⟩
   generalize hst2:List.set st1 _ _=st2
   have hib:ib.getD j 0∈ib:=X0n (by omega)
   have hP2:=(hP1.setR z7 (x:=((matT n sg).getD j []).set i oneN) (by rw [List.length_set];exact l2) R2).1
   have hstep2:=w1k (n:=n) (j:=j) (s:=sg) (by omega) z7
   rw [hsg] at hstep2
   rw [v2] at hst2
   rw [hstep2,hst2] at hP2
   have tA2:st2.getD A []=ia.map fun k=>PV.ms true k 0 n:=by rw [←hst2,Q0j _ _ _ _ _ (fun e=>hP.aib (by rw [←e];exact hib))];exact tA1
   have tB2:st2.getD B []=ib.map fun k=>PV.ms true k 0 n:=by rw [←hst2,Q0j _ _ _ _ _ (fun e=>hP.qr.2.na (by rw [←e];exact hib))];exact tB1
   refine Q0a ?_
   simp -dsimp only [go_sem,y1]
   exact⟨n-(i+1),by omega,i+1,r',sg++ [j],left.take w++left.drop (w+1),st2,rfl,by omega,by rw [List.length_append,hsg];rfl,z8,by omega,hP2,tA2,tB2,rfl⟩
 have hge:n=i:=by have:=of_decide_eq_false h1;omega
 subst hge
 have hl0:left= []:=List.eq_nil_of_length_eq_zero (by have:=G1z hperm;omega)
 subst hl0
 rw [List.append_nil] at hperm
 have h4s:=J2t hn1 hn4 hperm
 have hpq:Z0b (q:Int)=true:=by unfold Z0b;simp;omega
 subst hsg
 rw [K2v,K2q] at hP
 simp -dsimp only [go_sem]
 have hlA:=(Y1g sg).1
 have hlT:=(v1m sg).1
 refine q0j (t:=9) hP.qa hlA hn1 tA rfl fun st1 hs1 ho1=> ?_
 simp -dsimp only [go_sem]
 have hq2:QO st1 B ib (btQ (ordT sg)):=hP.qr.mono (by omega) fun k hk=>ho1 k (fun e=> ?_) fun hm=> ?_
 rotate_left
 · rcases hk with rfl | hk
   · exact hP.ab e.symm
   · exact hP.aib (e▸hk)
 · rcases hk with rfl | hk
   · exact hP.bia hm
   · exact hP.ij _ hm hk
 have tB1:st1.getD B []=ib.map fun k=>PV.ms true k 0 sg.length:=by rw [ho1 B (fun e=>hP.ab e.symm) hP.bia];exact tB
 refine q0j (t:=10) hq2 hlT hn1 tB1 rfl fun st2 hs2 ho2=> ?_
 simp -dsimp only [go_sem]
 have sa:=Y1g sg
 have wa:wQs (btQ (ordM sg)):=⟨by rw [hlA];omega,fun i hi=>⟨by rw [(sa.row (by rw [←hlA];exact hi)).1];omega,fun j hj=>Q0x ((sa.row (by rw [←hlA];exact hi)).2 _ (Q0m _ _ _ hj))⟩⟩
 have wq:=sa.wQ hn4
 have wt:=(v1m sg).wQ hn4
 have ap:=w0g h4s hpq
 have su:=j1x h4s hpq
 have cA:=H0d (btQ (ordM sg)) (q:Int) st2 wa
 have cS:=v0g (btQ (ordM sg)) (q:Int) st2 wa
 rw [ap] at cA
 rw [su] at cS
 refine Q0a ?_
 simp -dsimp only [go_sem]
 refine cA.mono ?_
 rintro res st3 ⟨rfl,rfl⟩
 simp -dsimp only [go_sem]
 refine cS.mono ?_
 rintro res st3 ⟨rfl,rfl⟩
 simp -dsimp only [go_sem]
 have cR:=H2v (btQ (ordT sg)) (btQ (ordT sg)) st3 wt wt
 rw [decide_eq_true rfl] at cR
 have wM:=X2m (btQ (ordM sg)) (q:Int)
 rw [su] at wM
 have cM:=w1m (ofM (btQ (ordT sg))) (ofM (btQ (ordT sg))) st3 wM wM
 rw [decide_eq_true rfl] at cM
 refine cR.mono ?_
 rintro res st4 ⟨rfl,rfl⟩
 simp -dsimp only [go_sem]
 refine(w1o (btQ (ordT sg)) _ wt).mono ?_
 rintro res st5 ⟨rfl,rfl⟩
 simp -dsimp only [go_sem]
 refine cM.mono ?_
 rintro res st6 ⟨rfl,rfl⟩
 simp -dsimp only [go_sem]
end Go.Pv
end
