/- Parts of the walk: N66, N67, N68, N69, N70, N71, N72, N73, N74, N75. -/
import Derived.Test.YtagacielooaapaaGreatDoorZBQ
import Derived.Test.YtagacielooaapaaGreatDoorZAD
import Derived.Test.YtagacielooaapaaGreatDoorZAF
import Derived.Test.YtagacielooaapaaGreatDoorZBF
import Derived.Test.YtagacielooaapaaGreatDoorZAE
import Derived.Test.YtagacielooaapaaGreatDoorZH
import Derived.Test.YtagacielooaapaaGreatDoorZBJ
set_option linter.unusedVariables false
set_option linter.unusedSimpArgs false
section
/-A coefficient of a product of series. -/
set_option maxRecDepth 100000
namespace Go.Pv
open Go.Proofs
def V2p (p:Int):List (Ivl×Ivl)→Bool→Ivl→Ivl×Int
 | [],_,s=>(s,0)
 | x::l,sm,s=>
  if (opI 2 x.1 x.2 p).2=0 then
   if sm=true then
    if (opI 0 s (opI 2 x.1 x.2 p).1 p).2=0 then V2p p l true (opI 0 s (opI 2 x.1 x.2 p).1 p).1 else(default,(opI 0 s (opI 2 x.1 x.2 p).1 p).2)
   else V2p p l true (opI 2 x.1 x.2 p).1
  else(default,(opI 2 x.1 x.2 p).2)
def k2z (a b:List Ivl) (k:Nat):List (Ivl×Ivl):=(List.range (k+1)).map fun i=>(a.getD i default,b.getD (k-i) default)
def y2c (a:List Ivl) (k:Nat):Bool:=decide (k<a.length)&&(a.take (k+1)).all Q0h
def U4k (a b:List Ivl) (k:Nat) (p:Int):Ivl×Int:=if Z0l p=true∧y2c a k=true∧y2c b k=true then V2p p (k2z a b k) false default else(default,1)
def q4l (a b:List Ivl) (k:Nat):List (List PV):=(List.range (k+1)).map fun i=> [.agg (encI (a.getD i default)),.agg (encI (b.getD (k-i) default))]
theorem z0b (st X:Q0e) (i:Nat):(st++X).getD (st.length+i) []=X.getD i []:=by
 rw [List.getD_eq_getElem?_getD,List.getElem?_append_right (by omega),Nat.add_sub_cancel_left,←List.getD_eq_getElem?_getD]
theorem z0a (st X:Q0e):(st++X).getD st.length []=X.getD 0 []:=z0b st X 0
theorem H1o (st X:Q0e) (i:Nat) (v:List PV):(st++X).set (st.length+i) v=st++X.set i v:=by simp [List.set_append]
theorem H1n (st X:Q0e) (v:List PV):(st++X).set st.length v=st++X.set 0 v:=H1o st X 0 v
theorem w2f (n:Nat) (l:List UInt64):Low n (.sl .no (encW l)):=G2t fun e he c hc=>by
 obtain⟨x,_,rfl⟩:=List.mem_map.1 he
 simp only [PV.cells,List.mem_singleton] at hc
 subst hc;exact Y1c _ _
def q4z (a b:List Ivl) (k:Nat) (p:Int) (st:Q0e) (i:Nat) (st':Q0e):Prop:= ∃sm s,wI s∧V2p p ((k2z a b k).drop i) sm s=V2p p (k2z a b k) false default∧st'=st++ [[.sc (.int .i64 p)],encI default,[.sc (.int .i64 0)],encI s,[.sc (.bool sm)],[.sl .no (Q0m a)],[.sl .no (Q0m b)],[.sc (.int .i64 k)]]
def q4y (a b:List Ivl) (k:Nat) (p:Int) (st:Q0e) (c:Code) (st':Q0e):Prop:=c= .ret∧ ∃e X,V2p p (k2z a b k) false default=(default,e)∧st'=st++([.sc (.int .i64 p)]::encI default:: [.sc (.int .i64 e)]::X)
end Go.Pv
end
section
/-picard.Next,Sure,wider,next. -/
set_option maxRecDepth 100000
namespace Go.Pv
open Go.Proofs
def Z0m (f:List (List Mn)) (x a:List Ivl) (h:Nm) (p:Int):List Ivl×Int:=
 if V0z f=true∧rightB x=true∧rightB a=true∧x.length=f.length∧a.length=f.length∧Q0g h=true∧ ¬sgnN (ownN h)≤0∧Z0l p=true then
  if (Z0p f a p).2=0 then
   if (J0r ⟨default,h⟩ (Z0p f a p).1 p).2=0 then opB 0 x (J0r ⟨default,h⟩ (Z0p f a p).1 p).1 p else([],(J0r ⟨default,h⟩ (Z0p f a p).1 p).2)
  else([],(Z0p f a p).2)
 else([],1)
theorem J1s (f:List (List Mn)) (x a:List Ivl) (h:Nm) (p:Int) (st:Q0e) (hf:wF f) (hx:wB x) (ha:wB a) (hh:wN h):
 PCalls Tryz.prog 58 [.sl .no (X0k f),.sl .no (Q0m x),.sl .no (Q0m a),.agg (encN h),.sc (.int .i64 p)] st
 (fun r st'=>r= .tup [.sl .no (Q0m (Z0m f x a h p).1),.sc (.int .i64 (Z0m f x a h p).2)]∧st'=st):=by
 refine Q0b none Tryz.func58 rfl fun E=>Q0a ?_
 simp -dsimp only [go_sem]
 refine(Z1l f st hf).mono ?_
 rintro r st ⟨rfl,rfl⟩
 cases h1:V0z f with
 | false=>simp -dsimp only [go_sem];simp [Z0m,h1,Q0m]
 | true=>
 simp -dsimp only [go_sem]
 refine(K0g x st hx).mono ?_
 rintro r st ⟨rfl,rfl⟩
 cases h2:rightB x with
 | false=>simp -dsimp only [go_sem];simp [Z0m,h2,Q0m]
 | true=>
 simp -dsimp only [go_sem]
 refine(K0g a st ha).mono ?_
 rintro r st ⟨rfl,rfl⟩
 cases h3:rightB a with
 | false=>simp -dsimp only [go_sem];simp [Z0m,h3,Q0m]
 | true=>
 have bne: ∀ {m n:Nat},m≠n→((m:Int) !=(n:Int))=true:=fun h=>by rw [bne_iff_ne];omega
 have beq: ∀ {m n:Nat},m=n→((m:Int) !=(n:Int))=false:=fun h=>by subst h;simp
 by_cases h4:x.length=f.length
 rotate_left
 · simp -dsimp only [go_sem,bne h4]
   simp [Z0m,h4,Q0m]
 by_cases h5:a.length=f.length
 rotate_left
 · simp -dsimp only [go_sem,beq h4,bne h5]
   simp [Z0m,h5,Q0m]
 simp -dsimp only [go_sem,beq h4,beq h5]
 refine(K0x h st (by have:=hh;unfold wN at this;omega)).mono ?_
 rintro r st ⟨rfl,rfl⟩
 cases h6:Q0g h with
 | false=>simp -dsimp only [go_sem];simp [Z0m,h6,Q0m]
 | true=>
 simp -dsimp only [go_sem]
 refine(G2d h st (by have:=hh;unfold wN at this;omega)).mono ?_
 rintro r st ⟨rfl,rfl⟩
 by_cases h7:sgnN (ownN h)≤0
 · simp -dsimp only [go_sem,decide_eq_true h7]
   simp [Z0m,h7,Q0m]
 simp -dsimp only [go_sem,decide_eq_false h7]
 refine(j0b p st).mono ?_
 rintro r st ⟨rfl,rfl⟩
 cases h8:Z0l p with
 | false=>simp -dsimp only [go_sem];simp [Z0m,h8,Q0m]
 | true=>
 simp -dsimp only [go_sem]
 have hall:Z0m f x a h p=if (Z0p f a p).2=0 then
  if (J0r ⟨default,h⟩ (Z0p f a p).1 p).2=0 then opB 0 x (J0r ⟨default,h⟩ (Z0p f a p).1 p).1 p else([],(J0r ⟨default,h⟩ (Z0p f a p).1 p).2)
  else([],(Z0p f a p).2):=by unfold Z0m;rw [if_pos ⟨h1,h2,h3,h4,h5,h6,h7,h8⟩]
 rw [hall]
 refine(x1y f a p st hf ha).mono ?_
 rintro r st ⟨rfl,rfl⟩
 have w1:=K2a f a p hf.1
 generalize Z0p f a p=z at w1⊢
 by_cases hz:z.2=0
 rotate_left
 · have e:(z.2 !=0)=true:=by simp [hz]
   simp -dsimp only [go_sem,e]
   simp [hz,Q0m]
 have e:(z.2 !=0)=false:=by simp [hz]
 simp -dsimp only [go_sem,e]
 rw [if_pos hz]
 refine(V2t ⟨default,h⟩ z.1 p st ⟨by show wN ⟨false,0,[]⟩;simp [wN],hh⟩ w1).mono ?_
 rintro r st ⟨rfl,rfl⟩
 have w2:=x2x ⟨default,h⟩ z.1 p w1
 generalize J0r ⟨default,h⟩ z.1 p=u at w2⊢
 by_cases hu:u.2=0
 rotate_left
 · have e:(u.2 !=0)=true:=by simp [hu]
   simp -dsimp only [go_sem,e]
   simp [hu,Q0m]
 have e:(u.2 !=0)=false:=by simp [hu]
 simp -dsimp only [go_sem,e]
 rw [if_pos hu]
 refine(Q3w x u.1 p st hx w2).mono ?_
 rintro r st ⟨rfl,rfl⟩
 simp -dsimp only [go_sem]
theorem G1l (f:List (List Mn)) (x a:List Ivl) (h:Nm) (p:Int) (hx:wB x):wB (Z0m f x a h p).1:=by
 unfold Z0m
 split
 · split
   · split
     · exact K4y 0 x _ p hx
     · exact v0j
   · exact v0j
 · exact v0j
def U1m (f:List (List Mn)) (x a:List Ivl) (h:Nm) (p:Int):Bool:=decide ((Z0m f x a h p).2=0)&&inB (Z0m f x a h p).1 a
theorem J1r (f:List (List Mn)) (x a:List Ivl) (h:Nm) (p:Int) (st:Q0e) (hf:wF f) (hx:wB x) (ha:wB a) (hh:wN h):
 PCalls Tryz.prog 61 [.sl .no (X0k f),.sl .no (Q0m x),.sl .no (Q0m a),.agg (encN h),.sc (.int .i64 p)] st
 (fun r st'=>r= .sc (.bool (U1m f x a h p))∧st'=st):=by
 refine Q0b none Tryz.func61 rfl fun E=>Q0a ?_
 simp -dsimp only [go_sem]
 refine(J1s f x a h p st hf hx ha hh).mono ?_
 rintro r st ⟨rfl,rfl⟩
 have w:=G1l f x a h p hx
 unfold U1m
 generalize Z0m f x a h p=z at w⊢
 by_cases hz:z.2=0
 · have e:(z.2==0)=true:=by simp [hz]
   simp -dsimp only [go_sem,e]
   refine(y1e z.1 a st w ha).mono ?_
   rintro r st ⟨rfl,rfl⟩
   simp -dsimp only [go_sem]
   simp [hz]
 · have e:(z.2==0)=false:=by simp [hz]
   simp -dsimp only [go_sem,e]
   simp [hz]
def X0b (a b:List Ivl) (p:Int):List Ivl×Int:=if (Y0g a b).2=0 then G0i (Y0g a b).1 p else([],(Y0g a b).2)
theorem W1v (a b:List Ivl) (p:Int) (st:Q0e) (ha:wB a) (hb:wB b):PCalls Tryz.prog 132 [.sl .no (Q0m a),.sl .no (Q0m b),.sc (.int .i64 p)] st
 (fun r st'=>r= .tup [.sl .no (Q0m (X0b a b p).1),.sc (.int .i64 (X0b a b p).2)]∧st'=st):=by
 refine Q0b none Tryz.func132 rfl fun E=>Q0a ?_
 simp -dsimp only [go_sem]
 refine(z2s a b st ha hb).mono ?_
 rintro r st ⟨rfl,rfl⟩
 have w:=W2m ha hb
 unfold X0b
 generalize Y0g a b=z at w⊢
 by_cases hz:z.2=0
 · have e:(z.2 !=0)=false:=by simp [hz]
   simp -dsimp only [go_sem,e]
   refine(z2t z.1 p st w).mono ?_
   rintro r st ⟨rfl,rfl⟩
   simp -dsimp only [go_sem]
   rw [if_pos hz]
 · have e:(z.2 !=0)=true:=by simp [hz]
   simp -dsimp only [go_sem,e]
   simp [hz,Q0m]
theorem X1q (a b:List Ivl) (p:Int) (ha:wB a) (hb:wB b):wB (X0b a b p).1:=by
 unfold X0b
 split
 · exact K3h _ _ (W2m ha hb)
 · exact v0j
def K1x (f:List (List Mn)) (x:List Ivl) (h:Nm) (p:Int):List PV:= [.sl .no (X0k f),.sl .no (Q0m x)]++encN h++ [.sc (.int .i64 p)]
theorem J2p (f:List (List Mn)) (x a:List Ivl) (h:Nm) (p:Int) (st:Q0e) (hf:wF f) (hx:wB x) (ha:wB a) (hh:wN h):
 PCalls Tryz.prog 131 [.agg (K1x f x h p),.sl .no (Q0m a)] st
 (fun r st'=>r= .tup [.sl .no (Q0m (Z0m f x a h p).1),.sc (.int .i64 (Z0m f x a h p).2)]∧st'=st):=by
 refine Q0b none Tryz.func131 rfl fun E=>Q0a ?_
 simp -dsimp only [go_sem,K1x,List.cons_append,List.nil_append]
 refine(J1s f x a h p st hf hx ha hh).mono ?_
 rintro r st ⟨rfl,rfl⟩
 simp -dsimp only [go_sem]
end Go.Pv
end
section
/-picard's tries. -/
set_option maxRecDepth 100000
namespace Go.Pv
open Go.Proofs
def W0i (f:List (List Mn)) (x:List Ivl) (h:Nm) (p:Int):Nat→Bool→List Ivl→List (List Ivl×List Ivl)
 | 0,_,_=> []
 | n+1,yl,a=>
  if (Z0m f x a h p).2=0 then
   (if yl=true then [(a,(Z0m f x a h p).1)] else [])++(if (X0b a (Z0m f x a h p).1 p).2=0 then W0i f x h p n true (X0b a (Z0m f x a h p).1 p).1 else [])
  else []
theorem U0m (f:List (List Mn)) (x:List Ivl) (h:Nm) (p:Int) (n:Nat) (yl:Bool) (a:List Ivl):W0i f x h p (n+1) yl a=
 if (Z0m f x a h p).2=0 then
  (if yl=true then [(a,(Z0m f x a h p).1)] else [])++(if (X0b a (Z0m f x a h p).1 p).2=0 then W0i f x h p n true (X0b a (Z0m f x a h p).1 p).1 else [])
 else []:=rfl
theorem K3r (f:List (List Mn)) (x:List Ivl) (h:Nm) (p:Int) (st:Q0e):PCalls Tryz.prog 68 [.agg (K1x f x h p)] st
 (fun r st'=>r= .fn (.func 130) [] [.gp st.length 0]∧st'=st++ [K1x f x h p]):=by
 refine Q0b none Tryz.func68 rfl fun E=>Q0v (Q0a ?_)
 simp -dsimp only [go_sem,K1x,List.cons_append,List.nil_append]
 refine Q0v (w0a 0 (by simp [go_sem]) (by simp) (Q0a ?_))
 simp -dsimp only [go_sem]
 refine Q0a ?_
 simp -dsimp only [go_sem]
theorem W2r (f:List (List Mn)) (x:List Ivl) (h:Nm) (p:Int) (ks l:Nat) (r:Loop) (w:World) (g:Gh) (J:Nat→Q0e→Prop) (Jx:Code→Q0e→Prop) (hf:wF f) (hx:wB x) (hh:wN h)
 (hJ: ∀i st,J i st→st.getD ks []=K1x f x h p)
 (hy: ∀i,i<(W0i f x h p 9 false x).length→ ∀st,J i st→PYields Tryz.prog l r w g [.sl .no (Q0m ((W0i f x h p 9 false x).getD i default).1),.sl .no (Q0m ((W0i f x h p 9 false x).getD i default).2)] st (J (i+1)) Jx) (st:Q0e) (h0:J 0 st):
 G3u Tryz.prog 130 l r w g [.fn (.yield l) [] [],.gp ks 0] st (J (W0i f x h p 9 false x).length) Jx:=by
 generalize hT:W0i f x h p 9 false x=T at hy⊢
 refine v1k Tryz.func130 rfl rfl fun E hrd hw hg hl=> ?_
 subst hw hg
 have q1:=hJ 0 st h0
 refine W0p (Y0d (Q0a ?_))
 simp -dsimp only [go_sem,q1,K1x,List.cons_append,List.nil_append]
 refine W0p (Y0d (Q0a ?_))
 simp -dsimp only [go_sem]
 refine z1k ?_
 refine U1y [true,true,false,true,false,false,false,false,false,true] 0 0 (fun n s=> ∃i j a st,i≤9∧n=9-i∧wB a∧J j st∧j≤T.length∧T.drop j=W0i f x h p (9-i) (decide (0<i)) a∧
  s=⟨[.fn (.yield l) [] [],.gp ks 0,.junk,.sl .no (Q0m a),.junk,.junk,.junk,.junk,.junk,.sc (.int .i64 (i:Nat))]++List.replicate 32 .junk,[],[],st⟩) 9 ?_ ?_
 · simp -dsimp only [go_sem]
   exact⟨0,0,x,st,by omega,rfl,hx,h0,by omega,hT.symm,rfl⟩
 rintro n s ⟨i,j,a,st,hi,rfl,wa,hj,hjl,hd,rfl⟩
 have q1:=hJ j st hj
 refine W0p (Y0d (Q0a ?_))
 simp -dsimp only [go_sem]
 refine W0p (Y0d (Q0a ?_))
 simp -dsimp only [go_sem]
 have fin': ∀j,j≤T.length→T.drop j= []→j=T.length:=fun j hjl h=>by have:=congrArg List.length h;simp at this;omega
 have fin:=fin' j hjl
 have e4:i<9→IntKind.i64.wrap ((i:Int)+1)=((i+1:Nat):Int):=fun h=>by rw [Q0j _ (by omega) (by omega)];omega
 refine ck (fun h'=> ?_) (fun h'=> ?_)
 · have hlt:i<9:=by simp at h';omega
   simp -dsimp only [go_sem]
   refine W0p (z1k ?_)
   refine W0p (Y0d (Q0a ?_))
   simp -dsimp only [go_sem]
   refine W0p (Y0d (Q0a ?_))
   simp -dsimp only [go_sem,q1,K1x,List.cons_append,List.nil_append]
   refine(J2p f x a h p st hf hx wa hh).mono ?_
   rintro r st ⟨rfl,rfl⟩
   simp -dsimp only [go_sem]
   have e9:9-i=(8-i)+1:=by omega
   have e4:=e4 hlt
   have hi9:=hlt
   rw [e9,U0m] at hd
   have wb:=G1l f x a h p hx
   generalize Z0m f x a h p=b at hd wb⊢
   by_cases hb:b.2=0
   · have eb:(b.2 !=0)=false:=by simp [hb]
     rw [if_pos hb] at hd
     by_cases h0i:0<i
     · have gi:decide ((i:Int)>0)=true:=by simp;omega
       rw [if_pos (by simpa using h0i)] at hd
       have hlt:j<T.length:=Nat.lt_of_not_le fun hle=>by rw [List.drop_eq_nil_of_le hle] at hd;cases hd
       rw [List.drop_eq_getElem_cons hlt] at hd
       simp only [List.cons_append,List.nil_append,List.cons.injEq] at hd
       obtain⟨hd1,hd2⟩:=hd
       have hget:T.getD j default=(a,b.1):=by rw [List.getD_eq_getElem?_getD,List.getElem?_eq_getElem hlt];exact hd1
       have hyj:=hy j hlt st hj
       rw [hget] at hyj
       refine W0p (W0p (U2h hl hrd 9 ?_))
       simp -dsimp only [go_sem,eb,gi]
       refine ylds hyj (fun st' hj'=> ?_) (fun c st' hx=> ?_)
       · simp -dsimp only [go_sem]
         refine Y0d (Q0a ?_)
         simp -dsimp only [go_sem]
         refine W0p (Y0d (Q0a ?_))
         simp -dsimp only [go_sem,hJ _ _ hj',K1x,List.cons_append,List.nil_append]
         refine(W1v a b.1 p _ wa wb).mono ?_
         rintro r st2 ⟨rfl,rfl⟩
         have wc:=X1q a b.1 p wa wb
         generalize X0b a b.1 p=c at hd2 wc⊢
         by_cases hc:c.2=0
         · have ec:(c.2 !=0)=false:=by simp [hc]
           rw [if_pos hc] at hd2
           simp -dsimp only [go_sem]
           refine Y0d (Q0a ?_)
           simp -dsimp only [go_sem,ec]
           refine Y0d (Q0a ?_)
           simp -dsimp only [go_sem,e4]
           exact⟨9-(i+1),by omega,i+1,(j+1),c.1,_,by omega,rfl,wc,hj',(by omega),by rw [hd2,show 8-i=9-(i+1) from by omega];simp,rfl⟩
         · have ec:(c.2 !=0)=true:=by simp [hc]
           rw [if_neg hc] at hd2
           simp -dsimp only [go_sem]
           refine Y0d (Q0a ?_)
           simp -dsimp only [go_sem,ec]
           simp only [eblk,V2a,V0n]
           rw [←fin' _ (by omega) hd2]
           exact hj'
       · simp -dsimp only [go_sem]
         refine Q0a ?_
         simp -dsimp only [go_sem]
         exact hx
     · have gi:decide ((i:Int)>0)=false:=by simp;omega
       have hi0:decide (0<i)=false:=by simp;omega
       refine W0p (Y0d (Q0a ?_))
       simp -dsimp only [go_sem,eb,gi]
       simp only [hi0,Bool.false_eq_true,if_false,List.nil_append] at hd
       refine W0p (Y0d (Q0a ?_))
       simp -dsimp only [go_sem,hJ _ _ hj,K1x,List.cons_append,List.nil_append]
       refine(W1v a b.1 p _ wa wb).mono ?_
       rintro r st2 ⟨rfl,rfl⟩
       have wc:=X1q a b.1 p wa wb
       generalize X0b a b.1 p=c at hd wc⊢
       by_cases hc:c.2=0
       · have ec:(c.2 !=0)=false:=by simp [hc]
         rw [if_pos hc] at hd
         simp -dsimp only [go_sem]
         refine Y0d (Q0a ?_)
         simp -dsimp only [go_sem,ec]
         refine Y0d (Q0a ?_)
         simp -dsimp only [go_sem,e4]
         exact⟨9-(i+1),by omega,i+1,j,c.1,_,by omega,rfl,wc,hj,hjl,by rw [hd,show 8-i=9-(i+1) from by omega];simp,rfl⟩
       · have ec:(c.2 !=0)=true:=by simp [hc]
         rw [if_neg hc] at hd
         simp -dsimp only [go_sem]
         refine Y0d (Q0a ?_)
         simp -dsimp only [go_sem,ec]
         simp only [eblk,V2a,V0n]
         rw [←fin' _ hjl hd]
         exact hj
   · have eb:(b.2 !=0)=true:=by simp [hb]
     rw [if_neg hb] at hd
     refine W0p (Y0d (Q0a ?_))
     simp -dsimp only [go_sem,eb]
     simp only [eblk,V2a,V0n]
     rw [←fin hd]
     exact hj
 · simp -dsimp only [go_sem]
   have:i=9:=by simp at h';omega
   subst this
   simp only [eblk,if_true,V2a]
   rw [←fin (by rw [hd];rfl)]
   exact hj
end Go.Pv
end
section
/-picard.Box. -/
set_option maxRecDepth 100000
namespace Go.Pv
open Go.Proofs
def boxL (f:List (List Mn)) (x:List Ivl) (h:Nm) (p:Int):List (List Ivl×List Ivl)→List Ivl×Bool
 | []=>([],false)
 | e::l=>if inB e.2 e.1=true then(if U1m f x e.2 h p=true then e.2 else e.1,true) else boxL f x h p l
theorem x0n (f:List (List Mn)) (x:List Ivl) (h:Nm) (p:Int) (e:List Ivl×List Ivl) (l:List (List Ivl×List Ivl)):boxL f x h p (e::l)=if inB e.2 e.1=true then(if U1m f x e.2 h p=true then e.2 else e.1,true) else boxL f x h p l:=rfl
def boxP (f:List (List Mn)) (x:List Ivl) (h:Nm) (p:Int):List Ivl×Bool:=boxL f x h p (W0i f x h p 9 false x)
theorem X1v (f:List (List Mn)) (x:List Ivl) (h:Nm) (p:Int) (hx:wB x): ∀(n:Nat) (yl:Bool) (a:List Ivl),wB a→ ∀e∈W0i f x h p n yl a,wB e.1∧wB e.2
 | 0,_,_,_,e,he=>by cases he
 | n+1,yl,a,ha,e,he=>by
  rw [U0m] at he
  have hb:=G1l f x a h p hx
  split at he
  · rcases List.mem_append.1 he with he | he
    · split at he
      · have:e=(a,(Z0m f x a h p).1):=by simpa using he
        rw [this];exact⟨ha,hb⟩
      · cases he
    · split at he
      · exact X1v f x h p hx n true _ (X1q a _ p ha hb) e he
      · cases he
  · cases he
def boxJ (f:List (List Mn)) (x:List Ivl) (h:Nm) (p:Int) (st:Q0e) (i:Nat) (st':Q0e):Prop:=boxL f x h p ((W0i f x h p 9 false x).drop i)=boxP f x h p∧
 st'=st++ [[.sl .no (X0k f)],[.sl .no (Q0m x)],encN h,[.sc (.int .i64 p)],[.sl .no (Q0m [])],[.sc (.bool false)],K1x f x h p]
def boxX (f:List (List Mn)) (x:List Ivl) (h:Nm) (p:Int) (st:Q0e) (c:Code) (st':Q0e):Prop:=c= .exit 0∧ ∃o X,boxP f x h p=(o,true)∧
 st'=st++([.sl .no (X0k f)]:: [.sl .no (Q0m x)]::encN h:: [.sc (.int .i64 p)]:: [.sl .no (Q0m o)]:: [.sc (.bool true)]::X)
def q1d (l:List (List Ivl×List Ivl)):List (List PV):=l.map fun e=> [.sl .no (Q0m e.1),.sl .no (Q0m e.2)]
theorem H0q (l:List (List Ivl×List Ivl)):(q1d l).length=l.length:=by simp [q1d]
theorem y0t (l:List (List Ivl×List Ivl)) (i:Nat) (h:i<l.length):(q1d l).getD i []= [.sl .no (Q0m (l.getD i default).1),.sl .no (Q0m (l.getD i default).2)]:=by simp [q1d,List.getD_eq_getElem?_getD,h]
theorem Z2m (n:Nat) (l:List Ivl) (v:Value):LowR n (.tup [.sl .no (Q0m l),.sc v]):=W3t fun c hc=>by
 simp only [List.mem_cons,List.not_mem_nil,or_false] at hc
 rcases hc with rfl | rfl
 · refine G2t fun e he c hc=> ?_
   obtain⟨x,_,rfl⟩:=List.mem_map.1 he
   have hc:c∈encI x:=hc
   simp only [encI,encN,List.cons_append,List.nil_append,List.mem_cons,List.not_mem_nil,or_false] at hc
   rcases hc with rfl | rfl | rfl | rfl | rfl | rfl<;>first | exact Y1c _ _ | exact w2f _ _
 · exact Y1c _ _
theorem Q2r (f:List (List Mn)) (x:List Ivl) (h:Nm) (p:Int) (st:Q0e) (hf:wF f) (hx:wB x) (hh:wN h):
 PCalls Tryz.prog 22 [.sl .no (X0k f),.sl .no (Q0m x),.agg (encN h),.sc (.int .i64 p)] st
 (fun r st'=>r= .tup [.sl .no (Q0m (boxP f x h p).1),.sc (.bool (boxP f x h p).2)]∧st'=st):=by
 refine v1l (Q:=fun r _=>r= .tup [.sl .no (Q0m (boxP f x h p).1),.sc (.bool (boxP f x h p).2)]) ?_
 refine G1f none Tryz.func22 rfl fun E=> ?_
 refine J1l (Q0a ?_)
 simp -dsimp only [go_sem]
 refine U2e ?_
 refine J1l (Q0a ?_)
 simp -dsimp only [go_sem]
 refine J1l (Q0a ?_)
 simp -dsimp only [go_sem]
 refine J1l (Q0a ?_)
 simp -dsimp only [go_sem]
 refine G0r (v0i 4) ?_
 simp -dsimp only [go_sem]
 refine G0r (U0k 0 (by simp [go_sem]) (by simp)) ?_
 simp -dsimp only [go_sem]
 refine G0r (U0k 1 (by simp [go_sem]) (by simp)) ?_
 simp -dsimp only [go_sem]
 refine G0r (U0k 2 (by simp [go_sem]) (by simp)) ?_
 simp -dsimp only [go_sem]
 refine G0r (U0k 3 (by simp [go_sem]) (by simp)) ?_
 simp -dsimp only [go_sem]
 refine G0r (U0k 4 (by simp [go_sem]) (by simp)) ?_
 simp -dsimp only [go_sem]
 refine G0r (U0k 5 (by simp [go_sem]) (by simp)) ?_
 simp -dsimp only [go_sem]
 refine k2j (J1l (Q0a ?_))
 simp -dsimp only [go_sem,List.append_assoc,List.cons_append,List.nil_append,Nat.add_assoc,Nat.reduceAdd,z0b,z0a]
 refine(K3r f x h p _).mono ?_
 rintro r st' ⟨rfl,rfl⟩
 simp -dsimp only [go_sem]
 refine U2g ?_
 refine G0r (H0o (bs:= [false,false,false,false,true,true,true,true,false,false,true,true,false,false,false,false,false,false,false,true]) (nL:=0) (nT:=0) (by simp [go_sem])) ?_
 simp -dsimp only [go_sem,List.append_assoc,List.cons_append,List.nil_append,Nat.add_assoc,Nat.reduceAdd]
 refine U2f rfl rfl rfl (by simp only [go_sem]) (q1d (W0i f x h p 9 false x)) (fun i hi=> ?_) (boxJ f x h p st) (boxX f x h p st) ?_ ?_ ?_ ?_ ?_
 · rw [y0t _ _ (by rw [H0q] at hi;exact hi)];rfl
 · exact⟨rfl,rfl⟩
 · intro l r w g hy
   rw [H0q]
   refine W2r f x h p (st.length+6) l r w g (boxJ f x h p st) (boxX f x h p st) hf hx hh (fun i st' ⟨_,e⟩=> ?_) (fun i hi st' hj=> ?_) _ ⟨rfl,rfl⟩
   · subst e
     simp only [z0b]
     rfl
   · have:=hy i (by rw [H0q];exact hi) st' hj
     rw [y0t _ _ hi] at this
     exact this
 · rintro i st' hi ⟨hc,rfl⟩ E
   have hi:i<(W0i f x h p 9 false x).length:=by rw [H0q] at hi;exact hi
   rw [y0t _ _ hi]
   have hw:=X1v f x h p hx 9 false x hx _ (Q0t _ i default hi)
   have hc:boxL f x h p ((W0i f x h p 9 false x).getD i default::(W0i f x h p 9 false x).drop (i+1))=boxP f x h p:=by
    rw [←hc,List.drop_eq_getElem_cons hi,List.getD_eq_getElem?_getD,List.getElem?_eq_getElem hi];rfl
   rw [x0n] at hc
   generalize (W0i f x h p 9 false x).getD i default=e at hw hc⊢
   obtain⟨wa,wb⟩:=hw
   refine Q0a ?_
   simp -dsimp only [go_sem,List.zip_cons_cons,List.zip_nil_right,List.foldl_cons,List.foldl_nil]
   intro E
   refine Q0a ?_
   simp -dsimp only [go_sem,z0b,z0a]
   refine(y1e e.2 e.1 _ wb wa).mono ?_
   rintro r st2 ⟨rfl,rfl⟩
   cases hin:inB e.2 e.1 with
   | false=>
    rw [hin,if_neg (by simp)] at hc
    simp -dsimp only [go_sem]
    exact⟨hc,rfl⟩
   | true=>
    rw [hin,if_pos rfl] at hc
    simp -dsimp only [go_sem,z0b,z0a,H1o,H1n]
    refine(J1r f x e.2 h p _ hf hx wb hh).mono ?_
    rintro r st2 ⟨rfl,rfl⟩
    cases hs:U1m f x e.2 h p with
    | false=>
     rw [hs,if_neg (by simp)] at hc
     simp -dsimp only [go_sem,z0b,z0a,H1o,H1n]
     exact⟨rfl,e.1,_,hc.symm,rfl⟩
    | true=>
     rw [hs,if_pos rfl] at hc
     simp -dsimp only [go_sem,z0b,z0a,H1o,H1n]
     exact⟨rfl,e.2,_,hc.symm,rfl⟩
 · rintro st' ⟨hc,rfl⟩
   show∀E',PWP _ E' _ _ _
   intro E'
   refine Q0v (Q0l Z0x 36 (.step 0 [] (.step 1 [] (.step 2 [] (.step 3 [] (.done))))) (by decide+kernel) (by simp) ?_)
   simp -dsimp only [go_sem,z0b,z0a]
   refine Q0a ?_
   simp -dsimp only [go_sem]
   rw [H0q,List.drop_length] at hc
   rw [←hc]
   exact⟨⟨_,rfl⟩,Z2m _ [] _,rfl⟩
 · rintro c st' ⟨rfl,o,X,hc,rfl⟩
   simp -dsimp only [go_sem,j3w,eblk,V0n,if_true]
   intro E'
   refine Q0v (Q0l Z0x 36 (.step 0 [] (.step 1 [] (.step 2 [] (.step 3 [] (.done))))) (by decide+kernel) (by simp) ?_)
   simp -dsimp only [go_sem,z0b,z0a]
   refine Q0a ?_
   simp -dsimp only [go_sem]
   rw [hc]
   exact⟨⟨_,rfl⟩,Z2m _ o _,rfl⟩
end Go.Pv
end
section
/-Layer 17:told. -/
set_option maxRecDepth 100000
namespace Go.Pv
open Go.Proofs
theorem z2r (f:List (List Mn)) (x:List Ivl) (h:Nm) (p:Int): ∀(l:List (List Ivl×List Ivl)),(∀e∈l,wB e.1∧wB e.2)→wB (boxL f x h p l).1
 | [],_=>v0j
 | e::l,hl=>by
  rw [x0n]
  split
  · split
    · exact(hl e (by simp)).2
    · exact(hl e (by simp)).1
  · exact z2r f x h p l fun e he=>hl e (by simp [he])
theorem z2p (f:List (List Mn)) (x:List Ivl) (h:Nm) (p:Int) (hx:wB x):wB (boxP f x h p).1:=z2r f x h p _ (X1v f x h p hx 9 false x hx)
end Go.Pv
end
section
/-Layer 17:known. -/
set_option maxRecDepth 100000
namespace Go.Pv
open Go.Proofs
def k7F :List (List Mn):= [[⟨⟨false,0,[1]⟩,[0]⟩]]
def k7x :List Ivl:= [⟨default,⟨false,0,[1]⟩⟩]
def k7h :Nm:=⟨false, -1,[1]⟩
theorem Y3a :Z0m k7F k7x k7x k7h 16=([⟨default,⟨false, -1,[3]⟩⟩],0):=by decide+kernel
theorem j3v :(boxP k7F k7x k7h 16).2=true∧(boxP k7F k7x k7h 16).1.length=1∧inB [⟨default,⟨false, -1,[3]⟩⟩] (boxP k7F k7x k7h 16).1=true∧U1m k7F k7x (boxP k7F k7x k7h 16).1 k7h 16=true∧U1m k7F k7x k7x k7h 16=false:=by decide+kernel
theorem w2n :wF k7F:=by unfold wF wP wMn wN wK;decide
theorem w1b :wB k7x:=by unfold wB wI wN;decide
theorem w2m :wN k7h:=by unfold wN;decide
set_option maxHeartbeats 4000000 in
theorem H2h (st:Q0e):PCalls Tryz.prog 14 [] st (fun r st'=>r= .sc (.bool true)∧st'=st):=by
 have hb:=z2p k7F k7x k7h 16 w1b
 have h1:=Y3a
 obtain⟨h2,h3,h4,h5,h6⟩:=j3v
 refine Q0b none Tryz.func14 rfl fun E=>Q0a ?_
 simp -dsimp only [go_sem]
 refine(J1s k7F k7x k7x k7h 16 _ w2n w1b w1b w2m).mono ?_
 rintro r st ⟨rfl,rfl⟩
 rw [h1]
 simp -dsimp only [go_sem]
 refine(Q2r k7F k7x k7h 16 _ w2n w1b w2m).mono ?_
 rintro r st ⟨rfl,rfl⟩
 generalize boxP k7F k7x k7h 16=b at hb h2 h3 h4 h5⊢
 rw [h2]
 have z0:((0:Int)==0)=true:=rfl
 have z1:(((1:Nat):Int)==1)=true:=rfl
 have z2:((-1:Int)== -1)=true:=rfl
 have q0:(Q0m [⟨default,⟨false, -1,[3]⟩⟩]).getD 0 .junk= .agg (encI ⟨default,⟨false, -1,[3]⟩⟩):=rfl
 have d1:decide (([3]:List UInt64)= [3])=true:=rfl
 simp -dsimp only [go_sem,z0,z1,z2,h3,q0,List.append_eq,List.cons_append,List.nil_append]
 refine(w1d [3] [3] _ (by decide) (by decide)).mono ?_
 rintro r st ⟨rfl,rfl⟩
 simp -dsimp only [go_sem,z0,z1,z2,h3,q0,d1,List.append_eq,List.cons_append,List.nil_append]
 refine(y1e [⟨default,⟨false, -1,[3]⟩⟩] b.1 _ (by unfold wB wI wN;decide) hb).mono ?_
 rintro r st ⟨rfl,rfl⟩
 rw [h4]
 simp -dsimp only [go_sem,z0,z1,z2,h3,q0,d1,List.append_eq,List.cons_append,List.nil_append]
 refine(J1r k7F k7x b.1 k7h 16 _ w2n w1b hb w2m).mono ?_
 rintro r st ⟨rfl,rfl⟩
 rw [h5]
 simp -dsimp only [go_sem,z0,z1,z2,h3,q0,d1,List.append_eq,List.cons_append,List.nil_append]
 refine(J1r k7F k7x k7x k7h 16 _ w2n w1b w1b w2m).mono ?_
 rintro r st ⟨rfl,rfl⟩
 rw [h6]
 simp -dsimp only [go_sem,z0,z1,z2,h3,q0,d1,List.append_eq,List.cons_append,List.nil_append]
end Go.Pv
end
