/- A shard, plainly: whatever is done, it stays right. -/
import Derived.Test.YteakhlfapjaodaaGreatDoorE8sh
set_option linter.unusedVariables false
set_option linter.unusedSimpArgs false
namespace Go.Cb
open Go.Proofs Go.RowKit

/-! ### Do, by kinds -/
section
variable (a:List Nd) (b:List Tn) (r:List Rg) (d:List Hd) (f:List Wat) (g:List Ses) (x:List (Int×Ans)) (y:List (Int×Txn)) (z:List (Int×Ans)) {c:Cmd}
theorem Zi(hr:eE c=some false):bY a b r d f g x y z c=some (rW 1,a,b,r,d,f,g,x,y,z):=by
 unfold bY;rw [hr];rfl
theorem BO(hr:eE c=some true)(k:c.Kind > 10):bY a b r d f g x y z c=some (rW 1,a,b,r,d,f,g,x,y,z):=by
 unfold bY hU;rw [hr];simp only [bS];rw [iN (by simp),iP (by simpa using k)];rfl
theorem do1(hr:eE c=some true)(k:c.Kind=1):bY a b r d f g x y z c=(pU a b r d f g x c).bind λu=>some (u.1,u.2.1,u.2.2.1,r,d,u.2.2.2.1,u.2.2.2.2.1,u.2.2.2.2.2,y,z):=by
 unfold bY hU jO;rw [hr];simp only [bS];rw [iN (by simp),iN (by simp [k]),iP (by simp [k]),iP (by simp [k]),iP (by simp [k])]
theorem do8(hr:eE c=some true)(k:c.Kind=8):bY a b r d f g x y z c=(pT f g x c).bind λu=>some (u.1,a,b,r,d,u.2.1,u.2.2.1,u.2.2.2,y,z):=by
 unfold bY hU jO;rw [hr];simp only [bS];rw [iN (by simp),iN (by simp [k]),iN (by simp [k]),iP (by simp [k]),iN (by simp [k]),iP (by simp [k])]
theorem do9(hr:eE c=some true)(k:c.Kind=9):bY a b r d f g x y z c=(pS f g x c).bind λu=>some (u.1,a,b,r,d,u.2.1,u.2.2.1,u.2.2.2,y,z):=by
 unfold bY hU jO;rw [hr];simp only [bS];rw [iN (by simp),iN (by simp [k]),iN (by simp [k]),iP (by simp [k]),iN (by simp [k]),iN (by simp [k]),iP (by simp [k])]
theorem SB(hr:eE c=some true)(k:c.Kind=10):bY a b r d f g x y z c=(sQ f g x c).bind λu=>some (u.1,a,b,r,d,u.2.1,u.2.2.1,u.2.2.2,y,z):=by
 unfold bY hU jO;rw [hr];simp only [bS];rw [iN (by simp),iN (by simp [k]),iN (by simp [k]),iP (by simp [k]),iN (by simp [k]),iN (by simp [k]),iN (by simp [k]),iP (by simp [k])]
theorem Sg(hr:eE c=some true)(k:2 <= c.Kind/\c.Kind <= 7):bY a b r d f g x y z c=jN a b r d f g x y z c (decide (5 <= c.Kind) && decide (bl c.Prefix= [])):=by
 unfold bY hU jO;rw [hr];simp only [bS];rw [iN (by simp),iN (by simp;omega),iN (by simp;omega),iN (by simp;omega),nY,emp];by_cases h:5 <= c.Kind
 ·rw [iP (by simpa using h),decide_eq_true h];rfl
 rw [iN (by simpa using h),decide_eq_false h];rfl
end
/-! ### what is done once -/
def G7(x:List (Int×Ans))(id:Int)(a:Ans):List (Int×Ans):=if id ≠ 0/\a.Err ≠ 131/\a.Err ≠ 132 then hY x id a else x
/-- what an Id's command comes to: what it was, none any more, or what is done now. -/
def Pv(x:List (Int×Ans))(id:Int)(a:Ans)(x':List (Int×Ans))(same:Prop)(done:Prop):Prop:=
 (dA x id=some a/\x'=x/\same)∨(dA x id=none/\id ≠ 0/\x.length=512/\a=rW 2/\x'=x/\same)∨(dA x id=none/\(id=0∨x.length ≠ 512)/\x'=G7 x id a/\done)
section
variable {n:Nat} {σ:Sh} (I:Inv n σ) (hn:n <= 50000) {c:Cmd} (C:Ae c)
include I hn C
theorem Zj:∃ a s' u x',pU σ.s.Nodes σ.s.Turns σ.r σ.h σ.w.Watches σ.w.Sessions σ.x c=some (a,s'.Nodes,s'.Turns,u.Watches,u.Sessions,x')/\
  Pv σ.x c.Id a x' (s'=σ.s/\u=σ.w) (qP u/\u.Sessions.length=σ.w.Sessions.length/\((∃ e,(e=131∨e=132)/\a=rW e/\s'=σ.s)∨(xY σ.r (uJ c.Pieces)=0/\(∀ d ∈ uJ c.Pieces,Cv σ.h (bl d)=false)/\a=DC σ.s c.Pieces/\s'=G6 σ.s c.Pieces))):=by
 have xl:=I.x;unfold pU Q5 mlk;rw [iP (A8 C.id)];simp only [Option.map_some,bS];unfold uI;cases g:dA σ.x c.Id with
 | some v=>rw [iP (by rfl)];exact ⟨v,σ.s,σ.w,_,rfl,.inl ⟨g,rfl,rfl,rfl⟩⟩
 | none=>
  rw [iN (by simp)];unfold qG;obtain ⟨a,s',u,h1,h2,h3,h4⟩:=RZ I hn C;by_cases id0:c.Id=0
  ·rw [iN (by simpa using id0),iN (by simp),h1];simp only [bS];rw [iN (by simpa using id0)];unfold kC mO;rw [iN (by simp)];exact ⟨a,s',u,_,rfl,.inr (.inr ⟨g,.inl id0,by simp [G7,id0],h2,h3,h4⟩)⟩
  rw [iP (by simpa using id0)];by_cases f:σ.x.length=512
  ·rw [iP (by simp [f]),kD];exact ⟨_,σ.s,σ.w,_,rfl,.inr (.inl ⟨g,id0,f,rfl,rfl,rfl,rfl⟩)⟩
  rw [iN (by simp;omega),h1];simp only [bS];rw [iP (by simpa using id0)];unfold kC mO mpt;refine ⟨a,s',u,G7 σ.x c.Id a,?_,.inr (.inr ⟨g,.inr f,rfl,h2,h3,h4⟩)⟩;unfold G7;by_cases e1:a.Err=131
  ·rw [iN (by simpa using e1),iN (by simp),iN (by simp [e1])]
  rw [iP (by simpa using e1)];by_cases e2:a.Err=132
  ·rw [iN (by simpa using e2),iN (by simp [e2])]
  rw [iP (by simpa using e2),iP ⟨A8 C.id,by simp [maxLen];omega⟩,iP ⟨id0,e1,e2⟩];rfl
abbrev Wj (a:Ans) (u:aY):Prop:=qP u/\u.Sessions.length <= σ.w.Sessions.length+1/\a.Results= []/\a.Events.length <= 8/\a= { rW a.Err with Events:=a.Events }
end
section
variable {n:Nat} {σ:Sh} (I:Inv n σ) (hn:n <= 50000) {c:Cmd} (C:Ae c)
include I hn C
theorem Zk:∃ a u x',pT σ.w.Watches σ.w.Sessions σ.x c=some (a,u.Watches,u.Sessions,x')/\Pv σ.x c.Id a x' (u=σ.w) (Wj (σ:=σ) a u):=by
 have xl:=I.x;unfold pT Q5 mlk;rw [iP (A8 C.id)];simp only [Option.map_some,bS];unfold uH;cases g:dA σ.x c.Id with
 | some v=>rw [iP (by rfl)];exact ⟨v,σ.w,_,rfl,.inl ⟨g,rfl,rfl⟩⟩
 | none=>
  rw [iN (by simp)];unfold qF;obtain ⟨a,u,h1,h2⟩:=JK I hn C;by_cases id0:c.Id=0
  ·rw [iN (by simpa using id0),iN (by simp),h1];simp only [bS];rw [iN (by simpa using id0)];unfold kA mM;rw [iN (by simp)];exact ⟨a,u,_,rfl,.inr (.inr ⟨g,.inl id0,by simp [G7,id0],h2⟩)⟩
  rw [iP (by simpa using id0)];by_cases f:σ.x.length=512
  ·rw [iP (by simp [f]),kD];exact ⟨_,σ.w,_,rfl,.inr (.inl ⟨g,id0,f,rfl,rfl,rfl⟩)⟩
  rw [iN (by simp;omega),h1];simp only [bS];rw [iP (by simpa using id0)];unfold kA mM mpt;refine ⟨a,u,G7 σ.x c.Id a,?_,.inr (.inr ⟨g,.inr f,rfl,h2⟩)⟩;unfold G7;by_cases e1:a.Err=131
  ·rw [iN (by simpa using e1),iN (by simp),iN (by simp [e1])]
  rw [iP (by simpa using e1)];by_cases e2:a.Err=132
  ·rw [iN (by simpa using e2),iN (by simp [e2])]
  rw [iP (by simpa using e2),iP ⟨A8 C.id,by simp [maxLen];omega⟩,iP ⟨id0,e1,e2⟩];rfl
theorem Zl:∃ a u x',pS σ.w.Watches σ.w.Sessions σ.x c=some (a,u.Watches,u.Sessions,x')/\Pv σ.x c.Id a x' (u=σ.w) (Wj (σ:=σ) a u):=by
 have xl:=I.x;unfold pS Q5 mlk;rw [iP (A8 C.id)];simp only [Option.map_some,bS];unfold uG;cases g:dA σ.x c.Id with
 | some v=>rw [iP (by rfl)];exact ⟨v,σ.w,_,rfl,.inl ⟨g,rfl,rfl⟩⟩
 | none=>
  rw [iN (by simp)];unfold qE;obtain ⟨a,u,h1,h2⟩:=DL I hn C;by_cases id0:c.Id=0
  ·rw [iN (by simpa using id0),iN (by simp),h1];simp only [bS];rw [iN (by simpa using id0)];unfold jZ mL;rw [iN (by simp)];exact ⟨a,u,_,rfl,.inr (.inr ⟨g,.inl id0,by simp [G7,id0],h2⟩)⟩
  rw [iP (by simpa using id0)];by_cases f:σ.x.length=512
  ·rw [iP (by simp [f]),kD];exact ⟨_,σ.w,_,rfl,.inr (.inl ⟨g,id0,f,rfl,rfl,rfl⟩)⟩
  rw [iN (by simp;omega),h1];simp only [bS];rw [iP (by simpa using id0)];unfold jZ mL mpt;refine ⟨a,u,G7 σ.x c.Id a,?_,.inr (.inr ⟨g,.inr f,rfl,h2⟩)⟩;unfold G7;by_cases e1:a.Err=131
  ·rw [iN (by simpa using e1),iN (by simp),iN (by simp [e1])]
  rw [iP (by simpa using e1)];by_cases e2:a.Err=132
  ·rw [iN (by simpa using e2),iN (by simp [e2])]
  rw [iP (by simpa using e2),iP ⟨A8 C.id,by simp [maxLen];omega⟩,iP ⟨id0,e1,e2⟩];rfl
theorem Zm:∃ a u x',sQ σ.w.Watches σ.w.Sessions σ.x c=some (a,u.Watches,u.Sessions,x')/\Pv σ.x c.Id a x' (u=σ.w) (Wj (σ:=σ) a u):=by
 have xl:=I.x;unfold sQ Q5 mlk;rw [iP (A8 C.id)];simp only [Option.map_some,bS];unfold xF;cases g:dA σ.x c.Id with
 | some v=>rw [iP (by rfl)];exact ⟨v,σ.w,_,rfl,.inl ⟨g,rfl,rfl⟩⟩
 | none=>
  rw [iN (by simp)];unfold sP;obtain ⟨a,u,h1,h2⟩:=NN I hn C;by_cases id0:c.Id=0
  ·rw [iN (by simpa using id0),iN (by simp),h1];simp only [bS];rw [iN (by simpa using id0)];unfold lX oJ;rw [iN (by simp)];exact ⟨a,u,_,rfl,.inr (.inr ⟨g,.inl id0,by simp [G7,id0],h2⟩)⟩
  rw [iP (by simpa using id0)];by_cases f:σ.x.length=512
  ·rw [iP (by simp [f]),kD];exact ⟨_,σ.w,_,rfl,.inr (.inl ⟨g,id0,f,rfl,rfl,rfl⟩)⟩
  rw [iN (by simp;omega),h1];simp only [bS];rw [iP (by simpa using id0)];unfold lX oJ mpt;refine ⟨a,u,G7 σ.x c.Id a,?_,.inr (.inr ⟨g,.inr f,rfl,h2⟩)⟩;unfold G7;by_cases e1:a.Err=131
  ·rw [iN (by simpa using e1),iN (by simp),iN (by simp [e1])]
  rw [iP (by simpa using e1)];by_cases e2:a.Err=132
  ·rw [iN (by simpa using e2),iN (by simp [e2])]
  rw [iP (by simpa using e2),iP ⟨A8 C.id,by simp [maxLen];omega⟩,iP ⟨id0,e1,e2⟩];rfl
end
theorem Pv.len {x:List (Int×Ans)} {id:Int} {a:Ans} {x':List (Int×Ans)} {p q:Prop} (h:Pv x id a x' p q) (hx:x.length <= 512):x'.length <= 512:=by
 rcases h with ⟨_,rfl,_⟩ | ⟨_,_,_,_,rfl,_⟩ | ⟨g,k,rfl,_⟩
 ·exact hx
 ·exact hx
 unfold G7;split
 ·rename_i c;rw [w5,g];have:=k.resolve_left c.1;simp;omega
 exact hx
theorem Pv.keep {x:List (Int×Ans)} {id:Int} {a:Ans} {x':List (Int×Ans)} {p q:Prop} (h:Pv x id a x' p q) {i:Int} {v:Ans} (g:dA x i=some v):dA x' i=some v:=by
 rcases h with ⟨_,rfl,_⟩ | ⟨_,_,_,_,rfl,_⟩ | ⟨e,k,rfl,_⟩
 ·exact g
 ·exact g
 unfold G7;split
 ·exact GP _ _ e g
 exact g
/-! ### errors of pieces -/
def Ew(e:Int):Prop:=e=0∨e=2∨(61 <= e/\e <= 66)
theorem NO(s:Sto)(p:Pt1):Ew (doP s p).2.Err:=by
 have nd:Ew (ndS s.Nodes p).2:=by
  unfold ndS Ew
  repeat' split
  all_goals simp
 unfold doP Pr
 repeat' split
 all_goals first | exact nd | (simp [Ew,res];done) | (unfold res Ew;split <;> simp)
theorem Pw(s0:Sto):∀ (l:List Pie) (i:Nat) (s:Sto) (acc:List Res),Ew (fI s0 i s acc l).2.2.1
 | [],_,_,_=>.inl rfl
 | p::l,i,s,acc=>by
  unfold fI;split
  ·exact NO s p.Part
  exact Pw s0 l _ _ _
/-! ### whatever is done -/
structure DM (σ:Sh) (c:Cmd) (a:Ans) (τ:Sh):Prop where
 ids:∀ i v,dA σ.x i=some v->dA τ.x i=some v
 holds:∀ x ∈ τ.h,x ∈ σ.h∨(c.Kind=2/\a.Err ≠ 131/\stR τ.r (gW x)=1)
abbrev doS (σ:Sh) (c:Cmd):=bY σ.s.Nodes σ.s.Turns σ.r σ.h σ.w.Watches σ.w.Sessions σ.x σ.y σ.z c
abbrev Lx (a:Ans) (τ:Sh):=some (a,τ.s.Nodes,τ.s.Turns,τ.r,τ.h,τ.w.Watches,τ.w.Sessions,τ.x,τ.y,τ.z)
theorem Inv.mono {n m:Nat} {σ:Sh} (I:Inv n σ) (h:n <= m):Inv m σ:=
 ⟨I.s,by have:=I.sn;omega,by have:=I.st;omega,I.r,I.h,by have:=I.hl;omega,I.w,by have:=I.wl;omega,I.x,I.y,I.z,I.tx⟩
theorem DM.refl (σ:Sh) (c:Cmd) (a:Ans):DM σ c a σ:=⟨λ_ _ h=>h,λx h=>.inl h⟩
structure Bp (c:Cmd):Prop where
 p:c.Pieces.length <= 1000000
 g:c.Gone.length <= 1000000
 n:c.Store.Nodes.length <= 140737488351232
 t:c.Store.Turns.length <= 140737488351232
theorem KG{n:Nat}{σ:Sh}(I:Inv n σ)(hn:n <= 49000)(c:Cmd)(sm:Bp c):∃ a τ,doS σ c=Lx a τ/\Inv (n+600) τ/\DM σ c a τ:=by
 have hn5:n <= 50000:=by omega
 have bad:∀ e,∃ a τ,some (rW e,σ.s.Nodes,σ.s.Turns,σ.r,σ.h,σ.w.Watches,σ.w.Sessions,σ.x,σ.y,σ.z)=Lx a τ/\Inv (n+600) τ/\DM σ c a τ:=λe=>⟨_,σ,rfl,I.mono (by omega),DM.refl _ _ _⟩
 obtain ⟨b,hr,hc⟩:=Bo c sm.p sm.g sm.n sm.t;cases b with
 | false=>rw [doS,Zi _ _ _ _ _ _ _ _ _ hr];exact bad 1
 | true=>
  have C:=hc rfl;have cl:=C.len;have dl:=Lw c.Pieces;by_cases k11:c.Kind > 10
  ·rw [doS,BO _ _ _ _ _ _ _ _ _ hr k11];exact bad 1
  by_cases k1:c.Kind=1
  ·rw [doS,do1 _ _ _ _ _ _ _ _ _ hr k1];obtain ⟨a,s',u,x',h1,h2⟩:=Zj I hn5 C;rw [h1];refine ⟨a,⟨s',σ.r,σ.h,u,x',σ.y,σ.z⟩,rfl,?_,⟨λi v g=>h2.keep g,λx h=>.inl h⟩⟩;have hs:cI s'/\s'.Nodes.length <= n+600/\s'.Turns.length <= n+600/\qP u/\u.Sessions.length <= n+600:=by
    have sn:=I.sn;have st:=I.st;have wl:=I.wl;have old:cI σ.s/\σ.s.Nodes.length <= n+600/\σ.s.Turns.length <= n+600/\qP σ.w/\σ.w.Sessions.length <= n+600:=⟨I.s,by omega,by omega,I.w,by omega⟩
    rcases h2 with ⟨_,_,rfl,rfl⟩ | ⟨_,_,_,_,_,rfl,rfl⟩ | ⟨_,_,_,w1,w2,q⟩
    ·exact old
    ·exact old
    rcases q with ⟨_,_,_,rfl⟩ | ⟨_,_,_,rfl⟩
    ·exact ⟨I.s,by omega,by omega,w1,by omega⟩
    obtain ⟨q1,q2,q3⟩:=Ty σ.s c.Pieces I.s C.may;exact ⟨q1,by omega,by omega,w1,by omega⟩
   exact ⟨hs.1,hs.2.1,hs.2.2.1,I.r,I.h,by have:=I.hl;simp only;omega,hs.2.2.2.1,hs.2.2.2.2,h2.len I.x,I.y,I.z,I.tx⟩
  have wat:∀ (a:Ans) (u:aY) (x':List (Int×Ans)),Pv σ.x c.Id a x' (u=σ.w) (Wj (σ:=σ) a u)->Inv (n+600) ⟨σ.s,σ.r,σ.h,u,x',σ.y,σ.z⟩/\DM σ c a ⟨σ.s,σ.r,σ.h,u,x',σ.y,σ.z⟩:=λa u x' h2=>by
   have wl:=I.wl;have hw:qP u/\u.Sessions.length <= n+600:=by
    rcases h2 with ⟨_,_,rfl⟩ | ⟨_,_,_,_,_,rfl⟩ | ⟨_,_,_,w1,w2,_⟩
    ·exact ⟨I.w,by omega⟩
    ·exact ⟨I.w,by omega⟩
    exact ⟨w1,by omega⟩
   exact ⟨⟨I.s,by have:=I.sn;simp only;omega,by have:=I.st;simp only;omega,I.r,I.h,by have:=I.hl;simp only;omega,hw.1,hw.2,h2.len I.x,I.y,I.z,I.tx⟩,⟨λi v g=>h2.keep g,λx h=>.inl h⟩⟩
  by_cases k8:c.Kind=8
  ·rw [doS,do8 _ _ _ _ _ _ _ _ _ hr k8];obtain ⟨a,u,x',h1,h2⟩:=Zk I hn5 C;rw [h1];exact ⟨a,⟨σ.s,σ.r,σ.h,u,x',σ.y,σ.z⟩,rfl,wat a u x' h2⟩
  by_cases k9:c.Kind=9
  ·rw [doS,do9 _ _ _ _ _ _ _ _ _ hr k9];obtain ⟨a,u,x',h1,h2⟩:=Zl I hn5 C;rw [h1];exact ⟨a,⟨σ.s,σ.r,σ.h,u,x',σ.y,σ.z⟩,rfl,wat a u x' h2⟩
  by_cases k10:c.Kind=10
  ·rw [doS,SB _ _ _ _ _ _ _ _ _ hr k10];obtain ⟨a,u,x',h1,h2⟩:=Zm I hn5 C;rw [h1];exact ⟨a,⟨σ.s,σ.r,σ.h,u,x',σ.y,σ.z⟩,rfl,wat a u x' h2⟩
  have kk:=C.kind;rw [doS,Sg _ _ _ _ _ _ _ _ _ hr (by omega)];unfold jN;cases pe:decide (5 <= c.Kind) && decide (bl c.Prefix= []) with
  | true=>rw [iP (by trivial),kD];exact bad 1
  | false=>
   rw [iN (by simp)];by_cases k2:c.Kind=2
   ·rw [iP (by simpa using k2)];obtain ⟨a,h',y',h1,h2⟩:=Mw I hn5 C;rw [h1];refine ⟨a,⟨σ.s,σ.r,h',σ.w,σ.x,y',σ.z⟩,rfl,?_⟩;have sn:=I.sn;have st:=I.st;have wl:=I.wl;have hl:=I.hl;rcases h2 with ⟨v,_,rfl,rfl,_⟩ | ⟨_,rfl,rfl,_⟩ | ⟨g,w0,T,rfl,ae,y128⟩
    ·exact ⟨I.mono (by omega),DM.refl _ _ _⟩
    ·exact ⟨I.mono (by omega),DM.refl _ _ _⟩
    refine ⟨⟨I.s,by simp only;omega,by simp only;omega,I.r,T.ok,by have:=T.len;simp only;omega,I.w,by simp only;omega,I.x,?_,I.z,λt v gv=>?_⟩,⟨λ_ _ h=>h,λx hx=>?_⟩⟩
    ·simp only;rw [w5,g];simp;omega
    ·by_cases e:t=c.Txn
     ·subst e;rw [pJ] at gv;cases gv;exact ⟨cl,C.may⟩
     rw [kE _ e] at gv;exact I.tx t v gv
    rcases T.new x hx with q | ⟨d,q,rfl⟩
    ·exact .inl q
    refine .inr ⟨k2,?_,Pu I.r w0 d q⟩;have ge:=Pw σ.s c.Pieces 0 σ.s [];rw [ae];simp only;unfold Ew at ge;omega
   rw [iN (by simpa using k2)];by_cases k3:c.Kind=3
   ·rw [iP (by simpa using k3)];obtain ⟨a,s',h',u,y',h1,w1,w2,h2⟩:=Zh I hn5 C;rw [h1];refine ⟨a,⟨s',σ.r,h',u,σ.x,y',σ.z⟩,rfl,?_⟩;have sn:=I.sn;have st:=I.st;have wl:=I.wl;have hl:=I.hl;have yl:=I.y;rcases h2 with ⟨rfl,rfl,rfl,_⟩ | ⟨_,rfl,rfl,q⟩
    ·exact ⟨⟨I.s,by simp only;omega,by simp only;omega,I.r,I.h,by simp only;omega,w1,by simp only;omega,I.x,I.y,I.z,I.tx⟩,⟨λ_ _ h=>h,λx h=>.inl h⟩⟩
    have hs:cI s'/\s'.Nodes.length <= n+600/\s'.Turns.length <= n+600/\(hY σ.y c.Txn Is).length <= 128:=by
     rcases q with ⟨g,_,rfl,y128⟩ | ⟨v,g,_,rfl⟩
     ·exact ⟨I.s,by omega,by omega,by rw [w5,g];simp;omega⟩
     obtain ⟨t1,t2⟩:=I.tx _ _ g;obtain ⟨q1,q2,q3⟩:=Ty σ.s v.pieces_ I.s t2;have yb:(hY σ.y c.Txn Is).length <= 128:=by rw [w5,g];simp;omega
     split
     ·exact ⟨q1,by omega,by omega,yb⟩
     exact ⟨I.s,by omega,by omega,yb⟩
    refine ⟨⟨hs.1,hs.2.1,hs.2.2.1,I.r,I.h.free _,by have:=List.length_filter_le (λx=>!(x.Txn == c.Txn)) σ.h;simp only;omega,w1,by simp only;omega,I.x,hs.2.2.2,I.z,λt v gv=>?_⟩,⟨λ_ _ h=>h,λx hx=>.inl (List.mem_filter.1 hx).1⟩⟩;by_cases e:t=c.Txn
    ·subst e;rw [pJ] at gv;cases gv;exact ⟨by simp,λp hp=>by simp at hp⟩
    rw [kE _ e] at gv;exact I.tx t v gv
   rw [iN (by simpa using k3)];by_cases k4:c.Kind=4
   ·rw [iP (by simpa using k4)];obtain ⟨a,z',h1,h2⟩:=GQ I hn5 C;rw [h1];refine ⟨a,⟨σ.s,σ.r,σ.h,σ.w,σ.x,σ.y,z'⟩,rfl,⟨I.s,?_,?_,I.r,I.h,?_,I.w,?_,I.x,I.y,h2,I.tx⟩,⟨λ_ _ h=>h,λx h=>.inl h⟩⟩
    ·have:=I.sn;simp only;omega
    ·have:=I.st;simp only;omega
    ·have:=I.hl;simp only;omega
    have:=I.wl;simp only;omega
   rw [iN (by simpa using k4)];by_cases k5:c.Kind=5
   ·rw [iP (by simpa using k5)];obtain ⟨a,r',h1,h2,_⟩:=Va I hn5 C;rw [h1];refine ⟨a,⟨σ.s,r',σ.h,σ.w,σ.x,σ.y,σ.z⟩,rfl,⟨I.s,?_,?_,h2,I.h,?_,I.w,?_,I.x,I.y,I.z,I.tx⟩,⟨λ_ _ h=>h,λx h=>.inl h⟩⟩
    ·have:=I.sn;simp only;omega
    ·have:=I.st;simp only;omega
    ·have:=I.hl;simp only;omega
    have:=I.wl;simp only;omega
   rw [iN (by simpa using k5)];by_cases k6:c.Kind=6
   ·rw [iP (by simpa using k6)];obtain ⟨a,s',r',h1,h2,h3⟩:=Sf I hn5 C;rw [h1];have sn:=I.sn;have st:=I.st;have cn:=C.sn;have ct:=C.st;have hs:cI s'/\s'.Nodes.length <= n+600/\s'.Turns.length <= n+600:=by
     rcases h3 with ⟨rfl,_⟩ | ⟨_,rfl,_⟩
     ·exact ⟨I.s,by omega,by omega⟩
     obtain ⟨m1,m2,m3⟩:=SA I hn5 C r' (bl c.Prefix) I.s C.store;exact ⟨m1,by omega,by omega⟩
    refine ⟨a,⟨s',r',σ.h,σ.w,σ.x,σ.y,σ.z⟩,rfl,⟨hs.1,hs.2.1,hs.2.2,h2,I.h,?_,I.w,?_,I.x,I.y,I.z,I.tx⟩,⟨λ_ _ h=>h,λx h=>.inl h⟩⟩
    ·have:=I.hl;simp only;omega
    have:=I.wl;simp only;omega
   rw [iN (by simpa using k6),iP (by simp;omega)];obtain ⟨s',r',h1,h2,h3⟩:=BN I hn5 C;rw [h1];have sn:=I.sn;have st:=I.st;have hs:cI s'/\s'.Nodes.length <= n+600/\s'.Turns.length <= n+600:=by
    rcases h3 with ⟨rfl,_⟩ | ⟨rfl,_⟩
    ·exact ⟨I.s,by omega,by omega⟩
    refine ⟨cI.filt I.s _ _,?_,?_⟩
    ·exact Nat.le_trans (List.length_filter_le _ _) (by omega)
    exact Nat.le_trans (List.length_filter_le _ _) (by omega)
   refine ⟨_,⟨s',r',σ.h,σ.w,σ.x,σ.y,σ.z⟩,rfl,⟨hs.1,hs.2.1,hs.2.2,h2,I.h,?_,I.w,?_,I.x,I.y,I.z,I.tx⟩,⟨λ_ _ h=>h,λx h=>.inl h⟩⟩
   ·have:=I.hl;simp only;omega
   have:=I.wl;simp only;omega
end Go.Cb
