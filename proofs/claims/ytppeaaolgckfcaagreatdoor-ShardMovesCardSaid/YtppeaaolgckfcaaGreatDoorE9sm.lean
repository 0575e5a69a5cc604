/- A shard, plainly: whatever is done, it stays right. -/
import Derived.Test.YtppeaaolgckfcaaGreatDoorE8sm
set_option linter.unusedVariables false
set_option linter.unusedSimpArgs false
namespace Go.Cb
open Go.Proofs Go.RowKit

/-! ### Do, by kinds -/
section
variable (a:List Nd) (b:List Tn) (r:List Rg) (d:List Hd) (f:List Wat) (g:List Ses) (x:List (Int×Ans)) (y:List (Int×Txn)) (z:List (Int×Ans)) {c:Cmd}
theorem AB(hr:fE c=some false):cD a b r d f g x y z c=some (oW 1,a,b,r,d,f,g,x,y,z):=by
 unfold cD;rw [hr];rfl
theorem CQ(hr:fE c=some true)(k:c.Kind > 10):cD a b r d f g x y z c=some (oW 1,a,b,r,d,f,g,x,y,z):=by
 unfold cD iJ;rw [hr];simp only [bS];rw [iN (by simp),iP (by simpa using k)];rfl
theorem do1(hr:fE c=some true)(k:c.Kind=1):cD a b r d f g x y z c=(qN a b r d f g x c).bind λu=>some (u.1,u.2.1,u.2.2.1,r,d,u.2.2.2.1,u.2.2.2.2.1,u.2.2.2.2.2,y,z):=by
 unfold cD iJ kJ;rw [hr];simp only [bS];rw [iN (by simp),iN (by simp [k]),iP (by simp [k]),iP (by simp [k]),iP (by simp [k])]
theorem do8(hr:fE c=some true)(k:c.Kind=8):cD a b r d f g x y z c=(qM f g x c).bind λu=>some (u.1,a,b,r,d,u.2.1,u.2.2.1,u.2.2.2,y,z):=by
 unfold cD iJ kJ;rw [hr];simp only [bS];rw [iN (by simp),iN (by simp [k]),iN (by simp [k]),iP (by simp [k]),iN (by simp [k]),iP (by simp [k])]
theorem do9(hr:fE c=some true)(k:c.Kind=9):cD a b r d f g x y z c=(qL f g x c).bind λu=>some (u.1,a,b,r,d,u.2.1,u.2.2.1,u.2.2.2,y,z):=by
 unfold cD iJ kJ;rw [hr];simp only [bS];rw [iN (by simp),iN (by simp [k]),iN (by simp [k]),iP (by simp [k]),iN (by simp [k]),iN (by simp [k]),iP (by simp [k])]
theorem TU(hr:fE c=some true)(k:c.Kind=10):cD a b r d f g x y z c=(tO f g x c).bind λu=>some (u.1,a,b,r,d,u.2.1,u.2.2.1,u.2.2.2,y,z):=by
 unfold cD iJ kJ;rw [hr];simp only [bS];rw [iN (by simp),iN (by simp [k]),iN (by simp [k]),iP (by simp [k]),iN (by simp [k]),iN (by simp [k]),iN (by simp [k]),iP (by simp [k])]
theorem Ih(hr:fE c=some true)(k:2 <= c.Kind/\c.Kind <= 7):cD a b r d f g x y z c=hB a b r d f g x y z c (decide (5 <= c.Kind) && decide (bl c.Prefix= [])):=by
 unfold cD iJ kJ;rw [hr];simp only [bS];rw [iN (by simp),iN (by simp;omega),iN (by simp;omega),iN (by simp;omega),oU,emp];by_cases h:5 <= c.Kind
 ·rw [iP (by simpa using h),decide_eq_true h];rfl
 rw [iN (by simpa using h),decide_eq_false h];rfl
end
/-! ### what is done once -/
def J8(x:List (Int×Ans))(id:Int)(a:Ans):List (Int×Ans):=if id ≠ 0/\a.Err ≠ 131/\a.Err ≠ 132 then lX x id a else x
/-- what an Id's command comes to: what it was, none any more, or what is done now. -/
def Rj(x:List (Int×Ans))(id:Int)(a:Ans)(x':List (Int×Ans))(same:Prop)(done:Prop):Prop:=
 (dN x id=some a/\x'=x/\same)∨(dN x id=none/\id ≠ 0/\x.length=512/\a=oW 2/\x'=x/\same)∨(dN x id=none/\(id=0∨x.length ≠ 512)/\x'=J8 x id a/\done)
section
variable {n:Nat} {σ:Sh} (I:Inv n σ) (hn:n <= 50000) {c:Cmd} (C:Du c)
include I hn C
theorem AC:∃ a s' u x',qN σ.s.Nodes σ.s.Turns σ.r σ.h σ.w.Watches σ.w.Sessions σ.x c=some (a,s'.Nodes,s'.Turns,u.Watches,u.Sessions,x')/\
  Rj σ.x c.Id a x' (s'=σ.s/\u=σ.w) (rN u/\u.Sessions.length=σ.w.Sessions.length/\((∃ e,(e=131∨e=132)/\a=oW e/\s'=σ.s)∨(xX σ.r (uT c.Pieces)=0/\(∀ d ∈ uT c.Pieces,Fx σ.h (bl d)=false)/\a=EF σ.s c.Pieces/\s'=Bc σ.s c.Pieces))):=by
 have xl:=I.x;unfold qN U7 mlk;rw [iP (E3 C.id)];simp only [Option.map_some,bS];unfold vI;cases g:dN σ.x c.Id with
 | some v=>rw [iP (by rfl)];exact ⟨v,σ.s,σ.w,_,rfl,.inl ⟨g,rfl,rfl,rfl⟩⟩
 | none=>
  rw [iN (by simp)];unfold rC;obtain ⟨a,s',u,h1,h2,h3,h4⟩:=TS I hn C;by_cases id0:c.Id=0
  ·rw [iN (by simpa using id0),iN (by simp),h1];simp only [bS];rw [iN (by simpa using id0)];unfold lB nP;rw [iN (by simp)];exact ⟨a,s',u,_,rfl,.inr (.inr ⟨g,.inl id0,by simp [J8,id0],h2,h3,h4⟩)⟩
  rw [iP (by simpa using id0)];by_cases f:σ.x.length=512
  ·rw [iP (by simp [f]),jW];exact ⟨_,σ.s,σ.w,_,rfl,.inr (.inl ⟨g,id0,f,rfl,rfl,rfl,rfl⟩)⟩
  rw [iN (by simp;omega),h1];simp only [bS];rw [iP (by simpa using id0)];unfold lB nP mpt;refine ⟨a,s',u,J8 σ.x c.Id a,?_,.inr (.inr ⟨g,.inr f,rfl,h2,h3,h4⟩)⟩;unfold J8;by_cases e1:a.Err=131
  ·rw [iN (by simpa using e1),iN (by simp),iN (by simp [e1])]
  rw [iP (by simpa using e1)];by_cases e2:a.Err=132
  ·rw [iN (by simpa using e2),iN (by simp [e2])]
  rw [iP (by simpa using e2),iP ⟨E3 C.id,by simp [maxLen];omega⟩,iP ⟨id0,e1,e2⟩];rfl
abbrev Xh (a:Ans) (u:bC):Prop:=rN u/\u.Sessions.length <= σ.w.Sessions.length+1/\a.Results= []/\a.Events.length <= 8/\a= { oW a.Err with Events:=a.Events }
end
section
variable {n:Nat} {σ:Sh} (I:Inv n σ) (hn:n <= 50000) {c:Cmd} (C:Du c)
include I hn C
theorem AD:∃ a u x',qM σ.w.Watches σ.w.Sessions σ.x c=some (a,u.Watches,u.Sessions,x')/\Rj σ.x c.Id a x' (u=σ.w) (Xh (σ:=σ) a u):=by
 have xl:=I.x;unfold qM U7 mlk;rw [iP (E3 C.id)];simp only [Option.map_some,bS];unfold vH;cases g:dN σ.x c.Id with
 | some v=>rw [iP (by rfl)];exact ⟨v,σ.w,_,rfl,.inl ⟨g,rfl,rfl⟩⟩
 | none=>
  rw [iN (by simp)];unfold rB;obtain ⟨a,u,h1,h2⟩:=KL I hn C;by_cases id0:c.Id=0
  ·rw [iN (by simpa using id0),iN (by simp),h1];simp only [bS];rw [iN (by simpa using id0)];unfold lA nN;rw [iN (by simp)];exact ⟨a,u,_,rfl,.inr (.inr ⟨g,.inl id0,by simp [J8,id0],h2⟩)⟩
  rw [iP (by simpa using id0)];by_cases f:σ.x.length=512
  ·rw [iP (by simp [f]),jW];exact ⟨_,σ.w,_,rfl,.inr (.inl ⟨g,id0,f,rfl,rfl,rfl⟩)⟩
  rw [iN (by simp;omega),h1];simp only [bS];rw [iP (by simpa using id0)];unfold lA nN mpt;refine ⟨a,u,J8 σ.x c.Id a,?_,.inr (.inr ⟨g,.inr f,rfl,h2⟩)⟩;unfold J8;by_cases e1:a.Err=131
  ·rw [iN (by simpa using e1),iN (by simp),iN (by simp [e1])]
  rw [iP (by simpa using e1)];by_cases e2:a.Err=132
  ·rw [iN (by simpa using e2),iN (by simp [e2])]
  rw [iP (by simpa using e2),iP ⟨E3 C.id,by simp [maxLen];omega⟩,iP ⟨id0,e1,e2⟩];rfl
theorem AE:∃ a u x',qL σ.w.Watches σ.w.Sessions σ.x c=some (a,u.Watches,u.Sessions,x')/\Rj σ.x c.Id a x' (u=σ.w) (Xh (σ:=σ) a u):=by
 have xl:=I.x;unfold qL U7 mlk;rw [iP (E3 C.id)];simp only [Option.map_some,bS];unfold vG;cases g:dN σ.x c.Id with
 | some v=>rw [iP (by rfl)];exact ⟨v,σ.w,_,rfl,.inl ⟨g,rfl,rfl⟩⟩
 | none=>
  rw [iN (by simp)];unfold rA;obtain ⟨a,u,h1,h2⟩:=EN I hn C;by_cases id0:c.Id=0
  ·rw [iN (by simpa using id0),iN (by simp),h1];simp only [bS];rw [iN (by simpa using id0)];unfold kZ nM;rw [iN (by simp)];exact ⟨a,u,_,rfl,.inr (.inr ⟨g,.inl id0,by simp [J8,id0],h2⟩)⟩
  rw [iP (by simpa using id0)];by_cases f:σ.x.length=512
  ·rw [iP (by simp [f]),jW];exact ⟨_,σ.w,_,rfl,.inr (.inl ⟨g,id0,f,rfl,rfl,rfl⟩)⟩
  rw [iN (by simp;omega),h1];simp only [bS];rw [iP (by simpa using id0)];unfold kZ nM mpt;refine ⟨a,u,J8 σ.x c.Id a,?_,.inr (.inr ⟨g,.inr f,rfl,h2⟩)⟩;unfold J8;by_cases e1:a.Err=131
  ·rw [iN (by simpa using e1),iN (by simp),iN (by simp [e1])]
  rw [iP (by simpa using e1)];by_cases e2:a.Err=132
  ·rw [iN (by simpa using e2),iN (by simp [e2])]
  rw [iP (by simpa using e2),iP ⟨E3 C.id,by simp [maxLen];omega⟩,iP ⟨id0,e1,e2⟩];rfl
theorem AF:∃ a u x',tO σ.w.Watches σ.w.Sessions σ.x c=some (a,u.Watches,u.Sessions,x')/\Rj σ.x c.Id a x' (u=σ.w) (Xh (σ:=σ) a u):=by
 have xl:=I.x;unfold tO U7 mlk;rw [iP (E3 C.id)];simp only [Option.map_some,bS];unfold yF;cases g:dN σ.x c.Id with
 | some v=>rw [iP (by rfl)];exact ⟨v,σ.w,_,rfl,.inl ⟨g,rfl,rfl⟩⟩
 | none=>
  rw [iN (by simp)];unfold tN;obtain ⟨a,u,h1,h2⟩:=PA I hn C;by_cases id0:c.Id=0
  ·rw [iN (by simpa using id0),iN (by simp),h1];simp only [bS];rw [iN (by simpa using id0)];unfold mQ pG;rw [iN (by simp)];exact ⟨a,u,_,rfl,.inr (.inr ⟨g,.inl id0,by simp [J8,id0],h2⟩)⟩
  rw [iP (by simpa using id0)];by_cases f:σ.x.length=512
  ·rw [iP (by simp [f]),jW];exact ⟨_,σ.w,_,rfl,.inr (.inl ⟨g,id0,f,rfl,rfl,rfl⟩)⟩
  rw [iN (by simp;omega),h1];simp only [bS];rw [iP (by simpa using id0)];unfold mQ pG mpt;refine ⟨a,u,J8 σ.x c.Id a,?_,.inr (.inr ⟨g,.inr f,rfl,h2⟩)⟩;unfold J8;by_cases e1:a.Err=131
  ·rw [iN (by simpa using e1),iN (by simp),iN (by simp [e1])]
  rw [iP (by simpa using e1)];by_cases e2:a.Err=132
  ·rw [iN (by simpa using e2),iN (by simp [e2])]
  rw [iP (by simpa using e2),iP ⟨E3 C.id,by simp [maxLen];omega⟩,iP ⟨id0,e1,e2⟩];rfl
end
theorem Rj.len {x:List (Int×Ans)} {id:Int} {a:Ans} {x':List (Int×Ans)} {p q:Prop} (h:Rj x id a x' p q) (hx:x.length <= 512):x'.length <= 512:=by
 rcases h with ⟨_,rfl,_⟩ | ⟨_,_,_,_,rfl,_⟩ | ⟨g,k,rfl,_⟩
 ·exact hx
 ·exact hx
 unfold J8;split
 ·rename_i c;rw [C9,g];have:=k.resolve_left c.1;simp;omega
 exact hx
theorem Rj.keep {x:List (Int×Ans)} {id:Int} {a:Ans} {x':List (Int×Ans)} {p q:Prop} (h:Rj x id a x' p q) {i:Int} {v:Ans} (g:dN x i=some v):dN x' i=some v:=by
 rcases h with ⟨_,rfl,_⟩ | ⟨_,_,_,_,rfl,_⟩ | ⟨e,k,rfl,_⟩
 ·exact g
 ·exact g
 unfold J8;split
 ·exact HP _ _ e g
 exact g
/-! ### errors of pieces -/
def Jv(e:Int):Prop:=e=0∨e=2∨(61 <= e/\e <= 66)
theorem PB(s:Sto)(p:Pt1):Jv (doP s p).2.Err:=by
 have nd:Jv (ndS s.Nodes p).2:=by
  unfold ndS Jv
  repeat' split
  all_goals simp
 unfold doP Ux
 repeat' split
 all_goals first | exact nd | (simp [Jv,res];done) | (unfold res Jv;split <;> simp)
theorem AG(s0:Sto):∀ (l:List Pie) (i:Nat) (s:Sto) (acc:List Res),Jv (mX s0 i s acc l).2.2.1
 | [],_,_,_=>.inl rfl
 | p::l,i,s,acc=>by
  unfold mX;split
  ·exact PB s p.Part
  exact AG s0 l _ _ _
/-! ### whatever is done -/
structure AH (σ:Sh) (c:Cmd) (a:Ans) (τ:Sh):Prop where
 ids:∀ i v,dN σ.x i=some v->dN τ.x i=some v
 holds:∀ x ∈ τ.h,x ∈ σ.h∨(c.Kind=2/\a.Err ≠ 131/\stR τ.r (jD x)=1)
abbrev doS (σ:Sh) (c:Cmd):=cD σ.s.Nodes σ.s.Turns σ.r σ.h σ.w.Watches σ.w.Sessions σ.x σ.y σ.z c
abbrev Na (a:Ans) (τ:Sh):=some (a,τ.s.Nodes,τ.s.Turns,τ.r,τ.h,τ.w.Watches,τ.w.Sessions,τ.x,τ.y,τ.z)
theorem Inv.mono {n m:Nat} {σ:Sh} (I:Inv n σ) (h:n <= m):Inv m σ:=
 ⟨I.s,by have:=I.sn;omega,by have:=I.st;omega,I.r,I.h,by have:=I.hl;omega,I.w,by have:=I.wl;omega,I.x,I.y,I.z,I.tx⟩
theorem AH.refl (σ:Sh) (c:Cmd) (a:Ans):AH σ c a σ:=⟨λ_ _ h=>h,λx h=>.inl h⟩
structure J9 (c:Cmd):Prop where
 p:c.Pieces.length <= 1000000
 g:c.Gone.length <= 1000000
 n:c.Store.Nodes.length <= 140737488351232
 t:c.Store.Turns.length <= 140737488351232
theorem HS{n m:Nat}{σ:Sh}(I:Inv n σ)(hn:n <= 49000)(c:Cmd)(sm:J9 c)(hm:20 <= m)(h6:c.Kind=6->600 <= m):∃ a τ,doS σ c=Na a τ/\Inv (n+m) τ/\AH σ c a τ:=by
 have hn5:n <= 50000:=by omega
 have bad:∀ e,∃ a τ,some (oW e,σ.s.Nodes,σ.s.Turns,σ.r,σ.h,σ.w.Watches,σ.w.Sessions,σ.x,σ.y,σ.z)=Na a τ/\Inv (n+m) τ/\AH σ c a τ:=λe=>⟨_,σ,rfl,I.mono (by omega),AH.refl _ _ _⟩
 obtain ⟨b,hr,hc⟩:=Gy c sm.p sm.g sm.n sm.t;cases b with
 | false=>rw [doS,AB _ _ _ _ _ _ _ _ _ hr];exact bad 1
 | true=>
  have C:=hc rfl;have cl:=C.len;have dl:=My c.Pieces;by_cases k11:c.Kind > 10
  ·rw [doS,CQ _ _ _ _ _ _ _ _ _ hr k11];exact bad 1
  by_cases k1:c.Kind=1
  ·rw [doS,do1 _ _ _ _ _ _ _ _ _ hr k1];obtain ⟨a,s',u,x',h1,h2⟩:=AC I hn5 C;rw [h1];refine ⟨a,⟨s',σ.r,σ.h,u,x',σ.y,σ.z⟩,rfl,?_,⟨λi v g=>h2.keep g,λx h=>.inl h⟩⟩;have hs:cV s'/\s'.Nodes.length <= n+m/\s'.Turns.length <= n+m/\rN u/\u.Sessions.length <= n+m:=by
    have sn:=I.sn;have st:=I.st;have wl:=I.wl;have old:cV σ.s/\σ.s.Nodes.length <= n+m/\σ.s.Turns.length <= n+m/\rN σ.w/\σ.w.Sessions.length <= n+m:=⟨I.s,by omega,by omega,I.w,by omega⟩
    rcases h2 with ⟨_,_,rfl,rfl⟩ | ⟨_,_,_,_,_,rfl,rfl⟩ | ⟨_,_,_,w1,w2,q⟩
    ·exact old
    ·exact old
    rcases q with ⟨_,_,_,rfl⟩ | ⟨_,_,_,rfl⟩
    ·exact ⟨I.s,by omega,by omega,w1,by omega⟩
    obtain ⟨q1,q2,q3⟩:=CM σ.s c.Pieces I.s C.may;exact ⟨q1,by omega,by omega,w1,by omega⟩
   exact ⟨hs.1,hs.2.1,hs.2.2.1,I.r,I.h,by have:=I.hl;simp only;omega,hs.2.2.2.1,hs.2.2.2.2,h2.len I.x,I.y,I.z,I.tx⟩
  have wat:∀ (a:Ans) (u:bC) (x':List (Int×Ans)),Rj σ.x c.Id a x' (u=σ.w) (Xh (σ:=σ) a u)->Inv (n+m) ⟨σ.s,σ.r,σ.h,u,x',σ.y,σ.z⟩/\AH σ c a ⟨σ.s,σ.r,σ.h,u,x',σ.y,σ.z⟩:=λa u x' h2=>by
   have wl:=I.wl;have hw:rN u/\u.Sessions.length <= n+m:=by
    rcases h2 with ⟨_,_,rfl⟩ | ⟨_,_,_,_,_,rfl⟩ | ⟨_,_,_,w1,w2,_⟩
    ·exact ⟨I.w,by omega⟩
    ·exact ⟨I.w,by omega⟩
    exact ⟨w1,by omega⟩
   exact ⟨⟨I.s,by have:=I.sn;simp only;omega,by have:=I.st;simp only;omega,I.r,I.h,by have:=I.hl;simp only;omega,hw.1,hw.2,h2.len I.x,I.y,I.z,I.tx⟩,⟨λi v g=>h2.keep g,λx h=>.inl h⟩⟩
  by_cases k8:c.Kind=8
  ·rw [doS,do8 _ _ _ _ _ _ _ _ _ hr k8];obtain ⟨a,u,x',h1,h2⟩:=AD I hn5 C;rw [h1];exact ⟨a,⟨σ.s,σ.r,σ.h,u,x',σ.y,σ.z⟩,rfl,wat a u x' h2⟩
  by_cases k9:c.Kind=9
  ·rw [doS,do9 _ _ _ _ _ _ _ _ _ hr k9];obtain ⟨a,u,x',h1,h2⟩:=AE I hn5 C;rw [h1];exact ⟨a,⟨σ.s,σ.r,σ.h,u,x',σ.y,σ.z⟩,rfl,wat a u x' h2⟩
  by_cases k10:c.Kind=10
  ·rw [doS,TU _ _ _ _ _ _ _ _ _ hr k10];obtain ⟨a,u,x',h1,h2⟩:=AF I hn5 C;rw [h1];exact ⟨a,⟨σ.s,σ.r,σ.h,u,x',σ.y,σ.z⟩,rfl,wat a u x' h2⟩
  have kk:=C.kind;rw [doS,Ih _ _ _ _ _ _ _ _ _ hr (by omega)];unfold hB;cases pe:decide (5 <= c.Kind) && decide (bl c.Prefix= []) with
  | true=>rw [iP (by trivial),jW];exact bad 1
  | false=>
   rw [iN (by simp)];by_cases k2:c.Kind=2
   ·rw [iP (by simpa using k2)];obtain ⟨a,h',y',h1,h2⟩:=CO I hn5 C;rw [h1];refine ⟨a,⟨σ.s,σ.r,h',σ.w,σ.x,y',σ.z⟩,rfl,?_⟩;have sn:=I.sn;have st:=I.st;have wl:=I.wl;have hl:=I.hl;rcases h2 with ⟨v,_,rfl,rfl,_⟩ | ⟨_,rfl,rfl,_⟩ | ⟨g,w0,T,rfl,ae,y128⟩
    ·exact ⟨I.mono (by omega),AH.refl _ _ _⟩
    ·exact ⟨I.mono (by omega),AH.refl _ _ _⟩
    refine ⟨⟨I.s,by simp only;omega,by simp only;omega,I.r,T.ok,by have:=T.len;simp only;omega,I.w,by simp only;omega,I.x,?_,I.z,λt v gv=>?_⟩,⟨λ_ _ h=>h,λx hx=>?_⟩⟩
    ·simp only;rw [C9,g];simp;omega
    ·by_cases e:t=c.Txn
     ·subst e;rw [uW] at gv;cases gv;exact ⟨cl,C.may⟩
     rw [qH _ e] at gv;exact I.tx t v gv
    rcases T.new x hx with q | ⟨d,q,rfl⟩
    ·exact .inl q
    refine .inr ⟨k2,?_,Ri I.r w0 d q⟩;have ge:=AG σ.s c.Pieces 0 σ.s [];rw [ae];simp only;unfold Jv at ge;omega
   rw [iN (by simpa using k2)];by_cases k3:c.Kind=3
   ·rw [iP (by simpa using k3)];obtain ⟨a,s',h',u,y',h1,w1,w2,h2⟩:=HQ I hn5 C;rw [h1];refine ⟨a,⟨s',σ.r,h',u,σ.x,y',σ.z⟩,rfl,?_⟩;have sn:=I.sn;have st:=I.st;have wl:=I.wl;have hl:=I.hl;have yl:=I.y;rcases h2 with ⟨rfl,rfl,rfl,_⟩ | ⟨_,rfl,rfl,q⟩
    ·exact ⟨⟨I.s,by simp only;omega,by simp only;omega,I.r,I.h,by simp only;omega,w1,by simp only;omega,I.x,I.y,I.z,I.tx⟩,⟨λ_ _ h=>h,λx h=>.inl h⟩⟩
    have hs:cV s'/\s'.Nodes.length <= n+m/\s'.Turns.length <= n+m/\(lX σ.y c.Txn Jt).length <= 128:=by
     rcases q with ⟨g,_,rfl,y128⟩ | ⟨v,g,_,rfl⟩
     ·exact ⟨I.s,by omega,by omega,by rw [C9,g];simp;omega⟩
     obtain ⟨t1,t2⟩:=I.tx _ _ g;obtain ⟨q1,q2,q3⟩:=CM σ.s v.pieces_ I.s t2;have yb:(lX σ.y c.Txn Jt).length <= 128:=by rw [C9,g];simp;omega
     split
     ·exact ⟨q1,by omega,by omega,yb⟩
     exact ⟨I.s,by omega,by omega,yb⟩
    refine ⟨⟨hs.1,hs.2.1,hs.2.2.1,I.r,I.h.free _,by have:=List.length_filter_le (λx=>!(x.Txn == c.Txn)) σ.h;simp only;omega,w1,by simp only;omega,I.x,hs.2.2.2,I.z,λt v gv=>?_⟩,⟨λ_ _ h=>h,λx hx=>.inl (List.mem_filter.1 hx).1⟩⟩;by_cases e:t=c.Txn
    ·subst e;rw [uW] at gv;cases gv;exact ⟨by simp,λp hp=>by simp at hp⟩
    rw [qH _ e] at gv;exact I.tx t v gv
   rw [iN (by simpa using k3)];by_cases k4:c.Kind=4
   ·rw [iP (by simpa using k4)];obtain ⟨a,z',h1,h2⟩:=HR I hn5 C;rw [h1];refine ⟨a,⟨σ.s,σ.r,σ.h,σ.w,σ.x,σ.y,z'⟩,rfl,⟨I.s,?_,?_,I.r,I.h,?_,I.w,?_,I.x,I.y,h2,I.tx⟩,⟨λ_ _ h=>h,λx h=>.inl h⟩⟩
    ·have:=I.sn;simp only;omega
    ·have:=I.st;simp only;omega
    ·have:=I.hl;simp only;omega
    have:=I.wl;simp only;omega
   rw [iN (by simpa using k4)];by_cases k5:c.Kind=5
   ·rw [iP (by simpa using k5)];obtain ⟨a,r',h1,h2,_⟩:=Mz I hn5 C;rw [h1];refine ⟨a,⟨σ.s,r',σ.h,σ.w,σ.x,σ.y,σ.z⟩,rfl,⟨I.s,?_,?_,h2,I.h,?_,I.w,?_,I.x,I.y,I.z,I.tx⟩,⟨λ_ _ h=>h,λx h=>.inl h⟩⟩
    ·have:=I.sn;simp only;omega
    ·have:=I.st;simp only;omega
    ·have:=I.hl;simp only;omega
    have:=I.wl;simp only;omega
   rw [iN (by simpa using k5)];by_cases k6:c.Kind=6
   ·rw [iP (by simpa using k6)];obtain ⟨a,s',r',h1,h2,h3⟩:=Tr I hn5 C;have h6:=h6 k6;rw [h1];have sn:=I.sn;have st:=I.st;have cn:=C.sn;have ct:=C.st;have hs:cV s'/\s'.Nodes.length <= n+m/\s'.Turns.length <= n+m:=by
     rcases h3 with ⟨rfl,_⟩ | ⟨_,rfl,_⟩
     ·exact ⟨I.s,by omega,by omega⟩
     obtain ⟨m1,m2,m3⟩:=TT I hn5 C r' (bl c.Prefix) I.s C.store;exact ⟨m1,by omega,by omega⟩
    refine ⟨a,⟨s',r',σ.h,σ.w,σ.x,σ.y,σ.z⟩,rfl,⟨hs.1,hs.2.1,hs.2.2,h2,I.h,?_,I.w,?_,I.x,I.y,I.z,I.tx⟩,⟨λ_ _ h=>h,λx h=>.inl h⟩⟩
    ·have:=I.hl;simp only;omega
    have:=I.wl;simp only;omega
   rw [iN (by simpa using k6),iP (by simp;omega)];obtain ⟨s',r',h1,h2,h3⟩:=CP I hn5 C;rw [h1];have sn:=I.sn;have st:=I.st;have hs:cV s'/\s'.Nodes.length <= n+m/\s'.Turns.length <= n+m:=by
    rcases h3 with ⟨rfl,_⟩ | ⟨rfl,_⟩
    ·exact ⟨I.s,by omega,by omega⟩
    refine ⟨cV.filt I.s _ _,?_,?_⟩
    ·exact Nat.le_trans (List.length_filter_le _ _) (by omega)
    exact Nat.le_trans (List.length_filter_le _ _) (by omega)
   refine ⟨_,⟨s',r',σ.h,σ.w,σ.x,σ.y,σ.z⟩,rfl,⟨hs.1,hs.2.1,hs.2.2,h2,I.h,?_,I.w,?_,I.x,I.y,I.z,I.tx⟩,⟨λ_ _ h=>h,λx h=>.inl h⟩⟩
   ·have:=I.hl;simp only;omega
   have:=I.wl;simp only;omega
theorem VU{n:Nat}{σ:Sh}(I:Inv n σ)(hn:n <= 49000)(c:Cmd)(sm:J9 c):∃ a τ,doS σ c=Na a τ/\Inv (n+600) τ/\AH σ c a τ:=HS I hn c sm (by omega) (λ_=>by omega)
end Go.Cb
