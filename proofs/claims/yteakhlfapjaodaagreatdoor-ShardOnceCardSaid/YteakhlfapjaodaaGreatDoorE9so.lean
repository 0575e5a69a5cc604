/- A shard, plainly: whatever is done, it stays right. -/
import Derived.Test.YteakhlfapjaodaaGreatDoorE8so
set_option linter.unusedVariables false
set_option linter.unusedSimpArgs false
namespace Go.Cb
open Go.Proofs Go.RowKit

/-! ### Do, by kinds -/
section
variable (a:List Nd) (b:List Tn) (r:List Rg) (d:List Hd) (f:List Wat) (g:List Ses) (x:List (Int×Ans)) (y:List (Int×Txn)) (z:List (Int×Ans)) {c:Cmd}
theorem CV(hr:gE c=some false):bZ a b r d f g x y z c=some (rV 1,a,b,r,d,f,g,x,y,z):=by
  unfold bZ
  rw [hr];rfl
theorem JO(hr:gE c=some true)(k:c.Kind > 10):bZ a b r d f g x y z c=some (rV 1,a,b,r,d,f,g,x,y,z):=by
  unfold bZ gS
  rw [hr]
  simp only [bS]
  rw [iN (by simp),iP (by simpa using k)];rfl
theorem do1(hr:gE c=some true)(k:c.Kind=1):bZ a b r d f g x y z c=(oZ a b r d f g x c).bind λ u=>some (u.1,u.2.1,u.2.2.1,r,d,u.2.2.2.1,u.2.2.2.2.1,u.2.2.2.2.2,y,z):=by
  unfold bZ gS iY
  rw [hr]
  simp only [bS]
  rw [iN (by simp),iN (by simp [k]),iP (by simp [k]),iP (by simp [k]),iP (by simp [k])]
theorem do8(hr:gE c=some true)(k:c.Kind=8):bZ a b r d f g x y z c=(oY f g x c).bind λ u=>some (u.1,a,b,r,d,u.2.1,u.2.2.1,u.2.2.2,y,z):=by
  unfold bZ gS iY
  rw [hr]
  simp only [bS]
  rw [iN (by simp),iN (by simp [k]),iN (by simp [k]),iP (by simp [k]),iN (by simp [k]),iP (by simp [k])]
theorem do9(hr:gE c=some true)(k:c.Kind=9):bZ a b r d f g x y z c=(oX f g x c).bind λ u=>some (u.1,a,b,r,d,u.2.1,u.2.2.1,u.2.2.2,y,z):=by
  unfold bZ gS iY
  rw [hr]
  simp only [bS]
  rw [iN (by simp),iN (by simp [k]),iN (by simp [k]),iP (by simp [k]),iN (by simp [k]),iN (by simp [k]),iP (by simp [k])]
theorem NZ(hr:gE c=some true)(k:c.Kind=10):bZ a b r d f g x y z c=(rO f g x c).bind λ u=>some (u.1,a,b,r,d,u.2.1,u.2.2.1,u.2.2.2,y,z):=by
  unfold bZ gS iY
  rw [hr]
  simp only [bS]
  rw [iN (by simp),iN (by simp [k]),iN (by simp [k]),iP (by simp [k]),iN (by simp [k]),iN (by simp [k]),iN (by simp [k]),iP (by simp [k])]
theorem OA(hr:gE c=some true)(k:2 <= c.Kind/\c.Kind <= 7):bZ a b r d f g x y z c=qG a b r d f g x y z c (decide (5 <= c.Kind) && decide (bl c.Prefix= [])):=by
  unfold bZ gS iY
  rw [hr]
  simp only [bS]
  rw [iN (by simp),iN (by simp;omega),iN (by simp;omega),iN (by simp;omega),qV,emp]
  by_cases h:5 <= c.Kind
  · rw [iP (by simpa using h),decide_eq_true h];rfl
  · rw [iN (by simpa using h),decide_eq_false h];rfl
end
/-! ### what is done once -/
def zQ(x:List (Int×Ans))(id:Int)(a:Ans):List (Int×Ans):=if id ≠ 0/\a.Err ≠ 131/\a.Err ≠ 132 then kZ x id a else x
/-- what an Id's command comes to: what it was, none any more, or what is done now. -/
def Da(x:List (Int×Ans))(id:Int)(a:Ans)(x':List (Int×Ans))(same:Prop)(done:Prop):Prop:=
  (cZ x id=some a/\x'=x/\same)∨(cZ x id=none/\id ≠ 0/\x.length=512/\a=rV 2/\x'=x/\same)∨(cZ x id=none/\(id=0∨x.length ≠ 512)/\x'=zQ x id a/\done)
section
variable {n:Nat} {σ:Sh} (I:Inv n σ) (hn:n <= 50000) {c:Cmd} (C:Q9 c)
include I hn C
theorem Vo:∃ a s' u x',oZ σ.s.Nodes σ.s.Turns σ.r σ.h σ.w.Watches σ.w.Sessions σ.x c=some (a,s'.Nodes,s'.Turns,u.Watches,u.Sessions,x')/\
    Da σ.x c.Id a x' (s'=σ.s/\u=σ.w) (pE u/\u.Sessions.length=σ.w.Sessions.length/\((∃ e,(e=131∨e=132)/\a=rV e/\s'=σ.s)∨(xV σ.r (yX c.Pieces)=0/\(∀ d ∈ yX c.Pieces,Fp σ.h (bl d)=false)/\a=Uz σ.s c.Pieces/\s'=Cz σ.s c.Pieces))):=by
  have xl:=I.x
  unfold oZ K7 mlk
  rw [iP (zI C.id)]
  simp only [Option.map_some,bS]
  unfold tF
  cases g:cZ σ.x c.Id with
  | some v=>rw [iP (by rfl)];exact ⟨v,σ.s,σ.w,_,rfl,.inl ⟨g,rfl,rfl,rfl⟩⟩
  | none=>
    rw [iN (by simp)]
    unfold pP
    obtain ⟨a,s',u,h1,h2,h3,h4⟩:=NV I hn C
    by_cases id0:c.Id=0
    · rw [iN (by simpa using id0),iN (by simp),h1]
      simp only [bS]
      rw [iN (by simpa using id0)]
      unfold jI lX
      rw [iN (by simp)]
      exact ⟨a,s',u,_,rfl,.inr (.inr ⟨g,.inl id0,by simp [zQ,id0],h2,h3,h4⟩)⟩
    · rw [iP (by simpa using id0)]
      by_cases f:σ.x.length=512
      · rw [iP (by simp [f]),kE]
        exact ⟨_,σ.s,σ.w,_,rfl,.inr (.inl ⟨g,id0,f,rfl,rfl,rfl,rfl⟩)⟩
      · rw [iN (by simp;omega),h1]
        simp only [bS]
        rw [iP (by simpa using id0)]
        unfold jI lX mpt
        refine ⟨a,s',u,zQ σ.x c.Id a,?_,.inr (.inr ⟨g,.inr f,rfl,h2,h3,h4⟩)⟩
        unfold zQ
        by_cases e1:a.Err=131
        · rw [iN (by simpa using e1),iN (by simp),iN (by simp [e1])]
        · rw [iP (by simpa using e1)]
          by_cases e2:a.Err=132
          · rw [iN (by simpa using e2),iN (by simp [e2])]
          · rw [iP (by simpa using e2),iP ⟨zI C.id,by simp [maxLen];omega⟩,iP ⟨id0,e1,e2⟩];rfl
abbrev Jr (a:Ans) (u:aT):Prop:=pE u/\u.Sessions.length <= σ.w.Sessions.length+1/\a.Results= []/\a.Events.length <= 8/\a= { rV a.Err with Events:=a.Events }
end
section
variable {n:Nat} {σ:Sh} (I:Inv n σ) (hn:n <= 50000) {c:Cmd} (C:Q9 c)
include I hn C
theorem Vp:∃ a u x',oY σ.w.Watches σ.w.Sessions σ.x c=some (a,u.Watches,u.Sessions,x')/\Da σ.x c.Id a x' (u=σ.w) (Jr (σ:=σ) a u):=by
  have xl:=I.x
  unfold oY K7 mlk
  rw [iP (zI C.id)]
  simp only [Option.map_some,bS]
  unfold tE
  cases g:cZ σ.x c.Id with
  | some v=>rw [iP (by rfl)];exact ⟨v,σ.w,_,rfl,.inl ⟨g,rfl,rfl⟩⟩
  | none=>
    rw [iN (by simp)]
    unfold pO
    obtain ⟨a,u,h1,h2⟩:=FF I hn C
    by_cases id0:c.Id=0
    · rw [iN (by simpa using id0),iN (by simp),h1]
      simp only [bS]
      rw [iN (by simpa using id0)]
      unfold jH lV
      rw [iN (by simp)]
      exact ⟨a,u,_,rfl,.inr (.inr ⟨g,.inl id0,by simp [zQ,id0],h2⟩)⟩
    · rw [iP (by simpa using id0)]
      by_cases f:σ.x.length=512
      · rw [iP (by simp [f]),kE]
        exact ⟨_,σ.w,_,rfl,.inr (.inl ⟨g,id0,f,rfl,rfl,rfl⟩)⟩
      · rw [iN (by simp;omega),h1]
        simp only [bS]
        rw [iP (by simpa using id0)]
        unfold jH lV mpt
        refine ⟨a,u,zQ σ.x c.Id a,?_,.inr (.inr ⟨g,.inr f,rfl,h2⟩)⟩
        unfold zQ
        by_cases e1:a.Err=131
        · rw [iN (by simpa using e1),iN (by simp),iN (by simp [e1])]
        · rw [iP (by simpa using e1)]
          by_cases e2:a.Err=132
          · rw [iN (by simpa using e2),iN (by simp [e2])]
          · rw [iP (by simpa using e2),iP ⟨zI C.id,by simp [maxLen];omega⟩,iP ⟨id0,e1,e2⟩];rfl
theorem Vq:∃ a u x',oX σ.w.Watches σ.w.Sessions σ.x c=some (a,u.Watches,u.Sessions,x')/\Da σ.x c.Id a x' (u=σ.w) (Jr (σ:=σ) a u):=by
  have xl:=I.x
  unfold oX K7 mlk
  rw [iP (zI C.id)]
  simp only [Option.map_some,bS]
  unfold tD
  cases g:cZ σ.x c.Id with
  | some v=>rw [iP (by rfl)];exact ⟨v,σ.w,_,rfl,.inl ⟨g,rfl,rfl⟩⟩
  | none=>
    rw [iN (by simp)]
    unfold pN
    obtain ⟨a,u,h1,h2⟩:=Zl I hn C
    by_cases id0:c.Id=0
    · rw [iN (by simpa using id0),iN (by simp),h1]
      simp only [bS]
      rw [iN (by simpa using id0)]
      unfold jG lU
      rw [iN (by simp)]
      exact ⟨a,u,_,rfl,.inr (.inr ⟨g,.inl id0,by simp [zQ,id0],h2⟩)⟩
    · rw [iP (by simpa using id0)]
      by_cases f:σ.x.length=512
      · rw [iP (by simp [f]),kE]
        exact ⟨_,σ.w,_,rfl,.inr (.inl ⟨g,id0,f,rfl,rfl,rfl⟩)⟩
      · rw [iN (by simp;omega),h1]
        simp only [bS]
        rw [iP (by simpa using id0)]
        unfold jG lU mpt
        refine ⟨a,u,zQ σ.x c.Id a,?_,.inr (.inr ⟨g,.inr f,rfl,h2⟩)⟩
        unfold zQ
        by_cases e1:a.Err=131
        · rw [iN (by simpa using e1),iN (by simp),iN (by simp [e1])]
        · rw [iP (by simpa using e1)]
          by_cases e2:a.Err=132
          · rw [iN (by simpa using e2),iN (by simp [e2])]
          · rw [iP (by simpa using e2),iP ⟨zI C.id,by simp [maxLen];omega⟩,iP ⟨id0,e1,e2⟩];rfl
theorem Vr:∃ a u x',rO σ.w.Watches σ.w.Sessions σ.x c=some (a,u.Watches,u.Sessions,x')/\Da σ.x c.Id a x' (u=σ.w) (Jr (σ:=σ) a u):=by
  have xl:=I.x
  unfold rO K7 mlk
  rw [iP (zI C.id)]
  simp only [Option.map_some,bS]
  unfold vT
  cases g:cZ σ.x c.Id with
  | some v=>rw [iP (by rfl)];exact ⟨v,σ.w,_,rfl,.inl ⟨g,rfl,rfl⟩⟩
  | none=>
    rw [iN (by simp)]
    unfold rN
    obtain ⟨a,u,h1,h2⟩:=JN I hn C
    by_cases id0:c.Id=0
    · rw [iN (by simpa using id0),iN (by simp),h1]
      simp only [bS]
      rw [iN (by simpa using id0)]
      unfold lF nP
      rw [iN (by simp)]
      exact ⟨a,u,_,rfl,.inr (.inr ⟨g,.inl id0,by simp [zQ,id0],h2⟩)⟩
    · rw [iP (by simpa using id0)]
      by_cases f:σ.x.length=512
      · rw [iP (by simp [f]),kE]
        exact ⟨_,σ.w,_,rfl,.inr (.inl ⟨g,id0,f,rfl,rfl,rfl⟩)⟩
      · rw [iN (by simp;omega),h1]
        simp only [bS]
        rw [iP (by simpa using id0)]
        unfold lF nP mpt
        refine ⟨a,u,zQ σ.x c.Id a,?_,.inr (.inr ⟨g,.inr f,rfl,h2⟩)⟩
        unfold zQ
        by_cases e1:a.Err=131
        · rw [iN (by simpa using e1),iN (by simp),iN (by simp [e1])]
        · rw [iP (by simpa using e1)]
          by_cases e2:a.Err=132
          · rw [iN (by simpa using e2),iN (by simp [e2])]
          · rw [iP (by simpa using e2),iP ⟨zI C.id,by simp [maxLen];omega⟩,iP ⟨id0,e1,e2⟩];rfl
end
theorem Da.len {x:List (Int×Ans)} {id:Int} {a:Ans} {x':List (Int×Ans)} {p q:Prop} (h:Da x id a x' p q) (hx:x.length <= 512):x'.length <= 512:=by
  rcases h with ⟨_,rfl,_⟩ | ⟨_,_,_,_,rfl,_⟩ | ⟨g,k,rfl,_⟩
  · exact hx
  · exact hx
  · unfold zQ
    split
    · rename_i c
      rw [yY,g]
      have:=k.resolve_left c.1
      simp;omega
    · exact hx
theorem Da.keep {x:List (Int×Ans)} {id:Int} {a:Ans} {x':List (Int×Ans)} {p q:Prop} (h:Da x id a x' p q) {i:Int} {v:Ans} (g:cZ x i=some v):cZ x' i=some v:=by
  rcases h with ⟨_,rfl,_⟩ | ⟨_,_,_,_,rfl,_⟩ | ⟨e,k,rfl,_⟩
  · exact g
  · exact g
  · unfold zQ
    split
    · exact CT _ _ e g
    · exact g
/-! ### errors of pieces -/
def Ft(e:Int):Prop:=e=0∨e=2∨(61 <= e/\e <= 66)
theorem JP(s:Sto)(p:Pt1):Ft (doP s p).2.Err:=by
  have nd:Ft (ndS s.Nodes p).2:=by
    unfold ndS Ft
    repeat' split
    all_goals simp
  unfold doP Uv
  repeat' split
  all_goals first | exact nd | (simp [Ft,res];done) | (unfold res Ft;split <;> simp)
theorem Vs(s0:Sto):∀ (l:List Pie) (i:Nat) (s:Sto) (acc:List Res),Ft (mN s0 i s acc l).2.2.1
  | [],_,_,_=>.inl rfl
  | p::l,i,s,acc=>by
    unfold mN
    split
    · exact JP s p.Part
    · exact Vs s0 l _ _ _
/-! ### whatever is done -/
structure Zm (σ:Sh) (c:Cmd) (a:Ans) (τ:Sh):Prop where
  ids:∀ i v,cZ σ.x i=some v->cZ τ.x i=some v
  holds:∀ x ∈ τ.h,x ∈ σ.h∨(c.Kind=2/\a.Err ≠ 131/\stR τ.r (kN x)=1)
abbrev doS (σ:Sh) (c:Cmd):=bZ σ.s.Nodes σ.s.Turns σ.r σ.h σ.w.Watches σ.w.Sessions σ.x σ.y σ.z c
abbrev Qc (a:Ans) (τ:Sh):=some (a,τ.s.Nodes,τ.s.Turns,τ.r,τ.h,τ.w.Watches,τ.w.Sessions,τ.x,τ.y,τ.z)
theorem Inv.mono {n m:Nat} {σ:Sh} (I:Inv n σ) (h:n <= m):Inv m σ:=
  ⟨I.s,by have:=I.sn;omega,by have:=I.st;omega,I.r,I.h,by have:=I.hl;omega,I.w,by have:=I.wl;omega,I.x,I.y,I.z,I.tx⟩
theorem Zm.refl (σ:Sh) (c:Cmd) (a:Ans):Zm σ c a σ:=⟨λ _ _ h=>h,λ x h=>.inl h⟩
structure M5 (c:Cmd):Prop where
  p:c.Pieces.length <= 1000000
  g:c.Gone.length <= 1000000
  n:c.Store.Nodes.length <= 140737488351232
  t:c.Store.Turns.length <= 140737488351232
theorem FZ{n:Nat}{σ:Sh}(I:Inv n σ)(hn:n <= 49000)(c:Cmd)(sm:M5 c):∃ a τ,doS σ c=Qc a τ/\Inv (n+600) τ/\Zm σ c a τ:=by
  have hn5:n <= 50000:=by omega
  have bad:∀ e,∃ a τ,some (rV e,σ.s.Nodes,σ.s.Turns,σ.r,σ.h,σ.w.Watches,σ.w.Sessions,σ.x,σ.y,σ.z)=Qc a τ/\Inv (n+600) τ/\Zm σ c a τ:=λ e=>⟨_,σ,rfl,I.mono (by omega),Zm.refl _ _ _⟩
  obtain ⟨b,hr,hc⟩:=Lb c sm.p sm.g sm.n sm.t
  cases b with
  | false=>rw [doS,CV _ _ _ _ _ _ _ _ _ hr];exact bad 1
  | true=>
    have C:=hc rfl
    have cl:=C.len
    have dl:=Iq c.Pieces
    by_cases k11:c.Kind > 10
    · rw [doS,JO _ _ _ _ _ _ _ _ _ hr k11];exact bad 1
    by_cases k1:c.Kind=1
    · rw [doS,do1 _ _ _ _ _ _ _ _ _ hr k1]
      obtain ⟨a,s',u,x',h1,h2⟩:=Vo I hn5 C
      rw [h1]
      refine ⟨a,⟨s',σ.r,σ.h,u,x',σ.y,σ.z⟩,rfl,?_,⟨λ i v g=>h2.keep g,λ x h=>.inl h⟩⟩
      have hs:eK s'/\s'.Nodes.length <= n+600/\s'.Turns.length <= n+600/\pE u/\u.Sessions.length <= n+600:=by
        have sn:=I.sn
        have st:=I.st
        have wl:=I.wl
        have old:eK σ.s/\σ.s.Nodes.length <= n+600/\σ.s.Turns.length <= n+600/\pE σ.w/\σ.w.Sessions.length <= n+600:=⟨I.s,by omega,by omega,I.w,by omega⟩
        rcases h2 with ⟨_,_,rfl,rfl⟩ | ⟨_,_,_,_,_,rfl,rfl⟩ | ⟨_,_,_,w1,w2,q⟩
        · exact old
        · exact old
        · rcases q with ⟨_,_,_,rfl⟩ | ⟨_,_,_,rfl⟩
          · exact ⟨I.s,by omega,by omega,w1,by omega⟩
          · obtain ⟨q1,q2,q3⟩:=Xo σ.s c.Pieces I.s C.may
            exact ⟨q1,by omega,by omega,w1,by omega⟩
      exact ⟨hs.1,hs.2.1,hs.2.2.1,I.r,I.h,by have:=I.hl;simp only;omega,hs.2.2.2.1,hs.2.2.2.2,h2.len I.x,I.y,I.z,I.tx⟩
    have wat:∀ (a:Ans) (u:aT) (x':List (Int×Ans)),Da σ.x c.Id a x' (u=σ.w) (Jr (σ:=σ) a u)->Inv (n+600) ⟨σ.s,σ.r,σ.h,u,x',σ.y,σ.z⟩/\Zm σ c a ⟨σ.s,σ.r,σ.h,u,x',σ.y,σ.z⟩:=λ a u x' h2=>by
      have wl:=I.wl
      have hw:pE u/\u.Sessions.length <= n+600:=by
        rcases h2 with ⟨_,_,rfl⟩ | ⟨_,_,_,_,_,rfl⟩ | ⟨_,_,_,w1,w2,_⟩
        · exact ⟨I.w,by omega⟩
        · exact ⟨I.w,by omega⟩
        · exact ⟨w1,by omega⟩
      exact ⟨⟨I.s,by have:=I.sn;simp only;omega,by have:=I.st;simp only;omega,I.r,I.h,by have:=I.hl;simp only;omega,hw.1,hw.2,h2.len I.x,I.y,I.z,I.tx⟩,⟨λ i v g=>h2.keep g,λ x h=>.inl h⟩⟩
    by_cases k8:c.Kind=8
    · rw [doS,do8 _ _ _ _ _ _ _ _ _ hr k8]
      obtain ⟨a,u,x',h1,h2⟩:=Vp I hn5 C
      rw [h1]
      exact ⟨a,⟨σ.s,σ.r,σ.h,u,x',σ.y,σ.z⟩,rfl,wat a u x' h2⟩
    by_cases k9:c.Kind=9
    · rw [doS,do9 _ _ _ _ _ _ _ _ _ hr k9]
      obtain ⟨a,u,x',h1,h2⟩:=Vq I hn5 C
      rw [h1]
      exact ⟨a,⟨σ.s,σ.r,σ.h,u,x',σ.y,σ.z⟩,rfl,wat a u x' h2⟩
    by_cases k10:c.Kind=10
    · rw [doS,NZ _ _ _ _ _ _ _ _ _ hr k10]
      obtain ⟨a,u,x',h1,h2⟩:=Vr I hn5 C
      rw [h1]
      exact ⟨a,⟨σ.s,σ.r,σ.h,u,x',σ.y,σ.z⟩,rfl,wat a u x' h2⟩
    have kk:=C.kind
    rw [doS,OA _ _ _ _ _ _ _ _ _ hr (by omega)]
    unfold qG
    cases pe:decide (5 <= c.Kind) && decide (bl c.Prefix= []) with
    | true=>rw [iP (by trivial),kE];exact bad 1
    | false=>
      rw [iN (by simp)]
      by_cases k2:c.Kind=2
      · rw [iP (by simpa using k2)]
        obtain ⟨a,h',y',h1,h2⟩:=JJ I hn5 C
        rw [h1]
        refine ⟨a,⟨σ.s,σ.r,h',σ.w,σ.x,y',σ.z⟩,rfl,?_⟩
        have sn:=I.sn
        have st:=I.st
        have wl:=I.wl
        have hl:=I.hl
        rcases h2 with ⟨v,_,rfl,rfl,_⟩ | ⟨_,rfl,rfl,_⟩ | ⟨g,w0,T,rfl,ae,y128⟩
        · exact ⟨I.mono (by omega),Zm.refl _ _ _⟩
        · exact ⟨I.mono (by omega),Zm.refl _ _ _⟩
        · refine ⟨⟨I.s,by simp only;omega,by simp only;omega,I.r,T.ok,by have:=T.len;simp only;omega,I.w,by simp only;omega,I.x,?_,I.z,λ t v gv=>?_⟩,⟨λ _ _ h=>h,λ x hx=>?_⟩⟩
          · simp only
            rw [yY,g];simp;omega
          · by_cases e:t=c.Txn
            · subst e
              rw [wA] at gv
              cases gv
              exact ⟨cl,C.may⟩
            · rw [tT _ e] at gv
              exact I.tx t v gv
          · rcases T.new x hx with q | ⟨d,q,rfl⟩
            · exact .inl q
            · refine .inr ⟨k2,?_,FE I.r w0 d q⟩
              have ge:=Vs σ.s c.Pieces 0 σ.s []
              rw [ae]
              simp only
              unfold Ft at ge
              omega
      rw [iN (by simpa using k2)]
      by_cases k3:c.Kind=3
      · rw [iP (by simpa using k3)]
        obtain ⟨a,s',h',u,y',h1,w1,w2,h2⟩:=NW I hn5 C
        rw [h1]
        refine ⟨a,⟨s',σ.r,h',u,σ.x,y',σ.z⟩,rfl,?_⟩
        have sn:=I.sn
        have st:=I.st
        have wl:=I.wl
        have hl:=I.hl
        have yl:=I.y
        rcases h2 with ⟨rfl,rfl,rfl,_⟩ | ⟨_,rfl,rfl,q⟩
        · exact ⟨⟨I.s,by simp only;omega,by simp only;omega,I.r,I.h,by simp only;omega,w1,by simp only;omega,I.x,I.y,I.z,I.tx⟩,⟨λ _ _ h=>h,λ x h=>.inl h⟩⟩
        · have hs:eK s'/\s'.Nodes.length <= n+600/\s'.Turns.length <= n+600/\(kZ σ.y c.Txn Jq).length <= 128:=by
            rcases q with ⟨g,_,rfl,y128⟩ | ⟨v,g,_,rfl⟩
            · exact ⟨I.s,by omega,by omega,by rw [yY,g];simp;omega⟩
            · obtain ⟨t1,t2⟩:=I.tx _ _ g
              obtain ⟨q1,q2,q3⟩:=Xo σ.s v.pieces_ I.s t2
              have yb:(kZ σ.y c.Txn Jq).length <= 128:=by rw [yY,g];simp;omega
              split
              · exact ⟨q1,by omega,by omega,yb⟩
              · exact ⟨I.s,by omega,by omega,yb⟩
          refine ⟨⟨hs.1,hs.2.1,hs.2.2.1,I.r,I.h.free _,by have:=List.length_filter_le (λ x=>!(x.Txn == c.Txn)) σ.h;simp only;omega,w1,by simp only;omega,I.x,hs.2.2.2,I.z,λ t v gv=>?_⟩,⟨λ _ _ h=>h,λ x hx=>.inl (List.mem_filter.1 hx).1⟩⟩
          by_cases e:t=c.Txn
          · subst e
            rw [wA] at gv
            cases gv
            exact ⟨by simp,λ p hp=>by simp at hp⟩
          · rw [tT _ e] at gv
            exact I.tx t v gv
      rw [iN (by simpa using k3)]
      by_cases k4:c.Kind=4
      · rw [iP (by simpa using k4)]
        obtain ⟨a,z',h1,h2⟩:=NX I hn5 C
        rw [h1]
        refine ⟨a,⟨σ.s,σ.r,σ.h,σ.w,σ.x,σ.y,z'⟩,rfl,⟨I.s,?_,?_,I.r,I.h,?_,I.w,?_,I.x,I.y,h2,I.tx⟩,⟨λ _ _ h=>h,λ x h=>.inl h⟩⟩
        · have:=I.sn;simp only;omega
        · have:=I.st;simp only;omega
        · have:=I.hl;simp only;omega
        · have:=I.wl;simp only;omega
      rw [iN (by simpa using k4)]
      by_cases k5:c.Kind=5
      · rw [iP (by simpa using k5)]
        obtain ⟨a,r',h1,h2,_⟩:=CU I hn5 C
        rw [h1]
        refine ⟨a,⟨σ.s,r',σ.h,σ.w,σ.x,σ.y,σ.z⟩,rfl,⟨I.s,?_,?_,h2,I.h,?_,I.w,?_,I.x,I.y,I.z,I.tx⟩,⟨λ _ _ h=>h,λ x h=>.inl h⟩⟩
        · have:=I.sn;simp only;omega
        · have:=I.st;simp only;omega
        · have:=I.hl;simp only;omega
        · have:=I.wl;simp only;omega
      rw [iN (by simpa using k5)]
      by_cases k6:c.Kind=6
      · rw [iP (by simpa using k6)]
        obtain ⟨a,s',r',h1,h2,h3⟩:=Zk I hn5 C
        rw [h1]
        have sn:=I.sn
        have st:=I.st
        have cn:=C.sn
        have ct:=C.st
        have hs:eK s'/\s'.Nodes.length <= n+600/\s'.Turns.length <= n+600:=by
          rcases h3 with ⟨rfl,_⟩ | ⟨_,rfl,_⟩
          · exact ⟨I.s,by omega,by omega⟩
          · obtain ⟨m1,m2,m3⟩:=NY I hn5 C r' (bl c.Prefix) I.s C.store
            exact ⟨m1,by omega,by omega⟩
        refine ⟨a,⟨s',r',σ.h,σ.w,σ.x,σ.y,σ.z⟩,rfl,⟨hs.1,hs.2.1,hs.2.2,h2,I.h,?_,I.w,?_,I.x,I.y,I.z,I.tx⟩,⟨λ _ _ h=>h,λ x h=>.inl h⟩⟩
        · have:=I.hl;simp only;omega
        · have:=I.wl;simp only;omega
      rw [iN (by simpa using k6),iP (by simp;omega)]
      obtain ⟨s',r',h1,h2,h3⟩:=JK I hn5 C
      rw [h1]
      have sn:=I.sn
      have st:=I.st
      have hs:eK s'/\s'.Nodes.length <= n+600/\s'.Turns.length <= n+600:=by
        rcases h3 with ⟨rfl,_⟩ | ⟨rfl,_⟩
        · exact ⟨I.s,by omega,by omega⟩
        · refine ⟨eK.filt I.s _ _,?_,?_⟩
          · exact Nat.le_trans (List.length_filter_le _ _) (by omega)
          · exact Nat.le_trans (List.length_filter_le _ _) (by omega)
      refine ⟨_,⟨s',r',σ.h,σ.w,σ.x,σ.y,σ.z⟩,rfl,⟨hs.1,hs.2.1,hs.2.2,h2,I.h,?_,I.w,?_,I.x,I.y,I.z,I.tx⟩,⟨λ _ _ h=>h,λ x h=>.inl h⟩⟩
      · have:=I.hl;simp only;omega
      · have:=I.wl;simp only;omega
end Go.Cb
