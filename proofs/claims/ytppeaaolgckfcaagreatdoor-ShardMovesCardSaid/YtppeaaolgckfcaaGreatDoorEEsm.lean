/- A shard, plainly: what a command does to it, told whole; what is held stays as it is. -/
import Derived.Test.YtppeaaolgckfcaaGreatDoorEDsm
set_option linter.unusedVariables false
set_option linter.unusedSimpArgs false
namespace Go.Cb
open Go.Proofs Go.RowKit

/-- what a command does. -/
def ER(σ:Sh)(c:Cmd)(a:Ans)(τ:Sh):Prop:=
 τ=σ∨
 (∃ u x' z',τ= ⟨σ.s,σ.r,σ.h,u,x',σ.y,z'⟩)∨
 (∃ u x',τ= ⟨Bc σ.s c.Pieces,σ.r,σ.h,u,x',σ.y,σ.z⟩/\(∀ p ∈ c.Pieces,yQ p.Part=true)/\xX σ.r (uT c.Pieces)=0/\∀ d ∈ uT c.Pieces,Fx σ.h (bl d)=false)∨
 (c.Kind=2/\dN σ.y c.Txn=none/\xX σ.r (uT c.Pieces)=0/\∃ h',Fy σ.h c.Txn c.Age (uT c.Pieces) h'/\τ= ⟨σ.s,σ.r,h',σ.w,σ.x,lX σ.y c.Txn ⟨false,c.Pieces,a⟩,σ.z⟩)∨
 (c.Kind=3/\∃ s' u,τ= ⟨s',σ.r,σ.h.filter (λx=>!(x.Txn == c.Txn)),u,σ.x,lX σ.y c.Txn Jt,σ.z⟩/\(s'=σ.s∨∃ v,dN σ.y c.Txn=some v/\v.over_=false/\s'=Bc σ.s v.pieces_))∨
 (c.Kind=5/\τ= ⟨σ.s,eD σ.r ⟨c.Prefix,c.Epoch,2⟩,σ.h,σ.w,σ.x,σ.y,σ.z⟩/\(σ.h.any λx=>atP (eD σ.r ⟨c.Prefix,c.Epoch,2⟩) (bl c.Prefix) (jD x))=false)∨
 (c.Kind=6/\∃ r',τ= ⟨Ju r' (bl c.Prefix) σ.s c.Store,r',σ.h,σ.w,σ.x,σ.y,σ.z⟩/\cV c.Store/\(σ.h.any λx=>atP r' (bl c.Prefix) (jD x))=false/\(σ.h.any λx=>!Fw σ.r r' (jD x))=false/\(∀ x ∈ eD σ.r ⟨c.Prefix,c.Epoch,1⟩,x ∈ r')/\(∀ x ∈ r',x ∈ eD σ.r ⟨c.Prefix,c.Epoch,1⟩∨(x.Epoch=0/\x.State=3/\∃ p ∈ c.Gone,bX x=bl p)))∨
 (c.Kind=7/\τ= ⟨⟨σ.s.Nodes.filter (λx=>!inN σ.r (bl c.Prefix) x),σ.s.Turns.filter λx=>!inT σ.r (bl c.Prefix) x⟩,eD σ.r ⟨c.Prefix,c.Epoch,3⟩,σ.h,σ.w,σ.x,σ.y,σ.z⟩/\∃ x ∈ σ.r,bX x=bl c.Prefix/\x.State=2/\x.Epoch=c.Epoch)
theorem CS{n:Nat}{σ:Sh}(I:Inv n σ)(hn:n <= 49000)(c:Cmd)(sm:J9 c):∃ a τ,doS σ c=Na a τ/\ER σ c a τ:=by
 have hn5:n <= 50000:=by omega
 have bad:∀ e,∃ a τ,some (oW e,σ.s.Nodes,σ.s.Turns,σ.r,σ.h,σ.w.Watches,σ.w.Sessions,σ.x,σ.y,σ.z)=Na a τ/\ER σ c a τ:=λe=>⟨_,σ,rfl,.inl rfl⟩
 obtain ⟨b,hr,hc⟩:=Gy c sm.p sm.g sm.n sm.t;cases b with
 | false=>rw [doS,AB _ _ _ _ _ _ _ _ _ hr];exact bad 1
 | true=>
  have C:=hc rfl;by_cases k11:c.Kind > 10
  ·rw [doS,CQ _ _ _ _ _ _ _ _ _ hr k11];exact bad 1
  by_cases k1:c.Kind=1
  ·rw [doS,do1 _ _ _ _ _ _ _ _ _ hr k1];obtain ⟨a,s',u,x',h1,h2⟩:=AC I hn5 C;rw [h1];refine ⟨a,⟨s',σ.r,σ.h,u,x',σ.y,σ.z⟩,rfl,?_⟩;rcases h2 with ⟨_,_,rfl,rfl⟩ | ⟨_,_,_,_,_,rfl,rfl⟩ | ⟨_,_,_,_,_,q⟩
   ·exact .inr (.inl ⟨_,_,_,rfl⟩)
   ·exact .inr (.inl ⟨_,_,_,rfl⟩)
   rcases q with ⟨_,_,_,rfl⟩ | ⟨w0,q,_,rfl⟩
   ·exact .inr (.inl ⟨_,_,_,rfl⟩)
   exact .inr (.inr (.inl ⟨_,_,rfl,C.may,w0,q⟩))
  by_cases k8:c.Kind=8
  ·rw [doS,do8 _ _ _ _ _ _ _ _ _ hr k8];obtain ⟨a,u,x',h1,h2⟩:=AD I hn5 C;rw [h1];exact ⟨a,⟨σ.s,σ.r,σ.h,u,x',σ.y,σ.z⟩,rfl,.inr (.inl ⟨_,_,_,rfl⟩)⟩
  by_cases k9:c.Kind=9
  ·rw [doS,do9 _ _ _ _ _ _ _ _ _ hr k9];obtain ⟨a,u,x',h1,h2⟩:=AE I hn5 C;rw [h1];exact ⟨a,⟨σ.s,σ.r,σ.h,u,x',σ.y,σ.z⟩,rfl,.inr (.inl ⟨_,_,_,rfl⟩)⟩
  by_cases k10:c.Kind=10
  ·rw [doS,TU _ _ _ _ _ _ _ _ _ hr k10];obtain ⟨a,u,x',h1,h2⟩:=AF I hn5 C;rw [h1];exact ⟨a,⟨σ.s,σ.r,σ.h,u,x',σ.y,σ.z⟩,rfl,.inr (.inl ⟨_,_,_,rfl⟩)⟩
  have kk:=C.kind;rw [doS,Ih _ _ _ _ _ _ _ _ _ hr (by omega)];unfold hB;cases pe:decide (5 <= c.Kind) && decide (bl c.Prefix= []) with
  | true=>rw [iP (by trivial),jW];exact bad 1
  | false=>
   rw [iN (by simp)];by_cases k2:c.Kind=2
   ·rw [iP (by simpa using k2)];obtain ⟨a,h',y',h1,h2⟩:=CO I hn5 C;rw [h1];refine ⟨a,⟨σ.s,σ.r,h',σ.w,σ.x,y',σ.z⟩,rfl,?_⟩;rcases h2 with ⟨v,_,rfl,rfl,_⟩ | ⟨_,rfl,rfl,_⟩ | ⟨g,w0,T,rfl,ae,y128⟩
    ·exact .inl rfl
    ·exact .inl rfl
    exact .inr (.inr (.inr (.inl ⟨k2,g,w0,_,T,rfl⟩)))
   rw [iN (by simpa using k2)];by_cases k3:c.Kind=3
   ·rw [iP (by simpa using k3)];obtain ⟨a,s',h',u,y',h1,w1,w2,h2⟩:=HQ I hn5 C;rw [h1];refine ⟨a,⟨s',σ.r,h',u,σ.x,y',σ.z⟩,rfl,?_⟩;rcases h2 with ⟨rfl,rfl,rfl,_⟩ | ⟨_,rfl,rfl,q⟩
    ·exact .inr (.inl ⟨_,_,_,rfl⟩)
    refine .inr (.inr (.inr (.inr (.inl ⟨k3,_,_,rfl,?_⟩))));rcases q with ⟨_,_,rfl,_⟩ | ⟨v,g,ov,rfl⟩
    ·exact .inl rfl
    split
    ·exact .inr ⟨v,g,ov,rfl⟩
    exact .inl rfl
   rw [iN (by simpa using k3)];by_cases k4:c.Kind=4
   ·rw [iP (by simpa using k4)];obtain ⟨a,z',h1,h2⟩:=HR I hn5 C;rw [h1];exact ⟨a,⟨σ.s,σ.r,σ.h,σ.w,σ.x,σ.y,z'⟩,rfl,.inr (.inl ⟨_,_,_,rfl⟩)⟩
   rw [iN (by simpa using k4)];by_cases k5:c.Kind=5
   ·rw [iP (by simpa using k5)];obtain ⟨a,r',h1,h2,h3⟩:=Mz I hn5 C;rw [h1];refine ⟨a,⟨σ.s,r',σ.h,σ.w,σ.x,σ.y,σ.z⟩,rfl,?_⟩;rcases h3 with ⟨rfl,_⟩ | ⟨rfl,_⟩ | ⟨rfl,_,q,_⟩
    ·exact .inl rfl
    ·exact .inl rfl
    exact .inr (.inr (.inr (.inr (.inr (.inl ⟨k5,rfl,q⟩)))))
   rw [iN (by simpa using k5)];by_cases k6:c.Kind=6
   ·rw [iP (by simpa using k6)];obtain ⟨a,s',r',h1,h2,h3⟩:=Tr I hn5 C;rw [h1];refine ⟨a,⟨s',r',σ.h,σ.w,σ.x,σ.y,σ.z⟩,rfl,?_⟩;rcases h3 with ⟨rfl,rfl,_⟩ | ⟨_,rfl,q1,q2,_,q3,q4,_⟩
    ·exact .inl rfl
    exact .inr (.inr (.inr (.inr (.inr (.inr (.inl ⟨k6,r',rfl,C.store,q1,q2,q3,q4⟩))))))
   rw [iN (by simpa using k6),iP (by simp;omega)];obtain ⟨s',r',h1,h2,h3⟩:=CP I hn5 C;rw [h1];refine ⟨_,⟨s',r',σ.h,σ.w,σ.x,σ.y,σ.z⟩,rfl,?_⟩;rcases h3 with ⟨rfl,rfl⟩ | ⟨rfl,rfl,q⟩
   ·exact .inl rfl
   exact .inr (.inr (.inr (.inr (.inr (.inr (.inr ⟨by have:=C.kind;omega,rfl,q⟩))))))
/-! ### what is held -/
structure Rk (σ:Sh):Prop where
 txn:∀ t v,dN σ.y t=some v->v.over_=false->∀ p ∈ v.pieces_,∃ x ∈ σ.h,jD x=bl p.Part.Dir/\x.Txn=t
 mine:∀ x ∈ σ.h,stR σ.r (jD x)=1
theorem Nc{r:List Rg}(R:dW r){d:List UInt8}(h:stR r d=1):∃ y,vC r d=some y/\y.State=1:=by
 unfold stR at h;cases g:vC r d with
 | none=>rw [g] at h;cases h
 | some y=>rw [g] at h;exact ⟨y,rfl,h⟩
/-- a range that is put does not take a directory that it has not. -/
theorem KO{r:List Rg}(R:dW r){X:Rg}(R':dW (eD r X)){d:List UInt8}{y:Rg}(hy:vC r d=some y)(h:atP (eD r X) (bX X) d=false):vC (eD r X) d=some y:=by
 obtain ⟨a,b,c⟩:=C8 R hy;have no:inS d (bX X)=true->(bX X).length < (bX y).length∨False:=λhx=>by
  refine Classical.byContradiction λq=>?_;have:vC (eD r X) d=some X:=Dz R' (VX.2 (.inl rfl)) hx λz hz hin=>by
   rcases VX.1 hz with rfl | ⟨e,_⟩
   ·exact Nat.le_refl _
   have:=c z e hin;omega
  unfold atP at h;rw [this] at h;simp at h
 have ne:bX y ≠ bX X:=λe=>by
  rcases no (e ▸ b) with q | q
  ·rw [e] at q;omega
  exact q
 refine Dz R' (VX.2 (.inr ⟨a,ne⟩)) b λz hz hin=>?_;rcases VX.1 hz with rfl | ⟨e,_⟩
 ·rcases no hin with q | q
  ·omega
  exact q.elim
 exact c z e hin
theorem AL{l:List Hd}{f:Hd->Bool}(h:l.any f=false){x:Hd}(hx:x ∈ l):f x=false:=by
 simpa using List.any_eq_false.1 h x hx
theorem BG{α:Type} [Inhabited α] [DecidableEq α] {zs:List α} {x:α} (h:x ∈ zs):x ∈ Lib.compact zs:=by
 obtain ⟨i,hi,rfl⟩:=List.mem_iff_getElem.1 h;have key:∀ i,i < zs.length->∃ j,j < zs.length/\Lib.keeps zs.toArray j=true/\zs.toArray[j]! =zs.toArray[i]! :=by
  intro i
  induction i with
  | zero=>exact λhi=>⟨0,hi,Lib.keeps_lt_one _ 0 (by omega),rfl⟩
  | succ i ih=>
   intro hi;by_cases c:Lib.keeps zs.toArray (i+1)=true
   ·exact ⟨i+1,hi,c,rfl⟩
   obtain ⟨j,j1,j2,j3⟩:=ih (by omega);refine ⟨j,j1,j2,j3.trans ?_⟩;unfold Lib.keeps at c;simp at c;simpa using c.symm
 obtain ⟨j,j1,j2,j3⟩:=key i hi;unfold Lib.compact Lib.compactUpTo;refine List.mem_map.2 ⟨j,List.mem_filter.2 ⟨List.mem_range.2 j1,j2⟩,?_⟩;rw [j3];simp [getElem!_pos,hi]
theorem AM{l:List Pie}{p:Pie}(h:p ∈ l):p.Part.Dir ∈ uT l:=by
 unfold uT tU xZ;rw [Ci];refine List.mem_map.2 ⟨toL p.Part.Dir,BG ((An _).mem_iff.2 (List.mem_map.2 ⟨_,List.mem_map.2 ⟨p,h,rfl⟩,rfl⟩)),rfl⟩
/-- those who hold do so in ranges that are kept here, whatever is done. -/
theorem Nf{n m:Nat}{σ τ:Sh}(I:Inv n σ)(J:Inv m τ)(H:Rk σ){c:Cmd}{a:Ans}(sp:ER σ c a τ):Rk τ:=by
 rcases sp with rfl | ⟨u,x',z',rfl⟩ | ⟨u,x',rfl,_⟩ | ⟨_,g,w0,h',T,rfl⟩ | ⟨_,s',u,rfl,hs⟩ | ⟨_,rfl,hh⟩ | ⟨_,r',rfl,S',hh,ho,hr1,hr2⟩ | ⟨_,rfl,x0,x1,x2,x3,x4⟩
 ·exact H
 ·exact ⟨H.txn,H.mine⟩
 ·exact ⟨H.txn,H.mine⟩
 ·refine ⟨λt' v' g' ov p hp=>?_,λx hx=>?_⟩
  ·simp only at g';by_cases e:t'=c.Txn
   ·subst e;rw [uW] at g';cases g';exact T.all _ (AM hp)
   rw [qH _ e] at g';obtain ⟨x,hx,e1⟩:=H.txn t' v' g' ov p hp;exact ⟨x,T.old x hx,e1⟩
  rcases T.new x hx with q | ⟨d,q,rfl⟩
  ·exact H.mine x q
  exact Ri I.r w0 d q
 ·refine ⟨λt' v' g' ov p hp=>?_,λx hx=>H.mine x (List.mem_filter.1 hx).1⟩;simp only at g';by_cases e:t'=c.Txn
  ·subst e;rw [uW] at g';cases g';cases ov
  rw [qH _ e] at g';obtain ⟨x,hx,e1,e2⟩:=H.txn t' v' g' ov p hp;exact ⟨x,List.mem_filter.2 ⟨hx,by rw [e2];simpa using e⟩,e1,e2⟩
 ·refine ⟨H.txn,λx hx=>?_⟩;obtain ⟨y,y1,y2⟩:=Nc I.r (H.mine x hx);have:=KO I.r J.r y1 (AL hh hx);simp only;unfold stR;rw [this];exact y2
 ·refine ⟨H.txn,λx hx=>?_⟩;obtain ⟨y,y1,y2⟩:=Nc I.r (H.mine x hx);have sp:=AL ho hx;have np:=AL hh hx;have Rr:dW r':=J.r;unfold Fw at sp;rw [y1] at sp;cases g:vC r' (jD x) with
  | none=>rw [g] at sp;cases sp
  | some z=>
   rw [g] at sp;have e:bX y=bX z:=by simpa using sp
   have np':bX z ≠ bl c.Prefix:=by unfold atP at np;rw [g] at np;simpa using np
   have ym:=(C8 I.r y1).1;have zm:=(C8 Rr g).1;have yr:y ∈ r':=hr1 y (VX.2 (.inr ⟨ym,λq=>np' (by rw [← e,q];rfl)⟩));have:=Er Rr.sort yr zm e;subst this;simp only;unfold stR;rw [g];exact y2
 refine ⟨H.txn,λx hx=>?_⟩;obtain ⟨y,y1,y2⟩:=Nc I.r (H.mine x hx);have y3:bX y ≠ bl c.Prefix:=λe=>by
  have:=Er I.r.sort (C8 I.r y1).1 x1 (by rw [e,x2]);rw [this,x3] at y2;cases y2
 obtain ⟨a1,a2,a3⟩:=C8 I.r y1;have:vC (eD σ.r ⟨c.Prefix,c.Epoch,3⟩) (jD x)=some y:=Dz J.r (VX.2 (.inr ⟨a1,y3⟩)) a2 λz hz hin=>by
  rcases VX.1 hz with rfl | ⟨q,_⟩
  ·have:=a3 x0 x1 (by rw [x2];exact hin);rw [x2] at this;exact this
  exact a3 z q hin
 simp only;unfold stR;rw [this];exact y2
end Go.Cb
