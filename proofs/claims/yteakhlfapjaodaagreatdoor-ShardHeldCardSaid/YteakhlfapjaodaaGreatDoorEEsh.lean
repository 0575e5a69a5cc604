/- A shard, plainly: what a command does to it, told whole; what is held stays as it is. -/
import Derived.Test.YteakhlfapjaodaaGreatDoorEDsh
set_option linter.unusedVariables false
set_option linter.unusedSimpArgs false
namespace Go.Cb
open Go.Proofs Go.RowKit

/-- what a command does. -/
def JL(σ:Sh)(c:Cmd)(a:Ans)(τ:Sh):Prop:=
 τ=σ∨
 (∃ u x' z',τ= ⟨σ.s,σ.r,σ.h,u,x',σ.y,z'⟩)∨
 (∃ u x',τ= ⟨G6 σ.s c.Pieces,σ.r,σ.h,u,x',σ.y,σ.z⟩/\(∀ p ∈ c.Pieces,tW p.Part=true)/\∀ d ∈ uJ c.Pieces,Cv σ.h (bl d)=false)∨
 (c.Kind=2/\dA σ.y c.Txn=none/\xY σ.r (uJ c.Pieces)=0/\∃ h',Eu σ.h c.Txn c.Age (uJ c.Pieces) h'/\τ= ⟨σ.s,σ.r,h',σ.w,σ.x,hY σ.y c.Txn ⟨false,c.Pieces,a⟩,σ.z⟩)∨
 (c.Kind=3/\∃ s' u,τ= ⟨s',σ.r,σ.h.filter (λx=>!(x.Txn == c.Txn)),u,σ.x,hY σ.y c.Txn Is,σ.z⟩/\(s'=σ.s∨∃ v,dA σ.y c.Txn=some v/\v.over_=false/\s'=G6 σ.s v.pieces_))∨
 (τ= ⟨σ.s,fU σ.r ⟨c.Prefix,c.Epoch,2⟩,σ.h,σ.w,σ.x,σ.y,σ.z⟩/\(σ.h.any λx=>atP (fU σ.r ⟨c.Prefix,c.Epoch,2⟩) (bl c.Prefix) (gW x))=false)∨
 (∃ r',τ= ⟨Dr r' (bl c.Prefix) σ.s c.Store,r',σ.h,σ.w,σ.x,σ.y,σ.z⟩/\cI c.Store/\(σ.h.any λx=>atP r' (bl c.Prefix) (gW x))=false/\(σ.h.any λx=>!Es σ.r r' (gW x))=false/\(∀ x ∈ fU σ.r ⟨c.Prefix,c.Epoch,1⟩,x ∈ r')/\(∀ x ∈ r',x ∈ fU σ.r ⟨c.Prefix,c.Epoch,1⟩∨(x.Epoch=0/\x.State=3/\∃ p ∈ c.Gone,bV x=bl p)))∨
 (τ= ⟨⟨σ.s.Nodes.filter (λx=>!inN σ.r (bl c.Prefix) x),σ.s.Turns.filter λx=>!inT σ.r (bl c.Prefix) x⟩,fU σ.r ⟨c.Prefix,c.Epoch,3⟩,σ.h,σ.w,σ.x,σ.y,σ.z⟩/\∃ x ∈ σ.r,bV x=bl c.Prefix/\x.State=2/\x.Epoch=c.Epoch)
theorem NP{n:Nat}{σ:Sh}(I:Inv n σ)(hn:n <= 49000)(c:Cmd)(sm:Bp c):∃ a τ,doS σ c=Lx a τ/\JL σ c a τ:=by
 have hn5:n <= 50000:=by omega
 have bad:∀ e,∃ a τ,some (rW e,σ.s.Nodes,σ.s.Turns,σ.r,σ.h,σ.w.Watches,σ.w.Sessions,σ.x,σ.y,σ.z)=Lx a τ/\JL σ c a τ:=λe=>⟨_,σ,rfl,.inl rfl⟩
 obtain ⟨b,hr,hc⟩:=Bo c sm.p sm.g sm.n sm.t;cases b with
 | false=>rw [doS,Zi _ _ _ _ _ _ _ _ _ hr];exact bad 1
 | true=>
  have C:=hc rfl;by_cases k11:c.Kind > 10
  ·rw [doS,BO _ _ _ _ _ _ _ _ _ hr k11];exact bad 1
  by_cases k1:c.Kind=1
  ·rw [doS,do1 _ _ _ _ _ _ _ _ _ hr k1];obtain ⟨a,s',u,x',h1,h2⟩:=Zj I hn5 C;rw [h1];refine ⟨a,⟨s',σ.r,σ.h,u,x',σ.y,σ.z⟩,rfl,?_⟩;rcases h2 with ⟨_,_,rfl,rfl⟩ | ⟨_,_,_,_,_,rfl,rfl⟩ | ⟨_,_,_,_,_,q⟩
   ·exact .inr (.inl ⟨_,_,_,rfl⟩)
   ·exact .inr (.inl ⟨_,_,_,rfl⟩)
   rcases q with ⟨_,_,_,rfl⟩ | ⟨_,q,_,rfl⟩
   ·exact .inr (.inl ⟨_,_,_,rfl⟩)
   exact .inr (.inr (.inl ⟨_,_,rfl,C.may,q⟩))
  by_cases k8:c.Kind=8
  ·rw [doS,do8 _ _ _ _ _ _ _ _ _ hr k8];obtain ⟨a,u,x',h1,h2⟩:=Zk I hn5 C;rw [h1];exact ⟨a,⟨σ.s,σ.r,σ.h,u,x',σ.y,σ.z⟩,rfl,.inr (.inl ⟨_,_,_,rfl⟩)⟩
  by_cases k9:c.Kind=9
  ·rw [doS,do9 _ _ _ _ _ _ _ _ _ hr k9];obtain ⟨a,u,x',h1,h2⟩:=Zl I hn5 C;rw [h1];exact ⟨a,⟨σ.s,σ.r,σ.h,u,x',σ.y,σ.z⟩,rfl,.inr (.inl ⟨_,_,_,rfl⟩)⟩
  by_cases k10:c.Kind=10
  ·rw [doS,SB _ _ _ _ _ _ _ _ _ hr k10];obtain ⟨a,u,x',h1,h2⟩:=Zm I hn5 C;rw [h1];exact ⟨a,⟨σ.s,σ.r,σ.h,u,x',σ.y,σ.z⟩,rfl,.inr (.inl ⟨_,_,_,rfl⟩)⟩
  have kk:=C.kind;rw [doS,Sg _ _ _ _ _ _ _ _ _ hr (by omega)];unfold jN;cases pe:decide (5 <= c.Kind) && decide (bl c.Prefix= []) with
  | true=>rw [iP (by trivial),kD];exact bad 1
  | false=>
   rw [iN (by simp)];by_cases k2:c.Kind=2
   ·rw [iP (by simpa using k2)];obtain ⟨a,h',y',h1,h2⟩:=Mw I hn5 C;rw [h1];refine ⟨a,⟨σ.s,σ.r,h',σ.w,σ.x,y',σ.z⟩,rfl,?_⟩;rcases h2 with ⟨v,_,rfl,rfl,_⟩ | ⟨_,rfl,rfl,_⟩ | ⟨g,w0,T,rfl,ae,y128⟩
    ·exact .inl rfl
    ·exact .inl rfl
    exact .inr (.inr (.inr (.inl ⟨k2,g,w0,_,T,rfl⟩)))
   rw [iN (by simpa using k2)];by_cases k3:c.Kind=3
   ·rw [iP (by simpa using k3)];obtain ⟨a,s',h',u,y',h1,w1,w2,h2⟩:=Zh I hn5 C;rw [h1];refine ⟨a,⟨s',σ.r,h',u,σ.x,y',σ.z⟩,rfl,?_⟩;rcases h2 with ⟨rfl,rfl,rfl,_⟩ | ⟨_,rfl,rfl,q⟩
    ·exact .inr (.inl ⟨_,_,_,rfl⟩)
    refine .inr (.inr (.inr (.inr (.inl ⟨k3,_,_,rfl,?_⟩))));rcases q with ⟨_,_,rfl,_⟩ | ⟨v,g,ov,rfl⟩
    ·exact .inl rfl
    split
    ·exact .inr ⟨v,g,ov,rfl⟩
    exact .inl rfl
   rw [iN (by simpa using k3)];by_cases k4:c.Kind=4
   ·rw [iP (by simpa using k4)];obtain ⟨a,z',h1,h2⟩:=GQ I hn5 C;rw [h1];exact ⟨a,⟨σ.s,σ.r,σ.h,σ.w,σ.x,σ.y,z'⟩,rfl,.inr (.inl ⟨_,_,_,rfl⟩)⟩
   rw [iN (by simpa using k4)];by_cases k5:c.Kind=5
   ·rw [iP (by simpa using k5)];obtain ⟨a,r',h1,h2,h3⟩:=Va I hn5 C;rw [h1];refine ⟨a,⟨σ.s,r',σ.h,σ.w,σ.x,σ.y,σ.z⟩,rfl,?_⟩;rcases h3 with ⟨rfl,_⟩ | ⟨rfl,_⟩ | ⟨rfl,_,q,_⟩
    ·exact .inl rfl
    ·exact .inl rfl
    exact .inr (.inr (.inr (.inr (.inr (.inl ⟨rfl,q⟩)))))
   rw [iN (by simpa using k5)];by_cases k6:c.Kind=6
   ·rw [iP (by simpa using k6)];obtain ⟨a,s',r',h1,h2,h3⟩:=Sf I hn5 C;rw [h1];refine ⟨a,⟨s',r',σ.h,σ.w,σ.x,σ.y,σ.z⟩,rfl,?_⟩;rcases h3 with ⟨rfl,rfl,_⟩ | ⟨_,rfl,q1,q2,_,q3,q4,_⟩
    ·exact .inl rfl
    exact .inr (.inr (.inr (.inr (.inr (.inr (.inl ⟨r',rfl,C.store,q1,q2,q3,q4⟩))))))
   rw [iN (by simpa using k6),iP (by simp;omega)];obtain ⟨s',r',h1,h2,h3⟩:=BN I hn5 C;rw [h1];refine ⟨_,⟨s',r',σ.h,σ.w,σ.x,σ.y,σ.z⟩,rfl,?_⟩;rcases h3 with ⟨rfl,rfl⟩ | ⟨rfl,rfl,q⟩
   ·exact .inl rfl
   exact .inr (.inr (.inr (.inr (.inr (.inr (.inr ⟨rfl,q⟩))))))
/-! ### what is held -/
structure DN (σ:Sh):Prop where
 txn:∀ t v,dA σ.y t=some v->v.over_=false->∀ p ∈ v.pieces_,∃ x ∈ σ.h,gW x=bl p.Part.Dir/\x.Txn=t
 mine:∀ x ∈ σ.h,stR σ.r (gW x)=1
theorem SC{l:List Hd}(H:Et l){x y:Hd}(hx:x ∈ l)(hy:y ∈ l)(h:gW x=gW y):x=y:=by
 obtain ⟨i,hi,rfl⟩:=List.mem_iff_getElem.1 hx;obtain ⟨j,hj,rfl⟩:=List.mem_iff_getElem.1 hy;have hp:=List.pairwise_iff_getElem.1 H.sort;rcases Nat.lt_trichotomy i j with c | c | c
 ·exact absurd h (tV (hp i j hi hj c))
 ·subst c;rfl
 exact absurd h.symm (tV (hp j i hj hi c))
theorem Lz{r:List Rg}(R:eX r){d:List UInt8}(h:stR r d=1):∃ y,xN r d=some y/\y.State=1:=by
 unfold stR at h;cases g:xN r d with
 | none=>rw [g] at h;cases h
 | some y=>rw [g] at h;exact ⟨y,rfl,h⟩
/-- a range that is put does not take a directory that it has not. -/
theorem JM{r:List Rg}(R:eX r){X:Rg}(R':eX (fU r X)){d:List UInt8}{y:Rg}(hy:xN r d=some y)(h:atP (fU r X) (bV X) d=false):xN (fU r X) d=some y:=by
 obtain ⟨a,b,c⟩:=W2 R hy;have no:inS d (bV X)=true->(bV X).length < (bV y).length∨False:=λhx=>by
  refine Classical.byContradiction λq=>?_;have:xN (fU r X) d=some X:=Hb R' (UC.2 (.inl rfl)) hx λz hz hin=>by
   rcases UC.1 hz with rfl | ⟨e,_⟩
   ·exact Nat.le_refl _
   have:=c z e hin;omega
  unfold atP at h;rw [this] at h;simp at h
 have ne:bV y ≠ bV X:=λe=>by
  rcases no (e ▸ b) with q | q
  ·rw [e] at q;omega
  exact q
 refine Hb R' (UC.2 (.inr ⟨a,ne⟩)) b λz hz hin=>?_;rcases UC.1 hz with rfl | ⟨e,_⟩
 ·rcases no hin with q | q
  ·omega
  exact q.elim
 exact c z e hin
theorem Ma{l:List Hd}{f:Hd->Bool}(h:l.any f=false){x:Hd}(hx:x ∈ l):f x=false:=by
 simpa using List.any_eq_false.1 h x hx
theorem AE{α:Type} [Inhabited α] [DecidableEq α] {zs:List α} {x:α} (h:x ∈ zs):x ∈ Lib.compact zs:=by
 obtain ⟨i,hi,rfl⟩:=List.mem_iff_getElem.1 h;have key:∀ i,i < zs.length->∃ j,j < zs.length/\Lib.keeps zs.toArray j=true/\zs.toArray[j]! =zs.toArray[i]! :=by
  intro i
  induction i with
  | zero=>exact λhi=>⟨0,hi,Lib.keeps_lt_one _ 0 (by omega),rfl⟩
  | succ i ih=>
   intro hi;by_cases c:Lib.keeps zs.toArray (i+1)=true
   ·exact ⟨i+1,hi,c,rfl⟩
   obtain ⟨j,j1,j2,j3⟩:=ih (by omega);refine ⟨j,j1,j2,j3.trans ?_⟩;unfold Lib.keeps at c;simp at c;simpa using c.symm
 obtain ⟨j,j1,j2,j3⟩:=key i hi;unfold Lib.compact Lib.compactUpTo;refine List.mem_map.2 ⟨j,List.mem_filter.2 ⟨List.mem_range.2 j1,j2⟩,?_⟩;rw [j3];simp [getElem!_pos,hi]
theorem Py{l:List Pie}{p:Pie}(h:p ∈ l):p.Part.Dir ∈ uJ l:=by
 unfold uJ tB wY;rw [Bb];refine List.mem_map.2 ⟨toL p.Part.Dir,AE ((X1 _).mem_iff.2 (List.mem_map.2 ⟨_,List.mem_map.2 ⟨p,h,rfl⟩,rfl⟩)),rfl⟩
/-- a transaction that is prepared stays so, and what is of its directories stays, whatever else is done. -/
theorem GT{n:Nat}{σ τ:Sh}(I:Inv n σ)(J:Inv (n+600) τ)(H:DN σ){c:Cmd}{a:Ans}(sp:JL σ c a τ){t:Int}{v:Txn}(hv:dA σ.y t=some v)(hov:v.over_=false)(hc:c.Txn ≠ t∨(c.Kind ≠ 3/\c.Kind ≠ 2)):DN τ/\dA τ.y t=some v/\∀ p ∈ v.pieces_,rX (bl p.Part.Dir) σ.s τ.s:=by
 have hold:∀ p ∈ v.pieces_,∃ x ∈ σ.h,gW x=bl p.Part.Dir/\x.Txn=t:=H.txn t v hv hov;rcases sp with rfl | ⟨u,x',z',rfl⟩ | ⟨u,x',rfl,hm,hh⟩ | ⟨k2,g,w0,h',T,rfl⟩ | ⟨k3,s',u,rfl,hs⟩ | ⟨rfl,hh⟩ | ⟨r',rfl,S',hh,ho,hr1,hr2⟩ | ⟨rfl,x0,x1,x2,x3,x4⟩
 ·exact ⟨H,hv,λp _=>.refl _ _⟩
 ·exact ⟨⟨H.txn,H.mine⟩,hv,λp _=>.refl _ _⟩
 ·refine ⟨⟨H.txn,H.mine⟩,hv,λp hp=>Sk I.s hm λq hq e=>?_⟩;obtain ⟨x,hx,e1,_⟩:=hold p hp;have:=hh _ (Py hq);unfold Cv at this;have:=Ma this hx;simp only [decide_eq_false_iff_not] at this;exact this (by rw [e1,e])
 ·have ne:c.Txn ≠ t:=hc.resolve_right λq=>q.2 k2;refine ⟨⟨λt' v' g' ov p hp=>?_,λx hx=>?_⟩,?_,λp _=>.refl _ _⟩
  ·simp only at g';by_cases e:t'=c.Txn
   ·subst e;rw [pJ] at g';cases g';exact T.all _ (Py hp)
   rw [kE _ e] at g';obtain ⟨x,hx,e1⟩:=H.txn t' v' g' ov p hp;exact ⟨x,T.old x hx,e1⟩
  ·rcases T.new x hx with q | ⟨d,q,rfl⟩
   ·exact H.mine x q
   exact Pu I.r w0 d q
  simp only;rw [kE _ (λe=>ne e.symm)];exact hv
 ·have ne:c.Txn ≠ t:=hc.resolve_right λq=>q.1 k3;refine ⟨⟨λt' v' g' ov p hp=>?_,λx hx=>H.mine x (List.mem_filter.1 hx).1⟩,?_,λp hp=>?_⟩
  ·simp only at g';by_cases e:t'=c.Txn
   ·subst e;rw [pJ] at g';cases g';cases ov
   rw [kE _ e] at g';obtain ⟨x,hx,e1,e2⟩:=H.txn t' v' g' ov p hp;exact ⟨x,List.mem_filter.2 ⟨hx,by rw [e2];simpa using e⟩,e1,e2⟩
  ·simp only;rw [kE _ (λe=>ne e.symm)];exact hv
  rcases hs with rfl | ⟨v',g',ov',rfl⟩
  ·exact .refl _ _
  refine Sk I.s (I.tx _ _ g').2 λq hq e=>?_;obtain ⟨x,hx,e1,e2⟩:=hold p hp;obtain ⟨y,hy,f1,f2⟩:=H.txn _ _ g' ov' q hq;have:=SC I.h hx hy (by rw [e1,f1,e]);rw [this,f2] at e2;exact ne e2
 ·refine ⟨⟨H.txn,λx hx=>?_⟩,hv,λp _=>.refl _ _⟩;obtain ⟨y,y1,y2⟩:=Lz I.r (H.mine x hx);have:=JM I.r J.r y1 (Ma hh hx);simp only;unfold stR;rw [this];exact y2
 ·refine ⟨⟨H.txn,λx hx=>?_⟩,hv,λp hp=>?_⟩
  ·obtain ⟨y,y1,y2⟩:=Lz I.r (H.mine x hx);have sp:=Ma ho hx;have np:=Ma hh hx;have Rr:eX r':=J.r;unfold Es at sp;rw [y1] at sp;cases g:xN r' (gW x) with
   | none=>rw [g] at sp;cases sp
   | some z=>
    rw [g] at sp;have e:bV y=bV z:=by simpa using sp
    have np':bV z ≠ bl c.Prefix:=by unfold atP at np;rw [g] at np;simpa using np
    have ym:=(W2 I.r y1).1;have zm:=(W2 Rr g).1;have yr:y ∈ r':=hr1 y (UC.2 (.inr ⟨ym,λq=>np' (by rw [← e,q];rfl)⟩));have:=Sc Rr.sort yr zm e;subst this;simp only;unfold stR;rw [g];exact y2
  obtain ⟨x,hx,e1,_⟩:=hold p hp;have np:=Ma hh hx;rw [e1] at np;refine ⟨λy e=>?_,λy e=>?_⟩
  ·unfold Dr;simp only;rw [(srt_perm _).mem_iff,List.mem_append,List.mem_filter,List.mem_filter];have:inN r' (bl c.Prefix) y=false:=by unfold inN;rw [e];exact np
   rw [this];simp
  unfold Dr;simp only;rw [(Tn.srt_perm _).mem_iff,List.mem_append,List.mem_filter,List.mem_filter];have:inT r' (bl c.Prefix) y=false:=by unfold inT;rw [e];exact np
  rw [this];simp
 have far:∀ x ∈ σ.h,∃ y,xN σ.r (gW x)=some y/\y.State=1/\bV y ≠ bl c.Prefix:=λx hx=>by
  obtain ⟨y,y1,y2⟩:=Lz I.r (H.mine x hx);refine ⟨y,y1,y2,λe=>?_⟩;have:=Sc I.r.sort (W2 I.r y1).1 x1 (by rw [e,x2]);rw [this,x3] at y2;cases y2
 refine ⟨⟨H.txn,λx hx=>?_⟩,hv,λp hp=>?_⟩
 ·obtain ⟨y,y1,y2,y3⟩:=far x hx;obtain ⟨a1,a2,a3⟩:=W2 I.r y1;have:xN (fU σ.r ⟨c.Prefix,c.Epoch,3⟩) (gW x)=some y:=Hb J.r (UC.2 (.inr ⟨a1,y3⟩)) a2 λz hz hin=>by
   rcases UC.1 hz with rfl | ⟨q,_⟩
   ·have:=a3 x0 x1 (by rw [x2];exact hin);rw [x2] at this;exact this
   exact a3 z q hin
  simp only;unfold stR;rw [this];exact y2
 obtain ⟨x,hx,e1,_⟩:=hold p hp;obtain ⟨y,y1,y2,y3⟩:=far x hx;rw [e1] at y1;refine ⟨λz e=>?_,λz e=>?_⟩
 ·simp only;rw [List.mem_filter];have:inN σ.r (bl c.Prefix) z=false:=by unfold inN atP;rw [e,y1];simpa using y3
  rw [this];simp
 simp only;rw [List.mem_filter];have:inT σ.r (bl c.Prefix) z=false:=by unfold inT atP;rw [e,y1];simpa using y3
 rw [this];simp
end Go.Cb
