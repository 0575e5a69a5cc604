/- A shard's ranges, plainly: what is in a range; frozen, installed, dropped. -/
import Derived.Test.YtppeaaolgckfcaaGreatDoorE2sm
import Derived.Test.YtppeaaolgckfcaaGreatDoorKsm4
set_option linter.unusedVariables false
set_option linter.unusedSimpArgs false
namespace Go.Cb
open Go.Proofs Go.RowKit

abbrev Hd:=aY
/-! ### a search from the front, said once -/
def gIX{α:Type}(f:α->Option Bool)(l:List α):Nat->Int->Option Int
 | 0,_=>none
 | k+1,i=>if (decide (i < (l.length:Int)))=true then ((idx l i).bind λx=>(f x).bind λu=>if u=true then some i else gIX f l k (IntKind.i64.wrap (i+1))) else some (-1)
theorem Mw{α:Type}(f:α->Option Bool)(l:List α)(p:α->Bool)(hl:l.length <= 4611686018427387904)(hf:∀ x ∈ l,f x=some (p x)):∃ z,gIX f l (((l.length:Int) - 0:Int).toNat+1) 0=some z/\((z= -1/\(∀ x ∈ l,p x=false))∨∃ i:Nat,z=(i:Int)/\∃ hi:i < l.length,p l[i]=true/\∀ j (h:j < l.length),j < i->p l[j]=false):=by
 refine zF (λk i (_:Unit)=>gIX f l k i) (n:=l.length) (λi _=>∀ j (h:j < l.length),j < i->p l[j]=false) _ () (qR _) (λj h hj=>by omega) ?_ ?_
 ·intro k i _ hi P ih;unfold gIX;rw [iP (by simpa using hi),bY hi];simp only [bS];rw [hf _ (List.getElem_mem hi)];simp only [bS];cases c:p l[i] with
  | true=>rw [iP (by trivial)];exact ⟨_,rfl,.inr ⟨i,rfl,hi,c,P⟩⟩
  | false=>
   rw [iN (by simp),hP (by omega)];refine ih () λj h hj=>?_;by_cases e:j=i
   ·subst e;exact c
   exact P j h (by omega)
 intro k _ P;unfold gIX;rw [iN (by simp)];refine ⟨_,rfl,.inl ⟨rfl,λx hx=>?_⟩⟩;obtain ⟨j,hj,rfl⟩:=List.mem_iff_getElem.1 hx;exact P j hj hj
theorem U1{α:Type}(f:α->Option Bool)(l:List α)(p:α->Bool)(hl:l.length <= 4611686018427387904)(hf:∀ x ∈ l,f x=some (p x)):∃ z,gIX f l (((l.length:Int) - 0:Int).toNat+1) 0=some z/\decide (z ≥ 0)=l.any p:=by
 obtain ⟨z,h1,h2⟩:=Mw f l p hl hf;refine ⟨z,h1,?_⟩;rcases h2 with ⟨rfl,h⟩ | ⟨i,rfl,hi,h,_⟩
 ·rw [List.any_eq_false.2 λx hx=>by rw [h x hx];simp];rfl
 rw [List.any_eq_true.2 ⟨_,List.getElem_mem hi,h⟩];simp
/-! ### whose is a directory -/
def ofZ(l:List Rg)(d:List UInt8):Int:=(lP l (mk d)).getD (-1)
theorem Re{l:List Rg}(R:dW l)(s:BY):lP l s=some (ofZ l (bl s)):=by
 obtain ⟨z,h,_⟩:=EH R s;unfold ofZ;rw [Fr,h];rfl
theorem Zq{l:List Rg}(R:dW l)(d:List UInt8):EG l d (ofZ l d):=by
 obtain ⟨z,h,a⟩:=EH R (mk d);unfold ofZ;rw [h];exact a
/-- the range of a directory. -/
def vC(l:List Rg)(d:List UInt8):Option Rg:=if 0 <= ofZ l d then l[(ofZ l d).toNat]? else none
def atP(l:List Rg)(p d:List UInt8):Bool:=(vC l d).any λx=>decide (bX x=p)
def stR(l:List Rg)(d:List UInt8):Int:=((vC l d).map (·.State)).getD 3
theorem C7{l:List Rg}(R:dW l)(d:List UInt8):(ofZ l d= -1/\vC l d=none)∨∃ (i:Nat) (hi:i < l.length),ofZ l d=(i:Int)/\vC l d=some l[i]:=by
 rcases Zq R d with ⟨h,_⟩ | ⟨i,h,hi,_⟩
 ·exact .inl ⟨h,by unfold vC;rw [h];rfl⟩
 refine .inr ⟨i,hi,h,?_⟩;unfold vC;rw [h,iP (by omega),Int.toNat_natCast,List.getElem?_eq_getElem hi]
theorem Vw{l:List Rg}(R:dW l){d:List UInt8}(h:vC l d=none):∀ x ∈ l,inS d (bX x)=false:=by
 rcases Zq R d with ⟨_,h'⟩ | ⟨i,h',hi,_⟩
 ·exact h'
 unfold vC at h;rw [h',iP (by omega),Int.toNat_natCast,List.getElem?_eq_getElem hi] at h;cases h
theorem C8{l:List Rg}(R:dW l){d:List UInt8}{x:Rg}(h:vC l d=some x):x ∈ l/\inS d (bX x)=true/\∀ y ∈ l,inS d (bX y)=true->(bX y).length <= (bX x).length:=by
 rcases Zq R d with ⟨h',_⟩ | ⟨i,h',hi,a,b⟩
 ·unfold vC at h;rw [h'] at h;cases h
 unfold vC at h;rw [h',iP (by omega),Int.toNat_natCast,List.getElem?_eq_getElem hi] at h;cases h;exact ⟨List.getElem_mem hi,a,b⟩
theorem Zr{p q:List UInt8}(h:inS p q=true):q.length <= p.length/\(q.length=p.length->q=p):=by
 obtain ⟨l,k,h1,h2,t,rfl⟩:=Oe h;have a:=((iR _ _).1 h1).1;have b:=((iR _ _).1 h2).1;have one:∀ (x:List UInt8) (r:List (List UInt8)),(x::r).all gS=true->2 <= (fV (x::r)).length:=λx r hx=>by
  have:=Dy (List.all_eq_true.1 hx x (by simp));have:0 < x.length:=List.length_pos_iff.2 this;simp [fV];omega
 cases k with
 | nil=>
  cases t with
  | nil=>rw [a,b];exact ⟨Nat.le_refl _,λ_=>rfl⟩
  | cons x t=>
   have o:=one x t ((iR _ _).1 h1).2.1;have a':p=fV (x::t):=by rw [a];rfl
   have b':q= [47]:=b;rw [a',b'];exact ⟨by simp only [List.length_singleton];omega,λe=>by simp only [List.length_singleton] at e;omega⟩
 | cons x k=>
  have a':p=fV (x::k) ++ fV t:=by rw [a,← Bx];rfl
  have b':q=fV (x::k):=b;rw [a',b'];exact ⟨by simp,λe=>by
   have:(fV t).length=0:=by rw [List.length_append] at e;omega
   rw [List.eq_nil_of_length_eq_zero this,List.append_nil]⟩
/-- two paths in which one lies, of one length, are one. -/
theorem OK{d p q:List UInt8}(h1:inS d p=true)(h2:inS d q=true)(h:p.length=q.length):p=q:=by
 obtain ⟨l,k1,a1,b1,c1⟩:=Oe h1;obtain ⟨l',k2,a2,b2,c2⟩:=Oe h2;rw [a1] at a2;cases a2;rcases Nat.le_total k1.length k2.length with c | c
 ·have:inS q p=true:=by unfold inS;rw [b2,b1];exact List.isPrefixOf_iff_prefix.2 (List.prefix_of_prefix_length_le c1 c2 c)
  exact (Zr this).2 h
 have:inS p q=true:=by unfold inS;rw [b1,b2];exact List.isPrefixOf_iff_prefix.2 (List.prefix_of_prefix_length_le c2 c1 c)
 exact ((Zr this).2 h.symm).symm
theorem Er{l:List Rg}(R:l.Pairwise (bX · < bX ·)){x y:Rg}(hx:x ∈ l)(hy:y ∈ l)(h:bX x=bX y):x=y:=by
 obtain ⟨i,hi,rfl⟩:=List.mem_iff_getElem.1 hx;obtain ⟨j,hj,rfl⟩:=List.mem_iff_getElem.1 hy;have hp:=List.pairwise_iff_getElem.1 R;rcases Nat.lt_trichotomy i j with c | c | c
 ·exact absurd h (uR (hp i j hi hj c))
 ·subst c;rfl
 exact absurd h.symm (uR (hp j i hj hi c))
/-- what is known to be a directory's range is it. -/
theorem Dz{l:List Rg}(R:dW l){d:List UInt8}{x:Rg}(hx:x ∈ l)(h1:inS d (bX x)=true)(h2:∀ y ∈ l,inS d (bX y)=true->(bX y).length <= (bX x).length):vC l d=some x:=by
 cases h:vC l d with
 | none=>have:=Vw R h x hx;rw [h1] at this;cases this
 | some y=>
  obtain ⟨a,b,c⟩:=C8 R h;have e:(bX y).length=(bX x).length:=Nat.le_antisymm (h2 y a b) (c x hx h1);rw [Er R.sort a hx (OK b h1 e)]
theorem Mx{l:List Rg}(R:dW l){x:Rg}(hx:x ∈ l):vC l (bX x)=some x:=by
 have pk:=(Jq (R.all x hx)).1;exact Dz R hx (KF (p:=x.Prefix) pk) λy _ h=>(Zr h).1
theorem Rf{l:List Rg}(R:dW l)(s:BY):yO l s=some (stR l (bl s)):=by
 unfold yO stR;rw [Re R];simp only [bS];rcases C7 R (bl s) with ⟨h,e⟩ | ⟨i,hi,h,e⟩
 ·rw [h,e,iN (by decide)];rfl
 rw [h,e,iP (by simp),bY hi];rfl
theorem rix(l:List Rg)(s:BY):∀ (k:Nat) (i:Int),eY l s k i=gIX (λx=>qK x s) l k i
 | 0,_=>rfl
 | k+1,i=>by unfold eY gIX;simp only [rix l s k]
theorem Es{l:List Rg}(R:dW l)(s:BY):(lR l s=some ((⟨em,0,0⟩:Rg),false)/\∀ x ∈ l,bX x ≠ bl s)∨∃ x ∈ l,bX x=bl s/\lR l s=some (x,true):=by
 have hl:=R.len;unfold lR kD;rw [rix];obtain ⟨z,h1,h2⟩:=Mw (λx=>qK x s) l (λx=>decide (bX x=bl s)) (by omega) (λx _=>by unfold qK;rw [oU];rfl);rw [h1];simp only [bS];rcases h2 with ⟨rfl,h⟩ | ⟨i,rfl,hi,h,_⟩
 ·rw [iP (by decide)];exact .inl ⟨rfl,λx hx=>of_decide_eq_false (h x hx)⟩
 rw [iN (by simp),bY hi];exact .inr ⟨_,List.getElem_mem hi,of_decide_eq_true h,rfl⟩
/-! ### what is held -/
theorem TE(l:List Hd)(r:List Rg)(s:BY):∀ (k:Nat) (i:Int),eZ l r s k i=gIX (λx=>uH x r s) l k i
 | 0,_=>rfl
 | k+1,i=>by unfold eZ gIX;simp only [TE l r s k]
theorem TF(l:List Hd)(r q:List Rg):∀ (k:Nat) (i:Int),fA l r q k i=gIX (λx=>pF x r q) l k i
 | 0,_=>rfl
 | k+1,i=>by unfold fA gIX;simp only [TF l r q k]
def jD(x:Hd):List UInt8:=bl x.Dir
theorem Tq{r:List Rg}(R:dW r)(d p:BY):((lP r d).bind λu=>if (decide (u ≥ 0))=true then ((idx r u).bind λx=>some (sEq x.Prefix p)) else (some (false)))=some (atP r (bl p) (bl d)):=by
 unfold atP;rw [Re R];simp only [bS];rcases C7 R (bl d) with ⟨h,e⟩ | ⟨i,hi,h,e⟩
 ·rw [h,e,iN (by decide)];rfl
 rw [h,e,iP (by simp),bY hi];simp only [bS,Option.any_some];rw [oU];rfl
theorem Rh{r:List Rg}(R:dW r)(l:List Hd)(hl:l.length <= 1000000)(p:BY):pV l r p=some (l.any λx=>atP r (bl p) (jD x)):=by
 unfold pV jM kE;rw [TE];obtain ⟨z,h1,h2⟩:=U1 (λx=>uH x r p) l (λx=>atP r (bl p) (jD x)) (by omega) (λx _=>Tq R x.Dir p);rw [h1];simp only [bS];rw [h2]
/-- has a directory ranges of one prefix, in both? -/
def Fw(r q:List Rg)(d:List UInt8):Bool:=match vC r d,vC q d with
 | some x,some y=>decide (bX x=bX y)
 | _,_=>false
theorem Vx{r q:List Rg}(R:dW r)(Q:dW q)(l:List Hd)(hl:l.length <= 1000000):vR r l q=some (l.any λx=>!Fw r q (jD x)):=by
 unfold vR iT kF;rw [TF];obtain ⟨z,h1,h2⟩:=U1 (λx=>pF x r q) l (λx=>!Fw r q (jD x)) (by omega) (λx _=>by
  unfold pF Fw;rw [Re R,Re Q];simp only [bS];rcases C7 R (bl x.Dir) with ⟨h,e⟩ | ⟨i,hi,h,e⟩
  ·rw [h,show jD x=bl x.Dir from rfl,e,iP (by decide)];rfl
  rcases C7 Q (bl x.Dir) with ⟨h',e'⟩ | ⟨j,hj,h',e'⟩
  ·rw [h,h',show jD x=bl x.Dir from rfl,e,e',iN (by simp),iP (by decide)];rfl
  rw [h,h',show jD x=bl x.Dir from rfl,e,e',iN (by simp),iN (by simp),bY hi,bY hj];simp only [bS];rw [oU];rfl)
 rw [h1];simp only [bS];rw [h2]
/-! ### what is in a range -/
def inN(l:List Rg)(p:List UInt8)(x:Nd):Bool:=atP l p (upP (key x))
def inT(l:List Rg)(p:List UInt8)(t:Tn):Bool:=atP l p (cG t)
theorem OL{l:List Rg}(R:dW l)(p:BY)(x:Nd):K9 x l p=some (inN l (bl p) x):=by
 unfold K9 zY A6 inN upP;rw [Ft];simp only [bS];rw [show bl x.Path=key x from rfl];cases h:lE (key x) with
 | none=>
  rw [iP (by rfl),Tq R];rfl
 | some q=>
  rw [iN (by simp [os2]),Tq R];rfl
theorem OM{l:List Rg}(R:dW l)(p:BY)(t:Tn):L1 t l p=some (inT l (bl p) t):=by
 unfold L1 A6;rw [Tq R];rfl
theorem lW{α:Type}{l:List α}(f:α->Bool){i:Nat}(hi:i < l.length):(l.take (i+1)).filter f=(l.take i).filter f ++ if f l[i]=true then [l[i]] else []:=by
 rw [List.take_add_one,List.getElem?_eq_getElem hi,List.filter_append];congr 1;simp [List.filter_cons]
theorem ON{l:List Rg}(R:dW l)(p:BY)(ns:List Nd)(hl:ns.length <= 1000000):qW ns l p=some (ns.filter (inN l (bl p)),ns.filter λx=>!inN l (bl p) x):=by
 unfold qW;obtain ⟨r,h1,h2⟩:=zF (λk i (s:List Nd×List Nd)=>fQ ns l p k s.1 s.2 i) (n:=ns.length) (k:=((ns.length:Int) - 0:Int).toNat+1) (λi s=>s=((ns.take i).filter (inN l (bl p)),(ns.take i).filter λx=>!inN l (bl p) x)) (λr=>r=(ns.filter (inN l (bl p)),ns.filter λx=>!inN l (bl p) x)) ([],[]) (qR _) (by simp) (by
  rintro k i _ hi rfl ih;unfold fQ nY;rw [iP (by simpa using hi),bY hi];simp only [bS];rw [OL R];simp only [bS];rw [hP (by omega)];have a1:((ns.take i).filter (inN l (bl p))).length <= i:=Nat.le_trans (List.length_filter_le _ _) (by simp;omega);have a2:((ns.take i).filter (λx=>!inN l (bl p) x)).length <= i:=Nat.le_trans (List.length_filter_le _ _) (by simp;omega);cases c:inN l (bl p) ns[i] with
  | true=>
   rw [iP (by trivial),dJ (by simp only [List.length_singleton,LIM];omega)];exact ih (_,_) (by rw [lW _ hi,lW _ hi,c];simp)
  | false=>
   rw [iN (by simp),dJ (by simp only [List.length_singleton,LIM];omega)];exact ih (_,_) (by rw [lW _ hi,lW _ hi,c];simp)) (by
  rintro k _ rfl;unfold fQ;rw [iN (by simp)];exact ⟨_,rfl,by rw [List.take_length]⟩)
 rw [h2] at h1;exact h1
theorem OO{l:List Rg}(R:dW l)(p:BY)(ns:List Tn)(hl:ns.length <= 1000000):qX ns l p=some (ns.filter (inT l (bl p)),ns.filter λx=>!inT l (bl p) x):=by
 unfold qX;obtain ⟨r,h1,h2⟩:=zF (λk i (s:List Tn×List Tn)=>fR ns l p k s.1 s.2 i) (n:=ns.length) (k:=((ns.length:Int) - 0:Int).toNat+1) (λi s=>s=((ns.take i).filter (inT l (bl p)),(ns.take i).filter λx=>!inT l (bl p) x)) (λr=>r=(ns.filter (inT l (bl p)),ns.filter λx=>!inT l (bl p) x)) ([],[]) (qR _) (by simp) (by
  rintro k i _ hi rfl ih;unfold fR nZ;rw [iP (by simpa using hi),bY hi];simp only [bS];rw [OM R];simp only [bS];rw [hP (by omega)];have a1:((ns.take i).filter (inT l (bl p))).length <= i:=Nat.le_trans (List.length_filter_le _ _) (by simp;omega);have a2:((ns.take i).filter (λx=>!inT l (bl p) x)).length <= i:=Nat.le_trans (List.length_filter_le _ _) (by simp;omega);cases c:inT l (bl p) ns[i] with
  | true=>
   rw [iP (by trivial),dJ (by simp only [List.length_singleton,LIM];omega)];exact ih (_,_) (by rw [lW _ hi,lW _ hi,c];simp)
  | false=>
   rw [iN (by simp),dJ (by simp only [List.length_singleton,LIM];omega)];exact ih (_,_) (by rw [lW _ hi,lW _ hi,c];simp)) (by
  rintro k _ rfl;unfold fR;rw [iN (by simp)];exact ⟨_,rfl,by rw [List.take_length]⟩)
 rw [h2] at h1;exact h1
theorem Zs{s:Sto}(S:cV s)(hn:s.Nodes.length <= 1000000)(ht:s.Turns.length <= 1000000):sN s=some true:=by
 obtain ⟨b,h1,h2⟩:=H9 s (by omega) (by omega);rw [h1,h2.2 S]
theorem Bd{l:List Rg}(R:dW l)(p:BY){s:Sto}(S:cV s)(hn:s.Nodes.length <= 1000000)(ht:s.Turns.length <= 1000000):wW s l p=some (s.Nodes.filter (inN l (bl p)),s.Turns.filter (inT l (bl p)),s.Nodes.filter (λx=>!inN l (bl p) x),s.Turns.filter λx=>!inT l (bl p) x):=by
 unfold wW F9;rw [Zs S hn ht,xW R];simp only [bS];rw [iN (by simp),iN (by simp),ON R p _ hn,OO R p _ ht];rfl
theorem cV.filt {s:Sto} (S:cV s) (f:Nd->Bool) (g:Tn->Bool):cV ⟨s.Nodes.filter f,s.Turns.filter g⟩:=
 ⟨List.all_eq_true.2 λx hx=>List.all_eq_true.1 S.nodes x (List.mem_filter.1 hx).1,S.nsort.sublist List.filter_sublist,List.all_eq_true.2 λx hx=>List.all_eq_true.1 S.turns x (List.mem_filter.1 hx).1,S.tsort.sublist List.filter_sublist⟩
end Go.Cb
