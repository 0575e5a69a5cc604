/- A shard's ranges, plainly: what is in a range; frozen, installed, dropped. -/
import Derived.Test.YteakhlfapjaodaaGreatDoorE2sh
import Derived.Test.YteakhlfapjaodaaGreatDoorKsh4
set_option linter.unusedVariables false
set_option linter.unusedSimpArgs false
namespace Go.Cb
open Go.Proofs Go.RowKit

abbrev Hd:=aU
/-! ### a search from the front, said once -/
def gIX{α:Type}(f:α->Option Bool)(l:List α):Nat->Int->Option Int
 | 0,_=>none
 | k+1,i=>if (decide (i < (l.length:Int)))=true then ((idx l i).bind λx=>(f x).bind λu=>if u=true then some i else gIX f l k (IntKind.i64.wrap (i+1))) else some (-1)
theorem Lu{α:Type}(f:α->Option Bool)(l:List α)(p:α->Bool)(hl:l.length <= 4611686018427387904)(hf:∀ x ∈ l,f x=some (p x)):∃ z,gIX f l (((l.length:Int) - 0:Int).toNat+1) 0=some z/\((z= -1/\(∀ x ∈ l,p x=false))∨∃ i:Nat,z=(i:Int)/\∃ hi:i < l.length,p l[i]=true/\∀ j (h:j < l.length),j < i->p l[j]=false):=by
 refine vT (λk i (_:Unit)=>gIX f l k i) (n:=l.length) (λi _=>∀ j (h:j < l.length),j < i->p l[j]=false) _ () (nM _) (λj h hj=>by omega) ?_ ?_
 ·intro k i _ hi P ih;unfold gIX;rw [iP (by simpa using hi),bU hi];simp only [bS];rw [hf _ (List.getElem_mem hi)];simp only [bS];cases c:p l[i] with
  | true=>rw [iP (by trivial)];exact ⟨_,rfl,.inr ⟨i,rfl,hi,c,P⟩⟩
  | false=>
   rw [iN (by simp),gV (by omega)];refine ih () λj h hj=>?_;by_cases e:j=i
   ·subst e;exact c
   exact P j h (by omega)
 intro k _ P;unfold gIX;rw [iN (by simp)];refine ⟨_,rfl,.inl ⟨rfl,λx hx=>?_⟩⟩;obtain ⟨j,hj,rfl⟩:=List.mem_iff_getElem.1 hx;exact P j hj hj
theorem P9{α:Type}(f:α->Option Bool)(l:List α)(p:α->Bool)(hl:l.length <= 4611686018427387904)(hf:∀ x ∈ l,f x=some (p x)):∃ z,gIX f l (((l.length:Int) - 0:Int).toNat+1) 0=some z/\decide (z ≥ 0)=l.any p:=by
 obtain ⟨z,h1,h2⟩:=Lu f l p hl hf;refine ⟨z,h1,?_⟩;rcases h2 with ⟨rfl,h⟩ | ⟨i,rfl,hi,h,_⟩
 ·rw [List.any_eq_false.2 λx hx=>by rw [h x hx];simp];rfl
 rw [List.any_eq_true.2 ⟨_,List.getElem_mem hi,h⟩];simp
/-! ### whose is a directory -/
def ofZ(l:List Rg)(d:List UInt8):Int:=(mT l (mk d)).getD (-1)
theorem Yu{l:List Rg}(R:eX l)(s:BY):mT l s=some (ofZ l (bl s)):=by
 obtain ⟨z,h,_⟩:=DF R s;unfold ofZ;rw [Ep,h];rfl
theorem Yv{l:List Rg}(R:eX l)(d:List UInt8):DE l d (ofZ l d):=by
 obtain ⟨z,h,a⟩:=DF R (mk d);unfold ofZ;rw [h];exact a
/-- the range of a directory. -/
def xN(l:List Rg)(d:List UInt8):Option Rg:=if 0 <= ofZ l d then l[(ofZ l d).toNat]? else none
def atP(l:List Rg)(p d:List UInt8):Bool:=(xN l d).any λx=>decide (bV x=p)
def stR(l:List Rg)(d:List UInt8):Int:=((xN l d).map (·.State)).getD 3
theorem Q1{l:List Rg}(R:eX l)(d:List UInt8):(ofZ l d= -1/\xN l d=none)∨∃ (i:Nat) (hi:i < l.length),ofZ l d=(i:Int)/\xN l d=some l[i]:=by
 rcases Yv R d with ⟨h,_⟩ | ⟨i,h,hi,_⟩
 ·exact .inl ⟨h,by unfold xN;rw [h];rfl⟩
 refine .inr ⟨i,hi,h,?_⟩;unfold xN;rw [h,iP (by omega),Int.toNat_natCast,List.getElem?_eq_getElem hi]
theorem GI{l:List Rg}(R:eX l){d:List UInt8}(h:xN l d=none):∀ x ∈ l,inS d (bV x)=false:=by
 rcases Yv R d with ⟨_,h'⟩ | ⟨i,h',hi,_⟩
 ·exact h'
 unfold xN at h;rw [h',iP (by omega),Int.toNat_natCast,List.getElem?_eq_getElem hi] at h;cases h
theorem W2{l:List Rg}(R:eX l){d:List UInt8}{x:Rg}(h:xN l d=some x):x ∈ l/\inS d (bV x)=true/\∀ y ∈ l,inS d (bV y)=true->(bV y).length <= (bV x).length:=by
 rcases Yv R d with ⟨h',_⟩ | ⟨i,h',hi,a,b⟩
 ·unfold xN at h;rw [h'] at h;cases h
 unfold xN at h;rw [h',iP (by omega),Int.toNat_natCast,List.getElem?_eq_getElem hi] at h;cases h;exact ⟨List.getElem_mem hi,a,b⟩
theorem Yw{p q:List UInt8}(h:inS p q=true):q.length <= p.length/\(q.length=p.length->q=p):=by
 obtain ⟨l,k,h1,h2,t,rfl⟩:=Ms h;have a:=((jS _ _).1 h1).1;have b:=((jS _ _).1 h2).1;have one:∀ (x:List UInt8) (r:List (List UInt8)),(x::r).all gA=true->2 <= (fH (x::r)).length:=λx r hx=>by
  have:=Cz (List.all_eq_true.1 hx x (by simp));have:0 < x.length:=List.length_pos_iff.2 this;simp [fH];omega
 cases k with
 | nil=>
  cases t with
  | nil=>rw [a,b];exact ⟨Nat.le_refl _,λ_=>rfl⟩
  | cons x t=>
   have o:=one x t ((jS _ _).1 h1).2.1;have a':p=fH (x::t):=by rw [a];rfl
   have b':q= [47]:=b;rw [a',b'];exact ⟨by simp only [List.length_singleton];omega,λe=>by simp only [List.length_singleton] at e;omega⟩
 | cons x k=>
  have a':p=fH (x::k) ++ fH t:=by rw [a,← Ax];rfl
  have b':q=fH (x::k):=b;rw [a',b'];exact ⟨by simp,λe=>by
   have:(fH t).length=0:=by rw [List.length_append] at e;omega
   rw [List.eq_nil_of_length_eq_zero this,List.append_nil]⟩
/-- two paths in which one lies, of one length, are one. -/
theorem MY{d p q:List UInt8}(h1:inS d p=true)(h2:inS d q=true)(h:p.length=q.length):p=q:=by
 obtain ⟨l,k1,a1,b1,c1⟩:=Ms h1;obtain ⟨l',k2,a2,b2,c2⟩:=Ms h2;rw [a1] at a2;cases a2;rcases Nat.le_total k1.length k2.length with c | c
 ·have:inS q p=true:=by unfold inS;rw [b2,b1];exact List.isPrefixOf_iff_prefix.2 (List.prefix_of_prefix_length_le c1 c2 c)
  exact (Yw this).2 h
 have:inS p q=true:=by unfold inS;rw [b1,b2];exact List.isPrefixOf_iff_prefix.2 (List.prefix_of_prefix_length_le c2 c1 c)
 exact ((Yw this).2 h.symm).symm
theorem Sc{l:List Rg}(R:l.Pairwise (bV · < bV ·)){x y:Rg}(hx:x ∈ l)(hy:y ∈ l)(h:bV x=bV y):x=y:=by
 obtain ⟨i,hi,rfl⟩:=List.mem_iff_getElem.1 hx;obtain ⟨j,hj,rfl⟩:=List.mem_iff_getElem.1 hy;have hp:=List.pairwise_iff_getElem.1 R;rcases Nat.lt_trichotomy i j with c | c | c
 ·exact absurd h (tV (hp i j hi hj c))
 ·subst c;rfl
 exact absurd h.symm (tV (hp j i hj hi c))
/-- what is known to be a directory's range is it. -/
theorem Hb{l:List Rg}(R:eX l){d:List UInt8}{x:Rg}(hx:x ∈ l)(h1:inS d (bV x)=true)(h2:∀ y ∈ l,inS d (bV y)=true->(bV y).length <= (bV x).length):xN l d=some x:=by
 cases h:xN l d with
 | none=>have:=GI R h x hx;rw [h1] at this;cases this
 | some y=>
  obtain ⟨a,b,c⟩:=W2 R h;have e:(bV y).length=(bV x).length:=Nat.le_antisymm (h2 y a b) (c x hx h1);rw [Sc R.sort a hx (MY b h1 e)]
theorem GJ{l:List Rg}(R:eX l){x:Rg}(hx:x ∈ l):xN l (bV x)=some x:=by
 have pk:=(Wi (R.all x hx)).1;exact Hb R hx (JD (p:=x.Prefix) pk) λy _ h=>(Yw h).1
theorem JF{l:List Rg}(R:eX l)(s:BY):J2 l s=some (stR l (bl s)):=by
 unfold J2 stR;rw [Yu R];simp only [bS];rcases Q1 R (bl s) with ⟨h,e⟩ | ⟨i,hi,h,e⟩
 ·rw [h,e,iN (by decide)];rfl
 rw [h,e,iP (by simp),bU hi];rfl
theorem rix(l:List Rg)(s:BY):∀ (k:Nat) (i:Int),eL l s k i=gIX (λx=>pR x s) l k i
 | 0,_=>rfl
 | k+1,i=>by unfold eL gIX;simp only [rix l s k]
theorem Pt{l:List Rg}(R:eX l)(s:BY):(kX l s=some ((⟨em,0,0⟩:Rg),false)/\∀ x ∈ l,bV x ≠ bl s)∨∃ x ∈ l,bV x=bl s/\kX l s=some (x,true):=by
 have hl:=R.len;unfold kX jI;rw [rix];obtain ⟨z,h1,h2⟩:=Lu (λx=>pR x s) l (λx=>decide (bV x=bl s)) (by omega) (λx _=>by unfold pR;rw [nY];rfl);rw [h1];simp only [bS];rcases h2 with ⟨rfl,h⟩ | ⟨i,rfl,hi,h,_⟩
 ·rw [iP (by decide)];exact .inl ⟨rfl,λx hx=>of_decide_eq_false (h x hx)⟩
 rw [iN (by simp),bU hi];exact .inr ⟨_,List.getElem_mem hi,of_decide_eq_true h,rfl⟩
/-! ### what is held -/
theorem RL(l:List Hd)(r:List Rg)(s:BY):∀ (k:Nat) (i:Int),eM l r s k i=gIX (λx=>tM x r s) l k i
 | 0,_=>rfl
 | k+1,i=>by unfold eM gIX;simp only [RL l r s k]
theorem RM(l:List Hd)(r q:List Rg):∀ (k:Nat) (i:Int),eN l r q k i=gIX (λx=>oI x r q) l k i
 | 0,_=>rfl
 | k+1,i=>by unfold eN gIX;simp only [RM l r q k]
def gW(x:Hd):List UInt8:=bl x.Dir
theorem Sd{r:List Rg}(R:eX r)(d p:BY):((mT r d).bind λu=>if (decide (u ≥ 0))=true then ((idx r u).bind λx=>some (sEq x.Prefix p)) else (some (false)))=some (atP r (bl p) (bl d)):=by
 unfold atP;rw [Yu R];simp only [bS];rcases Q1 R (bl d) with ⟨h,e⟩ | ⟨i,hi,h,e⟩
 ·rw [h,e,iN (by decide)];rfl
 rw [h,e,iP (by simp),bU hi];simp only [bS,Option.any_some];rw [nY];rfl
theorem Yx{r:List Rg}(R:eX r)(l:List Hd)(hl:l.length <= 1000000)(p:BY):pC l r p=some (l.any λx=>atP r (bl p) (gW x)):=by
 unfold pC iU jJ;rw [RL];obtain ⟨z,h1,h2⟩:=P9 (λx=>tM x r p) l (λx=>atP r (bl p) (gW x)) (by omega) (λx _=>Sd R x.Dir p);rw [h1];simp only [bS];rw [h2]
/-- has a directory ranges of one prefix, in both? -/
def Es(r q:List Rg)(d:List UInt8):Bool:=match xN r d,xN q d with
 | some x,some y=>decide (bV x=bV y)
 | _,_=>false
theorem GK{r q:List Rg}(R:eX r)(Q:eX q)(l:List Hd)(hl:l.length <= 1000000):uS r l q=some (l.any λx=>!Es r q (gW x)):=by
 unfold uS iD jK;rw [RM];obtain ⟨z,h1,h2⟩:=P9 (λx=>oI x r q) l (λx=>!Es r q (gW x)) (by omega) (λx _=>by
  unfold oI Es;rw [Yu R,Yu Q];simp only [bS];rcases Q1 R (bl x.Dir) with ⟨h,e⟩ | ⟨i,hi,h,e⟩
  ·rw [h,show gW x=bl x.Dir from rfl,e,iP (by decide)];rfl
  rcases Q1 Q (bl x.Dir) with ⟨h',e'⟩ | ⟨j,hj,h',e'⟩
  ·rw [h,h',show gW x=bl x.Dir from rfl,e,e',iN (by simp),iP (by decide)];rfl
  rw [h,h',show gW x=bl x.Dir from rfl,e,e',iN (by simp),iN (by simp),bU hi,bU hj];simp only [bS];rw [nY];rfl)
 rw [h1];simp only [bS];rw [h2]
/-! ### what is in a range -/
def inN(l:List Rg)(p:List UInt8)(x:Nd):Bool:=atP l p (upP (key x))
def inT(l:List Rg)(p:List UInt8)(t:Tn):Bool:=atP l p (cX t)
theorem MZ{l:List Rg}(R:eX l)(p:BY)(x:Nd):I6 x l p=some (inN l (bl p) x):=by
 unfold I6 yY zM inN upP;rw [Er];simp only [bS];rw [show bl x.Path=key x from rfl];cases h:lZ (key x) with
 | none=>
  rw [iP (by rfl),Sd R];rfl
 | some q=>
  rw [iN (by simp [os2]),Sd R];rfl
theorem NA{l:List Rg}(R:eX l)(p:BY)(t:Tn):I7 t l p=some (inT l (bl p) t):=by
 unfold I7 zM;rw [Sd R];rfl
theorem pI{α:Type}{l:List α}(f:α->Bool){i:Nat}(hi:i < l.length):(l.take (i+1)).filter f=(l.take i).filter f ++ if f l[i]=true then [l[i]] else []:=by
 rw [List.take_add_one,List.getElem?_eq_getElem hi,List.filter_append];congr 1;simp [List.filter_cons]
theorem NB{l:List Rg}(R:eX l)(p:BY)(ns:List Nd)(hl:ns.length <= 1000000):pZ ns l p=some (ns.filter (inN l (bl p)),ns.filter λx=>!inN l (bl p) x):=by
 unfold pZ;obtain ⟨r,h1,h2⟩:=vT (λk i (s:List Nd×List Nd)=>fB ns l p k s.1 s.2 i) (n:=ns.length) (k:=((ns.length:Int) - 0:Int).toNat+1) (λi s=>s=((ns.take i).filter (inN l (bl p)),(ns.take i).filter λx=>!inN l (bl p) x)) (λr=>r=(ns.filter (inN l (bl p)),ns.filter λx=>!inN l (bl p) x)) ([],[]) (nM _) (by simp) (by
  rintro k i _ hi rfl ih;unfold fB mZ;rw [iP (by simpa using hi),bU hi];simp only [bS];rw [MZ R];simp only [bS];rw [gV (by omega)];have a1:((ns.take i).filter (inN l (bl p))).length <= i:=Nat.le_trans (List.length_filter_le _ _) (by simp;omega);have a2:((ns.take i).filter (λx=>!inN l (bl p) x)).length <= i:=Nat.le_trans (List.length_filter_le _ _) (by simp;omega);cases c:inN l (bl p) ns[i] with
  | true=>
   rw [iP (by trivial),dJ (by simp only [List.length_singleton,LIM];omega)];exact ih (_,_) (by rw [pI _ hi,pI _ hi,c];simp)
  | false=>
   rw [iN (by simp),dJ (by simp only [List.length_singleton,LIM];omega)];exact ih (_,_) (by rw [pI _ hi,pI _ hi,c];simp)) (by
  rintro k _ rfl;unfold fB;rw [iN (by simp)];exact ⟨_,rfl,by rw [List.take_length]⟩)
 rw [h2] at h1;exact h1
theorem NC{l:List Rg}(R:eX l)(p:BY)(ns:List Tn)(hl:ns.length <= 1000000):qA ns l p=some (ns.filter (inT l (bl p)),ns.filter λx=>!inT l (bl p) x):=by
 unfold qA;obtain ⟨r,h1,h2⟩:=vT (λk i (s:List Tn×List Tn)=>fC ns l p k s.1 s.2 i) (n:=ns.length) (k:=((ns.length:Int) - 0:Int).toNat+1) (λi s=>s=((ns.take i).filter (inT l (bl p)),(ns.take i).filter λx=>!inT l (bl p) x)) (λr=>r=(ns.filter (inT l (bl p)),ns.filter λx=>!inT l (bl p) x)) ([],[]) (nM _) (by simp) (by
  rintro k i _ hi rfl ih;unfold fC nA;rw [iP (by simpa using hi),bU hi];simp only [bS];rw [NA R];simp only [bS];rw [gV (by omega)];have a1:((ns.take i).filter (inT l (bl p))).length <= i:=Nat.le_trans (List.length_filter_le _ _) (by simp;omega);have a2:((ns.take i).filter (λx=>!inT l (bl p) x)).length <= i:=Nat.le_trans (List.length_filter_le _ _) (by simp;omega);cases c:inT l (bl p) ns[i] with
  | true=>
   rw [iP (by trivial),dJ (by simp only [List.length_singleton,LIM];omega)];exact ih (_,_) (by rw [pI _ hi,pI _ hi,c];simp)
  | false=>
   rw [iN (by simp),dJ (by simp only [List.length_singleton,LIM];omega)];exact ih (_,_) (by rw [pI _ hi,pI _ hi,c];simp)) (by
  rintro k _ rfl;unfold fC;rw [iN (by simp)];exact ⟨_,rfl,by rw [List.take_length]⟩)
 rw [h2] at h1;exact h1
theorem Yy{s:Sto}(S:cI s)(hn:s.Nodes.length <= 1000000)(ht:s.Turns.length <= 1000000):rM s=some true:=by
 obtain ⟨b,h1,h2⟩:=N5 s (by omega) (by omega);rw [h1,h2.2 S]
theorem Lv{l:List Rg}(R:eX l)(p:BY){s:Sto}(S:cI s)(hn:s.Nodes.length <= 1000000)(ht:s.Turns.length <= 1000000):vR s l p=some (s.Nodes.filter (inN l (bl p)),s.Turns.filter (inT l (bl p)),s.Nodes.filter (λx=>!inN l (bl p) x),s.Turns.filter λx=>!inT l (bl p) x):=by
 unfold vR D2;rw [Yy S hn ht,Ac R];simp only [bS];rw [iN (by simp),iN (by simp),NB R p _ hn,NC R p _ ht];rfl
theorem cI.filt {s:Sto} (S:cI s) (f:Nd->Bool) (g:Tn->Bool):cI ⟨s.Nodes.filter f,s.Turns.filter g⟩:=
 ⟨List.all_eq_true.2 λx hx=>List.all_eq_true.1 S.nodes x (List.mem_filter.1 hx).1,S.nsort.sublist List.filter_sublist,List.all_eq_true.2 λx hx=>List.all_eq_true.1 S.turns x (List.mem_filter.1 hx).1,S.tsort.sublist List.filter_sublist⟩
end Go.Cb
