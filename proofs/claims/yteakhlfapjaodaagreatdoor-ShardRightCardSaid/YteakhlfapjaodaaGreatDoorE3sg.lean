/- A shard's ranges, plainly: what is in a range; frozen, installed, dropped. -/
import Derived.Test.YteakhlfapjaodaaGreatDoorE2sg
import Derived.Test.YteakhlfapjaodaaGreatDoorKsg4
set_option linter.unusedVariables false
set_option linter.unusedSimpArgs false
namespace Go.Cb
open Go.Proofs Go.RowKit

abbrev Hd:=aQ
/-! ### a search from the front, said once -/
def gIX{α:Type}(f:α->Option Bool)(l:List α):Nat->Int->Option Int
 | 0,_=>none
 | k+1,i=>if (decide (i < (l.length:Int)))=true then ((idx l i).bind λx=>(f x).bind λu=>if u=true then some i else gIX f l k (IntKind.i64.wrap (i+1))) else some (-1)
theorem Iv{α:Type}(f:α->Option Bool)(l:List α)(p:α->Bool)(hl:l.length <= 4611686018427387904)(hf:∀ x ∈ l,f x=some (p x)):∃ z,gIX f l (((l.length:Int) - 0:Int).toNat+1) 0=some z/\((z= -1/\(∀ x ∈ l,p x=false))∨∃ i:Nat,z=(i:Int)/\∃ hi:i < l.length,p l[i]=true/\∀ j (h:j < l.length),j < i->p l[j]=false):=by
 refine sH (λk i (_:Unit)=>gIX f l k i) (n:=l.length) (λi _=>∀ j (h:j < l.length),j < i->p l[j]=false) _ () (lH _) (λj h hj=>by omega) ?_ ?_
 ·intro k i _ hi P ih;unfold gIX;rw [iP (by simpa using hi),bT hi];simp only [bS];rw [hf _ (List.getElem_mem hi)];simp only [bS];cases c:p l[i] with
  | true=>rw [iP (by trivial)];exact ⟨_,rfl,.inr ⟨i,rfl,hi,c,P⟩⟩
  | false=>
   rw [iN (by simp),gL (by omega)];refine ih () λj h hj=>?_;by_cases e:j=i
   ·subst e;exact c
   exact P j h (by omega)
 intro k _ P;unfold gIX;rw [iN (by simp)];refine ⟨_,rfl,.inl ⟨rfl,λx hx=>?_⟩⟩;obtain ⟨j,hj,rfl⟩:=List.mem_iff_getElem.1 hx;exact P j hj hj
theorem K8{α:Type}(f:α->Option Bool)(l:List α)(p:α->Bool)(hl:l.length <= 4611686018427387904)(hf:∀ x ∈ l,f x=some (p x)):∃ z,gIX f l (((l.length:Int) - 0:Int).toNat+1) 0=some z/\decide (z ≥ 0)=l.any p:=by
 obtain ⟨z,h1,h2⟩:=Iv f l p hl hf;refine ⟨z,h1,?_⟩;rcases h2 with ⟨rfl,h⟩ | ⟨i,rfl,hi,h,_⟩
 ·rw [List.any_eq_false.2 λx hx=>by rw [h x hx];simp];rfl
 rw [List.any_eq_true.2 ⟨_,List.getElem_mem hi,h⟩];simp
/-! ### whose is a directory -/
def ofZ(l:List Rg)(d:List UInt8):Int:=(mR l (mk d)).getD (-1)
theorem Vm{l:List Rg}(R:fK l)(s:BY):mR l s=some (ofZ l (bl s)):=by
 obtain ⟨z,h,_⟩:=Zj R s;unfold ofZ;rw [Fe,h];rfl
theorem Vn{l:List Rg}(R:fK l)(d:List UInt8):Zi l d (ofZ l d):=by
 obtain ⟨z,h,a⟩:=Zj R (mk d);unfold ofZ;rw [h];exact a
/-- the range of a directory. -/
def I6(l:List Rg)(d:List UInt8):Option Rg:=if 0 <= ofZ l d then l[(ofZ l d).toNat]? else none
def atP(l:List Rg)(p d:List UInt8):Bool:=(I6 l d).any λx=>decide (bW x=p)
def stR(l:List Rg)(d:List UInt8):Int:=((I6 l d).map (·.State)).getD 3
theorem K9{l:List Rg}(R:fK l)(d:List UInt8):(ofZ l d= -1/\I6 l d=none)∨∃ (i:Nat) (hi:i < l.length),ofZ l d=(i:Int)/\I6 l d=some l[i]:=by
 rcases Vn R d with ⟨h,_⟩ | ⟨i,h,hi,_⟩
 ·exact .inl ⟨h,by unfold I6;rw [h];rfl⟩
 refine .inr ⟨i,hi,h,?_⟩;unfold I6;rw [h,iP (by omega),Int.toNat_natCast,List.getElem?_eq_getElem hi]
theorem CN{l:List Rg}(R:fK l){d:List UInt8}(h:I6 l d=none):∀ x ∈ l,inS d (bW x)=false:=by
 rcases Vn R d with ⟨_,h'⟩ | ⟨i,h',hi,_⟩
 ·exact h'
 unfold I6 at h;rw [h',iP (by omega),Int.toNat_natCast,List.getElem?_eq_getElem hi] at h;cases h
theorem CO{l:List Rg}(R:fK l){d:List UInt8}{x:Rg}(h:I6 l d=some x):x ∈ l/\inS d (bW x)=true/\∀ y ∈ l,inS d (bW y)=true->(bW y).length <= (bW x).length:=by
 rcases Vn R d with ⟨h',_⟩ | ⟨i,h',hi,a,b⟩
 ·unfold I6 at h;rw [h'] at h;cases h
 unfold I6 at h;rw [h',iP (by omega),Int.toNat_natCast,List.getElem?_eq_getElem hi] at h;cases h;exact ⟨List.getElem_mem hi,a,b⟩
theorem Vo{p q:List UInt8}(h:inS p q=true):q.length <= p.length/\(q.length=p.length->q=p):=by
 obtain ⟨l,k,h1,h2,t,rfl⟩:=Jt h;have a:=((kY _ _).1 h1).1;have b:=((kY _ _).1 h2).1;have one:∀ (x:List UInt8) (r:List (List UInt8)),(x::r).all gO=true->2 <= (fZ (x::r)).length:=λx r hx=>by
  have:=Ao (List.all_eq_true.1 hx x (by simp));have:0 < x.length:=List.length_pos_iff.2 this;simp [fZ];omega
 cases k with
 | nil=>
  cases t with
  | nil=>rw [a,b];exact ⟨Nat.le_refl _,λ_=>rfl⟩
  | cons x t=>
   have o:=one x t ((kY _ _).1 h1).2.1;have a':p=fZ (x::t):=by rw [a];rfl
   have b':q= [47]:=b;rw [a',b'];exact ⟨by simp only [List.length_singleton];omega,λe=>by simp only [List.length_singleton] at e;omega⟩
 | cons x k=>
  have a':p=fZ (x::k) ++ fZ t:=by rw [a,← V5];rfl
  have b':q=fZ (x::k):=b;rw [a',b'];exact ⟨by simp,λe=>by
   have:(fZ t).length=0:=by rw [List.length_append] at e;omega
   rw [List.eq_nil_of_length_eq_zero this,List.append_nil]⟩
/-- two paths in which one lies, of one length, are one. -/
theorem IY{d p q:List UInt8}(h1:inS d p=true)(h2:inS d q=true)(h:p.length=q.length):p=q:=by
 obtain ⟨l,k1,a1,b1,c1⟩:=Jt h1;obtain ⟨l',k2,a2,b2,c2⟩:=Jt h2;rw [a1] at a2;cases a2;rcases Nat.le_total k1.length k2.length with c | c
 ·have:inS q p=true:=by unfold inS;rw [b2,b1];exact List.isPrefixOf_iff_prefix.2 (List.prefix_of_prefix_length_le c1 c2 c)
  exact (Vo this).2 h
 have:inS p q=true:=by unfold inS;rw [b1,b2];exact List.isPrefixOf_iff_prefix.2 (List.prefix_of_prefix_length_le c2 c1 c)
 exact ((Vo this).2 h.symm).symm
theorem CP{l:List Rg}(R:l.Pairwise (bW · < bW ·)){x y:Rg}(hx:x ∈ l)(hy:y ∈ l)(h:bW x=bW y):x=y:=by
 obtain ⟨i,hi,rfl⟩:=List.mem_iff_getElem.1 hx;obtain ⟨j,hj,rfl⟩:=List.mem_iff_getElem.1 hy;have hp:=List.pairwise_iff_getElem.1 R;rcases Nat.lt_trichotomy i j with c | c | c
 ·exact absurd h (wT (hp i j hi hj c))
 ·subst c;rfl
 exact absurd h.symm (wT (hp j i hj hi c))
/-- what is known to be a directory's range is it. -/
theorem Xw{l:List Rg}(R:fK l){d:List UInt8}{x:Rg}(hx:x ∈ l)(h1:inS d (bW x)=true)(h2:∀ y ∈ l,inS d (bW y)=true->(bW y).length <= (bW x).length):I6 l d=some x:=by
 cases h:I6 l d with
 | none=>have:=CN R h x hx;rw [h1] at this;cases this
 | some y=>
  obtain ⟨a,b,c⟩:=CO R h;have e:(bW y).length=(bW x).length:=Nat.le_antisymm (h2 y a b) (c x hx h1);rw [CP R.sort a hx (IY b h1 e)]
theorem CQ{l:List Rg}(R:fK l){x:Rg}(hx:x ∈ l):I6 l (bW x)=some x:=by
 have pk:=(Ph (R.all x hx)).1;exact Xw R hx (EZ (p:=x.Prefix) pk) λy _ h=>(Vo h).1
theorem Vp{l:List Rg}(R:fK l)(s:BY):zA l s=some (stR l (bl s)):=by
 unfold zA stR;rw [Vm R];simp only [bS];rcases K9 R (bl s) with ⟨h,e⟩ | ⟨i,hi,h,e⟩
 ·rw [h,e,iN (by decide)];rfl
 rw [h,e,iP (by simp),bT hi];rfl
theorem rix(l:List Rg)(s:BY):∀ (k:Nat) (i:Int),eP l s k i=gIX (λx=>pN x s) l k i
 | 0,_=>rfl
 | k+1,i=>by unfold eP gIX;simp only [rix l s k]
theorem My{l:List Rg}(R:fK l)(s:BY):(kU l s=some ((⟨em,0,0⟩:Rg),false)/\∀ x ∈ l,bW x ≠ bl s)∨∃ x ∈ l,bW x=bl s/\kU l s=some (x,true):=by
 have hl:=R.len;unfold kU jM;rw [rix];obtain ⟨z,h1,h2⟩:=Iv (λx=>pN x s) l (λx=>decide (bW x=bl s)) (by omega) (λx _=>by unfold pN;rw [qG];rfl);rw [h1];simp only [bS];rcases h2 with ⟨rfl,h⟩ | ⟨i,rfl,hi,h,_⟩
 ·rw [iP (by decide)];exact .inl ⟨rfl,λx hx=>of_decide_eq_false (h x hx)⟩
 rw [iN (by simp),bT hi];exact .inr ⟨_,List.getElem_mem hi,of_decide_eq_true h,rfl⟩
/-! ### what is held -/
theorem NF(l:List Hd)(r:List Rg)(s:BY):∀ (k:Nat) (i:Int),eQ l r s k i=gIX (λx=>sW x r s) l k i
 | 0,_=>rfl
 | k+1,i=>by unfold eQ gIX;simp only [NF l r s k]
theorem NG(l:List Hd)(r q:List Rg):∀ (k:Nat) (i:Int),eR l r q k i=gIX (λx=>oF x r q) l k i
 | 0,_=>rfl
 | k+1,i=>by unfold eR gIX;simp only [NG l r q k]
def jS(x:Hd):List UInt8:=bl x.Dir
theorem Pi{r:List Rg}(R:fK r)(d p:BY):((mR r d).bind λu=>if (decide (u ≥ 0))=true then ((idx r u).bind λx=>some (sEq x.Prefix p)) else (some (false)))=some (atP r (bl p) (bl d)):=by
 unfold atP;rw [Vm R];simp only [bS];rcases K9 R (bl d) with ⟨h,e⟩ | ⟨i,hi,h,e⟩
 ·rw [h,e,iN (by decide)];rfl
 rw [h,e,iP (by simp),bT hi];simp only [bS,Option.any_some];rw [qG];rfl
theorem Vq{r:List Rg}(R:fK r)(l:List Hd)(hl:l.length <= 1000000)(p:BY):oX l r p=some (l.any λx=>atP r (bl p) (jS x)):=by
 unfold oX iW jN;rw [NF];obtain ⟨z,h1,h2⟩:=K8 (λx=>sW x r p) l (λx=>atP r (bl p) (jS x)) (by omega) (λx _=>Pi R x.Dir p);rw [h1];simp only [bS];rw [h2]
/-- has a directory ranges of one prefix, in both? -/
def Ju(r q:List Rg)(d:List UInt8):Bool:=match I6 r d,I6 q d with
 | some x,some y=>decide (bW x=bW y)
 | _,_=>false
theorem CR{r q:List Rg}(R:fK r)(Q:fK q)(l:List Hd)(hl:l.length <= 1000000):uD r l q=some (l.any λx=>!Ju r q (jS x)):=by
 unfold uD iF jO;rw [NG];obtain ⟨z,h1,h2⟩:=K8 (λx=>oF x r q) l (λx=>!Ju r q (jS x)) (by omega) (λx _=>by
  unfold oF Ju;rw [Vm R,Vm Q];simp only [bS];rcases K9 R (bl x.Dir) with ⟨h,e⟩ | ⟨i,hi,h,e⟩
  ·rw [h,show jS x=bl x.Dir from rfl,e,iP (by decide)];rfl
  rcases K9 Q (bl x.Dir) with ⟨h',e'⟩ | ⟨j,hj,h',e'⟩
  ·rw [h,h',show jS x=bl x.Dir from rfl,e,e',iN (by simp),iP (by decide)];rfl
  rw [h,h',show jS x=bl x.Dir from rfl,e,e',iN (by simp),iN (by simp),bT hi,bT hj];simp only [bS];rw [qG];rfl)
 rw [h1];simp only [bS];rw [h2]
/-! ### what is in a range -/
def inN(l:List Rg)(p:List UInt8)(x:Nd):Bool:=atP l p (upP (key x))
def inT(l:List Rg)(p:List UInt8)(t:Tn):Bool:=atP l p (cI t)
theorem IZ{l:List Rg}(R:fK l)(p:BY)(x:Nd):C2 x l p=some (inN l (bl p) x):=by
 unfold C2 yI yX inN upP;rw [Bz];simp only [bS];rw [show bl x.Path=key x from rfl];cases h:pU (key x) with
 | none=>
  rw [iP (by rfl),Pi R];rfl
 | some q=>
  rw [iN (by simp [os2]),Pi R];rfl
theorem JA{l:List Rg}(R:fK l)(p:BY)(t:Tn):C3 t l p=some (inT l (bl p) t):=by
 unfold C3 yX;rw [Pi R];rfl
theorem wC{α:Type}{l:List α}(f:α->Bool){i:Nat}(hi:i < l.length):(l.take (i+1)).filter f=(l.take i).filter f ++ if f l[i]=true then [l[i]] else []:=by
 rw [List.take_add_one,List.getElem?_eq_getElem hi,List.filter_append];congr 1;simp [List.filter_cons]
theorem JB{l:List Rg}(R:fK l)(p:BY)(ns:List Nd)(hl:ns.length <= 1000000):pY ns l p=some (ns.filter (inN l (bl p)),ns.filter λx=>!inN l (bl p) x):=by
 unfold pY;obtain ⟨r,h1,h2⟩:=sH (λk i (s:List Nd×List Nd)=>fG ns l p k s.1 s.2 i) (n:=ns.length) (k:=((ns.length:Int) - 0:Int).toNat+1) (λi s=>s=((ns.take i).filter (inN l (bl p)),(ns.take i).filter λx=>!inN l (bl p) x)) (λr=>r=(ns.filter (inN l (bl p)),ns.filter λx=>!inN l (bl p) x)) ([],[]) (lH _) (by simp) (by
  rintro k i _ hi rfl ih;unfold fG mX;rw [iP (by simpa using hi),bT hi];simp only [bS];rw [IZ R];simp only [bS];rw [gL (by omega)];have a1:((ns.take i).filter (inN l (bl p))).length <= i:=Nat.le_trans (List.length_filter_le _ _) (by simp;omega);have a2:((ns.take i).filter (λx=>!inN l (bl p) x)).length <= i:=Nat.le_trans (List.length_filter_le _ _) (by simp;omega);cases c:inN l (bl p) ns[i] with
  | true=>
   rw [iP (by trivial),dK (by simp only [List.length_singleton,LIM];omega)];exact ih (_,_) (by rw [wC _ hi,wC _ hi,c];simp)
  | false=>
   rw [iN (by simp),dK (by simp only [List.length_singleton,LIM];omega)];exact ih (_,_) (by rw [wC _ hi,wC _ hi,c];simp)) (by
  rintro k _ rfl;unfold fG;rw [iN (by simp)];exact ⟨_,rfl,by rw [List.take_length]⟩)
 rw [h2] at h1;exact h1
theorem JC{l:List Rg}(R:fK l)(p:BY)(ns:List Tn)(hl:ns.length <= 1000000):pZ ns l p=some (ns.filter (inT l (bl p)),ns.filter λx=>!inT l (bl p) x):=by
 unfold pZ;obtain ⟨r,h1,h2⟩:=sH (λk i (s:List Tn×List Tn)=>fH ns l p k s.1 s.2 i) (n:=ns.length) (k:=((ns.length:Int) - 0:Int).toNat+1) (λi s=>s=((ns.take i).filter (inT l (bl p)),(ns.take i).filter λx=>!inT l (bl p) x)) (λr=>r=(ns.filter (inT l (bl p)),ns.filter λx=>!inT l (bl p) x)) ([],[]) (lH _) (by simp) (by
  rintro k i _ hi rfl ih;unfold fH mY;rw [iP (by simpa using hi),bT hi];simp only [bS];rw [JA R];simp only [bS];rw [gL (by omega)];have a1:((ns.take i).filter (inT l (bl p))).length <= i:=Nat.le_trans (List.length_filter_le _ _) (by simp;omega);have a2:((ns.take i).filter (λx=>!inT l (bl p) x)).length <= i:=Nat.le_trans (List.length_filter_le _ _) (by simp;omega);cases c:inT l (bl p) ns[i] with
  | true=>
   rw [iP (by trivial),dK (by simp only [List.length_singleton,LIM];omega)];exact ih (_,_) (by rw [wC _ hi,wC _ hi,c];simp)
  | false=>
   rw [iN (by simp),dK (by simp only [List.length_singleton,LIM];omega)];exact ih (_,_) (by rw [wC _ hi,wC _ hi,c];simp)) (by
  rintro k _ rfl;unfold fH;rw [iN (by simp)];exact ⟨_,rfl,by rw [List.take_length]⟩)
 rw [h2] at h1;exact h1
theorem Vr{s:Sto}(S:eK s)(hn:s.Nodes.length <= 1000000)(ht:s.Turns.length <= 1000000):sQ s=some true:=by
 obtain ⟨b,h1,h2⟩:=I5 s (by omega) (by omega);rw [h1,h2.2 S]
theorem Iw{l:List Rg}(R:fK l)(p:BY){s:Sto}(S:eK s)(hn:s.Nodes.length <= 1000000)(ht:s.Turns.length <= 1000000):vF s l p=some (s.Nodes.filter (inN l (bl p)),s.Turns.filter (inT l (bl p)),s.Nodes.filter (λx=>!inN l (bl p) x),s.Turns.filter λx=>!inT l (bl p) x):=by
 unfold vF s7;rw [Vr S hn ht,R3 R];simp only [bS];rw [iN (by simp),iN (by simp),JB R p _ hn,JC R p _ ht];rfl
theorem eK.filt {s:Sto} (S:eK s) (f:Nd->Bool) (g:Tn->Bool):eK ⟨s.Nodes.filter f,s.Turns.filter g⟩:=
 ⟨List.all_eq_true.2 λx hx=>List.all_eq_true.1 S.nodes x (List.mem_filter.1 hx).1,S.nsort.sublist List.filter_sublist,List.all_eq_true.2 λx hx=>List.all_eq_true.1 S.turns x (List.mem_filter.1 hx).1,S.tsort.sublist List.filter_sublist⟩
end Go.Cb
