/- A shard's ranges, plainly: what is in a range; frozen, installed, dropped. -/
import Derived.Test.YteakhlfapjaodaaGreatDoorE2so
import Derived.Test.YteakhlfapjaodaaGreatDoorKso4
set_option linter.unusedVariables false
set_option linter.unusedSimpArgs false
namespace Go.Cb
open Go.Proofs Go.RowKit

abbrev Hd:=aV
/-! ### a search from the front, said once -/
def gIX{α:Type}(f:α->Option Bool)(l:List α):Nat->Int->Option Int
  | 0,_=>none
  | k+1,i=>if (decide (i < (l.length:Int)))=true then ((idx l i).bind λ x=>(f x).bind λ u=>if u=true then some i else gIX f l k (IntKind.i64.wrap (i+1))) else some (-1)
theorem Io{α:Type}(f:α->Option Bool)(l:List α)(p:α->Bool)(hl:l.length <= 4611686018427387904)(hf:∀ x ∈ l,f x=some (p x)):∃ z,gIX f l (((l.length:Int) - 0:Int).toNat+1) 0=some z/\((z= -1/\(∀ x ∈ l,p x=false))∨∃ i:Nat,z=(i:Int)/\∃ hi:i < l.length,p l[i]=true/\∀ j (h:j < l.length),j < i->p l[j]=false):=by
  refine xA (λ k i (_:Unit)=>gIX f l k i) (n:=l.length) (λ i _=>∀ j (h:j < l.length),j < i->p l[j]=false) _ () (pD _) (λ j h hj=>by omega) ?_ ?_
  · intro k i _ hi P ih
    unfold gIX
    rw [iP (by simpa using hi),bV hi]
    simp only [bS]
    rw [hf _ (List.getElem_mem hi)]
    simp only [bS]
    cases c:p l[i] with
    | true=>rw [iP (by trivial)];exact ⟨_,rfl,.inr ⟨i,rfl,hi,c,P⟩⟩
    | false=>
      rw [iN (by simp),gU (by omega)]
      refine ih () λ j h hj=>?_
      by_cases e:j=i
      · subst e;exact c
      · exact P j h (by omega)
  · intro k _ P
    unfold gIX
    rw [iN (by simp)]
    refine ⟨_,rfl,.inl ⟨rfl,λ x hx=>?_⟩⟩
    obtain ⟨j,hj,rfl⟩:=List.mem_iff_getElem.1 hx
    exact P j hj hj
theorem K2{α:Type}(f:α->Option Bool)(l:List α)(p:α->Bool)(hl:l.length <= 4611686018427387904)(hf:∀ x ∈ l,f x=some (p x)):∃ z,gIX f l (((l.length:Int) - 0:Int).toNat+1) 0=some z/\decide (z ≥ 0)=l.any p:=by
  obtain ⟨z,h1,h2⟩:=Io f l p hl hf
  refine ⟨z,h1,?_⟩
  rcases h2 with ⟨rfl,h⟩ | ⟨i,rfl,hi,h,_⟩
  · rw [List.any_eq_false.2 λ x hx=>by rw [h x hx];simp];rfl
  · rw [List.any_eq_true.2 ⟨_,List.getElem_mem hi,h⟩];simp
/-! ### whose is a directory -/
def ofZ(l:List Rg)(d:List UInt8):Int:=(mE l (mk d)).getD (-1)
theorem Vb{l:List Rg}(R:fP l)(s:ByteArray):mE l s=some (ofZ l (bl s)):=by
  obtain ⟨z,h,_⟩:=Ze R s
  unfold ofZ;rw [Fe,h];rfl
theorem Vc{l:List Rg}(R:fP l)(d:List UInt8):Zd l d (ofZ l d):=by
  obtain ⟨z,h,a⟩:=Ze R (mk d)
  unfold ofZ;rw [h];exact a
/-- the range of a directory. -/
def H9(l:List Rg)(d:List UInt8):Option Rg:=if 0 <= ofZ l d then l[(ofZ l d).toNat]? else none
def atP(l:List Rg)(p d:List UInt8):Bool:=(H9 l d).any λ x=>decide (bW x=p)
def stR(l:List Rg)(d:List UInt8):Int:=((H9 l d).map (·.State)).getD 3
theorem K3{l:List Rg}(R:fP l)(d:List UInt8):(ofZ l d= -1/\H9 l d=none)∨∃ (i:Nat) (hi:i < l.length),ofZ l d=(i:Int)/\H9 l d=some l[i]:=by
  rcases Vc R d with ⟨h,_⟩ | ⟨i,h,hi,_⟩
  · exact .inl ⟨h,by unfold H9;rw [h];rfl⟩
  · refine .inr ⟨i,hi,h,?_⟩
    unfold H9
    rw [h,iP (by omega),Int.toNat_natCast,List.getElem?_eq_getElem hi]
theorem CK{l:List Rg}(R:fP l){d:List UInt8}(h:H9 l d=none):∀ x ∈ l,inS d (bW x)=false:=by
  rcases Vc R d with ⟨_,h'⟩ | ⟨i,h',hi,_⟩
  · exact h'
  · unfold H9 at h
    rw [h',iP (by omega),Int.toNat_natCast,List.getElem?_eq_getElem hi] at h
    cases h
theorem CL{l:List Rg}(R:fP l){d:List UInt8}{x:Rg}(h:H9 l d=some x):x ∈ l/\inS d (bW x)=true/\∀ y ∈ l,inS d (bW y)=true->(bW y).length <= (bW x).length:=by
  rcases Vc R d with ⟨h',_⟩ | ⟨i,h',hi,a,b⟩
  · unfold H9 at h
    rw [h'] at h;cases h
  · unfold H9 at h
    rw [h',iP (by omega),Int.toNat_natCast,List.getElem?_eq_getElem hi] at h
    cases h
    exact ⟨List.getElem_mem hi,a,b⟩
theorem Vd{p q:List UInt8}(h:inS p q=true):q.length <= p.length/\(q.length=p.length->q=p):=by
  obtain ⟨l,k,h1,h2,t,rfl⟩:=Jk h
  have a:=((jZ _ _).1 h1).1
  have b:=((jZ _ _).1 h2).1
  have one:∀ (x:List UInt8) (r:List (List UInt8)),(x::r).all iL=true->2 <= (fQ (x::r)).length:=λ x r hx=>by
    have:=Aj (List.all_eq_true.1 hx x (by simp))
    have:0 < x.length:=List.length_pos_iff.2 this
    simp [fQ];omega
  cases k with
  | nil=>
    cases t with
    | nil=>rw [a,b];exact ⟨Nat.le_refl _,λ _=>rfl⟩
    | cons x t=>
      have o:=one x t ((jZ _ _).1 h1).2.1
      have a':p=fQ (x::t):=by rw [a];rfl
      have b':q= [47]:=b
      rw [a',b']
      exact ⟨by simp only [List.length_singleton];omega,λ e=>by simp only [List.length_singleton] at e;omega⟩
  | cons x k=>
    have a':p=fQ (x::k) ++ fQ t:=by rw [a,← U1];rfl
    have b':q=fQ (x::k):=b
    rw [a',b']
    exact ⟨by simp,λ e=>by
      have:(fQ t).length=0:=by rw [List.length_append] at e;omega
      rw [List.eq_nil_of_length_eq_zero this,List.append_nil]⟩
/-- two paths in which one lies, of one length, are one. -/
theorem IW{d p q:List UInt8}(h1:inS d p=true)(h2:inS d q=true)(h:p.length=q.length):p=q:=by
  obtain ⟨l,k1,a1,b1,c1⟩:=Jk h1
  obtain ⟨l',k2,a2,b2,c2⟩:=Jk h2
  rw [a1] at a2
  cases a2
  rcases Nat.le_total k1.length k2.length with c | c
  · have:inS q p=true:=by unfold inS;rw [b2,b1];exact List.isPrefixOf_iff_prefix.2 (List.prefix_of_prefix_length_le c1 c2 c)
    exact (Vd this).2 h
  · have:inS p q=true:=by unfold inS;rw [b1,b2];exact List.isPrefixOf_iff_prefix.2 (List.prefix_of_prefix_length_le c2 c1 c)
    exact ((Vd this).2 h.symm).symm
theorem CM{l:List Rg}(R:l.Pairwise (bW · < bW ·)){x y:Rg}(hx:x ∈ l)(hy:y ∈ l)(h:bW x=bW y):x=y:=by
  obtain ⟨i,hi,rfl⟩:=List.mem_iff_getElem.1 hx
  obtain ⟨j,hj,rfl⟩:=List.mem_iff_getElem.1 hy
  have hp:=List.pairwise_iff_getElem.1 R
  rcases Nat.lt_trichotomy i j with c | c | c
  · exact absurd h (vW (hp i j hi hj c))
  · subst c;rfl
  · exact absurd h.symm (vW (hp j i hj hi c))
/-- what is known to be a directory's range is it. -/
theorem Xm{l:List Rg}(R:fP l){d:List UInt8}{x:Rg}(hx:x ∈ l)(h1:inS d (bW x)=true)(h2:∀ y ∈ l,inS d (bW y)=true->(bW y).length <= (bW x).length):H9 l d=some x:=by
  cases h:H9 l d with
  | none=>have:=CK R h x hx;rw [h1] at this;cases this
  | some y=>
    obtain ⟨a,b,c⟩:=CL R h
    have e:(bW y).length=(bW x).length:=Nat.le_antisymm (h2 y a b) (c x hx h1)
    rw [CM R.sort a hx (IW b h1 e)]
theorem CN{l:List Rg}(R:fP l){x:Rg}(hx:x ∈ l):H9 l (bW x)=some x:=by
  have pk:=(Sp (R.all x hx)).1
  exact Xm R hx (EX (p:=x.Prefix) pk) λ y _ h=>(Vd h).1
theorem EZ{l:List Rg}(R:fP l)(s:ByteArray):B9 l s=some (stR l (bl s)):=by
  unfold B9 stR
  rw [Vb R]
  simp only [bS]
  rcases K3 R (bl s) with ⟨h,e⟩ | ⟨i,hi,h,e⟩
  · rw [h,e,iN (by decide)];rfl
  · rw [h,e,iP (by simp),bV hi];rfl
theorem rix(l:List Rg)(s:ByteArray):∀ (k:Nat) (i:Int),eE l s k i=gIX (λ x=>oW x s) l k i
  | 0,_=>rfl
  | k+1,i=>by unfold eE gIX;simp only [rix l s k]
theorem Mk{l:List Rg}(R:fP l)(s:ByteArray):(jW l s=some ((⟨em,0,0⟩:Rg),false)/\∀ x ∈ l,bW x ≠ bl s)∨∃ x ∈ l,bW x=bl s/\jW l s=some (x,true):=by
  have hl:=R.len
  unfold jW iT
  rw [rix]
  obtain ⟨z,h1,h2⟩:=Io (λ x=>oW x s) l (λ x=>decide (bW x=bl s)) (by omega) (λ x _=>by unfold oW;rw [qV];rfl)
  rw [h1]
  simp only [bS]
  rcases h2 with ⟨rfl,h⟩ | ⟨i,rfl,hi,h,_⟩
  · rw [iP (by decide)]
    exact .inl ⟨rfl,λ x hx=>of_decide_eq_false (h x hx)⟩
  · rw [iN (by simp),bV hi]
    exact .inr ⟨_,List.getElem_mem hi,of_decide_eq_true h,rfl⟩
/-! ### what is held -/
theorem NI(l:List Hd)(r:List Rg)(s:ByteArray):∀ (k:Nat) (i:Int),eF l r s k i=gIX (λ x=>sJ x r s) l k i
  | 0,_=>rfl
  | k+1,i=>by unfold eF gIX;simp only [NI l r s k]
theorem NJ(l:List Hd)(r q:List Rg):∀ (k:Nat) (i:Int),eG l r q k i=gIX (λ x=>nO x r q) l k i
  | 0,_=>rfl
  | k+1,i=>by unfold eG gIX;simp only [NJ l r q k]
def kN(x:Hd):List UInt8:=bl x.Dir
theorem Ot{r:List Rg}(R:fP r)(d p:ByteArray):((mE r d).bind λ u=>if (decide (u ≥ 0))=true then ((idx r u).bind λ x=>some (sEq x.Prefix p)) else (some (false)))=some (atP r (bl p) (bl d)):=by
  unfold atP
  rw [Vb R]
  simp only [bS]
  rcases K3 R (bl d) with ⟨h,e⟩ | ⟨i,hi,h,e⟩
  · rw [h,e,iN (by decide)];rfl
  · rw [h,e,iP (by simp),bV hi]
    simp only [bS,Option.any_some]
    rw [qV];rfl
theorem Ve{r:List Rg}(R:fP r)(l:List Hd)(hl:l.length <= 1000000)(p:ByteArray):oK l r p=some (l.any λ x=>atP r (bl p) (kN x)):=by
  unfold oK iC iU
  rw [NI]
  obtain ⟨z,h1,h2⟩:=K2 (λ x=>sJ x r p) l (λ x=>atP r (bl p) (kN x)) (by omega) (λ x _=>Ot R x.Dir p)
  rw [h1]
  simp only [bS]
  rw [h2]
/-- has a directory ranges of one prefix, in both? -/
def Jl(r q:List Rg)(d:List UInt8):Bool:=match H9 r d,H9 q d with
  | some x,some y=>decide (bW x=bW y)
  | _,_=>false
theorem CO{r q:List Rg}(R:fP r)(Q:fP q)(l:List Hd)(hl:l.length <= 1000000):tO r l q=some (l.any λ x=>!Jl r q (kN x)):=by
  unfold tO gX iV
  rw [NJ]
  obtain ⟨z,h1,h2⟩:=K2 (λ x=>nO x r q) l (λ x=>!Jl r q (kN x)) (by omega) (λ x _=>by
    unfold nO Jl
    rw [Vb R,Vb Q]
    simp only [bS]
    rcases K3 R (bl x.Dir) with ⟨h,e⟩ | ⟨i,hi,h,e⟩
    · rw [h,show kN x=bl x.Dir from rfl,e,iP (by decide)];rfl
    · rcases K3 Q (bl x.Dir) with ⟨h',e'⟩ | ⟨j,hj,h',e'⟩
      · rw [h,h',show kN x=bl x.Dir from rfl,e,e',iN (by simp),iP (by decide)];rfl
      · rw [h,h',show kN x=bl x.Dir from rfl,e,e',iN (by simp),iN (by simp),bV hi,bV hj]
        simp only [bS]
        rw [qV];rfl)
  rw [h1]
  simp only [bS]
  rw [h2]
/-! ### what is in a range -/
def inN(l:List Rg)(p:List UInt8)(x:Nd):Bool:=atP l p (upP (key x))
def inT(l:List Rg)(p:List UInt8)(t:Tn):Bool:=atP l p (dA t)
theorem IX{l:List Rg}(R:fP l)(p:ByteArray)(x:Nd):B4 x l p=some (inN l (bl p) x):=by
  unfold B4 xS yE inN upP
  rw [Bu]
  simp only [bS]
  rw [show bl x.Path=key x from rfl]
  cases h:pC (key x) with
  | none=>
    rw [iP (by rfl),Ot R];rfl
  | some q=>
    rw [iN (by simp [os2]),Ot R];rfl
theorem IY{l:List Rg}(R:fP l)(p:ByteArray)(t:Tn):B5 t l p=some (inT l (bl p) t):=by
  unfold B5 yE
  rw [Ot R];rfl
theorem vI{α:Type}{l:List α}(f:α->Bool){i:Nat}(hi:i < l.length):(l.take (i+1)).filter f=(l.take i).filter f ++ if f l[i]=true then [l[i]] else []:=by
  rw [List.take_add_one,List.getElem?_eq_getElem hi,List.filter_append]
  congr 1
  simp [List.filter_cons]
theorem IZ{l:List Rg}(R:fP l)(p:ByteArray)(ns:List Nd)(hl:ns.length <= 1000000):pI ns l p=some (ns.filter (inN l (bl p)),ns.filter λ x=>!inN l (bl p) x):=by
  unfold pI
  obtain ⟨r,h1,h2⟩:=xA (λ k i (s:List Nd×List Nd)=>eS ns l p k s.1 s.2 i) (n:=ns.length) (k:=((ns.length:Int) - 0:Int).toNat+1) (λ i s=>s=((ns.take i).filter (inN l (bl p)),(ns.take i).filter λ x=>!inN l (bl p) x)) (λ r=>r=(ns.filter (inN l (bl p)),ns.filter λ x=>!inN l (bl p) x)) ([],[]) (pD _) (by simp) (by
    rintro k i _ hi rfl ih
    unfold eS mK
    rw [iP (by simpa using hi),bV hi]
    simp only [bS]
    rw [IX R]
    simp only [bS]
    rw [gU (by omega)]
    have a1:((ns.take i).filter (inN l (bl p))).length <= i:=Nat.le_trans (List.length_filter_le _ _) (by simp;omega)
    have a2:((ns.take i).filter (λ x=>!inN l (bl p) x)).length <= i:=Nat.le_trans (List.length_filter_le _ _) (by simp;omega)
    cases c:inN l (bl p) ns[i] with
    | true=>
      rw [iP (by trivial),dO (by simp only [List.length_singleton,LIM];omega)]
      exact ih (_,_) (by rw [vI _ hi,vI _ hi,c];simp)
    | false=>
      rw [iN (by simp),dO (by simp only [List.length_singleton,LIM];omega)]
      exact ih (_,_) (by rw [vI _ hi,vI _ hi,c];simp)) (by
    rintro k _ rfl
    unfold eS
    rw [iN (by simp)]
    exact ⟨_,rfl,by rw [List.take_length]⟩)
  rw [h2] at h1
  exact h1
theorem JA{l:List Rg}(R:fP l)(p:ByteArray)(ns:List Tn)(hl:ns.length <= 1000000):pJ ns l p=some (ns.filter (inT l (bl p)),ns.filter λ x=>!inT l (bl p) x):=by
  unfold pJ
  obtain ⟨r,h1,h2⟩:=xA (λ k i (s:List Tn×List Tn)=>eT ns l p k s.1 s.2 i) (n:=ns.length) (k:=((ns.length:Int) - 0:Int).toNat+1) (λ i s=>s=((ns.take i).filter (inT l (bl p)),(ns.take i).filter λ x=>!inT l (bl p) x)) (λ r=>r=(ns.filter (inT l (bl p)),ns.filter λ x=>!inT l (bl p) x)) ([],[]) (pD _) (by simp) (by
    rintro k i _ hi rfl ih
    unfold eT mL
    rw [iP (by simpa using hi),bV hi]
    simp only [bS]
    rw [IY R]
    simp only [bS]
    rw [gU (by omega)]
    have a1:((ns.take i).filter (inT l (bl p))).length <= i:=Nat.le_trans (List.length_filter_le _ _) (by simp;omega)
    have a2:((ns.take i).filter (λ x=>!inT l (bl p) x)).length <= i:=Nat.le_trans (List.length_filter_le _ _) (by simp;omega)
    cases c:inT l (bl p) ns[i] with
    | true=>
      rw [iP (by trivial),dO (by simp only [List.length_singleton,LIM];omega)]
      exact ih (_,_) (by rw [vI _ hi,vI _ hi,c];simp)
    | false=>
      rw [iN (by simp),dO (by simp only [List.length_singleton,LIM];omega)]
      exact ih (_,_) (by rw [vI _ hi,vI _ hi,c];simp)) (by
    rintro k _ rfl
    unfold eT
    rw [iN (by simp)]
    exact ⟨_,rfl,by rw [List.take_length]⟩)
  rw [h2] at h1
  exact h1
theorem Vf{s:Sto}(S:eK s)(hn:s.Nodes.length <= 1000000)(ht:s.Turns.length <= 1000000):sD s=some true:=by
  obtain ⟨b,h1,h2⟩:=H8 s (by omega) (by omega)
  rw [h1,h2.2 S]
theorem Ip{l:List Rg}(R:fP l)(p:ByteArray){s:Sto}(S:eK s)(hn:s.Nodes.length <= 1000000)(ht:s.Turns.length <= 1000000):uO s l p=some (s.Nodes.filter (inN l (bl p)),s.Turns.filter (inT l (bl p)),s.Nodes.filter (λ x=>!inN l (bl p) x),s.Turns.filter λ x=>!inT l (bl p) x):=by
  unfold uO r6
  rw [Vf S hn ht,Q7 R]
  simp only [bS]
  rw [iN (by simp),iN (by simp),IZ R p _ hn,JA R p _ ht]
  rfl
theorem eK.filt {s:Sto} (S:eK s) (f:Nd->Bool) (g:Tn->Bool):eK ⟨s.Nodes.filter f,s.Turns.filter g⟩:=
  ⟨List.all_eq_true.2 λ x hx=>List.all_eq_true.1 S.nodes x (List.mem_filter.1 hx).1,S.nsort.sublist List.filter_sublist,List.all_eq_true.2 λ x hx=>List.all_eq_true.1 S.turns x (List.mem_filter.1 hx).1,S.tsort.sublist List.filter_sublist⟩
end Go.Cb
