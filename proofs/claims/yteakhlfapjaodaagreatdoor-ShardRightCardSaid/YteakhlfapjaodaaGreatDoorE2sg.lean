/- Ranges, plainly: a range is put in its place; frozen, installed, dropped; those that are kept elsewhere. -/
import Derived.Test.YteakhlfapjaodaaGreatDoorE1sg
import Derived.Test.YteakhlfapjaodaaGreatDoorKsg2
set_option linter.unusedVariables false
set_option linter.unusedSimpArgs false
namespace Go.Cb
open Go.Proofs Go.RowKit

/-! ### a search by halves, said once -/
def gBS{α τ:Type}(cmp:α->τ->Option Int)(l:List α)(s:τ):Nat->Int->Int->Option (Int×Bool)
 | 0,_,_=>none
 | k1+1,x4,x5=>
  if (decide (x4 < x5))=true then ((idx l (IntKind.i64.wrap (tM .u64 (IntKind.u64.wrap (IntKind.i64.wrap (x4+x5))) 1))).bind λx8=>(cmp x8 s).bind λu13=>if (decide (u13 < 0))=true then (gBS cmp l s k1 (IntKind.i64.wrap ((IntKind.i64.wrap (tM .u64 (IntKind.u64.wrap (IntKind.i64.wrap (x4+x5))) 1))+1)) x5) else (gBS cmp l s k1 x4 (IntKind.i64.wrap (tM .u64 (IntKind.u64.wrap (IntKind.i64.wrap (x4+x5))) 1)))) else (if (decide (x4 < (l.length:Int)))=true then ((idx l x4).bind λx16=>(cmp x16 s).bind λu21=>some (x4,u21 == 0)) else (some (x4,false)))
theorem Sy{α τ:Type}(cmp:α->τ->Option Int)(l:List α)(s:τ)(lt eq:α->Prop)(hlen:l.length <= 1000000)
  (hc:∀ x ∈ l,∃ v,cmp x s=some v/\(v < 0 ↔ lt x)/\(v=0 ↔ eq x)) (hs:∀ i j (hi:i < l.length) (hj:j < l.length),i < j->lt l[j]->lt l[i]):∀ (k lo hi:Nat),lo <= hi->hi <= l.length->hi+1 <= lo+k->(∀ j (h:j < l.length),j < lo->lt l[j])->(∀ j (h:j < l.length),hi <= j->¬ lt l[j])->
  ∃ (i:Nat) (b:Bool),i <= l.length/\gBS cmp l s k (lo:Int) (hi:Int)=some ((i:Int),b)/\(b=true ↔ ∃ h:i < l.length,eq l[i])/\(∀ j (h:j < l.length),j < i->lt l[j])/\(∀ j (h:j < l.length),i <= j->¬ lt l[j])
 | 0,lo,hi,_,_,h,_,_=>by omega
 | k+1,lo,hi,hlh,hhi,h,hlo,hup=>by
  unfold gBS;by_cases hl:lo < hi
  ·rw [iP (by simpa using hl),show IntKind.i64.wrap ((lo:Int)+(hi:Int))=IntKind.i64.wrap ((lo+hi:Nat):Int) from by rw [Int.natCast_add],EM _ (by omega)];have hm:(lo+hi) / 2 < l.length:=by omega
   rw [bT hm];simp only [bS];obtain ⟨v,v1,v2,v3⟩:=hc _ (List.getElem_mem hm);rw [v1];simp only [bS];by_cases hk:lt l[(lo+hi) / 2]
   ·rw [iP (decide_eq_true (v2.2 hk)),show IntKind.i64.wrap ((((lo+hi) / 2:Nat):Int)+1)=(((lo+hi) / 2+1:Nat):Int) from by rw [w64 (by omega) (by omega)];omega];refine Sy cmp l s lt eq hlen hc hs k ((lo+hi) / 2+1) hi (by omega) hhi (by omega) (λj hj hjl=>?_) hup;by_cases e:j=(lo+hi) / 2
    ·subst e;exact hk
    exact hs j _ hj hm (by omega) hk
   rw [iN (by simp only [decide_eq_true_eq];exact λq=>hk (v2.1 q))];refine Sy cmp l s lt eq hlen hc hs k lo ((lo+hi) / 2) (by omega) (by omega) (by omega) hlo (λj hj hjl=>?_);by_cases e:(lo+hi) / 2=j
   ·subst e;exact hk
   exact λh'=>hk (hs _ j hm hj (by omega) h')
  rw [iN (by simpa using hl)];have e:lo=hi:=by omega
  subst e;by_cases hl2:lo < l.length
  ·rw [iP (by simpa using hl2),bT hl2];simp only [bS];obtain ⟨v,v1,v2,v3⟩:=hc _ (List.getElem_mem hl2);rw [v1];exact ⟨lo,v == 0,hhi,rfl,by rw [beq_iff_eq,v3];exact ⟨λq=>⟨hl2,q⟩,λ⟨_,q⟩=>q⟩,hlo,hup⟩
  rw [iN (by simpa using hl2)];exact ⟨lo,false,hhi,rfl,⟨λq=>(by simp at q),λ⟨q,_⟩=>absurd q hl2⟩,hlo,hup⟩
/-- the same, of texts that rise. -/
theorem Zk{α:Type}(κ:α->List UInt8)(cmp:α->BY->Option Int)(l:List α)(s:BY)(hlen:l.length <= 1000000)(hc:∀ x,cmp x s=some (if κ x < bl s then -1 else if κ x=bl s then 0 else 1))(hs:l.Pairwise (κ · < κ ·)) :
  ∃ i:Nat,i <= l.length/\gBS cmp l s (((l.length:Int) - 0:Int).toNat+1) 0 (l.length:Int)=some ((i:Int),(l.find? (gEq κ (bl s))).isSome)/\l.take i=l.filter (gLt κ (bl s))/\
   ((∃ x,l.drop i=x::l.filter (gGt κ (bl s))/\κ x=bl s/\l.find? (gEq κ (bl s))=some x/\l[i]? =some x/\x ∈ l)∨(l.drop i=l.filter (gGt κ (bl s))/\l.find? (gEq κ (bl s))=none)):=by
 have hp:=List.pairwise_iff_getElem.1 hs;obtain ⟨i,b,h1,h2,h3,h4,h5⟩:=Sy cmp l s (λx=>κ x < bl s) (λx=>κ x=bl s) hlen (λx _=>⟨_,hc x,by
  by_cases a:κ x < bl s
  ·simp [a]
  ·by_cases b:κ x=bl s <;> simp [a,b,O8],by
  by_cases a:κ x < bl s
  ·simp [a,wT a]
  by_cases b:κ x=bl s <;> simp [a,b,O8]⟩) (λi j hi hj hij h=>zT (hp i j hi hj hij) h) (((l.length:Int) - 0:Int).toNat+1) 0 l.length (by omega) (Nat.le_refl _) (by omega) (λj _ h=>by omega) (λj h h'=>by omega)
 obtain ⟨g1,g2⟩:=Vc κ l (bl s) i hs h1 h4 h5;refine ⟨i,h1,?_,g1,?_⟩
 ·rw [show gBS cmp l s (((l.length:Int) - 0:Int).toNat+1) 0 (l.length:Int)=_ from h2];congr 2;rcases g2 with ⟨x,_,hk,hf,hi,_⟩ | ⟨_,hf,hi⟩
  ·obtain ⟨a,rfl⟩:=List.getElem?_eq_some_iff.1 hi;rw [hf,h3.2 ⟨a,hk⟩];rfl
  rw [hf];cases b with
  | false=>rfl
  | true=>
   obtain ⟨a,c⟩:=h3.1 rfl;exact absurd (by rw [List.getElem?_eq_getElem a];simp [c]) hi
 rcases g2 with ⟨x,a,b,c,d,e⟩ | ⟨a,b,_⟩
 ·exact .inl ⟨x,a,b,c,d,e⟩
 exact .inr ⟨a,b⟩
theorem NE(l:List Rg)(s:BY):∀ (k:Nat) (lo hi:Int),cJ l s k lo hi=gBS pM l s k lo hi
 | 0,_,_=>rfl
 | k+1,lo,hi=>by unfold cJ gBS;simp only [NE l s k]
theorem FY(l:List Rg)(s:BY):∀ (k:Nat) (lo hi:Int),cE l s k lo hi=gBS pM l s k lo hi
 | 0,_,_=>rfl
 | k+1,lo,hi=>by unfold cE gBS;simp only [FY l s k];rfl
theorem FZ(x:Rg)(s:BY):pM x s=some (if bW x < bl s then -1 else if bW x=bl s then 0 else 1):=by
 show some (Extern.BytealgCompare.cmp x.Prefix s)=_;rw [Oz];rfl
/-- where a range of just a prefix is, or would be. -/
def AtR(l:List Rg)(p:List UInt8)(i:Nat):Prop:=i <= l.length/\l.take i=l.filter (gLt bW p)/\
 ((∃ x,l.drop i=x::l.filter (gGt bW p)/\bW x=p/\l.find? (gEq bW p)=some x/\l[i]? =some x/\x ∈ l)∨(l.drop i=l.filter (gGt bW p)/\l.find? (gEq bW p)=none))
theorem Fm(l:List Rg)(s:BY)(hl:l.length <= 1000000)(hs:l.Pairwise (bW · < bW ·)):∃ i:Nat,yF l s=some ((i:Int),(l.find? (gEq bW (bl s))).isSome)/\AtR l (bl s) i:=by
 obtain ⟨i,h1,h2,h3,h4⟩:=Zk bW pM l s hl (λx=>FZ x s) hs;refine ⟨i,?_,h1,h3,h4⟩;unfold yF fF;rw [NE,h2];rfl
theorem CK(l:List Rg)(s:BY)(hl:l.length <= 1000000)(hs:l.Pairwise (bW · < bW ·)):∃ i:Nat,dS l s=some ((i:Int),(l.find? (gEq bW (bl s))).isSome)/\AtR l (bl s) i:=by
 obtain ⟨i,h1,h2,h3,h4⟩:=Zk bW pM l s hl (λx=>FZ x s) hs;refine ⟨i,?_,h1,h3,h4⟩;unfold dS;rw [FY,h2]
/-- a range in its place. -/
def iX(l:List Rg)(x:Rg):List Rg:=l.filter (gLt bW (bW x)) ++ x::l.filter (gGt bW (bW x))
theorem AtR.put {l:List Rg} {x:Rg} {i:Nat} (A:AtR l (bW x) i):(l.find? (gEq bW (bW x))=none->l.take i ++ x::l.drop i=iX l x)/\(∀ y,l.find? (gEq bW (bW x))=some y->i < l.length/\l.set i x=iX l x):=by
 obtain ⟨h1,h2,h3⟩:=A;constructor
 ·intro h;rcases h3 with ⟨y,_,_,e,_⟩ | ⟨a,_⟩
  ·rw [e] at h;cases h
  rw [h2,a];rfl
 intro y h;rcases h3 with ⟨z,a,b,e,f,_⟩ | ⟨_,a⟩
 ·obtain ⟨hi,_⟩:=List.getElem?_eq_some_iff.1 f;refine ⟨hi,?_⟩;rw [List.set_eq_take_append_cons_drop,iP hi,h2,← List.drop_drop,a];rfl
 rw [a] at h;cases h
theorem PX{l:List Rg}{x y:Rg}:y ∈ iX l x ↔ y=x∨(y ∈ l/\bW y ≠ bW x):=by
 unfold iX;rw [List.mem_append,List.mem_cons,List.mem_filter,List.mem_filter];constructor
 ·rintro (⟨a,b⟩ | rfl | ⟨a,b⟩)
  ·exact .inr ⟨a,wT (by simpa [gLt] using b)⟩
  ·exact .inl rfl
  exact .inr ⟨a,by simp [gGt,gEq] at b;exact b.2⟩
 rintro (rfl | ⟨a,b⟩)
 ·exact .inr (.inl rfl)
 by_cases c:bW y < bW x
 ·exact .inl ⟨a,by simpa [gLt] using c⟩
 exact .inr (.inr ⟨a,by simp [gGt,gLt,gEq,c,b]⟩)
theorem Pg{l:List Rg}(x:Rg)(hs:l.Pairwise (bW · < bW ·)):(iX l x).Pairwise (bW · < bW ·):=W9 bW l _ x rfl hs
theorem Ro(l:List Rg)(x:Rg):(iX l x).length <= l.length+1:=by
 have:=Pf bW l (bW x);simp [iX];omega
theorem Zl{l:List Rg}{x y:Rg}(hs:l.Pairwise (bW · < bW ·))(h:l.find? (gEq bW (bW x))=some y)(hl:l.length <= 1000000):(iX l x).length=l.length:=by
 obtain ⟨i,_,A⟩:=Fm l x.Prefix hl hs;rw [← (AtR.put (x:=x) A).2 y h |>.2,List.length_set]
theorem CL{l:List Rg}(R:fK l){x:Rg}(hx:rgB x=true)(h:(iX l x).length <= 32):fK (iX l x):=
 ⟨λy hy=>by
  rcases PX.1 hy with rfl | ⟨a,_⟩
  ·exact hx
  exact R.all y a,Pg x R.sort,h⟩
theorem Vl{l:List Rg}(R:fK l)(x:Rg)(hx:rgB x=true):(pF l x=some ([],false)/\l.find? (gEq bW (bW x))=none/\l.length=32)∨(pF l x=some (iX l x,true)/\fK (iX l x)):=by
 have hl:=R.len;obtain ⟨i,h1,A⟩:=Fm l x.Prefix (by omega) R.sort;have A':AtR l (bW x) i:=A;unfold pF s5 s4;rw [h1];simp only [bS];rw [show bl x.Prefix=bW x from rfl];cases f:l.find? (gEq bW (bW x)) with
 | none=>
  have p:=(AtR.put A').1 f;rw [iP (by rfl)];by_cases c:l.length=32
  ·rw [iP (by simp [c])];exact .inl ⟨rfl,rfl,c⟩
  rw [iN (by simp;omega),dK (by simp [LIM];omega),iP (by rfl),dK (by have:=A'.1;omega),Int.toNat_natCast,p];have hi:i < (iX l x).length:=by rw [← p];have:=A'.1;simp;omega
  rw [bT hi];simp only [bS];rw [show (iX l x).set i x=iX l x from by
   rw [← p,List.set_append_right _ _ (by simp;omega)];rw [List.length_take,Nat.min_eq_left A'.1,Nat.sub_self];rfl]
  exact .inr ⟨rfl,CL R hx (by have:=Ro l x;omega)⟩
 | some y=>
  obtain ⟨hi,p⟩:=(AtR.put A').2 y f;rw [iN (by simp),iN (by simp),dK (by simp [LIM];omega),iN (by simp),bT hi];simp only [bS,Int.toNat_natCast];rw [p];exact .inr ⟨rfl,CL R hx (by rw [Zl R.sort f (by omega)];omega)⟩
theorem Sz{p:BY}{e s:Int}(hp:eJ (bl p)=true)(h1:0 <= e)(h2:e <= 281474976710656)(h3:1 <= s)(h4:s <= 3):rgB (⟨p,e,s⟩:Rg)=true:=by
 simp [rgB,bW,hp,h1,h2,h3,h4]
theorem Ph{x:Rg}(h:rgB x=true):eJ (bW x)=true/\0 <= x.Epoch/\x.Epoch <= 281474976710656/\1 <= x.State/\x.State <= 3:=by
 simp only [rgB,Bool.and_eq_true,decide_eq_true_eq] at h;exact ⟨h.1,h.2.1,h.2.2.1,h.2.2.2.1,h.2.2.2.2⟩
/-- what is made of ranges: none, or one that is put in its place. -/
theorem CM{l:List Rg}(R:fK l)(p:BY):uQ l p=some ([],false)∨∃ (i:Nat) (hi:i < l.length),Zi l (bl p) (i:Int)/\(l[i]).State=1/\uQ l p=some (iX l ⟨p,(l[i]).Epoch,2⟩,true)/\fK (iX l ⟨p,(l[i]).Epoch,2⟩)/\eJ (bl p)=true:=by
 obtain ⟨z,h1,h2⟩:=Zj R p;unfold uQ xG;rw [h1];simp only [bS];have h2':=h2;rcases h2 with ⟨rfl,_⟩ | ⟨i,rfl,hi,a,b⟩
 ·rw [iP (by decide),iP (by trivial)];exact .inl rfl
 rw [iN (by simp),bT hi];simp only [bS];have q:=Ph (R.all _ (List.getElem_mem hi));have pk:eJ (bl p)=true:=by
  unfold inS at a;unfold eJ;split at a
  ·rename_i h _;rw [h];rfl
  cases a
 by_cases c:(l[i]).State=1
 ·rw [iN (by simp [c])];rcases Vl R (⟨p,(l[i]).Epoch,2⟩:Rg) (Sz pk q.2.1 q.2.2.1 (by omega) (by omega)) with ⟨u,_⟩ | ⟨u,v⟩
  ·rw [u];exact .inl rfl
  rw [u];exact .inr ⟨i,hi,h2',c,rfl,v,pk⟩
 rw [iP (by simpa using c)];exact .inl rfl
theorem Zm{l:List Rg}(R:fK l)(p:BY)(e:Int):qL l p e=some ([],false)∨(qL l p e=some (iX l ⟨p,e,1⟩,true)/\fK (iX l ⟨p,e,1⟩)/\eJ (bl p)=true):=by
 unfold qL oS vU;rw [R3 R,mZ];simp only [bS];rw [iN (by simp)];cases pk:eJ (bl p) with
 | false=>exact .inl (by rw [iP (by rfl),iP (by trivial)])
 | true=>
  rw [iN (by simp)];by_cases c:e < 0
  ·exact .inl (by rw [iP (by simpa using c),iP (by trivial)])
  by_cases d:e > 281474976710656
  ·exact .inl (by rw [iN (by simpa using c),iP (by simpa using d)])
  rw [iN (by simpa using c),iN (by simpa using d)];obtain ⟨i,h1,A⟩:=Fm l p (by have:=R.len;omega) R.sort;rw [h1];simp only [bS];have fin:pF l (⟨p,e,1⟩:Rg)=some ([],false)∨(pF l (⟨p,e,1⟩:Rg)=some (iX l ⟨p,e,1⟩,true)/\fK (iX l ⟨p,e,1⟩)):=by
   rcases Vl R (⟨p,e,1⟩:Rg) (Sz pk (by omega) (by omega) (by omega) (by omega)) with ⟨u,_⟩ | ⟨u,v⟩
   ·exact .inl u
   exact .inr ⟨u,v⟩
  have nx:∀ b:Bool,(if b=true then some (([]:List Rg),false) else (pF l (⟨p,e,1⟩:Rg)).bind λu=>some (u.1,u.2))=some ([],false)∨((if b=true then some (([]:List Rg),false) else (pF l (⟨p,e,1⟩:Rg)).bind λu=>some (u.1,u.2))=some (iX l ⟨p,e,1⟩,true)/\fK (iX l ⟨p,e,1⟩)/\True):=by
   intro b;cases b with
   | true=>exact .inl rfl
   | false=>
    rw [iN (by simp)];rcases fin with u | ⟨u,v⟩
    ·rw [u];exact .inl rfl
    rw [u];exact .inr ⟨rfl,v,trivial⟩
  rcases A.2.2 with ⟨x,_,_,f,hi,_⟩ | ⟨_,f⟩
  ·obtain ⟨hi,_⟩:=List.getElem?_eq_some_iff.1 hi;rw [f,iP (by rfl),bT hi];exact nx _
  rw [f,iN (by simp)];exact nx false
theorem IW{l:List Rg}(R:fK l)(p:BY)(e:Int):s6 l p e=some ([],false)∨∃ x,l.find? (gEq bW (bl p))=some x/\x.State=2/\x.Epoch=e/\s6 l p e=some (iX l ⟨p,e,3⟩,true)/\fK (iX l ⟨p,e,3⟩):=by
 unfold s6 wI;rw [R3 R];simp only [bS];rw [iN (by simp)];obtain ⟨i,h1,A⟩:=Fm l p (by have:=R.len;omega) R.sort;rw [h1];simp only [bS];rcases A.2.2 with ⟨x,_,k,f,hi,hm⟩ | ⟨_,f⟩
 ·obtain ⟨hi,ex⟩:=List.getElem?_eq_some_iff.1 hi;have q:=Ph (R.all _ hm);rw [f,iN (by simp),bT hi,ex];simp only [bS];by_cases c:x.State=2
  ·by_cases d:x.Epoch=e
   ·rw [iN (by simp [c]),iN (by simp [d])];rcases Vl R (⟨p,e,3⟩:Rg) (Sz (by rw [← k];exact q.1) (by omega) (by omega) (by omega) (by omega)) with ⟨u,_⟩ | ⟨u,v⟩
    ·rw [u];exact .inl rfl
    rw [u];exact .inr ⟨x,rfl,c,d,rfl,v⟩
   rw [iN (by simp [c]),iP (by simpa using d)];exact .inl rfl
  rw [iP (by simpa using c),iP (by trivial)];exact .inl rfl
 rw [f,iP (by rfl),iP (by trivial)];exact .inl rfl
/-- a range of just a prefix, found. -/
theorem EZ{p:BY}(h:eJ (bl p)=true):inS (bl p) (bl p)=true:=by
 unfold eJ at h;obtain ⟨ps,e⟩:=Option.isSome_iff_exists.1 h;unfold inS;rw [e];simp
theorem Jt{p q:List UInt8}(h:inS p q=true):∃ l k,parts p=some l/\parts q=some k/\k <+:l:=by
 unfold inS at h;split at h
 ·exact ⟨_,_,‹_›,‹_›,List.isPrefixOf_iff_prefix.1 h⟩
 cases h
/-- those that are kept elsewhere. -/
structure FA (l:List Rg) (n:Nat):Prop where
 all:∀ x ∈ l,rgB x=true
 sort:l.Pairwise (bW · < bW ·)
 len:l.length <= n
/-- every range of a list is there still. -/
theorem IX(ps:List BY)(hp:ps.length <= 32)(hk:∀ p ∈ ps,eJ (bl p)=true)(l0:List Rg)(R:fK l0):∃ l,yG l0 ps=some l/\FA l 64/\(∀ x ∈ l0,x ∈ l)/\(∀ x ∈ l,x ∈ l0∨(x.Epoch=0/\x.State=3/\∃ p ∈ ps,bW x=bl p)):=by
 unfold yG;refine sH (λk i (l:List Rg)=>nY ps k l i) (n:=ps.length) (λi l=>FA l (32+i)/\(∀ x ∈ l0,x ∈ l)/\(∀ x ∈ l,x ∈ l0∨(x.Epoch=0/\x.State=3/\∃ p ∈ ps,bW x=bl p))) (λl=>FA l 64/\(∀ x ∈ l0,x ∈ l)/\(∀ x ∈ l,x ∈ l0∨(x.Epoch=0/\x.State=3/\∃ p ∈ ps,bW x=bl p))) l0 (lH _) ⟨⟨R.all,R.sort,R.len⟩,λx h=>h,λx h=>.inl h⟩ ?_ ?_
 ·rintro k i l hi ⟨⟨S1,S2,S3⟩,S4,S5⟩ ih;unfold nY zG;rw [iP (by simpa using hi),bT hi];simp only [bS];have pk:=hk _ (List.getElem_mem hi);obtain ⟨j,h1,A⟩:=CK l ps[i] (by omega) S2;rw [h1];simp only [bS];rw [gL (by omega)];cases f:l.find? (gEq bW (bl ps[i])) with
  | some x=>
   rw [iN (by simp)];exact ih l ⟨⟨S1,S2,by omega⟩,S4,S5⟩
  | none=>
   have A':AtR l (bW (⟨ps[i],0,3⟩:Rg)) j:=A;rw [iP (by rfl),dK (by have:=A.1;omega),Int.toNat_natCast,(AtR.put A').1 f];refine ih _ ⟨⟨λx hx=>?_,Pg _ S2,?_⟩,λx hx=>?_,λx hx=>?_⟩
   ·rcases PX.1 hx with rfl | ⟨a,_⟩
    ·exact Sz pk (by omega) (by omega) (by omega) (by omega)
    exact S1 x a
   ·have:=Ro l (⟨ps[i],0,3⟩:Rg);omega
   ·refine PX.2 (.inr ⟨S4 x hx,λe=>?_⟩);have:=List.find?_eq_none.1 f x (S4 x hx);exact this (decide_eq_true e)
   rcases PX.1 hx with rfl | ⟨a,_⟩
   ·exact .inr ⟨rfl,rfl,_,List.getElem_mem hi,rfl⟩
   exact S5 x a
 rintro k l ⟨⟨S1,S2,S3⟩,S4,S5⟩;unfold nY;rw [iN (by simp)];exact ⟨l,rfl,⟨S1,S2,by omega⟩,S4,S5⟩
end Go.Cb
