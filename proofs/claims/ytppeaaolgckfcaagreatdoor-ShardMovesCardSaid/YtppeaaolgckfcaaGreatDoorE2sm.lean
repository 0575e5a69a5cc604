/- Ranges, plainly: a range is put in its place; frozen, installed, dropped; those that are kept elsewhere. -/
import Derived.Test.YtppeaaolgckfcaaGreatDoorE1sm
import Derived.Test.YtppeaaolgckfcaaGreatDoorKsm2
set_option linter.unusedVariables false
set_option linter.unusedSimpArgs false
namespace Go.Cb
open Go.Proofs Go.RowKit

/-! ### a search by halves, said once -/
def gBS{α τ:Type}(cmp:α->τ->Option Int)(l:List α)(s:τ):Nat->Int->Int->Option (Int×Bool)
 | 0,_,_=>none
 | k1+1,x4,x5=>
  if (decide (x4 < x5))=true then ((idx l (IntKind.i64.wrap (vB .u64 (IntKind.u64.wrap (IntKind.i64.wrap (x4+x5))) 1))).bind λx8=>(cmp x8 s).bind λu13=>if (decide (u13 < 0))=true then (gBS cmp l s k1 (IntKind.i64.wrap ((IntKind.i64.wrap (vB .u64 (IntKind.u64.wrap (IntKind.i64.wrap (x4+x5))) 1))+1)) x5) else (gBS cmp l s k1 x4 (IntKind.i64.wrap (vB .u64 (IntKind.u64.wrap (IntKind.i64.wrap (x4+x5))) 1)))) else (if (decide (x4 < (l.length:Int)))=true then ((idx l x4).bind λx16=>(cmp x16 s).bind λu21=>some (x4,u21 == 0)) else (some (x4,false)))
theorem Xg{α τ:Type}(cmp:α->τ->Option Int)(l:List α)(s:τ)(lt eq:α->Prop)(hlen:l.length <= 1000000)
  (hc:∀ x ∈ l,∃ v,cmp x s=some v/\(v < 0 ↔ lt x)/\(v=0 ↔ eq x)) (hs:∀ i j (hi:i < l.length) (hj:j < l.length),i < j->lt l[j]->lt l[i]):∀ (k lo hi:Nat),lo <= hi->hi <= l.length->hi+1 <= lo+k->(∀ j (h:j < l.length),j < lo->lt l[j])->(∀ j (h:j < l.length),hi <= j->¬ lt l[j])->
  ∃ (i:Nat) (b:Bool),i <= l.length/\gBS cmp l s k (lo:Int) (hi:Int)=some ((i:Int),b)/\(b=true ↔ ∃ h:i < l.length,eq l[i])/\(∀ j (h:j < l.length),j < i->lt l[j])/\(∀ j (h:j < l.length),i <= j->¬ lt l[j])
 | 0,lo,hi,_,_,h,_,_=>by omega
 | k+1,lo,hi,hlh,hhi,h,hlo,hup=>by
  unfold gBS;by_cases hl:lo < hi
  ·rw [iP (by simpa using hl),show IntKind.i64.wrap ((lo:Int)+(hi:Int))=IntKind.i64.wrap ((lo+hi:Nat):Int) from by rw [Int.natCast_add],JQ _ (by omega)];have hm:(lo+hi) / 2 < l.length:=by omega
   rw [bY hm];simp only [bS];obtain ⟨v,v1,v2,v3⟩:=hc _ (List.getElem_mem hm);rw [v1];simp only [bS];by_cases hk:lt l[(lo+hi) / 2]
   ·rw [iP (decide_eq_true (v2.2 hk)),show IntKind.i64.wrap ((((lo+hi) / 2:Nat):Int)+1)=(((lo+hi) / 2+1:Nat):Int) from by rw [w64 (by omega) (by omega)];omega];refine Xg cmp l s lt eq hlen hc hs k ((lo+hi) / 2+1) hi (by omega) hhi (by omega) (λj hj hjl=>?_) hup;by_cases e:j=(lo+hi) / 2
    ·subst e;exact hk
    exact hs j _ hj hm (by omega) hk
   rw [iN (by simp only [decide_eq_true_eq];exact λq=>hk (v2.1 q))];refine Xg cmp l s lt eq hlen hc hs k lo ((lo+hi) / 2) (by omega) (by omega) (by omega) hlo (λj hj hjl=>?_);by_cases e:(lo+hi) / 2=j
   ·subst e;exact hk
   exact λh'=>hk (hs _ j hm hj (by omega) h')
  rw [iN (by simpa using hl)];have e:lo=hi:=by omega
  subst e;by_cases hl2:lo < l.length
  ·rw [iP (by simpa using hl2),bY hl2];simp only [bS];obtain ⟨v,v1,v2,v3⟩:=hc _ (List.getElem_mem hl2);rw [v1];exact ⟨lo,v == 0,hhi,rfl,by rw [beq_iff_eq,v3];exact ⟨λq=>⟨hl2,q⟩,λ⟨_,q⟩=>q⟩,hlo,hup⟩
  rw [iN (by simpa using hl2)];exact ⟨lo,false,hhi,rfl,⟨λq=>(by simp at q),λ⟨q,_⟩=>absurd q hl2⟩,hlo,hup⟩
/-- the same, of texts that rise. -/
theorem EI{α:Type}(κ:α->List UInt8)(cmp:α->BY->Option Int)(l:List α)(s:BY)(hlen:l.length <= 1000000)(hc:∀ x,cmp x s=some (if κ x < bl s then -1 else if κ x=bl s then 0 else 1))(hs:l.Pairwise (κ · < κ ·)) :
  ∃ i:Nat,i <= l.length/\gBS cmp l s (((l.length:Int) - 0:Int).toNat+1) 0 (l.length:Int)=some ((i:Int),(l.find? (gEq κ (bl s))).isSome)/\l.take i=l.filter (gLt κ (bl s))/\
   ((∃ x,l.drop i=x::l.filter (gGt κ (bl s))/\κ x=bl s/\l.find? (gEq κ (bl s))=some x/\l[i]? =some x/\x ∈ l)∨(l.drop i=l.filter (gGt κ (bl s))/\l.find? (gEq κ (bl s))=none)):=by
 have hp:=List.pairwise_iff_getElem.1 hs;obtain ⟨i,b,h1,h2,h3,h4,h5⟩:=Xg cmp l s (λx=>κ x < bl s) (λx=>κ x=bl s) hlen (λx _=>⟨_,hc x,by
  by_cases a:κ x < bl s
  ·simp [a]
  ·by_cases b:κ x=bl s <;> simp [a,b,I6],by
  by_cases a:κ x < bl s
  ·simp [a,uR a]
  by_cases b:κ x=bl s <;> simp [a,b,I6]⟩) (λi j hi hj hij h=>E1 (hp i j hi hj hij) h) (((l.length:Int) - 0:Int).toNat+1) 0 l.length (by omega) (Nat.le_refl _) (by omega) (λj _ h=>by omega) (λj h h'=>by omega)
 obtain ⟨g1,g2⟩:=Zf κ l (bl s) i hs h1 h4 h5;refine ⟨i,h1,?_,g1,?_⟩
 ·rw [show gBS cmp l s (((l.length:Int) - 0:Int).toNat+1) 0 (l.length:Int)=_ from h2];congr 2;rcases g2 with ⟨x,_,hk,hf,hi,_⟩ | ⟨_,hf,hi⟩
  ·obtain ⟨a,rfl⟩:=List.getElem?_eq_some_iff.1 hi;rw [hf,h3.2 ⟨a,hk⟩];rfl
  rw [hf];cases b with
  | false=>rfl
  | true=>
   obtain ⟨a,c⟩:=h3.1 rfl;exact absurd (by rw [List.getElem?_eq_getElem a];simp [c]) hi
 rcases g2 with ⟨x,a,b,c,d,e⟩ | ⟨a,b,_⟩
 ·exact .inl ⟨x,a,b,c,d,e⟩
 exact .inr ⟨a,b⟩
theorem TD(l:List Rg)(s:BY):∀ (k:Nat) (lo hi:Int),cW l s k lo hi=gBS qJ l s k lo hi
 | 0,_,_=>rfl
 | k+1,lo,hi=>by unfold cW gBS;simp only [TD l s k]
theorem LJ(l:List Rg)(s:BY):∀ (k:Nat) (lo hi:Int),cQ l s k lo hi=gBS qJ l s k lo hi
 | 0,_,_=>rfl
 | k+1,lo,hi=>by unfold cQ gBS;simp only [LJ l s k];rfl
theorem LK(x:Rg)(s:BY):qJ x s=some (if bX x < bl s then -1 else if bX x=bl s then 0 else 1):=by
 show some (Extern.BytealgCompare.cmp x.Prefix s)=_;rw [Tg];rfl
/-- where a range of just a prefix is, or would be. -/
def AtR(l:List Rg)(p:List UInt8)(i:Nat):Prop:=i <= l.length/\l.take i=l.filter (gLt bX p)/\
 ((∃ x,l.drop i=x::l.filter (gGt bX p)/\bX x=p/\l.find? (gEq bX p)=some x/\l[i]? =some x/\x ∈ l)∨(l.drop i=l.filter (gGt bX p)/\l.find? (gEq bX p)=none))
theorem Cc(l:List Rg)(s:BY)(hl:l.length <= 1000000)(hs:l.Pairwise (bX · < bX ·)):∃ i:Nat,zW l s=some ((i:Int),(l.find? (gEq bX (bl s))).isSome)/\AtR l (bl s) i:=by
 obtain ⟨i,h1,h2,h3,h4⟩:=EI bX qJ l s hl (λx=>LK x s) hs;refine ⟨i,?_,h1,h3,h4⟩;unfold zW fP;rw [TD,h2];rfl
theorem HI(l:List Rg)(s:BY)(hl:l.length <= 1000000)(hs:l.Pairwise (bX · < bX ·)):∃ i:Nat,eA l s=some ((i:Int),(l.find? (gEq bX (bl s))).isSome)/\AtR l (bl s) i:=by
 obtain ⟨i,h1,h2,h3,h4⟩:=EI bX qJ l s hl (λx=>LK x s) hs;refine ⟨i,?_,h1,h3,h4⟩;unfold eA;rw [LJ,h2]
/-- a range in its place. -/
def eD(l:List Rg)(x:Rg):List Rg:=l.filter (gLt bX (bX x)) ++ x::l.filter (gGt bX (bX x))
theorem AtR.put {l:List Rg} {x:Rg} {i:Nat} (A:AtR l (bX x) i):(l.find? (gEq bX (bX x))=none->l.take i ++ x::l.drop i=eD l x)/\(∀ y,l.find? (gEq bX (bX x))=some y->i < l.length/\l.set i x=eD l x):=by
 obtain ⟨h1,h2,h3⟩:=A;constructor
 ·intro h;rcases h3 with ⟨y,_,_,e,_⟩ | ⟨a,_⟩
  ·rw [e] at h;cases h
  rw [h2,a];rfl
 intro y h;rcases h3 with ⟨z,a,b,e,f,_⟩ | ⟨_,a⟩
 ·obtain ⟨hi,_⟩:=List.getElem?_eq_some_iff.1 f;refine ⟨hi,?_⟩;rw [List.set_eq_take_append_cons_drop,iP hi,h2,← List.drop_drop,a];rfl
 rw [a] at h;cases h
theorem VX{l:List Rg}{x y:Rg}:y ∈ eD l x ↔ y=x∨(y ∈ l/\bX y ≠ bX x):=by
 unfold eD;rw [List.mem_append,List.mem_cons,List.mem_filter,List.mem_filter];constructor
 ·rintro (⟨a,b⟩ | rfl | ⟨a,b⟩)
  ·exact .inr ⟨a,uR (by simpa [gLt] using b)⟩
  ·exact .inl rfl
  exact .inr ⟨a,by simp [gGt,gEq] at b;exact b.2⟩
 rintro (rfl | ⟨a,b⟩)
 ·exact .inr (.inl rfl)
 by_cases c:bX y < bX x
 ·exact .inl ⟨a,by simpa [gLt] using c⟩
 exact .inr (.inr ⟨a,by simp [gGt,gLt,gEq,c,b]⟩)
theorem Tp{l:List Rg}(x:Rg)(hs:l.Pairwise (bX · < bX ·)):(eD l x).Pairwise (bX · < bX ·):=Cs bX l _ x rfl hs
theorem Vv(l:List Rg)(x:Rg):(eD l x).length <= l.length+1:=by
 have:=Tl bX l (bX x);simp [eD];omega
theorem EJ{l:List Rg}{x y:Rg}(hs:l.Pairwise (bX · < bX ·))(h:l.find? (gEq bX (bX x))=some y)(hl:l.length <= 1000000):(eD l x).length=l.length:=by
 obtain ⟨i,_,A⟩:=Cc l x.Prefix hl hs;rw [← (AtR.put (x:=x) A).2 y h |>.2,List.length_set]
theorem HJ{l:List Rg}(R:dW l){x:Rg}(hx:rgB x=true)(h:(eD l x).length <= 32):dW (eD l x):=
 ⟨λy hy=>by
  rcases VX.1 hy with rfl | ⟨a,_⟩
  ·exact hx
  exact R.all y a,Tp x R.sort,h⟩
theorem Mv{l:List Rg}(R:dW l)(x:Rg)(hx:rgB x=true):(qE l x=some ([],false)/\l.find? (gEq bX (bX x))=none/\l.length=32)∨(qE l x=some (eD l x,true)/\dW (eD l x)):=by
 have hl:=R.len;obtain ⟨i,h1,A⟩:=Cc l x.Prefix (by omega) R.sort;have A':AtR l (bX x) i:=A;unfold qE F8 F7;rw [h1];simp only [bS];rw [show bl x.Prefix=bX x from rfl];cases f:l.find? (gEq bX (bX x)) with
 | none=>
  have p:=(AtR.put A').1 f;rw [iP (by rfl)];by_cases c:l.length=32
  ·rw [iP (by simp [c])];exact .inl ⟨rfl,rfl,c⟩
  rw [iN (by simp;omega),dJ (by simp [LIM];omega),iP (by rfl),dJ (by have:=A'.1;omega),Int.toNat_natCast,p];have hi:i < (eD l x).length:=by rw [← p];have:=A'.1;simp;omega
  rw [bY hi];simp only [bS];rw [show (eD l x).set i x=eD l x from by
   rw [← p,List.set_append_right _ _ (by simp;omega)];rw [List.length_take,Nat.min_eq_left A'.1,Nat.sub_self];rfl]
  exact .inr ⟨rfl,HJ R hx (by have:=Vv l x;omega)⟩
 | some y=>
  obtain ⟨hi,p⟩:=(AtR.put A').2 y f;rw [iN (by simp),iN (by simp),dJ (by simp [LIM];omega),iN (by simp),bY hi];simp only [bS,Int.toNat_natCast];rw [p];exact .inr ⟨rfl,HJ R hx (by rw [EJ R.sort f (by omega)];omega)⟩
theorem Od{p:BY}{e s:Int}(hp:dK (bl p)=true)(h1:0 <= e)(h2:e <= 281474976710656)(h3:1 <= s)(h4:s <= 3):rgB (⟨p,e,s⟩:Rg)=true:=by
 simp [rgB,bX,hp,h1,h2,h3,h4]
theorem Jq{x:Rg}(h:rgB x=true):dK (bX x)=true/\0 <= x.Epoch/\x.Epoch <= 281474976710656/\1 <= x.State/\x.State <= 3:=by
 simp only [rgB,Bool.and_eq_true,decide_eq_true_eq] at h;exact ⟨h.1,h.2.1,h.2.2.1,h.2.2.2.1,h.2.2.2.2⟩
/-- what is made of ranges: none, or one that is put in its place. -/
theorem HK{l:List Rg}(R:dW l)(p:BY):wD l p=some ([],false)∨∃ (i:Nat) (hi:i < l.length),EG l (bl p) (i:Int)/\(l[i]).State=1/\wD l p=some (eD l ⟨p,(l[i]).Epoch,2⟩,true)/\dW (eD l ⟨p,(l[i]).Epoch,2⟩)/\dK (bl p)=true:=by
 obtain ⟨z,h1,h2⟩:=EH R p;unfold wD yX;rw [h1];simp only [bS];have h2':=h2;rcases h2 with ⟨rfl,_⟩ | ⟨i,rfl,hi,a,b⟩
 ·rw [iP (by decide),iP (by trivial)];exact .inl rfl
 rw [iN (by simp),bY hi];simp only [bS];have q:=Jq (R.all _ (List.getElem_mem hi));have pk:dK (bl p)=true:=by
  unfold inS at a;unfold dK;split at a
  ·rename_i h _;rw [h];rfl
  cases a
 by_cases c:(l[i]).State=1
 ·rw [iN (by simp [c])];rcases Mv R (⟨p,(l[i]).Epoch,2⟩:Rg) (Od pk q.2.1 q.2.2.1 (by omega) (by omega)) with ⟨u,_⟩ | ⟨u,v⟩
  ·rw [u];exact .inl rfl
  rw [u];exact .inr ⟨i,hi,h2',c,rfl,v,pk⟩
 rw [iP (by simpa using c)];exact .inl rfl
theorem EK{l:List Rg}(R:dW l)(p:BY)(e:Int):mU l p e=some ([],false)∨(mU l p e=some (eD l ⟨p,e,1⟩,true)/\dW (eD l ⟨p,e,1⟩)/\dK (bl p)=true):=by
 unfold mU nA tK;rw [xW R,mR];simp only [bS];rw [iN (by simp)];cases pk:dK (bl p) with
 | false=>exact .inl (by rw [iP (by rfl),iP (by trivial)])
 | true=>
  rw [iN (by simp)];by_cases c:e < 0
  ·exact .inl (by rw [iP (by simpa using c),iP (by trivial)])
  by_cases d:e > 281474976710656
  ·exact .inl (by rw [iN (by simpa using c),iP (by simpa using d)])
  rw [iN (by simpa using c),iN (by simpa using d)];obtain ⟨i,h1,A⟩:=Cc l p (by have:=R.len;omega) R.sort;rw [h1];simp only [bS];have fin:qE l (⟨p,e,1⟩:Rg)=some ([],false)∨(qE l (⟨p,e,1⟩:Rg)=some (eD l ⟨p,e,1⟩,true)/\dW (eD l ⟨p,e,1⟩)):=by
   rcases Mv R (⟨p,e,1⟩:Rg) (Od pk (by omega) (by omega) (by omega) (by omega)) with ⟨u,_⟩ | ⟨u,v⟩
   ·exact .inl u
   exact .inr ⟨u,v⟩
  have nx:∀ b:Bool,(if b=true then some (([]:List Rg),false) else (qE l (⟨p,e,1⟩:Rg)).bind λu=>some (u.1,u.2))=some ([],false)∨((if b=true then some (([]:List Rg),false) else (qE l (⟨p,e,1⟩:Rg)).bind λu=>some (u.1,u.2))=some (eD l ⟨p,e,1⟩,true)/\dW (eD l ⟨p,e,1⟩)/\True):=by
   intro b;cases b with
   | true=>exact .inl rfl
   | false=>
    rw [iN (by simp)];rcases fin with u | ⟨u,v⟩
    ·rw [u];exact .inl rfl
    rw [u];exact .inr ⟨rfl,v,trivial⟩
  rcases A.2.2 with ⟨x,_,_,f,hi,_⟩ | ⟨_,f⟩
  ·obtain ⟨hi,_⟩:=List.getElem?_eq_some_iff.1 hi;rw [f,iP (by rfl),bY hi];exact nx _
  rw [f,iN (by simp)];exact nx false
theorem OI{l:List Rg}(R:dW l)(p:BY)(e:Int):xP l p e=some ([],false)∨∃ x,l.find? (gEq bX (bl p))=some x/\x.State=2/\x.Epoch=e/\xP l p e=some (eD l ⟨p,e,3⟩,true)/\dW (eD l ⟨p,e,3⟩):=by
 unfold xP uD;rw [xW R];simp only [bS];rw [iN (by simp)];obtain ⟨i,h1,A⟩:=Cc l p (by have:=R.len;omega) R.sort;rw [h1];simp only [bS];rcases A.2.2 with ⟨x,_,k,f,hi,hm⟩ | ⟨_,f⟩
 ·obtain ⟨hi,ex⟩:=List.getElem?_eq_some_iff.1 hi;have q:=Jq (R.all _ hm);rw [f,iN (by simp),bY hi,ex];simp only [bS];by_cases c:x.State=2
  ·by_cases d:x.Epoch=e
   ·rw [iN (by simp [c]),iN (by simp [d])];rcases Mv R (⟨p,e,3⟩:Rg) (Od (by rw [← k];exact q.1) (by omega) (by omega) (by omega) (by omega)) with ⟨u,_⟩ | ⟨u,v⟩
    ·rw [u];exact .inl rfl
    rw [u];exact .inr ⟨x,rfl,c,d,rfl,v⟩
   rw [iN (by simp [c]),iP (by simpa using d)];exact .inl rfl
  rw [iP (by simpa using c),iP (by trivial)];exact .inl rfl
 rw [f,iP (by rfl),iP (by trivial)];exact .inl rfl
/-- a range of just a prefix, found. -/
theorem KF{p:BY}(h:dK (bl p)=true):inS (bl p) (bl p)=true:=by
 unfold dK at h;obtain ⟨ps,e⟩:=Option.isSome_iff_exists.1 h;unfold inS;rw [e];simp
theorem Oe{p q:List UInt8}(h:inS p q=true):∃ l k,parts p=some l/\parts q=some k/\k <+:l:=by
 unfold inS at h;split at h
 ·exact ⟨_,_,‹_›,‹_›,List.isPrefixOf_iff_prefix.1 h⟩
 cases h
/-- those that are kept elsewhere. -/
structure KG (l:List Rg) (n:Nat):Prop where
 all:∀ x ∈ l,rgB x=true
 sort:l.Pairwise (bX · < bX ·)
 len:l.length <= n
/-- every range of a list is there still. -/
theorem OJ(ps:List BY)(hp:ps.length <= 32)(hk:∀ p ∈ ps,dK (bl p)=true)(l0:List Rg)(R:dW l0):∃ l,xR l0 ps=some l/\KG l 64/\(∀ x ∈ l0,x ∈ l)/\(∀ x ∈ l,x ∈ l0∨(x.Epoch=0/\x.State=3/\∃ p ∈ ps,bX x=bl p)):=by
 unfold xR;refine zF (λk i (l:List Rg)=>oT ps k l i) (n:=ps.length) (λi l=>KG l (32+i)/\(∀ x ∈ l0,x ∈ l)/\(∀ x ∈ l,x ∈ l0∨(x.Epoch=0/\x.State=3/\∃ p ∈ ps,bX x=bl p))) (λl=>KG l 64/\(∀ x ∈ l0,x ∈ l)/\(∀ x ∈ l,x ∈ l0∨(x.Epoch=0/\x.State=3/\∃ p ∈ ps,bX x=bl p))) l0 (qR _) ⟨⟨R.all,R.sort,R.len⟩,λx h=>h,λx h=>.inl h⟩ ?_ ?_
 ·rintro k i l hi ⟨⟨S1,S2,S3⟩,S4,S5⟩ ih;unfold oT B8;rw [iP (by simpa using hi),bY hi];simp only [bS];have pk:=hk _ (List.getElem_mem hi);obtain ⟨j,h1,A⟩:=HI l ps[i] (by omega) S2;rw [h1];simp only [bS];rw [hP (by omega)];cases f:l.find? (gEq bX (bl ps[i])) with
  | some x=>
   rw [iN (by simp)];exact ih l ⟨⟨S1,S2,by omega⟩,S4,S5⟩
  | none=>
   have A':AtR l (bX (⟨ps[i],0,3⟩:Rg)) j:=A;rw [iP (by rfl),dJ (by have:=A.1;omega),Int.toNat_natCast,(AtR.put A').1 f];refine ih _ ⟨⟨λx hx=>?_,Tp _ S2,?_⟩,λx hx=>?_,λx hx=>?_⟩
   ·rcases VX.1 hx with rfl | ⟨a,_⟩
    ·exact Od pk (by omega) (by omega) (by omega) (by omega)
    exact S1 x a
   ·have:=Vv l (⟨ps[i],0,3⟩:Rg);omega
   ·refine VX.2 (.inr ⟨S4 x hx,λe=>?_⟩);have:=List.find?_eq_none.1 f x (S4 x hx);exact this (decide_eq_true e)
   rcases VX.1 hx with rfl | ⟨a,_⟩
   ·exact .inr ⟨rfl,rfl,_,List.getElem_mem hi,rfl⟩
   exact S5 x a
 rintro k l ⟨⟨S1,S2,S3⟩,S4,S5⟩;unfold oT;rw [iN (by simp)];exact ⟨l,rfl,⟨S1,S2,by omega⟩,S4,S5⟩
end Go.Cb
