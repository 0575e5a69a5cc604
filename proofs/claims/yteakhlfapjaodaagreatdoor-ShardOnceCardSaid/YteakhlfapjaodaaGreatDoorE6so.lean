/- Holds, plainly: what may be held, who holds, what is taken, and let go; where directories are. -/
import Derived.Test.YteakhlfapjaodaaGreatDoorE5so
set_option linter.unusedVariables false
set_option linter.unusedSimpArgs false
namespace Go.Cb
open Go.Proofs Go.RowKit

def hdB(x:Hd):Bool:=eX (kN x) && (wF x.Txn && wF x.Age)
structure Fq (l:List Hd):Prop where
  all:∀ x ∈ l,hdB x=true
  sort:l.Pairwise (kN · < kN ·)
  age:∀ x ∈ l,∀ y ∈ l,x.Txn=y.Txn->x.Age=y.Age
theorem FY{x:Hd}(h:hdB x=true):eX (kN x)=true/\wF x.Txn=true/\wF x.Age=true:=by
  simpa [hdB] using h
theorem Ak{n:Int}(h:wF n=true):0 <= n/\n <= 281474976710656:=by simpa [wF] using h
theorem Jp(n:Int):rQ n=some (wF n):=by
  unfold rQ wF
  by_cases h:0 <= n
  · rw [iP (decide_eq_true h),decide_eq_true h];rfl
  · rw [iN (by simp;omega),decide_eq_false h];rfl
theorem zI{n:Int}(h:wF n=true):(kyI .i64).ok n=true:=EU (Ak h).1 (Ak h).2
theorem Vk{l:List Hd}(H:Fq l)(hl:l.length <= 1000000):C2 l=some true:=by
  unfold C2
  obtain ⟨r,h1,rfl⟩:=xA (λ k i (m:List (Int×Int))=>dV l k i m) (n:=l.length) (k:=((l.length:Int) - 0:Int).toNat+1) (λ i m=>m.length <= i/\∀ t a,cZ m t=some a->∃ x ∈ l,x.Txn=t/\x.Age=a) (λ r=>r=true) [] (pD _) ⟨by simp,λ t a h=>by simp [cZ] at h⟩ (by
    rintro k i m hi ⟨P1,P2⟩ ih
    have hm:=List.getElem_mem hi
    obtain ⟨a1,a2,a3⟩:=FY (H.all _ hm)
    unfold dV iJ mlk mpt
    rw [iP (by simpa using hi),bV hi]
    simp only [bS]
    rw [iP (zI a2)]
    simp only [bS]
    rw [mM,show bl (l[i]).Dir=kN l[i] from rfl,a1,Jp,a2,Jp,a3]
    simp only [bS]
    have nx:∃ r,(if (kyI .i64).ok (l[i]).Txn=true/\m.length < maxLen then some (kZ m (l[i]).Txn (l[i]).Age) else none).bind (λ z=>dV l k (IntKind.i64.wrap ((i:Int)+1)) z)=some r/\r=true:=by
      rw [iP ⟨zI a2,by simp [maxLen];omega⟩,gU (by omega)]
      refine ih _ ⟨?_,λ t a h=>?_⟩
      · rw [yY];split <;> omega
      · by_cases e:t=(l[i]).Txn
        · subst e
          rw [wA] at h
          cases h
          exact ⟨_,hm,rfl,rfl⟩
        · rw [tT _ e] at h
          exact P2 t a h
    have pr:∃ r,(if decide ((i:Int) > 0)=true then (idx l (IntKind.i64.wrap ((i:Int) - 1))).bind λ x=>if (!sLt x.Dir (l[i]).Dir)=true then some false else (if (kyI .i64).ok (l[i]).Txn=true/\m.length < maxLen then some (kZ m (l[i]).Txn (l[i]).Age) else none).bind (λ z=>dV l k (IntKind.i64.wrap ((i:Int)+1)) z) else if false=true then some false else (if (kyI .i64).ok (l[i]).Txn=true/\m.length < maxLen then some (kZ m (l[i]).Txn (l[i]).Age) else none).bind (λ z=>dV l k (IntKind.i64.wrap ((i:Int)+1)) z))=some r/\r=true:=by
      by_cases h0:0 < i
      · rw [iP (by simpa using h0),Zc h0 (by omega),bV (show i - 1 < l.length by omega)]
        simp only [bS]
        have:=List.pairwise_iff_getElem.1 H.sort (i - 1) i (by omega) hi (by omega)
        rw [Oj,iN (by simp only [Bool.not_eq_true',decide_eq_false_iff_not,Classical.not_not];exact this)]
        exact nx
      · rw [iN (by simpa using h0),iN (by simp)]
        exact nx
    rw [iN (by simp),iN (by simp),iN (by simp)]
    cases g:cZ m (l[i]).Txn with
    | none=>rw [iN (by simp)];exact pr
    | some a=>
      obtain ⟨y,y1,y2,y3⟩:=P2 _ _ g
      rw [iP (by rfl),iN (by simp only [Option.getD_some,bne_iff_ne,ne_eq,Classical.not_not];rw [← y3];exact H.age y y1 _ hm y2)]
      exact pr) (by
    rintro k m _
    unfold dV
    rw [iN (by simp)]
    exact ⟨true,rfl,rfl⟩)
  exact h1
/-! ### who holds -/
def Fp(l:List Hd)(d:List UInt8):Bool:=l.any λ x=>decide (kN x=d)
theorem NP(l:List Hd)(s:ByteArray):∀ (k:Nat) (i:Int),eN l s k i=gIX (λ x=>xF x s) l k i
  | 0,_=>rfl
  | k+1,i=>by unfold eN gIX;simp only [NP l s k]
theorem JH(l:List Hd)(s:ByteArray)(hl:l.length <= 1000000):∃ t,G6 l s=some (t,Fp l (bl s)):=by
  unfold G6 jX
  rw [NP]
  obtain ⟨z,h1,h2⟩:=Io (λ x=>xF x s) l (λ x=>decide (kN x=bl s)) (by omega) (λ x _=>by unfold xF;rw [qV];rfl)
  rw [h1]
  simp only [bS]
  unfold Fp
  rcases h2 with ⟨rfl,h⟩ | ⟨i,rfl,hi,h,_⟩
  · rw [iP (by decide),List.any_eq_false.2 λ x hx=>by rw [h x hx];simp];exact ⟨_,rfl⟩
  · rw [iN (by simp),bV hi,List.any_eq_true.2 ⟨_,List.getElem_mem hi,h⟩];exact ⟨_,rfl⟩
theorem NQ(l:List ByteArray)(h:List Hd):∀ (k:Nat) (i:Int),fO l h k i=gIX (λ s=>qF s h) l k i
  | 0,_=>rfl
  | k+1,i=>by unfold fO gIX;simp only [NQ l h k]
theorem Zi(ds:List ByteArray)(l:List Hd)(hd:ds.length <= 1000000)(hl:l.length <= 1000000):gR ds l=some (ds.any λ d=>Fp l (bl d)):=by
  unfold gR mF
  rw [NQ]
  obtain ⟨z,h1,h2⟩:=K2 (λ s=>qF s l) ds (λ d=>Fp l (bl d)) (by omega) (λ d _=>by
    unfold qF
    obtain ⟨t,h⟩:=JH l d hl
    rw [h];rfl)
  rw [h1]
  simp only [bS]
  rw [h2]
theorem NR(l:List ByteArray)(r:List Rg)(x:Int):∀ (k:Nat) (i:Int),eV l r x k i=gIX (λ s=>lW s r x) l k i
  | 0,_=>rfl
  | k+1,i=>by unfold eV gIX;simp only [NR l r x k]
def xV(r:List Rg)(ds:List ByteArray):Int:=if (ds.any λ d=>stR r (bl d) == 3)=true then 132 else if (ds.any λ d=>stR r (bl d) == 2)=true then 131 else 0
theorem Vl{r:List Rg}(R:fP r)(ds:List ByteArray)(hd:ds.length <= 1000000):qE r ds=some (xV r ds):=by
  have key:∀ x:Int,nQ x ds r=some (ds.any λ d=>stR r (bl d) == x):=λ x=>by
    unfold nQ jD kW
    rw [NR]
    obtain ⟨z,h1,h2⟩:=K2 (λ s=>lW s r x) ds (λ d=>stR r (bl d) == x) (by omega) (λ d _=>by unfold lW;rw [EZ R];rfl)
    rw [h1]
    simp only [bS]
    rw [h2]
  unfold qE xV
  rw [key,key]
  simp only [bS]
  split
  · rfl
  · split <;> rfl
theorem CS{r:List Rg}(R:fP r)(d:List UInt8):stR r d=1∨stR r d=2∨stR r d=3:=by
  unfold stR
  rcases K3 R d with ⟨_,e⟩ | ⟨i,hi,_,e⟩
  · rw [e];exact .inr (.inr rfl)
  · rw [e]
    have:=Sp (R.all _ (List.getElem_mem hi))
    simp only [Option.map_some,Option.getD_some]
    omega
theorem FE{r:List Rg}(R:fP r){ds:List ByteArray}(h:xV r ds=0):∀ d ∈ ds,stR r (bl d)=1:=by
  unfold xV at h
  split at h
  · cases h
  · rename_i a
    split at h
    · cases h
    · rename_i b
      intro d hd
      rcases CS R (bl d) with c | c | c
      · exact c
      · exact absurd (List.any_eq_true.2 ⟨d,hd,by simp [c]⟩) b
      · exact absurd (List.any_eq_true.2 ⟨d,hd,by simp [c]⟩) a
/-! ### what is taken -/
theorem NS(l:List ByteArray):∀ (k:Nat) (i:Int),eW l k i=gIX xH l k i
  | 0,_=>rfl
  | k+1,i=>by unfold eW gIX;simp only [NS l k]
theorem NT(l:List Hd)(a b:Int):∀ (k:Nat) (i:Int),eI l a b k i=gIX (λ x=>xG x a b) l k i
  | 0,_=>rfl
  | k+1,i=>by unfold eI gIX;simp only [NT l a b k]
theorem cix(l:List ByteArray)(s:ByteArray):∀ (k:Nat) (i:Int),gJ l s k i=gIX (λ x=>some (sEq s x)) l k i
  | 0,_=>rfl
  | k+1,i=>by unfold gJ gIX;simp only [cix l s k,bS]
theorem Wj(l:List ByteArray)(s:ByteArray)(hl:l.length <= 1000000):jA l s=some (l.any λ x=>decide (bl s=bl x)):=by
  unfold jA pA
  rw [cix]
  obtain ⟨z,h1,h2⟩:=K2 (λ x=>some (sEq s x)) l (λ x=>decide (bl s=bl x)) (by omega) (λ x _=>by rw [qV])
  rw [h1]
  simp only [bS]
  rw [h2]
theorem hbs(l:List Hd)(s:ByteArray):∀ (k:Nat) (lo hi:Int),cL l s k lo hi=gBS uD l s k lo hi
  | 0,_,_=>rfl
  | k+1,lo,hi=>by unfold cL gBS;simp only [hbs l s k]
theorem QQ(x:Hd)(s:ByteArray):uD x s=some (if kN x < bl s then -1 else if kN x=bl s then 0 else 1):=by
  show some (Extern.BytealgCompare.cmp x.Dir s)=_
  rw [Ok];rfl
/-- what a transaction holds then. -/
structure Fr (l:List Hd) (t a:Int) (ds:List ByteArray) (H:List Hd):Prop where
  ok:Fq H
  len:H.length <= l.length+ds.length
  old:∀ x ∈ l,x ∈ H
  new:∀ x ∈ H,x ∈ l∨∃ d ∈ ds,x= ⟨d,t,a⟩
  all:∀ d ∈ ds,∃ x ∈ H,kN x=bl d/\x.Txn=t
theorem JI{l:List Hd}(H0:Fq l)(hl:l.length <= 500000){t a:Int}(ht:wF t=true)(ha:wF a=true)(ds:List ByteArray)(hd:ds.length <= 1000)(hp:∀ d ∈ ds,eX (bl d)=true)(age:∀ x ∈ l,x.Txn=t->x.Age=a)(free:∀ x ∈ l,x.Txn ≠ t->∀ d ∈ ds,kN x ≠ bl d) :
    ∃ H,lL ds t a (((ds.length:Int) - 0:Int).toNat+1) l 0=some (H,[],true)/\Fr l t a ds H:=by
  obtain ⟨r,h1,h2⟩:=xA (λ k i (h:List Hd)=>lL ds t a k h i) (n:=ds.length) (k:=((ds.length:Int) - 0:Int).toNat+1) (λ i h=>Fr l t a (ds.take i) h) (λ r=>∃ H,r=(H,[],true)/\Fr l t a ds H) l (pD _) ⟨H0,by simp,λ x h=>h,λ x h=>.inl h,λ d h=>by simp at h⟩ (by
    rintro k i h hi ⟨T1,T2,T3,T4,T5⟩ ih
    have hm:=List.getElem_mem hi
    have tk:ds.take (i+1)=ds.take i ++ [ds[i]]:=by rw [List.take_add_one,List.getElem?_eq_getElem hi];rfl
    unfold lL yV
    rw [iP (by simpa using hi),bV hi]
    simp only [bS]
    have hlen:h.length <= 600000:=by rw [List.length_take] at T2;omega
    obtain ⟨j,j1,j2,j3,j4⟩:=Zf kN uD h ds[i] (by omega) (λ x=>QQ x _) T1.sort
    unfold fL
    rw [hbs,j2]
    simp only [bS]
    rw [gU (by omega)]
    rcases j4 with ⟨x,c1,c2,c3,c4,c5⟩ | ⟨c1,c2⟩
    · rw [c3,iN (by simp)]
      refine ih h ⟨T1,by rw [List.length_take] at T2 ⊢;omega,T3,λ y hy=>?_,λ d hd'=>?_⟩
      · rcases T4 y hy with q | ⟨d,q,e⟩
        · exact .inl q
        · exact .inr ⟨d,by rw [tk];exact List.mem_append_left _ q,e⟩
      · rw [tk] at hd'
        rcases List.mem_append.1 hd' with q | q
        · exact T5 d q
        · rw [List.mem_singleton.1 q]
          refine ⟨x,c5,c2,?_⟩
          rcases T4 x c5 with q | ⟨d',_,e⟩
          · by_cases ne:x.Txn=t
            · exact ne
            · exact absurd c2 (free x q ne _ hm)
          · rw [e]
    · rw [c2,iP (by rfl),dO (by omega),Int.toNat_natCast]
      have ins:h.take j ++ (⟨ds[i],t,a⟩:Hd)::h.drop j=h.filter (gLt kN (bl ds[i])) ++ (⟨ds[i],t,a⟩:Hd)::h.filter (gGt kN (bl ds[i])):=by rw [j3,c1]
      have mem:∀ y,y ∈ h.take j ++ (⟨ds[i],t,a⟩:Hd)::h.drop j ↔ y= ⟨ds[i],t,a⟩∨y ∈ h:=λ y=>by
        rw [List.mem_append,List.mem_cons]
        constructor
        · rintro (q | q | q)
          · exact .inr (List.mem_of_mem_take q)
          · exact .inl q
          · exact .inr (List.mem_of_mem_drop q)
        · rintro (q | q)
          · exact .inr (.inl q)
          · rw [← List.take_append_drop j h] at q
            rcases List.mem_append.1 q with q | q
            · exact .inl q
            · exact .inr (.inr q)
      have agh:∀ y ∈ h,y.Txn=t->y.Age=a:=λ y hy e=>by
        rcases T4 y hy with q | ⟨d,_,e'⟩
        · exact age y q e
        · rw [e']
      refine ih _ ⟨⟨λ y hy=>?_,?_,λ y hy z hz e=>?_⟩,by simp [List.length_take] at T2 ⊢;omega,λ y hy=>(mem y).2 (.inr (T3 y hy)),λ y hy=>?_,λ d hd'=>?_⟩
      · rcases (mem y).1 hy with rfl | q
        · simp [hdB,kN,hp _ hm,ht,ha]
        · exact T1.all y q
      · rw [ins];exact V7 kN h _ _ rfl T1.sort
      · rcases (mem y).1 hy with rfl | q <;> rcases (mem z).1 hz with rfl | q'
        · rfl
        · exact (agh z q' e.symm).symm
        · exact agh y q e
        · exact T1.age y q z q' e
      · rcases (mem y).1 hy with rfl | q
        · exact .inr ⟨_,by rw [tk];exact List.mem_append_right _ (List.mem_singleton.2 rfl),rfl⟩
        · rcases T4 y q with q | ⟨d,q,e⟩
          · exact .inl q
          · exact .inr ⟨d,by rw [tk];exact List.mem_append_left _ q,e⟩
      · rw [tk] at hd'
        rcases List.mem_append.1 hd' with q | q
        · obtain ⟨x,x1,x2⟩:=T5 d q
          exact ⟨x,(mem x).2 (.inr x1),x2⟩
        · rw [List.mem_singleton.1 q]
          exact ⟨_,(mem _).2 (.inl rfl),rfl,rfl⟩) (by
    rintro k h T
    unfold lL
    rw [iN (by simp)]
    rw [List.take_length] at T
    exact ⟨_,rfl,h,rfl,T⟩)
  obtain ⟨H,rfl,T⟩:=h2
  exact ⟨H,h1,T⟩
theorem Vm{l:List Hd}(H0:Fq l)(hl:l.length <= 500000){t a:Int}(ht:wF t=true)(ha:wF a=true)(ds:List ByteArray)(hd:ds.length <= 1000)(hp:∀ d ∈ ds,eX (bl d)=true) :
    (∃ H W,s8 l t a ds=some (H,W,false)/\W.length <= 1000000)∨∃ H,s8 l t a ds=some (H,[],true)/\Fr l t a ds H:=by
  unfold s8 jE kX gY iX
  rw [NS,NT]
  obtain ⟨z,z1,z2⟩:=K2 xH ds (λ d=>false) (by omega) (λ d h=>by unfold xH;rw [mM,hp d h];rfl)
  obtain ⟨y,y1,y2⟩:=K2 (λ x=>xG x t a) l (λ x=>decide (x.Txn=t) && decide (x.Age ≠ a)) (by omega) (λ x _=>by
    unfold xG
    by_cases c:x.Txn=t
    · rw [iP (by simpa using c)];simp [c];rfl
    · rw [iN (by simpa using c)];simp [c])
  rw [z1,y1]
  simp only [bS]
  rw [z2,y2,Vk H0 (by omega),Jp,ht,Jp,ha]
  simp only [bS]
  rw [iN (by simp),iN (by simp),iN (by simp),iN (by simp)]
  unfold pW
  cases st:l.any (λ x=>decide (x.Txn=t) && decide (x.Age ≠ a)) with
  | true=>rw [iP (by trivial)];exact .inl ⟨_,_,rfl,by simp⟩
  | false=>
    have age:∀ x ∈ l,x.Txn=t->x.Age=a:=λ x hx e=>by
      have:=List.any_eq_false.1 st x hx
      simpa [e] using this
    rw [iN (by simp)]
    obtain ⟨r,h1,h2⟩:=xA (λ k i (s:Bool×List (Int×Int))=>jY a t ds l k s.1 i s.2) (n:=l.length) (k:=((l.length:Int) - 0:Int).toNat+1) (λ i s=>s.2.length <= i/\(s.1=true->∀ j (h:j < l.length),j < i->(l[j]).Txn ≠ t->∀ d ∈ ds,kN l[j] ≠ bl d)) (λ r=>(∃ H W,r=(H,W,false)/\W.length <= 1000000)∨∃ H,r=(H,[],true)/\Fr l t a ds H) (true,[]) (pD _) ⟨by simp,λ _ j h hj=>by omega⟩ (by
      rintro k i ⟨b,m⟩ hi ⟨P1,P2⟩ ih
      simp only at P1 P2
      have hm:=List.getElem_mem hi
      obtain ⟨a1,a2,a3⟩:=FY (H0.all _ hm)
      unfold jY yU vV
      rw [iP (by simpa using hi),bV hi]
      simp only [bS]
      rw [Wj _ _ (by omega)]
      simp only [bS]
      rw [gU (by omega)]
      have keep:((l[i]).Txn ≠ t->∀ d ∈ ds,kN l[i] ≠ bl d)->∃ r,jY a t ds l k b ((i+1:Nat):Int) m=some r/\((∃ H W,r=(H,W,false)/\W.length <= 1000000)∨∃ H,r=(H,[],true)/\Fr l t a ds H):=λ q=>ih (b,m) ⟨by simp only;omega,λ e j h hj=>by
        by_cases e':j=i
        · subst e';exact q
        · exact P2 e j h (by omega)⟩
      by_cases c:(l[i]).Txn=t
      · rw [iN (by simpa using c),iN (by simp)]
        exact keep λ q=>absurd c q
      · rw [iP (by simpa using c)]
        cases d:ds.any (λ x=>decide (bl (l[i]).Dir=bl x)) with
        | false=>
          rw [iN (by simp)]
          exact keep λ _ x hx e=>by
            have:=List.any_eq_false.1 d x hx
            exact this (decide_eq_true e)
        | true=>
          rw [iP (by trivial),dO (show Tl _ _ _ _ from ⟨Ak a3,Ak a2,Ak ha,Ak ht⟩)]
          split
          · unfold mlk mpt
            rw [iP (zI a2)]
            simp only [bS]
            rw [iP ⟨zI a2,by simp [maxLen];omega⟩]
            exact ih (false,_) ⟨by simp only;rw [yY];split <;> omega,λ q=>by cases q⟩
          · exact ih (false,m) ⟨by simp only;omega,λ q=>by cases q⟩) (by
      rintro k ⟨b,m⟩ ⟨P1,P2⟩
      simp only at P1 P2
      unfold jY
      simp only
      rw [iN (by simp)]
      cases b with
      | false=>
        rw [iP (by rfl)]
        unfold kJ
        simp only [bS]
        rw [dO (by omega)]
        exact ⟨_,rfl,.inl ⟨_,_,rfl,by simp [Nb];omega⟩⟩
      | true=>
        rw [iN (by simp),dO (by simp only [LIM];omega)]
        obtain ⟨H,t1,t2⟩:=JI H0 hl ht ha ds hd hp age (λ x hx=>by
          obtain ⟨j,hj,rfl⟩:=List.mem_iff_getElem.1 hx
          exact P2 rfl j hj hj)
        exact ⟨_,t1,.inr ⟨H,rfl,t2⟩⟩)
    simp only at h1
    rw [h1]
    rcases h2 with ⟨H,W,rfl,q⟩ | ⟨H,rfl,q⟩
    · exact .inl ⟨H,W,rfl,q⟩
    · exact .inr ⟨H,rfl,q⟩
/-! ### let go -/
theorem NU(l:List Hd)(t:Int):∀ (k:Nat) (i:Int),eC l t k i=gIX (λ x=>uA x t) l k i
  | 0,_=>rfl
  | k+1,i=>by unfold eC gIX;simp only [NU l t k]
theorem hdl(t:Int):∀ (k:Nat) (l:List Hd) (i j:Int),dD t k l i j=gDL (λ x=>uA x t) (⟨⟨#[]⟩,0,0⟩:Hd) k l i j
  | 0,_,_,_=>rfl
  | k+1,l,i,j=>by unfold dD fX gDL;simp only [hdl t k]
theorem Xn(l:List Hd)(t:Int)(hl:l.length <= 1000000):G2 l t=some (l.filter λ x=>!(x.Txn == t)):=by
  unfold G2 jC iR
  have:=CP (λ x=>uA x t) (λ x=>x.Txn == t) (⟨⟨#[]⟩,0,0⟩:Hd) l hl (λ x _=>rfl)
  unfold gDF at this
  rw [dO (by simp only [LIM];omega),NU]
  simp only [hdl]
  rw [this]
  rfl
theorem Fq.free {l:List Hd} (H:Fq l) (f:Hd->Bool):Fq (l.filter f):=
  ⟨λ x hx=>H.all x (List.mem_filter.1 hx).1,H.sort.sublist List.filter_sublist,λ x hx y hy=>H.age x (List.mem_filter.1 hx).1 y (List.mem_filter.1 hy).1⟩
end Go.Cb
