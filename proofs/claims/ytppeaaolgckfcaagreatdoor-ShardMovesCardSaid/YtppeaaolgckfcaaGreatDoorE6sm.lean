/- Holds, plainly: what may be held, who holds, what is taken, and let go; where directories are. -/
import Derived.Test.YtppeaaolgckfcaaGreatDoorE5sm
set_option linter.unusedVariables false
set_option linter.unusedSimpArgs false
namespace Go.Cb
open Go.Proofs Go.RowKit

def hdB(x:Hd):Bool:=dK (jD x) && (rH x.Txn && rH x.Age)
structure Js (l:List Hd):Prop where
 all:∀ x ∈ l,hdB x=true
 sort:l.Pairwise (jD · < jD ·)
 age:∀ x ∈ l,∀ y ∈ l,x.Txn=y.Txn->x.Age=y.Age
theorem LL{x:Hd}(h:hdB x=true):dK (jD x)=true/\rH x.Txn=true/\rH x.Age=true:=by
 simpa [hdB] using h
theorem Cd{n:Int}(h:rH n=true):0 <= n/\n <= 281474976710656:=by simpa [rH] using h
theorem Oh(n:Int):tQ n=some (rH n):=by
 unfold tQ rH;by_cases h:0 <= n
 ·rw [iP (decide_eq_true h),decide_eq_true h];rfl
 rw [iN (by simp;omega),decide_eq_false h];rfl
theorem E3{n:Int}(h:rH n=true):(kyI .i64).ok n=true:=KC (Cd h).1 (Cd h).2
theorem Zx{l:List Hd}(H:Js l)(hl:l.length <= 1000000):L5 l=some true:=by
 unfold L5;obtain ⟨r,h1,rfl⟩:=zF (λk i (m:List (Int×Int))=>eL l k i m) (n:=l.length) (k:=((l.length:Int) - 0:Int).toNat+1) (λi m=>m.length <= i/\∀ t a,dN m t=some a->∃ x ∈ l,x.Txn=t/\x.Age=a) (λr=>r=true) [] (qR _) ⟨by simp,λt a h=>by simp [dN] at h⟩ (by
  rintro k i m hi ⟨P1,P2⟩ ih;have hm:=List.getElem_mem hi;obtain ⟨a1,a2,a3⟩:=LL (H.all _ hm);unfold eL jV mlk mpt;rw [iP (by simpa using hi),bY hi];simp only [bS];rw [iP (E3 a2)];simp only [bS];rw [mR,show bl (l[i]).Dir=jD l[i] from rfl,a1,Oh,a2,Oh,a3];simp only [bS];have nx:∃ r,(if (kyI .i64).ok (l[i]).Txn=true/\m.length < maxLen then some (lX m (l[i]).Txn (l[i]).Age) else none).bind (λz=>eL l k (IntKind.i64.wrap ((i:Int)+1)) z)=some r/\r=true:=by
   rw [iP ⟨E3 a2,by simp [maxLen];omega⟩,hP (by omega)];refine ih _ ⟨?_,λt a h=>?_⟩
   ·rw [C9];split <;> omega
   by_cases e:t=(l[i]).Txn
   ·subst e;rw [uW] at h;cases h;exact ⟨_,hm,rfl,rfl⟩
   rw [qH _ e] at h;exact P2 t a h
  have pr:∃ r,(if decide ((i:Int) > 0)=true then (idx l (IntKind.i64.wrap ((i:Int) - 1))).bind λx=>if (!sLt x.Dir (l[i]).Dir)=true then some false else (if (kyI .i64).ok (l[i]).Txn=true/\m.length < maxLen then some (lX m (l[i]).Txn (l[i]).Age) else none).bind (λz=>eL l k (IntKind.i64.wrap ((i:Int)+1)) z) else if false=true then some false else (if (kyI .i64).ok (l[i]).Txn=true/\m.length < maxLen then some (lX m (l[i]).Txn (l[i]).Age) else none).bind (λz=>eL l k (IntKind.i64.wrap ((i:Int)+1)) z))=some r/\r=true:=by
   by_cases h0:0 < i
   ·rw [iP (by simpa using h0),Zp h0 (by omega),bY (show i - 1 < l.length by omega)];simp only [bS];have:=List.pairwise_iff_getElem.1 H.sort (i - 1) i (by omega) hi (by omega);rw [Eo,iN (by simp only [Bool.not_eq_true',decide_eq_false_iff_not,Classical.not_not];exact this)];exact nx
   rw [iN (by simpa using h0),iN (by simp)];exact nx
  rw [iN (by simp),iN (by simp),iN (by simp)];cases g:dN m (l[i]).Txn with
  | none=>rw [iN (by simp)];exact pr
  | some a=>
   obtain ⟨y,y1,y2,y3⟩:=P2 _ _ g;rw [iP (by rfl),iN (by simp only [Option.getD_some,bne_iff_ne,ne_eq,Classical.not_not];rw [← y3];exact H.age y y1 _ hm y2)];exact pr) (by
  rintro k m _;unfold eL;rw [iN (by simp)];exact ⟨true,rfl,rfl⟩)
 exact h1
/-! ### who holds -/
def Fx(l:List Hd)(d:List UInt8):Bool:=l.any λx=>decide (jD x=d)
theorem TM(l:List Hd)(s:BY):∀ (k:Nat) (i:Int),fI l s k i=gIX (λx=>zJ x s) l k i
 | 0,_=>rfl
 | k+1,i=>by unfold fI gIX;simp only [TM l s k]
theorem OW(l:List Hd)(s:BY)(hl:l.length <= 1000000):∃ t,Q5 l s=some (t,Fx l (bl s)):=by
 unfold Q5 lU;rw [TM];obtain ⟨z,h1,h2⟩:=Mw (λx=>zJ x s) l (λx=>decide (jD x=bl s)) (by omega) (λx _=>by unfold zJ;rw [oU];rfl);rw [h1];simp only [bS];unfold Fx;rcases h2 with ⟨rfl,h⟩ | ⟨i,rfl,hi,h,_⟩
 ·rw [iP (by decide),List.any_eq_false.2 λx hx=>by rw [h x hx];simp];exact ⟨_,rfl⟩
 rw [iN (by simp),bY hi,List.any_eq_true.2 ⟨_,List.getElem_mem hi,h⟩];exact ⟨_,rfl⟩
theorem TN(l:List BY)(h:List Hd):∀ (k:Nat) (i:Int),gF l h k i=gIX (λs=>sB s h) l k i
 | 0,_=>rfl
 | k+1,i=>by unfold gF gIX;simp only [TN l h k]
theorem EM(ds:List BY)(l:List Hd)(hd:ds.length <= 1000000)(hl:l.length <= 1000000):iI ds l=some (ds.any λd=>Fx l (bl d)):=by
 unfold iI nW;rw [TN];obtain ⟨z,h1,h2⟩:=U1 (λs=>sB s l) ds (λd=>Fx l (bl d)) (by omega) (λd _=>by
  unfold sB;obtain ⟨t,h⟩:=OW l d hl;rw [h];rfl)
 rw [h1];simp only [bS];rw [h2]
theorem TO(l:List BY)(r:List Rg)(x:Int):∀ (k:Nat) (i:Int),fS l r x k i=gIX (λs=>nO s r x) l k i
 | 0,_=>rfl
 | k+1,i=>by unfold fS gIX;simp only [TO l r x k]
def xX(r:List Rg)(ds:List BY):Int:=if (ds.any λd=>stR r (bl d) == 3)=true then 132 else if (ds.any λd=>stR r (bl d) == 2)=true then 131 else 0
theorem Zy{r:List Rg}(R:dW r)(ds:List BY)(hd:ds.length <= 1000000):sA r ds=some (xX r ds):=by
 have key:∀ x:Int,pH x ds r=some (ds.any λd=>stR r (bl d) == x):=λx=>by
  unfold pH kX mK;rw [TO];obtain ⟨z,h1,h2⟩:=U1 (λs=>nO s r x) ds (λd=>stR r (bl d) == x) (by omega) (λd _=>by unfold nO;rw [Rf R];rfl);rw [h1];simp only [bS];rw [h2]
 unfold sA xX;rw [key,key];simp only [bS];split
 ·rfl
 split <;> rfl
theorem HO{r:List Rg}(R:dW r)(d:List UInt8):stR r d=1∨stR r d=2∨stR r d=3:=by
 unfold stR;rcases C7 R d with ⟨_,e⟩ | ⟨i,hi,_,e⟩
 ·rw [e];exact .inr (.inr rfl)
 rw [e];have:=Jq (R.all _ (List.getElem_mem hi));simp only [Option.map_some,Option.getD_some];omega
theorem Ri{r:List Rg}(R:dW r){ds:List BY}(h:xX r ds=0):∀ d ∈ ds,stR r (bl d)=1:=by
 unfold xX at h;split at h
 ·cases h
 rename_i a;split at h
 ·cases h
 rename_i b;intro d hd;rcases HO R (bl d) with c | c | c
 ·exact c
 ·exact absurd (List.any_eq_true.2 ⟨d,hd,by simp [c]⟩) b
 exact absurd (List.any_eq_true.2 ⟨d,hd,by simp [c]⟩) a
/-! ### what is taken -/
theorem TP(l:List BY):∀ (k:Nat) (i:Int),fT l k i=gIX zL l k i
 | 0,_=>rfl
 | k+1,i=>by unfold fT gIX;simp only [TP l k]
theorem TQ(l:List Hd)(a b:Int):∀ (k:Nat) (i:Int),fC l a b k i=gIX (λx=>zK x a b) l k i
 | 0,_=>rfl
 | k+1,i=>by unfold fC gIX;simp only [TQ l a b k]
theorem cix(l:List BY)(s:BY):∀ (k:Nat) (i:Int),hZ l s k i=gIX (λx=>some (sEq s x)) l k i
 | 0,_=>rfl
 | k+1,i=>by unfold hZ gIX;simp only [cix l s k,bS]
theorem BE(l:List BY)(s:BY)(hl:l.length <= 1000000):kU l s=some (l.any λx=>decide (bl s=bl x)):=by
 unfold kU qO;rw [cix];obtain ⟨z,h1,h2⟩:=U1 (λx=>some (sEq s x)) l (λx=>decide (bl s=bl x)) (by omega) (λx _=>by rw [oU]);rw [h1];simp only [bS];rw [h2]
theorem hbs(l:List Hd)(s:BY):∀ (k:Nat) (lo hi:Int),cY l s k lo hi=gBS wI l s k lo hi
 | 0,_,_=>rfl
 | k+1,lo,hi=>by unfold cY gBS;simp only [hbs l s k]
theorem WP(x:Hd)(s:BY):wI x s=some (if jD x < bl s then -1 else if jD x=bl s then 0 else 1):=by
 show some (Extern.BytealgCompare.cmp x.Dir s)=_;rw [Tg];rfl
/-- what a transaction holds then. -/
structure Fy (l:List Hd) (t a:Int) (ds:List BY) (H:List Hd):Prop where
 ok:Js H
 len:H.length <= l.length+ds.length
 old:∀ x ∈ l,x ∈ H
 new:∀ x ∈ H,x ∈ l∨∃ d ∈ ds,x= ⟨d,t,a⟩
 all:∀ d ∈ ds,∃ x ∈ H,jD x=bl d/\x.Txn=t
theorem OX{l:List Hd}(H0:Js l)(hl:l.length <= 500000){t a:Int}(ht:rH t=true)(ha:rH a=true)(ds:List BY)(hd:ds.length <= 1000)(hp:∀ d ∈ ds,dK (bl d)=true)(age:∀ x ∈ l,x.Txn=t->x.Age=a)(free:∀ x ∈ l,x.Txn ≠ t->∀ d ∈ ds,jD x ≠ bl d) :
  ∃ H,mW ds t a (((ds.length:Int) - 0:Int).toNat+1) l 0=some (H,[],true)/\Fy l t a ds H:=by
 obtain ⟨r,h1,h2⟩:=zF (λk i (h:List Hd)=>mW ds t a k h i) (n:=ds.length) (k:=((ds.length:Int) - 0:Int).toNat+1) (λi h=>Fy l t a (ds.take i) h) (λr=>∃ H,r=(H,[],true)/\Fy l t a ds H) l (qR _) ⟨H0,by simp,λx h=>h,λx h=>.inl h,λd h=>by simp at h⟩ (by
  rintro k i h hi ⟨T1,T2,T3,T4,T5⟩ ih;have hm:=List.getElem_mem hi;have tk:ds.take (i+1)=ds.take i ++ [ds[i]]:=by rw [List.take_add_one,List.getElem?_eq_getElem hi];rfl
  unfold mW C5;rw [iP (by simpa using hi),bY hi];simp only [bS];have hlen:h.length <= 600000:=by rw [List.length_take] at T2;omega
  obtain ⟨j,j1,j2,j3,j4⟩:=EI jD wI h ds[i] (by omega) (λx=>WP x _) T1.sort;unfold gC;rw [hbs,j2];simp only [bS];rw [hP (by omega)];rcases j4 with ⟨x,c1,c2,c3,c4,c5⟩ | ⟨c1,c2⟩
  ·rw [c3,iN (by simp)];refine ih h ⟨T1,by rw [List.length_take] at T2 ⊢;omega,T3,λy hy=>?_,λd hd'=>?_⟩
   ·rcases T4 y hy with q | ⟨d,q,e⟩
    ·exact .inl q
    exact .inr ⟨d,by rw [tk];exact List.mem_append_left _ q,e⟩
   rw [tk] at hd';rcases List.mem_append.1 hd' with q | q
   ·exact T5 d q
   rw [List.mem_singleton.1 q];refine ⟨x,c5,c2,?_⟩;rcases T4 x c5 with q | ⟨d',_,e⟩
   ·by_cases ne:x.Txn=t
    ·exact ne
    exact absurd c2 (free x q ne _ hm)
   rw [e]
  ·rw [c2,iP (by rfl),dJ (by omega),Int.toNat_natCast];have ins:h.take j ++ (⟨ds[i],t,a⟩:Hd)::h.drop j=h.filter (gLt jD (bl ds[i])) ++ (⟨ds[i],t,a⟩:Hd)::h.filter (gGt jD (bl ds[i])):=by rw [j3,c1]
   have mem:∀ y,y ∈ h.take j ++ (⟨ds[i],t,a⟩:Hd)::h.drop j ↔ y= ⟨ds[i],t,a⟩∨y ∈ h:=λy=>by
    rw [List.mem_append,List.mem_cons];constructor
    ·rintro (q | q | q)
     ·exact .inr (List.mem_of_mem_take q)
     ·exact .inl q
     exact .inr (List.mem_of_mem_drop q)
    rintro (q | q)
    ·exact .inr (.inl q)
    rw [← List.take_append_drop j h] at q;rcases List.mem_append.1 q with q | q
    ·exact .inl q
    exact .inr (.inr q)
   have agh:∀ y ∈ h,y.Txn=t->y.Age=a:=λy hy e=>by
    rcases T4 y hy with q | ⟨d,_,e'⟩
    ·exact age y q e
    rw [e']
   refine ih _ ⟨⟨λy hy=>?_,?_,λy hy z hz e=>?_⟩,by simp [List.length_take] at T2 ⊢;omega,λy hy=>(mem y).2 (.inr (T3 y hy)),λy hy=>?_,λd hd'=>?_⟩
   ·rcases (mem y).1 hy with rfl | q
    ·simp [hdB,jD,hp _ hm,ht,ha]
    exact T1.all y q
   ·rw [ins];exact Cs jD h _ _ rfl T1.sort
   ·rcases (mem y).1 hy with rfl | q <;> rcases (mem z).1 hz with rfl | q'
    ·rfl
    ·exact (agh z q' e.symm).symm
    ·exact agh y q e
    exact T1.age y q z q' e
   ·rcases (mem y).1 hy with rfl | q
    ·exact .inr ⟨_,by rw [tk];exact List.mem_append_right _ (List.mem_singleton.2 rfl),rfl⟩
    rcases T4 y q with q | ⟨d,q,e⟩
    ·exact .inl q
    exact .inr ⟨d,by rw [tk];exact List.mem_append_left _ q,e⟩
   rw [tk] at hd';rcases List.mem_append.1 hd' with q | q
   ·obtain ⟨x,x1,x2⟩:=T5 d q;exact ⟨x,(mem x).2 (.inr x1),x2⟩
   rw [List.mem_singleton.1 q];exact ⟨_,(mem _).2 (.inl rfl),rfl,rfl⟩) (by
  rintro k h T;unfold mW;rw [iN (by simp)];rw [List.take_length] at T;exact ⟨_,rfl,h,rfl,T⟩)
 obtain ⟨H,rfl,T⟩:=h2;exact ⟨H,h1,T⟩
theorem Zz{l:List Hd}(H0:Js l)(hl:l.length <= 500000){t a:Int}(ht:rH t=true)(ha:rH a=true)(ds:List BY)(hd:ds.length <= 1000)(hp:∀ d ∈ ds,dK (bl d)=true) :
  (∃ H W,G8 l t a ds=some (H,W,false)/\W.length <= 1000000)∨∃ H,G8 l t a ds=some (H,[],true)/\Fy l t a ds H:=by
 unfold G8 kY mL iU kH;rw [TP,TQ];obtain ⟨z,z1,z2⟩:=U1 zL ds (λd=>false) (by omega) (λd h=>by unfold zL;rw [mR,hp d h];rfl);obtain ⟨y,y1,y2⟩:=U1 (λx=>zK x t a) l (λx=>decide (x.Txn=t) && decide (x.Age ≠ a)) (by omega) (λx _=>by
  unfold zK;by_cases c:x.Txn=t
  ·rw [iP (by simpa using c)];simp [c];rfl
  rw [iN (by simpa using c)];simp [c])
 rw [z1,y1];simp only [bS];rw [z2,y2,Zx H0 (by omega),Oh,ht,Oh,ha];simp only [bS];rw [iN (by simp),iN (by simp),iN (by simp),iN (by simp)];unfold rM;cases st:l.any (λx=>decide (x.Txn=t) && decide (x.Age ≠ a)) with
 | true=>rw [iP (by trivial)];exact .inl ⟨_,_,rfl,by simp⟩
 | false=>
  have age:∀ x ∈ l,x.Txn=t->x.Age=a:=λx hx e=>by
   have:=List.any_eq_false.1 st x hx;simpa [e] using this
  rw [iN (by simp)];obtain ⟨r,h1,h2⟩:=zF (λk i (s:Bool×List (Int×Int))=>lV a t ds l k s.1 i s.2) (n:=l.length) (k:=((l.length:Int) - 0:Int).toNat+1) (λi s=>s.2.length <= i/\(s.1=true->∀ j (h:j < l.length),j < i->(l[j]).Txn ≠ t->∀ d ∈ ds,jD l[j] ≠ bl d)) (λr=>(∃ H W,r=(H,W,false)/\W.length <= 1000000)∨∃ H,r=(H,[],true)/\Fy l t a ds H) (true,[]) (qR _) ⟨by simp,λ_ j h hj=>by omega⟩ (by
   rintro k i ⟨b,m⟩ hi ⟨P1,P2⟩ ih;simp only at P1 P2;have hm:=List.getElem_mem hi;obtain ⟨a1,a2,a3⟩:=LL (H0.all _ hm);unfold lV C4 yH;rw [iP (by simpa using hi),bY hi];simp only [bS];rw [BE _ _ (by omega)];simp only [bS];rw [hP (by omega)];have keep:((l[i]).Txn ≠ t->∀ d ∈ ds,jD l[i] ≠ bl d)->∃ r,lV a t ds l k b ((i+1:Nat):Int) m=some r/\((∃ H W,r=(H,W,false)/\W.length <= 1000000)∨∃ H,r=(H,[],true)/\Fy l t a ds H):=λq=>ih (b,m) ⟨by simp only;omega,λe j h hj=>by
    by_cases e':j=i
    ·subst e';exact q
    exact P2 e j h (by omega)⟩
   by_cases c:(l[i]).Txn=t
   ·rw [iN (by simpa using c),iN (by simp)];exact keep λq=>absurd c q
   ·rw [iP (by simpa using c)];cases d:ds.any (λx=>decide (bl (l[i]).Dir=bl x)) with
    | false=>
     rw [iN (by simp)];exact keep λ_ x hx e=>by
      have:=List.any_eq_false.1 d x hx;exact this (decide_eq_true e)
    | true=>
     rw [iP (by trivial),dJ (show Yb _ _ _ _ from ⟨Cd a3,Cd a2,Cd ha,Cd ht⟩)];split
     ·unfold mlk mpt;rw [iP (E3 a2)];simp only [bS];rw [iP ⟨E3 a2,by simp [maxLen];omega⟩];exact ih (false,_) ⟨by simp only;rw [C9];split <;> omega,λq=>by cases q⟩
     exact ih (false,m) ⟨by simp only;omega,λq=>by cases q⟩) (by
   rintro k ⟨b,m⟩ ⟨P1,P2⟩;simp only at P1 P2;unfold lV;simp only;rw [iN (by simp)];cases b with
   | false=>
    rw [iP (by rfl)];unfold mC;simp only [bS];rw [dJ (by omega)];exact ⟨_,rfl,.inl ⟨_,_,rfl,by simp [Sb];omega⟩⟩
   | true=>
    rw [iN (by simp),dJ (by simp only [LIM];omega)];obtain ⟨H,t1,t2⟩:=OX H0 hl ht ha ds hd hp age (λx hx=>by
     obtain ⟨j,hj,rfl⟩:=List.mem_iff_getElem.1 hx;exact P2 rfl j hj hj)
    exact ⟨_,t1,.inr ⟨H,rfl,t2⟩⟩)
  simp only at h1;rw [h1];rcases h2 with ⟨H,W,rfl,q⟩ | ⟨H,rfl,q⟩
  ·exact .inl ⟨H,W,rfl,q⟩
  exact .inr ⟨H,rfl,q⟩
/-! ### let go -/
theorem TR(l:List Hd)(t:Int):∀ (k:Nat) (i:Int),eW l t k i=gIX (λx=>wE x t) l k i
 | 0,_=>rfl
 | k+1,i=>by unfold eW gIX;simp only [TR l t k]
theorem hdl(t:Int):∀ (k:Nat) (l:List Hd) (i j:Int),dQ t k l i j=gDL (λx=>wE x t) (⟨⟨#[]⟩,0,0⟩:Hd) k l i j
 | 0,_,_,_=>rfl
 | k+1,l,i,j=>by unfold dQ gP gDL;simp only [hdl t k]
theorem CL(l:List Hd)(t:Int)(hl:l.length <= 1000000):Q1 l t=some (l.filter λx=>!(x.Txn == t)):=by
 unfold Q1 kW kA;have:=HL (λx=>wE x t) (λx=>x.Txn == t) (⟨⟨#[]⟩,0,0⟩:Hd) l hl (λx _=>rfl);unfold gDF at this;rw [dJ (by simp only [LIM];omega),TR];simp only [hdl];rw [this];rfl
theorem Js.free {l:List Hd} (H:Js l) (f:Hd->Bool):Js (l.filter f):=
 ⟨λx hx=>H.all x (List.mem_filter.1 hx).1,H.sort.sublist List.filter_sublist,λx hx y hy=>H.age x (List.mem_filter.1 hx).1 y (List.mem_filter.1 hy).1⟩
end Go.Cb
