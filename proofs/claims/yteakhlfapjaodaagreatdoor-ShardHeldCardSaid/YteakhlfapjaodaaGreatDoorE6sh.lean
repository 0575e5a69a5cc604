/- Holds, plainly: what may be held, who holds, what is taken, and let go; where directories are. -/
import Derived.Test.YteakhlfapjaodaaGreatDoorE5sh
set_option linter.unusedVariables false
set_option linter.unusedSimpArgs false
namespace Go.Cb
open Go.Proofs Go.RowKit

def hdB(x:Hd):Bool:=eR (gW x) && (nQ x.Txn && nQ x.Age)
structure Et (l:List Hd):Prop where
 all:∀ x ∈ l,hdB x=true
 sort:l.Pairwise (gW · < gW ·)
 age:∀ x ∈ l,∀ y ∈ l,x.Txn=y.Txn->x.Age=y.Age
theorem KF{x:Hd}(h:hdB x=true):eR (gW x)=true/\nQ x.Txn=true/\nQ x.Age=true:=by
 simpa [hdB] using h
theorem Da{n:Int}(h:nQ n=true):0 <= n/\n <= 281474976710656:=by simpa [nQ] using h
theorem Mv(n:Int):sS n=some (nQ n):=by
 unfold sS nQ;by_cases h:0 <= n
 ·rw [iP (decide_eq_true h),decide_eq_true h];rfl
 rw [iN (by simp;omega),decide_eq_false h];rfl
theorem A8{n:Int}(h:nQ n=true):(kyI .i64).ok n=true:=JA (Da h).1 (Da h).2
theorem Zd{l:List Hd}(H:Et l)(hl:l.length <= 1000000):J3 l=some true:=by
 unfold J3;obtain ⟨r,h1,rfl⟩:=vT (λk i (m:List (Int×Int))=>eB l k i m) (n:=l.length) (k:=((l.length:Int) - 0:Int).toNat+1) (λi m=>m.length <= i/\∀ t a,dA m t=some a->∃ x ∈ l,x.Txn=t/\x.Age=a) (λr=>r=true) [] (nM _) ⟨by simp,λt a h=>by simp [dA] at h⟩ (by
  rintro k i m hi ⟨P1,P2⟩ ih;have hm:=List.getElem_mem hi;obtain ⟨a1,a2,a3⟩:=KF (H.all _ hm);unfold eB jB mlk mpt;rw [iP (by simpa using hi),bU hi];simp only [bS];rw [iP (A8 a2)];simp only [bS];rw [nB,show bl (l[i]).Dir=gW l[i] from rfl,a1,Mv,a2,Mv,a3];simp only [bS];have nx:∃ r,(if (kyI .i64).ok (l[i]).Txn=true/\m.length < maxLen then some (hY m (l[i]).Txn (l[i]).Age) else none).bind (λz=>eB l k (IntKind.i64.wrap ((i:Int)+1)) z)=some r/\r=true:=by
   rw [iP ⟨A8 a2,by simp [maxLen];omega⟩,gV (by omega)];refine ih _ ⟨?_,λt a h=>?_⟩
   ·rw [w5];split <;> omega
   by_cases e:t=(l[i]).Txn
   ·subst e;rw [pJ] at h;cases h;exact ⟨_,hm,rfl,rfl⟩
   rw [kE _ e] at h;exact P2 t a h
  have pr:∃ r,(if decide ((i:Int) > 0)=true then (idx l (IntKind.i64.wrap ((i:Int) - 1))).bind λx=>if (!sLt x.Dir (l[i]).Dir)=true then some false else (if (kyI .i64).ok (l[i]).Txn=true/\m.length < maxLen then some (hY m (l[i]).Txn (l[i]).Age) else none).bind (λz=>eB l k (IntKind.i64.wrap ((i:Int)+1)) z) else if false=true then some false else (if (kyI .i64).ok (l[i]).Txn=true/\m.length < maxLen then some (hY m (l[i]).Txn (l[i]).Age) else none).bind (λz=>eB l k (IntKind.i64.wrap ((i:Int)+1)) z))=some r/\r=true:=by
   by_cases h0:0 < i
   ·rw [iP (by simpa using h0),DD h0 (by omega),bU (show i - 1 < l.length by omega)];simp only [bS];have:=List.pairwise_iff_getElem.1 H.sort (i - 1) i (by omega) hi (by omega);rw [Rv,iN (by simp only [Bool.not_eq_true',decide_eq_false_iff_not,Classical.not_not];exact this)];exact nx
   rw [iN (by simpa using h0),iN (by simp)];exact nx
  rw [iN (by simp),iN (by simp),iN (by simp)];cases g:dA m (l[i]).Txn with
  | none=>rw [iN (by simp)];exact pr
  | some a=>
   obtain ⟨y,y1,y2,y3⟩:=P2 _ _ g;rw [iP (by rfl),iN (by simp only [Option.getD_some,bne_iff_ne,ne_eq,Classical.not_not];rw [← y3];exact H.age y y1 _ hm y2)];exact pr) (by
  rintro k m _;unfold eB;rw [iN (by simp)];exact ⟨true,rfl,rfl⟩)
 exact h1
/-! ### who holds -/
def Cv(l:List Hd)(d:List UInt8):Bool:=l.any λx=>decide (gW x=d)
theorem RS(l:List Hd)(s:BY):∀ (k:Nat) (i:Int),eT l s k i=gIX (λx=>yJ x s) l k i
 | 0,_=>rfl
 | k+1,i=>by unfold eT gIX;simp only [RS l s k]
theorem NJ(l:List Hd)(s:BY)(hl:l.length <= 1000000):∃ t,N2 l s=some (t,Cv l (bl s)):=by
 unfold N2 kY;rw [RS];obtain ⟨z,h1,h2⟩:=Lu (λx=>yJ x s) l (λx=>decide (gW x=bl s)) (by omega) (λx _=>by unfold yJ;rw [nY];rfl);rw [h1];simp only [bS];unfold Cv;rcases h2 with ⟨rfl,h⟩ | ⟨i,rfl,hi,h,_⟩
 ·rw [iP (by decide),List.any_eq_false.2 λx hx=>by rw [h x hx];simp];exact ⟨_,rfl⟩
 rw [iN (by simp),bU hi,List.any_eq_true.2 ⟨_,List.getElem_mem hi,h⟩];exact ⟨_,rfl⟩
theorem RT(l:List BY)(h:List Hd):∀ (k:Nat) (i:Int),fT l h k i=gIX (λs=>rA s h) l k i
 | 0,_=>rfl
 | k+1,i=>by unfold fT gIX;simp only [RT l h k]
theorem DJ(ds:List BY)(l:List Hd)(hd:ds.length <= 1000000)(hl:l.length <= 1000000):hG ds l=some (ds.any λd=>Cv l (bl d)):=by
 unfold hG mU;rw [RT];obtain ⟨z,h1,h2⟩:=P9 (λs=>rA s l) ds (λd=>Cv l (bl d)) (by omega) (λd _=>by
  unfold rA;obtain ⟨t,h⟩:=NJ l d hl;rw [h];rfl)
 rw [h1];simp only [bS];rw [h2]
theorem RU(l:List BY)(r:List Rg)(x:Int):∀ (k:Nat) (i:Int),fF l r x k i=gIX (λs=>mN s r x) l k i
 | 0,_=>rfl
 | k+1,i=>by unfold fF gIX;simp only [RU l r x k]
def xY(r:List Rg)(ds:List BY):Int:=if (ds.any λd=>stR r (bl d) == 3)=true then 132 else if (ds.any λd=>stR r (bl d) == 2)=true then 131 else 0
theorem Ze{r:List Rg}(R:eX r)(ds:List BY)(hd:ds.length <= 1000000):qZ r ds=some (xY r ds):=by
 have key:∀ x:Int,oK x ds r=some (ds.any λd=>stR r (bl d) == x):=λx=>by
  unfold oK jX lO;rw [RU];obtain ⟨z,h1,h2⟩:=P9 (λs=>mN s r x) ds (λd=>stR r (bl d) == x) (by omega) (λd _=>by unfold mN;rw [JF R];rfl);rw [h1];simp only [bS];rw [h2]
 unfold qZ xY;rw [key,key];simp only [bS];split
 ·rfl
 split <;> rfl
theorem GO{r:List Rg}(R:eX r)(d:List UInt8):stR r d=1∨stR r d=2∨stR r d=3:=by
 unfold stR;rcases Q1 R d with ⟨_,e⟩ | ⟨i,hi,_,e⟩
 ·rw [e];exact .inr (.inr rfl)
 rw [e];have:=Wi (R.all _ (List.getElem_mem hi));simp only [Option.map_some,Option.getD_some];omega
theorem Pu{r:List Rg}(R:eX r){ds:List BY}(h:xY r ds=0):∀ d ∈ ds,stR r (bl d)=1:=by
 unfold xY at h;split at h
 ·cases h
 rename_i a;split at h
 ·cases h
 rename_i b;intro d hd;rcases GO R (bl d) with c | c | c
 ·exact c
 ·exact absurd (List.any_eq_true.2 ⟨d,hd,by simp [c]⟩) b
 exact absurd (List.any_eq_true.2 ⟨d,hd,by simp [c]⟩) a
/-! ### what is taken -/
theorem RW(l:List BY):∀ (k:Nat) (i:Int),fG l k i=gIX yL l k i
 | 0,_=>rfl
 | k+1,i=>by unfold fG gIX;simp only [RW l k]
theorem RX(l:List Hd)(a b:Int):∀ (k:Nat) (i:Int),eP l a b k i=gIX (λx=>yK x a b) l k i
 | 0,_=>rfl
 | k+1,i=>by unfold eP gIX;simp only [RX l a b k]
theorem cix(l:List BY)(s:BY):∀ (k:Nat) (i:Int),gS l s k i=gIX (λx=>some (sEq s x)) l k i
 | 0,_=>rfl
 | k+1,i=>by unfold gS gIX;simp only [cix l s k,bS]
theorem AD(l:List BY)(s:BY)(hl:l.length <= 1000000):jU l s=some (l.any λx=>decide (bl s=bl x)):=by
 unfold jU pV;rw [cix];obtain ⟨z,h1,h2⟩:=P9 (λx=>some (sEq s x)) l (λx=>decide (bl s=bl x)) (by omega) (λx _=>by rw [nY]);rw [h1];simp only [bS];rw [h2]
theorem hbs(l:List Hd)(s:BY):∀ (k:Nat) (lo hi:Int),cQ l s k lo hi=gBS vG l s k lo hi
 | 0,_,_=>rfl
 | k+1,lo,hi=>by unfold cQ gBS;simp only [hbs l s k]
theorem UR(x:Hd)(s:BY):vG x s=some (if gW x < bl s then -1 else if gW x=bl s then 0 else 1):=by
 show some (Extern.BytealgCompare.cmp x.Dir s)=_;rw [Rw];rfl
/-- what a transaction holds then. -/
structure Eu (l:List Hd) (t a:Int) (ds:List BY) (H:List Hd):Prop where
 ok:Et H
 len:H.length <= l.length+ds.length
 old:∀ x ∈ l,x ∈ H
 new:∀ x ∈ H,x ∈ l∨∃ d ∈ ds,x= ⟨d,t,a⟩
 all:∀ d ∈ ds,∃ x ∈ H,gW x=bl d/\x.Txn=t
theorem NK{l:List Hd}(H0:Et l)(hl:l.length <= 500000){t a:Int}(ht:nQ t=true)(ha:nQ a=true)(ds:List BY)(hd:ds.length <= 1000)(hp:∀ d ∈ ds,eR (bl d)=true)(age:∀ x ∈ l,x.Txn=t->x.Age=a)(free:∀ x ∈ l,x.Txn ≠ t->∀ d ∈ ds,gW x ≠ bl d) :
  ∃ H,mC ds t a (((ds.length:Int) - 0:Int).toNat+1) l 0=some (H,[],true)/\Eu l t a ds H:=by
 obtain ⟨r,h1,h2⟩:=vT (λk i (h:List Hd)=>mC ds t a k h i) (n:=ds.length) (k:=((ds.length:Int) - 0:Int).toNat+1) (λi h=>Eu l t a (ds.take i) h) (λr=>∃ H,r=(H,[],true)/\Eu l t a ds H) l (nM _) ⟨H0,by simp,λx h=>h,λx h=>.inl h,λd h=>by simp at h⟩ (by
  rintro k i h hi ⟨T1,T2,T3,T4,T5⟩ ih;have hm:=List.getElem_mem hi;have tk:ds.take (i+1)=ds.take i ++ [ds[i]]:=by rw [List.take_add_one,List.getElem?_eq_getElem hi];rfl
  unfold mC r8;rw [iP (by simpa using hi),bU hi];simp only [bS];have hlen:h.length <= 600000:=by rw [List.length_take] at T2;omega
  obtain ⟨j,j1,j2,j3,j4⟩:=DG gW vG h ds[i] (by omega) (λx=>UR x _) T1.sort;unfold fR;rw [hbs,j2];simp only [bS];rw [gV (by omega)];rcases j4 with ⟨x,c1,c2,c3,c4,c5⟩ | ⟨c1,c2⟩
  ·rw [c3,iN (by simp)];refine ih h ⟨T1,by rw [List.length_take] at T2 ⊢;omega,T3,λy hy=>?_,λd hd'=>?_⟩
   ·rcases T4 y hy with q | ⟨d,q,e⟩
    ·exact .inl q
    exact .inr ⟨d,by rw [tk];exact List.mem_append_left _ q,e⟩
   rw [tk] at hd';rcases List.mem_append.1 hd' with q | q
   ·exact T5 d q
   rw [List.mem_singleton.1 q];refine ⟨x,c5,c2,?_⟩;rcases T4 x c5 with q | ⟨d',_,e⟩
   ·by_cases ne:x.Txn=t
    ·exact ne
    exact absurd c2 (free x q ne _ hm)
   rw [e]
  ·rw [c2,iP (by rfl),dJ (by omega),Int.toNat_natCast];have ins:h.take j ++ (⟨ds[i],t,a⟩:Hd)::h.drop j=h.filter (gLt gW (bl ds[i])) ++ (⟨ds[i],t,a⟩:Hd)::h.filter (gGt gW (bl ds[i])):=by rw [j3,c1]
   have mem:∀ y,y ∈ h.take j ++ (⟨ds[i],t,a⟩:Hd)::h.drop j ↔ y= ⟨ds[i],t,a⟩∨y ∈ h:=λy=>by
    rw [List.mem_append,List.mem_cons];constructor
    ·rintro (q | q | q)
     ·exact .inr (List.mem_of_mem_take q)
     ·exact .inl q
     exact .inr (List.mem_of_mem_drop q)
    rintro (q | q)
    ·exact .inr (.inl q)
    rw [← List.take_append_drop j h] at q;rcases List.mem_append.1 q with q | q
    ·exact .inl q
    exact .inr (.inr q)
   have agh:∀ y ∈ h,y.Txn=t->y.Age=a:=λy hy e=>by
    rcases T4 y hy with q | ⟨d,_,e'⟩
    ·exact age y q e
    rw [e']
   refine ih _ ⟨⟨λy hy=>?_,?_,λy hy z hz e=>?_⟩,by simp [List.length_take] at T2 ⊢;omega,λy hy=>(mem y).2 (.inr (T3 y hy)),λy hy=>?_,λd hd'=>?_⟩
   ·rcases (mem y).1 hy with rfl | q
    ·simp [hdB,gW,hp _ hm,ht,ha]
    exact T1.all y q
   ·rw [ins];exact Bl gW h _ _ rfl T1.sort
   ·rcases (mem y).1 hy with rfl | q <;> rcases (mem z).1 hz with rfl | q'
    ·rfl
    ·exact (agh z q' e.symm).symm
    ·exact agh y q e
    exact T1.age y q z q' e
   ·rcases (mem y).1 hy with rfl | q
    ·exact .inr ⟨_,by rw [tk];exact List.mem_append_right _ (List.mem_singleton.2 rfl),rfl⟩
    rcases T4 y q with q | ⟨d,q,e⟩
    ·exact .inl q
    exact .inr ⟨d,by rw [tk];exact List.mem_append_left _ q,e⟩
   rw [tk] at hd';rcases List.mem_append.1 hd' with q | q
   ·obtain ⟨x,x1,x2⟩:=T5 d q;exact ⟨x,(mem x).2 (.inr x1),x2⟩
   rw [List.mem_singleton.1 q];exact ⟨_,(mem _).2 (.inl rfl),rfl,rfl⟩) (by
  rintro k h T;unfold mC;rw [iN (by simp)];rw [List.take_length] at T;exact ⟨_,rfl,h,rfl,T⟩)
 obtain ⟨H,rfl,T⟩:=h2;exact ⟨H,h1,T⟩
theorem Zf{l:List Hd}(H0:Et l)(hl:l.length <= 500000){t a:Int}(ht:nQ t=true)(ha:nQ a=true)(ds:List BY)(hd:ds.length <= 1000)(hp:∀ d ∈ ds,eR (bl d)=true) :
  (∃ H W,E1 l t a ds=some (H,W,false)/\W.length <= 1000000)∨∃ H,E1 l t a ds=some (H,[],true)/\Eu l t a ds H:=by
 unfold E1 jY lP iE jM;rw [RW,RX];obtain ⟨z,z1,z2⟩:=P9 yL ds (λd=>false) (by omega) (λd h=>by unfold yL;rw [nB,hp d h];rfl);obtain ⟨y,y1,y2⟩:=P9 (λx=>yK x t a) l (λx=>decide (x.Txn=t) && decide (x.Age ≠ a)) (by omega) (λx _=>by
  unfold yK;by_cases c:x.Txn=t
  ·rw [iP (by simpa using c)];simp [c];rfl
  rw [iN (by simpa using c)];simp [c])
 rw [z1,y1];simp only [bS];rw [z2,y2,Zd H0 (by omega),Mv,ht,Mv,ha];simp only [bS];rw [iN (by simp),iN (by simp),iN (by simp),iN (by simp)];unfold qO;cases st:l.any (λx=>decide (x.Txn=t) && decide (x.Age ≠ a)) with
 | true=>rw [iP (by trivial)];exact .inl ⟨_,_,rfl,by simp⟩
 | false=>
  have age:∀ x ∈ l,x.Txn=t->x.Age=a:=λx hx e=>by
   have:=List.any_eq_false.1 st x hx;simpa [e] using this
  rw [iN (by simp)];obtain ⟨r,h1,h2⟩:=vT (λk i (s:Bool×List (Int×Int))=>kZ a t ds l k s.1 i s.2) (n:=l.length) (k:=((l.length:Int) - 0:Int).toNat+1) (λi s=>s.2.length <= i/\(s.1=true->∀ j (h:j < l.length),j < i->(l[j]).Txn ≠ t->∀ d ∈ ds,gW l[j] ≠ bl d)) (λr=>(∃ H W,r=(H,W,false)/\W.length <= 1000000)∨∃ H,r=(H,[],true)/\Eu l t a ds H) (true,[]) (nM _) ⟨by simp,λ_ j h hj=>by omega⟩ (by
   rintro k i ⟨b,m⟩ hi ⟨P1,P2⟩ ih;simp only at P1 P2;have hm:=List.getElem_mem hi;obtain ⟨a1,a2,a3⟩:=KF (H0.all _ hm);unfold kZ r7 xH;rw [iP (by simpa using hi),bU hi];simp only [bS];rw [AD _ _ (by omega)];simp only [bS];rw [gV (by omega)];have keep:((l[i]).Txn ≠ t->∀ d ∈ ds,gW l[i] ≠ bl d)->∃ r,kZ a t ds l k b ((i+1:Nat):Int) m=some r/\((∃ H W,r=(H,W,false)/\W.length <= 1000000)∨∃ H,r=(H,[],true)/\Eu l t a ds H):=λq=>ih (b,m) ⟨by simp only;omega,λe j h hj=>by
    by_cases e':j=i
    ·subst e';exact q
    exact P2 e j h (by omega)⟩
   by_cases c:(l[i]).Txn=t
   ·rw [iN (by simpa using c),iN (by simp)];exact keep λq=>absurd c q
   ·rw [iP (by simpa using c)];cases d:ds.any (λx=>decide (bl (l[i]).Dir=bl x)) with
    | false=>
     rw [iN (by simp)];exact keep λ_ x hx e=>by
      have:=List.any_eq_false.1 d x hx;exact this (decide_eq_true e)
    | true=>
     rw [iP (by trivial),dJ (show Xe _ _ _ _ from ⟨Da a3,Da a2,Da ha,Da ht⟩)];split
     ·unfold mlk mpt;rw [iP (A8 a2)];simp only [bS];rw [iP ⟨A8 a2,by simp [maxLen];omega⟩];exact ih (false,_) ⟨by simp only;rw [w5];split <;> omega,λq=>by cases q⟩
     exact ih (false,m) ⟨by simp only;omega,λq=>by cases q⟩) (by
   rintro k ⟨b,m⟩ ⟨P1,P2⟩;simp only at P1 P2;unfold kZ;simp only;rw [iN (by simp)];cases b with
   | false=>
    rw [iP (by rfl)];unfold lG;simp only [bS];rw [dJ (by omega)];exact ⟨_,rfl,.inl ⟨_,_,rfl,by simp [Qq];omega⟩⟩
   | true=>
    rw [iN (by simp),dJ (by simp only [LIM];omega)];obtain ⟨H,t1,t2⟩:=NK H0 hl ht ha ds hd hp age (λx hx=>by
     obtain ⟨j,hj,rfl⟩:=List.mem_iff_getElem.1 hx;exact P2 rfl j hj hj)
    exact ⟨_,t1,.inr ⟨H,rfl,t2⟩⟩)
  simp only at h1;rw [h1];rcases h2 with ⟨H,W,rfl,q⟩ | ⟨H,rfl,q⟩
  ·exact .inl ⟨H,W,rfl,q⟩
  exact .inr ⟨H,rfl,q⟩
/-! ### let go -/
theorem RY(l:List Hd)(t:Int):∀ (k:Nat) (i:Int),eJ l t k i=gIX (λx=>vD x t) l k i
 | 0,_=>rfl
 | k+1,i=>by unfold eJ gIX;simp only [RY l t k]
theorem hdl(t:Int):∀ (k:Nat) (l:List Hd) (i j:Int),dI t k l i j=gDL (λx=>vD x t) (⟨⟨#[]⟩,0,0⟩:Hd) k l i j
 | 0,_,_,_=>rfl
 | k+1,l,i,j=>by unfold dI fZ gDL;simp only [hdl t k]
theorem BL(l:List Hd)(t:Int)(hl:l.length <= 1000000):M7 l t=some (l.filter λx=>!(x.Txn == t)):=by
 unfold M7 jW jG;have:=GL (λx=>vD x t) (λx=>x.Txn == t) (⟨⟨#[]⟩,0,0⟩:Hd) l hl (λx _=>rfl);unfold gDF at this;rw [dJ (by simp only [LIM];omega),RY];simp only [hdl];rw [this];rfl
theorem Et.free {l:List Hd} (H:Et l) (f:Hd->Bool):Et (l.filter f):=
 ⟨λx hx=>H.all x (List.mem_filter.1 hx).1,H.sort.sublist List.filter_sublist,λx hx y hy=>H.age x (List.mem_filter.1 hx).1 y (List.mem_filter.1 hy).1⟩
end Go.Cb
