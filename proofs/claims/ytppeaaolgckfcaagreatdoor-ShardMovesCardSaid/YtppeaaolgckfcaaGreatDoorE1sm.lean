/- Ranges, plainly: does a path lie in another one; what may be ranges. -/
import Derived.Test.YtppeaaolgckfcaaGreatDoorE0sm
import Derived.Test.YtppeaaolgckfcaaGreatDoorKsm2
set_option linter.unusedVariables false
set_option linter.unusedSimpArgs false
namespace Go.Cb
open Go.Proofs Go.RowKit

/-! ### does a path lie in another one -/
theorem CI:∀ (n:Nat) (r:List UInt8),r.length <= n->∀ p ∈ iO r,47 ∉ p
 | 0,r,h,p,hp=>by
  obtain rfl:r= []:=List.eq_nil_of_length_eq_zero (by omega);rw [show iO []= [[]] from by unfold iO;rfl] at hp;rw [List.mem_singleton.1 hp];simp
 | n+1,r,h,p,hp=>by
  rcases Qx r with h1 | ⟨a,b,rfl,ha⟩
  ·rw [G9 r h1] at hp;rw [List.mem_singleton.1 hp];exact h1
  rw [Aa a b ha] at hp;rcases List.mem_cons.1 hp with rfl | hp
  ·exact ha
  exact CI n b (by simp at h;omega) p hp
theorem CJ{l k:List (List UInt8)}(hl:∀ p ∈ l,47 ∉ p)(hk:∀ p ∈ k,47 ∉ p)(h:fV l=fV k):l=k:=by
 have a:=Ji [] l (by simp) hl;have b:=Ji [] k (by simp) hk;rw [List.nil_append] at a b;rw [h,b] at a;exact (List.cons.inj a).2.symm
theorem CK{l k:List (List UInt8)}(hl:∀ p ∈ l,47 ∉ p)(hk:∀ p ∈ k,47 ∉ p){rest:List UInt8}(h:fV l=fV k ++ rest)(hr:rest= []∨∃ r,rest=47::r):k <+:l:=by
 rcases hr with rfl | ⟨r,rfl⟩
 ·rw [List.append_nil] at h;rw [CJ hl hk h];exact List.prefix_refl _
 rw [← Qy r.length r (Nat.le_refl _),← Bx] at h;have:=CJ hl (λp hp=>by
  rcases List.mem_append.1 hp with hp | hp
  ·exact hk p hp
  exact CI r.length r (Nat.le_refl _) p hp) h
 rw [this];exact List.prefix_append _ _
theorem Vu(t:List (List UInt8)):fV t= []∨∃ r,fV t=47::r:=by
 cases t with
 | nil=>exact .inl rfl
 | cons a t=>exact .inr ⟨a ++ fV t,by simp [fV]⟩
theorem Jp{p:List UInt8}{ps:List (List UInt8)}(h:parts p=some ps):∀ q ∈ ps,47 ∉ q:=λq hq=>
 Ia (List.all_eq_true.1 ((iR _ _).1 h).2.1 q hq)
theorem WO(s t:BY)(hs:(bl s).length <= 1000):mG s t=some (if bl t <+:bl s then (mk ((bl s).drop (bl t).length),true) else (s,false)):=by
 unfold mG jQ jP;rw [dY s,dY t];by_cases h:(bl t).length <= (bl s).length
 ·rw [iP (by simpa using h),dJ (by omega)];simp only [bS];rw [oU,r6,List.drop_zero];by_cases c:bl t <+:bl s
  ·have e:(bl s).take (bl t).length=bl t:=(List.prefix_iff_eq_take.1 c).symm;rw [iP c,Int.toNat_natCast,decide_eq_true e,iN (by simp),dJ (by omega)];simp only [bS];rw [show s.extract (bl t).length (bl s).length=mk ((bl s).drop (bl t).length) from by apply Q7;rw [r6,iV,List.take_length]]
  have e:¬ (bl s).take (bl t).length=bl t:=λe=>c (List.prefix_iff_eq_take.2 e.symm);rw [iN c,Int.toNat_natCast,decide_eq_false e,iP (by rfl)];rfl
 rw [iN (by simpa using h),iN (λc=>h c.length_le)];rfl
theorem Fv(p q:BY):P9 p q=some (inS (bl p) (bl q)):=by
 unfold P9 P8 inS;rw [mR,mR];simp only [bS];unfold dK;cases hp:parts (bl p) with
 | none=>simp
 | some l=>
  cases hq:parts (bl q) with
  | none=>simp
  | some k=>
   obtain ⟨t,t1,t2⟩:=Vj hq;have hl:=Ag hp;rw [iN (by simp),iN (by simp),t1];simp only [bS];rw [WO p t (by omega),t2];have jp:=((iR _ _).1 hp).1;simp only [bS];by_cases c:fV k <+:bl p
   ·rw [iP c,iP (by rfl)];dsimp only;obtain ⟨rest,hr⟩:=c;rw [← hr,List.drop_left,oU,iV];by_cases e:rest= []
    ·subst e;rw [iP (by rfl)];congr 1;rw [List.append_nil] at hr;refine (List.isPrefixOf_iff_prefix.2 ?_).symm;unfold oV at jp;split at jp
     ·rw [← hr] at jp;rcases Vu k with h | ⟨r,h⟩
      ·rw [h] at jp;cases jp
      exfalso;cases k with
      | nil=>cases jp
      | cons a k=>
       have:=Dy (List.all_eq_true.1 ((iR _ _).1 hq).2.1 a (by simp));simp only [fV,List.flatMap_cons,List.cons_append] at jp;have j2:=(List.cons.inj jp).2;exact this (List.append_eq_nil_iff.1 j2).1
     rw [← hr] at jp;exact CK (Jp hp) (Jp hq) (rest:=[]) (by rw [List.append_nil];exact jp.symm) (.inl rfl)
    rw [emp,decide_eq_false e,iN (by simp)];obtain ⟨x,r,rfl⟩:=List.exists_cons_of_ne_nil e;rw [show (mk (x::r)).data.toList=x::r from rfl,show idx (x::r) 0=some x from rfl];simp only [bS];congr 1;by_cases x47:x=47
    ·subst x47;rw [show (((47:UInt8).toNat:Int) == 47)=true from rfl];refine (List.isPrefixOf_iff_prefix.2 ?_).symm;unfold oV at jp;split at jp
     ·rename_i l0;subst l0;rw [← hr] at jp;cases k with
      | nil=>exact List.nil_prefix
      | cons a k=>
       exfalso;have:=Dy (List.all_eq_true.1 ((iR _ _).1 hq).2.1 a (by simp));simp only [fV,List.flatMap_cons,List.cons_append] at jp;have j2:=(List.cons.inj jp).2;rw [List.append_assoc] at j2;exact this (List.append_eq_nil_iff.1 j2).1
     rw [← hr] at jp;exact CK (Jp hp) (Jp hq) jp.symm (.inr ⟨r,rfl⟩)
    have x2:((x.toNat:Int) == 47)=false:=by
     rw [beq_eq_false_iff_ne];intro h;exact c47 x47 (by omega)
    rw [x2];symm;rw [← Bool.not_eq_true,List.isPrefixOf_iff_prefix];rintro ⟨t',rfl⟩;unfold oV at jp;split at jp
    ·rename_i l0;rw [List.append_eq_nil_iff] at l0;rw [l0.1,show fV []= [] from rfl,List.nil_append] at hr;rw [← hr] at jp;exact x47 (List.cons.inj jp).1
    rw [Bx,← hr] at jp;have j2:=List.append_cancel_left jp;rcases Vu t' with h | ⟨r',h⟩
    ·rw [h] at j2;cases j2
    rw [h] at j2;exact x47 (List.cons.inj j2).1
   rw [iN c,iN (by simp)];congr 1;symm;rw [← Bool.not_eq_true,List.isPrefixOf_iff_prefix];rintro ⟨t',rfl⟩;apply c;unfold oV at jp;split at jp
   ·rename_i l0;rw [List.append_eq_nil_iff] at l0;rw [l0.1];exact List.nil_prefix
   rw [jp,Bx];exact List.prefix_append _ _
/-! ### what may be ranges -/
abbrev Rg:=aF
def bX(x:Rg):List UInt8:=bl x.Prefix
def rgB(x:Rg):Bool:=dK (bX x) && (decide (0 <= x.Epoch) && (decide (x.Epoch <= 281474976710656) && (decide (1 <= x.State) && decide (x.State <= 3))))
structure dW (l:List Rg):Prop where
 all:∀ x ∈ l,rgB x=true
 sort:l.Pairwise (bX · < bX ·)
 len:l.length <= 32
theorem Zp{i:Nat}(h:0 < i)(h':i <= 4611686018427387904):IntKind.i64.wrap ((i:Int) - 1)=((i - 1:Nat):Int):=by rw [w64 (by omega) (by omega)];omega
theorem Kf(l:List Rg)(hl:l.length <= 140737488351232):∃ b,qD l=some b/\(b=true ↔ dW l):=by
 unfold qD;refine zF (λk i (_:Unit)=>gO l k i) (n:=l.length) (λi _=>∀ j (h:j < l.length),j < i->rgB l[j]=true/\(0 < j->bX (l[j - 1]'(by omega)) < bX l[j])) (λb=>b=true ↔ dW l) () (qR _) (λj h hj=>by omega) ?_ ?_
 ·intro k i _ hi P ih;have bad:∀ q:¬ (rgB l[i]=true/\(0 < i->bX (l[i - 1]'(by omega)) < bX l[i])),∃ r,some false=some r/\(r=true ↔ dW l):=λq=>⟨false,rfl,λh=>by simp at h,λR=>absurd ⟨R.all _ (List.getElem_mem hi),λh0=>(Gv bX l).2 R.sort i hi h0⟩ q⟩
  unfold gO lY;rw [iP (by simpa using hi),bY hi];simp only [bS];rw [mR,show bl (l[i]).Prefix=bX l[i] from rfl];simp only [bS];cases c1:dK (bX l[i]) with
  | false=>rw [iP (by rfl),iP trivial];exact (bad (by simp [rgB,c1]))
  | true=>
   rw [iN (by simp)];by_cases c2:(l[i]).Epoch < 0
   ·rw [iP (by simpa using c2),iP trivial];exact (bad (by simp [rgB,c2];omega))
   rw [iN (by simpa using c2)];by_cases c3:(l[i]).Epoch > 281474976710656
   ·rw [iP (by simpa using c3),iP trivial];exact (bad (by simp [rgB];omega))
   rw [iN (by simpa using c3)];by_cases c4:(l[i]).State < 1
   ·rw [iP (by simpa using c4),iP trivial];exact (bad (by simp [rgB];omega))
   rw [iN (by simpa using c4)];by_cases c5:(l[i]).State > 3
   ·rw [iP (by simpa using c5),iP trivial];exact (bad (by simp [rgB];omega))
   rw [iN (by simpa using c5)];have g:rgB l[i]=true:=by simp [rgB,c1];omega
   have nx:∀ q:0 < i->bX (l[i - 1]'(by omega)) < bX l[i],∀ j (h:j < l.length),j < i+1->rgB l[j]=true/\(0 < j->bX (l[j - 1]'(by omega)) < bX l[j]):=λq j h hj=>by
    by_cases e:j=i
    ·subst e;exact ⟨g,q⟩
    exact P j h (by omega)
   by_cases h0:0 < i
   ·rw [iP (by simpa using h0),Zp h0 (by omega),bY (show i - 1 < l.length by omega)];simp only [bS];rw [Eo,show bl (l[i - 1]'(by omega)).Prefix=bX (l[i - 1]'(by omega)) from rfl,show bl (l[i]).Prefix=bX l[i] from rfl];by_cases c6:bX (l[i - 1]'(by omega)) < bX l[i]
    ·rw [decide_eq_true c6,iN (by simp),hP (by omega)];exact ih () (nx λ_=>c6)
    rw [decide_eq_false c6,iP (by rfl)];exact (bad λq=>c6 (q.2 h0))
   rw [iN (by simpa using h0),iN (by simp),hP (by omega)];exact ih () (nx λh=>absurd h h0)
 intro k _ P;unfold gO;rw [iN (by simp)];refine ⟨_,rfl,λh=>⟨λx hx=>?_,?_,by have:=of_decide_eq_true h;omega⟩,λR=>by have:=R.len;simp;omega⟩
 ·obtain ⟨j,hj,rfl⟩:=List.mem_iff_getElem.1 hx;exact (P j hj hj).1
 exact (Gv bX l).1 λj h h0=>(P j h h).2 h0
theorem xW{l:List Rg}(R:dW l):qD l=some true:=by
 obtain ⟨b,h1,h2⟩:=Kf l (by have:=R.len;omega);rw [h1,h2.2 R]
/-! ### whose is a directory -/
/-- the place of a directory's range: of all that it lies in the longest; below 0: there is none. -/
def EG(l:List Rg)(d:List UInt8)(z:Int):Prop:=(z= -1/\∀ x ∈ l,inS d (bX x)=false)∨∃ i:Nat,z=(i:Int)/\∃ hi:i < l.length,inS d (bX l[i])=true/\∀ x ∈ l,inS d (bX x)=true->(bX x).length <= (bX l[i]).length
theorem EH{l:List Rg}(R:dW l)(s:BY):∃ z,lP l s=some z/\EG l (bl s) z:=by
 have hl:=R.len;unfold lP;refine zF (λk i (z:Int)=>lD l s k z i) (n:=l.length) (λi z=>(z= -1/\∀ j (h:j < l.length),j < i->inS (bl s) (bX l[j])=false)∨∃ m:Nat,z=(m:Int)/\∃ hm:m < l.length,inS (bl s) (bX l[m])=true/\∀ j (h:j < l.length),j < i->inS (bl s) (bX l[j])=true->(bX l[j]).length <= (bX l[m]).length) (EG l (bl s)) (-1) (qR _) (.inl ⟨rfl,λj h hj=>by omega⟩) ?_ ?_
 ·intro k i z hi P ih;unfold lD yM A5;rw [iP (by simpa using hi),bY hi];simp only [bS];rw [Fv,show bl (l[i]).Prefix=bX l[i] from rfl,hP (by omega)];simp only [bS];have hit:inS (bl s) (bX l[i])=true->(∀ j (h:j < l.length),j < i->inS (bl s) (bX l[j])=true->(bX l[j]).length <= (bX l[i]).length)->∃ m:Nat,(i:Int)=(m:Int)/\∃ hm:m < l.length,inS (bl s) (bX l[m])=true/\∀ j (h:j < l.length),j < i+1->inS (bl s) (bX l[j])=true->(bX l[j]).length <= (bX l[m]).length:=λa b=>⟨i,rfl,hi,a,λj h hj c=>by
   by_cases e:j=i
   ·subst e;exact Nat.le_refl _
   exact b j h (by omega) c⟩
  cases c:inS (bl s) (bX l[i]) with
  | false=>
   rw [iN (by simp),iN (by simp)];refine ih z ?_;rcases P with ⟨rfl,P⟩ | ⟨m,rfl,hm,P1,P2⟩
   ·refine .inl ⟨rfl,λj h hj=>?_⟩;by_cases e:j=i
    ·subst e;exact c
    exact P j h (by omega)
   refine .inr ⟨m,rfl,hm,P1,λj h hj d=>?_⟩;by_cases e:j=i
   ·subst e;rw [c] at d;cases d
   exact P2 j h (by omega) d
  | true=>
   rw [iP rfl];rcases P with ⟨rfl,P⟩ | ⟨m,rfl,hm,P1,P2⟩
   ·rw [iP (by decide),iP trivial];exact ih _ (.inr (hit c λj h hj d=>by rw [P j h hj] at d;cases d))
   rw [iN (by simp),bY hm];simp only [bS];rw [dY,dY,show bl (l[i]).Prefix=bX l[i] from rfl,show bl (l[m]).Prefix=bX l[m] from rfl];by_cases g:(bX l[i]).length > (bX l[m]).length
   ·rw [iP (by simpa using g)];exact ih _ (.inr (hit c λj h hj d=>by have:=P2 j h hj d;omega))
   rw [iN (by simpa using g)];refine ih _ (.inr ⟨m,rfl,hm,P1,λj h hj d=>?_⟩);by_cases e:j=i
   ·subst e;omega
   exact P2 j h (by omega) d
 intro k z P;unfold lD;rw [iN (by simp),xW R];simp only [bS];rw [iN (by simp)];refine ⟨z,rfl,?_⟩;rcases P with ⟨rfl,P⟩ | ⟨m,rfl,hm,P1,P2⟩
 ·refine .inl ⟨rfl,λx hx=>?_⟩;obtain ⟨j,hj,rfl⟩:=List.mem_iff_getElem.1 hx;exact P j hj hj
 refine .inr ⟨m,rfl,hm,P1,λx hx d=>?_⟩;obtain ⟨j,hj,rfl⟩:=List.mem_iff_getElem.1 hx;exact P2 j hj hj d
end Go.Cb
