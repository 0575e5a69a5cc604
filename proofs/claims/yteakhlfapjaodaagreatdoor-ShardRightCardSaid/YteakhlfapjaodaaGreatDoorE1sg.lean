/- Ranges, plainly: does a path lie in another one; what may be ranges. -/
import Derived.Test.YteakhlfapjaodaaGreatDoorE0sg
import Derived.Test.YteakhlfapjaodaaGreatDoorKsg2
set_option linter.unusedVariables false
set_option linter.unusedSimpArgs false
namespace Go.Cb
open Go.Proofs Go.RowKit

/-! ### does a path lie in another one -/
theorem Xt:∀ (n:Nat) (r:List UInt8),r.length <= n->∀ p ∈ iC r,47 ∉ p
 | 0,r,h,p,hp=>by
  obtain rfl:r= []:=List.eq_nil_of_length_eq_zero (by omega);rw [show iC []= [[]] from by unfold iC;rfl] at hp;rw [List.mem_singleton.1 hp];simp
 | n+1,r,h,p,hp=>by
  rcases Mr r with h1 | ⟨a,b,rfl,ha⟩
  ·rw [w7 r h1] at hp;rw [List.mem_singleton.1 hp];exact h1
  rw [O4 a b ha] at hp;rcases List.mem_cons.1 hp with rfl | hp
  ·exact ha
  exact Xt n b (by simp at h;omega) p hp
theorem Xu{l k:List (List UInt8)}(hl:∀ p ∈ l,47 ∉ p)(hk:∀ p ∈ k,47 ∉ p)(h:fZ l=fZ k):l=k:=by
 have a:=Ff [] l (by simp) hl;have b:=Ff [] k (by simp) hk;rw [List.nil_append] at a b;rw [h,b] at a;exact (List.cons.inj a).2.symm
theorem Xv{l k:List (List UInt8)}(hl:∀ p ∈ l,47 ∉ p)(hk:∀ p ∈ k,47 ∉ p){rest:List UInt8}(h:fZ l=fZ k ++ rest)(hr:rest= []∨∃ r,rest=47::r):k <+:l:=by
 rcases hr with rfl | ⟨r,rfl⟩
 ·rw [List.append_nil] at h;rw [Xu hl hk h];exact List.prefix_refl _
 rw [← Ms r.length r (Nat.le_refl _),← V5] at h;have:=Xu hl (λp hp=>by
  rcases List.mem_append.1 hp with hp | hp
  ·exact hk p hp
  exact Xt r.length r (Nat.le_refl _) p hp) h
 rw [this];exact List.prefix_append _ _
theorem Rn(t:List (List UInt8)):fZ t= []∨∃ r,fZ t=47::r:=by
 cases t with
 | nil=>exact .inl rfl
 | cons a t=>exact .inr ⟨a ++ fZ t,by simp [fZ]⟩
theorem Fl{p:List UInt8}{ps:List (List UInt8)}(h:parts p=some ps):∀ q ∈ ps,47 ∉ q:=λq hq=>
 Ec (List.all_eq_true.1 ((kY _ _).1 h).2.1 q hq)
theorem QK(s t:BY)(hs:(bl s).length <= 1000):lJ s t=some (if bl t <+:bl s then (mk ((bl s).drop (bl t).length),true) else (s,false)):=by
 unfold lJ jA iZ;rw [eC s,eC t];by_cases h:(bl t).length <= (bl s).length
 ·rw [iP (by simpa using h),dK (by omega)];simp only [bS];rw [qG,yK,List.drop_zero];by_cases c:bl t <+:bl s
  ·have e:(bl s).take (bl t).length=bl t:=(List.prefix_iff_eq_take.1 c).symm;rw [iP c,Int.toNat_natCast,decide_eq_true e,iN (by simp),dK (by omega)];simp only [bS];rw [show s.extract (bl t).length (bl s).length=mk ((bl s).drop (bl t).length) from by apply I4;rw [yK,lG,List.take_length]]
  have e:¬ (bl s).take (bl t).length=bl t:=λe=>c (List.prefix_iff_eq_take.2 e.symm);rw [iN c,Int.toNat_natCast,decide_eq_false e,iP (by rfl)];rfl
 rw [iN (by simpa using h),iN (λc=>h c.length_le)];rfl
theorem Iu(p q:BY):G8 p q=some (inS (bl p) (bl q)):=by
 unfold G8 G7 inS;rw [mZ,mZ];simp only [bS];unfold eJ;cases hp:parts (bl p) with
 | none=>simp
 | some l=>
  cases hq:parts (bl q) with
  | none=>simp
  | some k=>
   obtain ⟨t,t1,t2⟩:=Qz hq;have hl:=O7 hp;rw [iN (by simp),iN (by simp),t1];simp only [bS];rw [QK p t (by omega),t2];have jp:=((kY _ _).1 hp).1;simp only [bS];by_cases c:fZ k <+:bl p
   ·rw [iP c,iP (by rfl)];dsimp only;obtain ⟨rest,hr⟩:=c;rw [← hr,List.drop_left,qG,lG];by_cases e:rest= []
    ·subst e;rw [iP (by rfl)];congr 1;rw [List.append_nil] at hr;refine (List.isPrefixOf_iff_prefix.2 ?_).symm;unfold pT at jp;split at jp
     ·rw [← hr] at jp;rcases Rn k with h | ⟨r,h⟩
      ·rw [h] at jp;cases jp
      exfalso;cases k with
      | nil=>cases jp
      | cons a k=>
       have:=Ao (List.all_eq_true.1 ((kY _ _).1 hq).2.1 a (by simp));simp only [fZ,List.flatMap_cons,List.cons_append] at jp;have j2:=(List.cons.inj jp).2;exact this (List.append_eq_nil_iff.1 j2).1
     rw [← hr] at jp;exact Xv (Fl hp) (Fl hq) (rest:=[]) (by rw [List.append_nil];exact jp.symm) (.inl rfl)
    rw [emp,decide_eq_false e,iN (by simp)];obtain ⟨x,r,rfl⟩:=List.exists_cons_of_ne_nil e;rw [show (mk (x::r)).data.toList=x::r from rfl,show idx (x::r) 0=some x from rfl];simp only [bS];congr 1;by_cases x47:x=47
    ·subst x47;rw [show (((47:UInt8).toNat:Int) == 47)=true from rfl];refine (List.isPrefixOf_iff_prefix.2 ?_).symm;unfold pT at jp;split at jp
     ·rename_i l0;subst l0;rw [← hr] at jp;cases k with
      | nil=>exact List.nil_prefix
      | cons a k=>
       exfalso;have:=Ao (List.all_eq_true.1 ((kY _ _).1 hq).2.1 a (by simp));simp only [fZ,List.flatMap_cons,List.cons_append] at jp;have j2:=(List.cons.inj jp).2;rw [List.append_assoc] at j2;exact this (List.append_eq_nil_iff.1 j2).1
     rw [← hr] at jp;exact Xv (Fl hp) (Fl hq) jp.symm (.inr ⟨r,rfl⟩)
    have x2:((x.toNat:Int) == 47)=false:=by
     rw [beq_eq_false_iff_ne];intro h;exact c47 x47 (by omega)
    rw [x2];symm;rw [← Bool.not_eq_true,List.isPrefixOf_iff_prefix];rintro ⟨t',rfl⟩;unfold pT at jp;split at jp
    ·rename_i l0;rw [List.append_eq_nil_iff] at l0;rw [l0.1,show fZ []= [] from rfl,List.nil_append] at hr;rw [← hr] at jp;exact x47 (List.cons.inj jp).1
    rw [V5,← hr] at jp;have j2:=List.append_cancel_left jp;rcases Rn t' with h | ⟨r',h⟩
    ·rw [h] at j2;cases j2
    rw [h] at j2;exact x47 (List.cons.inj j2).1
   rw [iN c,iN (by simp)];congr 1;symm;rw [← Bool.not_eq_true,List.isPrefixOf_iff_prefix];rintro ⟨t',rfl⟩;apply c;unfold pT at jp;split at jp
   ·rename_i l0;rw [List.append_eq_nil_iff] at l0;rw [l0.1];exact List.nil_prefix
   rw [jp,V5];exact List.prefix_append _ _
/-! ### what may be ranges -/
abbrev Rg:=aF
def bW(x:Rg):List UInt8:=bl x.Prefix
def rgB(x:Rg):Bool:=eJ (bW x) && (decide (0 <= x.Epoch) && (decide (x.Epoch <= 281474976710656) && (decide (1 <= x.State) && decide (x.State <= 3))))
structure fK (l:List Rg):Prop where
 all:∀ x ∈ l,rgB x=true
 sort:l.Pairwise (bW · < bW ·)
 len:l.length <= 32
theorem Mx{i:Nat}(h:0 < i)(h':i <= 4611686018427387904):IntKind.i64.wrap ((i:Int) - 1)=((i - 1:Nat):Int):=by rw [w64 (by omega) (by omega)];omega
theorem Gd(l:List Rg)(hl:l.length <= 140737488351232):∃ b,pE l=some b/\(b=true ↔ fK l):=by
 unfold pE;refine sH (λk i (_:Unit)=>gJ l k i) (n:=l.length) (λi _=>∀ j (h:j < l.length),j < i->rgB l[j]=true/\(0 < j->bW (l[j - 1]'(by omega)) < bW l[j])) (λb=>b=true ↔ fK l) () (lH _) (λj h hj=>by omega) ?_ ?_
 ·intro k i _ hi P ih;have bad:∀ q:¬ (rgB l[i]=true/\(0 < i->bW (l[i - 1]'(by omega)) < bW l[i])),∃ r,some false=some r/\(r=true ↔ fK l):=λq=>⟨false,rfl,λh=>by simp at h,λR=>absurd ⟨R.all _ (List.getElem_mem hi),λh0=>(Da bW l).2 R.sort i hi h0⟩ q⟩
  unfold gJ lB;rw [iP (by simpa using hi),bT hi];simp only [bS];rw [mZ,show bl (l[i]).Prefix=bW l[i] from rfl];simp only [bS];cases c1:eJ (bW l[i]) with
  | false=>rw [iP (by rfl),iP trivial];exact (bad (by simp [rgB,c1]))
  | true=>
   rw [iN (by simp)];by_cases c2:(l[i]).Epoch < 0
   ·rw [iP (by simpa using c2),iP trivial];exact (bad (by simp [rgB,c2];omega))
   rw [iN (by simpa using c2)];by_cases c3:(l[i]).Epoch > 281474976710656
   ·rw [iP (by simpa using c3),iP trivial];exact (bad (by simp [rgB];omega))
   rw [iN (by simpa using c3)];by_cases c4:(l[i]).State < 1
   ·rw [iP (by simpa using c4),iP trivial];exact (bad (by simp [rgB];omega))
   rw [iN (by simpa using c4)];by_cases c5:(l[i]).State > 3
   ·rw [iP (by simpa using c5),iP trivial];exact (bad (by simp [rgB];omega))
   rw [iN (by simpa using c5)];have g:rgB l[i]=true:=by simp [rgB,c1];omega
   have nx:∀ q:0 < i->bW (l[i - 1]'(by omega)) < bW l[i],∀ j (h:j < l.length),j < i+1->rgB l[j]=true/\(0 < j->bW (l[j - 1]'(by omega)) < bW l[j]):=λq j h hj=>by
    by_cases e:j=i
    ·subst e;exact ⟨g,q⟩
    exact P j h (by omega)
   by_cases h0:0 < i
   ·rw [iP (by simpa using h0),Mx h0 (by omega),bT (show i - 1 < l.length by omega)];simp only [bS];rw [Z4,show bl (l[i - 1]'(by omega)).Prefix=bW (l[i - 1]'(by omega)) from rfl,show bl (l[i]).Prefix=bW l[i] from rfl];by_cases c6:bW (l[i - 1]'(by omega)) < bW l[i]
    ·rw [decide_eq_true c6,iN (by simp),gL (by omega)];exact ih () (nx λ_=>c6)
    rw [decide_eq_false c6,iP (by rfl)];exact (bad λq=>c6 (q.2 h0))
   rw [iN (by simpa using h0),iN (by simp),gL (by omega)];exact ih () (nx λh=>absurd h h0)
 intro k _ P;unfold gJ;rw [iN (by simp)];refine ⟨_,rfl,λh=>⟨λx hx=>?_,?_,by have:=of_decide_eq_true h;omega⟩,λR=>by have:=R.len;simp;omega⟩
 ·obtain ⟨j,hj,rfl⟩:=List.mem_iff_getElem.1 hx;exact (P j hj hj).1
 exact (Da bW l).1 λj h h0=>(P j h h).2 h0
theorem R3{l:List Rg}(R:fK l):pE l=some true:=by
 obtain ⟨b,h1,h2⟩:=Gd l (by have:=R.len;omega);rw [h1,h2.2 R]
/-! ### whose is a directory -/
/-- the place of a directory's range: of all that it lies in the longest; below 0: there is none. -/
def Zi(l:List Rg)(d:List UInt8)(z:Int):Prop:=(z= -1/\∀ x ∈ l,inS d (bW x)=false)∨∃ i:Nat,z=(i:Int)/\∃ hi:i < l.length,inS d (bW l[i])=true/\∀ x ∈ l,inS d (bW x)=true->(bW x).length <= (bW l[i]).length
theorem Zj{l:List Rg}(R:fK l)(s:BY):∃ z,mR l s=some z/\Zi l (bl s) z:=by
 have hl:=R.len;unfold mR;refine sH (λk i (z:Int)=>mW l s k z i) (n:=l.length) (λi z=>(z= -1/\∀ j (h:j < l.length),j < i->inS (bl s) (bW l[j])=false)∨∃ m:Nat,z=(m:Int)/\∃ hm:m < l.length,inS (bl s) (bW l[m])=true/\∀ j (h:j < l.length),j < i->inS (bl s) (bW l[j])=true->(bW l[j]).length <= (bW l[m]).length) (Zi l (bl s)) (-1) (lH _) (.inl ⟨rfl,λj h hj=>by omega⟩) ?_ ?_
 ·intro k i z hi P ih;unfold mW yW B9;rw [iP (by simpa using hi),bT hi];simp only [bS];rw [Iu,show bl (l[i]).Prefix=bW l[i] from rfl,gL (by omega)];simp only [bS];have hit:inS (bl s) (bW l[i])=true->(∀ j (h:j < l.length),j < i->inS (bl s) (bW l[j])=true->(bW l[j]).length <= (bW l[i]).length)->∃ m:Nat,(i:Int)=(m:Int)/\∃ hm:m < l.length,inS (bl s) (bW l[m])=true/\∀ j (h:j < l.length),j < i+1->inS (bl s) (bW l[j])=true->(bW l[j]).length <= (bW l[m]).length:=λa b=>⟨i,rfl,hi,a,λj h hj c=>by
   by_cases e:j=i
   ·subst e;exact Nat.le_refl _
   exact b j h (by omega) c⟩
  cases c:inS (bl s) (bW l[i]) with
  | false=>
   rw [iN (by simp),iN (by simp)];refine ih z ?_;rcases P with ⟨rfl,P⟩ | ⟨m,rfl,hm,P1,P2⟩
   ·refine .inl ⟨rfl,λj h hj=>?_⟩;by_cases e:j=i
    ·subst e;exact c
    exact P j h (by omega)
   refine .inr ⟨m,rfl,hm,P1,λj h hj d=>?_⟩;by_cases e:j=i
   ·subst e;rw [c] at d;cases d
   exact P2 j h (by omega) d
  | true=>
   rw [iP rfl];rcases P with ⟨rfl,P⟩ | ⟨m,rfl,hm,P1,P2⟩
   ·rw [iP (by decide),iP trivial];exact ih _ (.inr (hit c λj h hj d=>by rw [P j h hj] at d;cases d))
   rw [iN (by simp),bT hm];simp only [bS];rw [eC,eC,show bl (l[i]).Prefix=bW l[i] from rfl,show bl (l[m]).Prefix=bW l[m] from rfl];by_cases g:(bW l[i]).length > (bW l[m]).length
   ·rw [iP (by simpa using g)];exact ih _ (.inr (hit c λj h hj d=>by have:=P2 j h hj d;omega))
   rw [iN (by simpa using g)];refine ih _ (.inr ⟨m,rfl,hm,P1,λj h hj d=>?_⟩);by_cases e:j=i
   ·subst e;omega
   exact P2 j h (by omega) d
 intro k z P;unfold mW;rw [iN (by simp),R3 R];simp only [bS];rw [iN (by simp)];refine ⟨z,rfl,?_⟩;rcases P with ⟨rfl,P⟩ | ⟨m,rfl,hm,P1,P2⟩
 ·refine .inl ⟨rfl,λx hx=>?_⟩;obtain ⟨j,hj,rfl⟩:=List.mem_iff_getElem.1 hx;exact P j hj hj
 refine .inr ⟨m,rfl,hm,P1,λx hx d=>?_⟩;obtain ⟨j,hj,rfl⟩:=List.mem_iff_getElem.1 hx;exact P2 j hj hj d
end Go.Cb
