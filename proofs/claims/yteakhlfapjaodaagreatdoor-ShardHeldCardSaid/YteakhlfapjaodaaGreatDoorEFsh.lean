/- ShardHeld, plainly: what is prepared stays as it is till it is finished. -/
import Derived.Test.YteakhlfapjaodaaGreatDoorEEsh
import Derived.Test.YteakhlfapjaodaaGreatDoorEAsh
import Derived.Test.YteakhlfapjaodaaGreatDoorKsh4
set_option linter.unusedVariables false
set_option linter.unusedSimpArgs false
namespace Go.Cb
open Go.Proofs Go.RowKit

/-! ### directories of pieces, by the document -/
theorem NR(l:List BY)(s:BY)(hl:l.length <= 1000000):∃ r,wT l s=some r/\r.length <= l.length+1/\∀ d ∈ r,d ∈ l∨d=s:=by
 unfold wT;refine vT (λk i (z:List BY×Bool)=>eH l s k z.1 z.2 i) (n:=l.length) (λi z=>z.1.length <= i+(if z.2=true then 1 else 0)/\∀ d ∈ z.1,d ∈ l∨d=s) (λr=>r.length <= l.length+1/\∀ d ∈ r,d ∈ l∨d=s) ([],false) (nM _) ⟨by simp,by simp⟩ ?_ ?_
 ·rintro k i ⟨z,b⟩ hi ⟨P1,P2⟩ ih;simp only at P1 P2;have hm:=List.getElem_mem hi;have j2:∀ (y:List BY) (c:Bool),y.length <= i+(if c=true then 1 else 0)->(∀ d ∈ y,d ∈ l∨d=s)->∃ r,oL (eH l s k) (i:Int) l s y c=some r/\r.length <= l.length+1/\∀ d ∈ r,d ∈ l∨d=s:=λy c h1 h2=>by
   have h3:y.length <= i+1:=by split at h1 <;> omega
   unfold oL sY;rw [bU hi];simp only [bS];rw [gV (by omega)];split
   ·rw [dJ (by simp only [List.length_singleton,LIM];omega)];refine ih (_,_) ⟨?_,λd hd=>?_⟩
    ·simp only [List.length_append,List.length_singleton];omega
    rcases List.mem_append.1 hd with h | h
    ·exact h2 d h
    rw [List.mem_singleton.1 h];exact .inl hm
   exact ih (_,_) ⟨by simp only;omega,h2⟩
  have h3:z.length <= i+1:=by split at P1 <;> omega
  have j3:∀ q:Bool,(q=true->b=false)->∃ r,oM (eH l s k) (i:Int) l s z b q=some r/\r.length <= l.length+1/\∀ d ∈ r,d ∈ l∨d=s:=λq hq=>by
   unfold oM;cases q with
   | true=>
    have hb:=hq rfl;subst hb;rw [iP (by trivial),dJ (by simp only [List.length_singleton,LIM];omega)];refine j2 _ true ?_ λd hd=>?_
    ·simp only [List.length_append,List.length_singleton,if_true];simp at P1;omega
    rcases List.mem_append.1 hd with h | h
    ·exact P2 d h
    exact .inr (List.mem_singleton.1 h)
   | false=>rw [iN (by simp)];exact j2 z b P1 P2
  unfold eH;rw [iP (by simpa using hi)];cases b with
  | false=>
   rw [iP (by rfl),bU hi];exact j3 _ λ_=>rfl
  | true=>
   rw [iN (by simp)];exact j3 false λh=>by cases h
 rintro k ⟨z,b⟩ ⟨P1,P2⟩;simp only at P1 P2;unfold eH sZ;simp only;rw [iN (by simp)];cases b with
 | false=>
  simp at P1;rw [iP (by rfl),dJ (by simp only [List.length_singleton,LIM];omega)];refine ⟨_,rfl,by simp;omega,λd hd=>?_⟩;rcases List.mem_append.1 hd with h | h
  ·exact P2 d h
  exact .inr (List.mem_singleton.1 h)
 | true=>rw [iN (by simp)];simp at P1;exact ⟨_,rfl,by omega,P2⟩
theorem GU(l:List Pie)(hl:l.length <= 1000):∃ r,wU l=some r/\r.length <= l.length/\∀ d ∈ r,∃ p ∈ l,p.Part.Dir=d:=by
 unfold wU;refine vT (λk i (z:List BY)=>lY l k z i) (n:=l.length) (λi z=>z.length <= i/\∀ d ∈ z,∃ p ∈ l,p.Part.Dir=d) (λr=>r.length <= l.length/\∀ d ∈ r,∃ p ∈ l,p.Part.Dir=d) [] (nM _) ⟨by simp,by simp⟩ ?_ ?_
 ·rintro k i z hi ⟨P1,P2⟩ ih;unfold lY;rw [iP (by simpa using hi),bU hi];simp only [bS];obtain ⟨r,r1,r2,r3⟩:=NR z (l[i]).Part.Dir (by omega);rw [r1];simp only [bS];rw [gV (by omega)];refine ih r ⟨by omega,λd hd=>?_⟩;rcases r3 d hd with h | rfl
  ·exact P2 d h
  exact ⟨_,List.getElem_mem hi,rfl⟩
 rintro k z ⟨P1,P2⟩;unfold lY;rw [iN (by simp)];exact ⟨_,rfl,P1,P2⟩
/-! ### what is of a directory -/
def V6(l:List Tn)(n:Int):Int:=l.foldl (λ_ t=>t.Next) n
theorem Vb(s:Sto)(d:BY)(S:cI s)(hn:s.Nodes.length <= 100000)(ht:s.Turns.length <= 100000):sW s d=some (s.Nodes.filter (hmB (bl d)),V6 (s.Turns.filter (tdB (bl d))) 0):=by
 unfold sW;have l2:∀ out:List Nd,∃ r,gL s d out (((s.Turns.length:Int) - 0:Int).toNat+1) 0 0=some r/\r=(out,V6 (s.Turns.filter (tdB (bl d))) 0):=λout=>by
  refine vT (λk i (n:Int)=>gL s d out k n i) (n:=s.Turns.length) (λi n=>n=V6 ((s.Turns.take i).filter (tdB (bl d))) 0) (λr=>r=(out,V6 (s.Turns.filter (tdB (bl d))) 0)) 0 (nM _) (by simp [V6]) ?_ ?_
  ·rintro k i n hi rfl ih;unfold gL sV;rw [iP (by simpa using hi),bU hi];simp only [bS];rw [nY,show bl (s.Turns[i]).Dir=cX s.Turns[i] from rfl,gV (by omega)];by_cases e:cX s.Turns[i]=bl d
   ·rw [iP (decide_eq_true e)];refine ih _ ?_;rw [pI _ hi,iP (show tdB (bl d) s.Turns[i]=true from decide_eq_true e)];simp [V6]
   rw [iN (by simpa using e)];refine ih _ ?_;rw [pI _ hi,iN (show ¬ tdB (bl d) s.Turns[i]=true from λh=>e (of_decide_eq_true h)),List.append_nil]
  rintro k n rfl;unfold gL;rw [iN (by simp),List.take_length];exact ⟨_,rfl,rfl⟩
 obtain ⟨r,h,rfl⟩:=vT (λk i (z:List Nd)=>hJ s d k z i) (n:=s.Nodes.length) (k:=((s.Nodes.length:Int) - 0:Int).toNat+1) (λi z=>z=(s.Nodes.take i).filter (hmB (bl d))) (λr=>r=(s.Nodes.filter (hmB (bl d)),V6 (s.Turns.filter (tdB (bl d))) 0)) [] (nM _) (by simp) (by
  rintro k i z hi rfl ih;have pk:eR (key s.Nodes[i])=true:=by
   have:=List.all_eq_true.1 S.nodes _ (List.getElem_mem hi);simp only [pnB,yM,Bool.and_eq_true] at this;exact this.2.1.1.1
  unfold hJ sU r9;rw [iP (by simpa using hi),bU hi];simp only [bS];rw [MT _ (by have:=DA pk;show (key s.Nodes[i]).length <= 100000000;omega)];simp only [bS];rw [nY,jP,show bl (s.Nodes[i]).Path=key s.Nodes[i] from rfl,gV (by omega)];have fl:((s.Nodes.take i).filter (hmB (bl d))).length <= i:=Nat.le_trans (List.length_filter_le _ _) (by simp;omega);by_cases e:upP (key s.Nodes[i])=bl d
  ·rw [iP (decide_eq_true e),dJ (by simp only [List.length_singleton,LIM];omega)];refine ih _ ?_;rw [pI _ hi,iP (show hmB (bl d) s.Nodes[i]=true from decide_eq_true e)]
  ·rw [iN (by simpa using e)];refine ih _ ?_;rw [pI _ hi,iN (show ¬ hmB (bl d) s.Nodes[i]=true from λh=>e (of_decide_eq_true h)),List.append_nil]) (by
  rintro k z rfl;unfold hJ;rw [iN (by simp),List.take_length];obtain ⟨r,a,b⟩:=l2 (s.Nodes.filter (hmB (bl d)));exact ⟨r,a,b⟩)
 exact h
theorem JO{s t:Sto}(S:cI s)(T:cI t)(h1:s.Nodes.length <= 100000)(h2:s.Turns.length <= 100000)(h3:t.Nodes.length <= 100000)(h4:t.Turns.length <= 100000)(ds:List BY)(hd:ds.length <= 1000)(h:∀ d ∈ ds,rX (bl d) s t):wQ s t ds=some true:=by
 unfold wQ;obtain ⟨r,q,rfl⟩:=vT (λk i (_:Unit)=>hP ds s t k i) (n:=ds.length) (k:=((ds.length:Int) - 0:Int).toNat+1) (λ_ _=>True) (λr=>r=true) () (nM _) trivial (by
  intro k i _ hi _ ih;have hm:=h _ (List.getElem_mem hi);unfold hP sX;rw [iP (by simpa using hi),bU hi];simp only [bS];rw [Vb s _ S h1 h2];simp only [bS];rw [Vb t _ T h3 h4];simp only [bS];rw [hm.nodes S T,hm.turns S T,BA _ _ (Nat.le_trans (List.length_filter_le _ _) (by omega))];simp only [bS,decide_true];rw [iN (by simp),iN (by simp),gV (by omega)];exact ih () trivial) (by
  intro k _ _;unfold hP;rw [iN (by simp)];exact ⟨true,rfl,rfl⟩)
 exact q
end Go.Cb
