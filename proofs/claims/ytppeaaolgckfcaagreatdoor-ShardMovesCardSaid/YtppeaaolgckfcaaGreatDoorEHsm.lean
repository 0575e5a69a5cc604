/- Ranges, plainly: what the document says of a directory's range, and of what is in one. -/
import Derived.Test.YtppeaaolgckfcaaGreatDoorERsm
import Derived.Test.YtppeaaolgckfcaaGreatDoorKsm4
set_option linter.unusedVariables false
set_option linter.unusedSimpArgs false
namespace Go.Cb
open Go.Proofs Go.RowKit

theorem PE{α:Type}{l:List α}{i:Int}{x:α}(h:idx l i=some x):x ∈ l:=by
 unfold idx at h;split at h
 ·exact List.mem_of_getElem? h
 cases h
theorem AK{l:List Rg}(R:dW l)(s:BY)(hs:(bl s).length <= 100000000):∀ (k:Nat) (x i:Int),iK l s k x i=lD l s k x i
 | 0,_,_=>rfl
 | k+1,x,i=>by
  unfold iK lD;cases c:decide (i < (l.length:Int)) with
  | false=>rw [iN (by simp),iN (by simp),xW R];rfl
  | true=>
   rw [iP rfl,iP rfl];cases e:idx l i with
   | none=>rfl
   | some y=>
    simp only [bS];have:=Bb (Jq (R.all _ (PE e))).1;rw [VR s y.Prefix hs (by unfold bX at this;omega),Fv];simp only [bS];unfold sE vW yM A5;simp only [AK R s hs k]
theorem KN{l:List Rg}(R:dW l)(s:BY)(hs:(bl s).length <= 100000000):tC l s=some (ofZ l (bl s)):=by
 rw [← Re R];unfold tC lP;rw [LM R];simp only [bS];rw [iN (by simp),AK R s hs]
theorem LN{r:List Rg}(R:dW r)(d p:BY)(hd:(bl d).length <= 100000000){β:Type}(F:Bool->Option β):((tC r d).bind λu=>if (decide (u ≥ 0))=true then ((idx r u).bind λx=>F (sEq x.Prefix p)) else F false)=F (atP r (bl p) (bl d)):=by
 rw [KN R d hd];unfold atP;simp only [bS];rcases C7 R (bl d) with ⟨h,e⟩ | ⟨i,hi,h,e⟩
 ·rw [h,e,iN (by decide)];rfl
 rw [h,e,iP (by simp),bY hi];simp only [bS,Option.any_some];rw [oU];rfl
theorem PF(s:BY)(hp:(bl s).length <= 100000000):xV s=some (mk (upP (bl s))):=by
 unfold xV;rw [OG s hp];rfl
theorem Nb{l:List Rg}(R:dW l)(p:BY){s:Sto}(S:cV s)(hn:s.Nodes.length <= 90000)(ht:s.Turns.length <= 90000):rG s l p=some ((⟨s.Nodes.filter (inN l (bl p)),s.Turns.filter (inT l (bl p))⟩:Sto),(⟨s.Nodes.filter (λx=>!inN l (bl p) x),s.Turns.filter λx=>!inT l (bl p) x⟩:Sto)):=by
 have sm:=S.sms hn ht;obtain ⟨b,b1,b2⟩:=ED s sm;unfold rG;rw [b1,b2.2 S];simp only [bS];rw [iN (by simp),LM R];simp only [bS];unfold uQ;rw [iN (by simp)];obtain ⟨r,h1,h2⟩:=zF (λk i (u:List Nd×List Nd)=>gR s l p k i u.1 u.2) (n:=s.Nodes.length) (k:=((s.Nodes.length:Int) - 0:Int).toNat+1) (λi u=>u=((s.Nodes.take i).filter (inN l (bl p)),(s.Nodes.take i).filter λx=>!inN l (bl p) x)) (λr=>r=((⟨s.Nodes.filter (inN l (bl p)),s.Turns.filter (inT l (bl p))⟩:Sto),(⟨s.Nodes.filter (λx=>!inN l (bl p) x),s.Turns.filter λx=>!inT l (bl p) x⟩:Sto))) ([],[]) (qR _) (by simp) (by
  rintro k i _ hi rfl ih;unfold gR;have pk:=sm.sm _ (List.getElem_mem hi);rw [iP (by simpa using hi),bY hi];simp only [bS];rw [PF _ (by unfold key at pk;omega)];simp only [bS];rw [LN R _ p (by rw [iV];have:=Bb (TB (bl (s.Nodes[i]).Path));omega) (qP (gR s l p k) (i:Int) s ((s.Nodes.take i).filter (inN l (bl p))) ((s.Nodes.take i).filter λx=>!inN l (bl p) x)),iV,show atP l (bl p) (upP (bl (s.Nodes[i]).Path))=inN l (bl p) s.Nodes[i] from rfl];unfold qP uO;rw [bY hi];simp only [bS];rw [hP (by omega)];have a1:((s.Nodes.take i).filter (inN l (bl p))).length <= i:=Nat.le_trans (List.length_filter_le _ _) (by simp;omega);have a2:((s.Nodes.take i).filter (λx=>!inN l (bl p) x)).length <= i:=Nat.le_trans (List.length_filter_le _ _) (by simp;omega);cases c:inN l (bl p) s.Nodes[i] with
  | true=>
   rw [iP (by trivial),dJ (by simp only [List.length_singleton,LIM];omega)];exact ih (_,_) (by rw [lW _ hi,lW _ hi,c];simp)
  | false=>
   rw [iN (by simp),List.length_singleton,dJ (Nat.le_trans (Nat.add_le_add_right a2 1) (by simp only [LIM];omega))];exact ih (_,_) (by rw [lW _ hi,lW _ hi,c];simp)) (by
  rintro k _ rfl;unfold gR;rw [iN (by simp),List.take_length];obtain ⟨r,h1,h2⟩:=zF (λk i (u:List Tn×List Tn)=>gQ s l p (s.Nodes.filter (inN l (bl p))) (s.Nodes.filter λx=>!inN l (bl p) x) k i u.1 u.2) (n:=s.Turns.length) (k:=((s.Turns.length:Int) - 0:Int).toNat+1) (λi u=>u=((s.Turns.take i).filter (inT l (bl p)),(s.Turns.take i).filter λx=>!inT l (bl p) x)) (λr=>r=((⟨s.Nodes.filter (inN l (bl p)),s.Turns.filter (inT l (bl p))⟩:Sto),(⟨s.Nodes.filter (λx=>!inN l (bl p) x),s.Turns.filter λx=>!inT l (bl p) x⟩:Sto))) ([],[]) (qR _) (by simp) (by
   rintro k i _ hi rfl ih;unfold gQ;rw [iP (by simpa using hi),bY hi];simp only [bS];rw [LN R _ p (by have:=sm.smt _ (List.getElem_mem hi);exact this) (qQ (gQ s l p (s.Nodes.filter (inN l (bl p))) (s.Nodes.filter λx=>!inN l (bl p) x) k) (i:Int) s ((s.Turns.take i).filter (inT l (bl p))) ((s.Turns.take i).filter λx=>!inT l (bl p) x)),show atP l (bl p) (bl (s.Turns[i]).Dir)=inT l (bl p) s.Turns[i] from rfl];unfold qQ uP;rw [bY hi];simp only [bS];rw [hP (by omega)];have a1:((s.Turns.take i).filter (inT l (bl p))).length <= i:=Nat.le_trans (List.length_filter_le _ _) (by simp;omega);have a2:((s.Turns.take i).filter (λx=>!inT l (bl p) x)).length <= i:=Nat.le_trans (List.length_filter_le _ _) (by simp;omega);cases c:inT l (bl p) s.Turns[i] with
   | true=>
    rw [iP (by trivial),dJ (by simp only [List.length_singleton,LIM];omega)];exact ih (_,_) (by rw [lW _ hi,lW _ hi,c];simp)
   | false=>
    rw [iN (by simp),List.length_singleton,dJ (Nat.le_trans (Nat.add_le_add_right a2 1) (by simp only [LIM];omega))];exact ih (_,_) (by rw [lW _ hi,lW _ hi,c];simp)) (by
   rintro k _ rfl;unfold gQ;rw [iN (by simp),List.take_length];exact ⟨_,rfl,rfl⟩)
  exact ⟨r,h1,h2⟩)
 rw [h2] at h1;exact h1
end Go.Cb
