/- A shard, plainly: what is of a range that is frozen stays; frozen again it answers the same; dropped, it is gone; installed at one that keeps nothing. -/
import Derived.Test.YtppeaaolgckfcaaGreatDoorEEsm
import Derived.Test.YtppeaaolgckfcaaGreatDoorEAsm
set_option linter.unusedVariables false
set_option linter.unusedSimpArgs false
namespace Go.Cb
open Go.Proofs Go.RowKit

/-- a range of just a prefix is frozen. -/
def Frz(r:List Rg)(p:List UInt8)(e:Int):Prop:=∃ x ∈ r,bX x=p/\x.State=2/\x.Epoch=e
theorem TX{r:List Rg}(R:dW r){p:List UInt8}{e:Int}(F:Frz r p e){d:List UInt8}(h:atP r p d=true):stR r d=2:=by
 obtain ⟨x,x1,x2,x3,_⟩:=F;unfold atP at h;unfold stR;cases g:vC r d with
 | none=>rw [g] at h;cases h
 | some z=>
  rw [g] at h;have e:bX z=p:=by simpa using h
  rw [Er R.sort (C8 R g).1 x1 (e.trans x2.symm)];exact x3
theorem KP{n:Nat}{σ τ:Sh}(I:Inv n σ)(H:Rk σ){c:Cmd}{a:Ans}(sp:ER σ c a τ)(hk:c.Kind < 5){p:List UInt8}{e:Int}(F:Frz σ.r p e):τ.r=σ.r/\∀ d,atP σ.r p d=true->O3 d σ.s τ.s:=by
 have far:∀ d:List UInt8,atP σ.r p d=true->∀ l:List Pie,(∀ q ∈ l,stR σ.r (bl q.Part.Dir)=1)->∀ q ∈ l,bl q.Part.Dir ≠ d:=λd hd l hl q hq e=>by
  have:=TX I.r F hd;rw [← e,hl q hq] at this;cases this
 rcases sp with rfl | ⟨u,x',z',rfl⟩ | ⟨u,x',rfl,hm,w0,hh⟩ | ⟨_,g,w0,h',T,rfl⟩ | ⟨_,s',u,rfl,hs⟩ | ⟨k,_⟩ | ⟨k,_⟩ | ⟨k,_⟩
 ·exact ⟨rfl,λd _=>.refl _ _⟩
 ·exact ⟨rfl,λd _=>.refl _ _⟩
 ·exact ⟨rfl,λd hd=>Tu I.s hm (far d hd _ λq hq=>Ri I.r w0 _ (AM hq))⟩
 ·exact ⟨rfl,λd _=>.refl _ _⟩
 ·refine ⟨rfl,λd hd=>?_⟩;rcases hs with rfl | ⟨v,g,ov,rfl⟩
  ·exact .refl _ _
  refine Tu I.s (I.tx _ _ g).2 (far d hd _ λq hq=>?_);obtain ⟨x,hx,e1,_⟩:=H.txn _ _ g ov q hq;rw [← e1];exact H.mine x hx
 ·omega
 ·omega
 omega
theorem KQ{r:List Rg}{p:List UInt8}{s t:Sto}(S:cV s)(T:cV t)(h:∀ d,atP r p d=true->O3 d s t):s.Nodes.filter (inN r p)=t.Nodes.filter (inN r p)/\s.Turns.filter (inT r p)=t.Turns.filter (inT r p):=by
 refine ⟨Ab key (S.nsort.sublist List.filter_sublist) (T.nsort.sublist List.filter_sublist) λx=>?_,Ab cG (S.tsort.sublist List.filter_sublist) (T.tsort.sublist List.filter_sublist) λx=>?_⟩
 ·rw [List.mem_filter,List.mem_filter];constructor
  ·rintro ⟨a,b⟩;exact ⟨((h _ b).n x rfl).1 a,b⟩
  rintro ⟨a,b⟩;exact ⟨((h _ b).n x rfl).2 a,b⟩
 rw [List.mem_filter,List.mem_filter];constructor
 ·rintro ⟨a,b⟩;exact ⟨((h _ b).t x rfl).1 a,b⟩
 rintro ⟨a,b⟩;exact ⟨((h _ b).t x rfl).2 a,b⟩
theorem ES{n:Nat}{σ:Sh}(I:Inv n σ)(hn:n <= 50000){c:Cmd}(F:Frz σ.r (bl c.Prefix) c.Epoch):lT σ.s.Nodes σ.s.Turns σ.r σ.h c=some (Cg c.Epoch σ.r c.Prefix σ.s,σ.r):=by
 obtain ⟨x,x1,x2,x3,x4⟩:=F;have sn:=I.sn;have st:=I.st;unfold lT nK nJ qZ;rcases Es I.r c.Prefix with ⟨_,q⟩ | ⟨y,q1,q2,q3⟩
 ·exact absurd x2 (q x x1)
 have:y=x:=Er I.r.sort q1 x1 (q2.trans x2.symm);subst this;rw [q3];simp only [bS];rw [iN (by simpa using x3),iN (by simpa using x4),show (⟨σ.s.Nodes,σ.s.Turns⟩:Sto)=σ.s from rfl,Bd I.r c.Prefix I.s (by omega) (by omega)];simp only [x4];rfl
theorem HU{r:List Rg}(R:dW r){x:Rg}(hx:x ∈ r):r.find? (gEq bX (bX x))=some x:=by
 cases f:r.find? (gEq bX (bX x)) with
 | none=>exact absurd (decide_eq_true rfl) (List.find?_eq_none.1 f x hx)
 | some y=>
  have e:=List.find?_some f;rw [Er R.sort (List.mem_of_find?_eq_some f) hx (of_decide_eq_true e)]
theorem CT{r:List Rg}(R:dW r){p:BY}{e:Int}(F:Frz r (bl p) e):xP r p e=some (eD r ⟨p,e,3⟩,true)/\dW (eD r ⟨p,e,3⟩):=by
 obtain ⟨x,x1,x2,x3,x4⟩:=F;have f:=HU R x1;rw [x2] at f;unfold xP uD;rw [xW R];simp only [bS];rw [iN (by simp)];obtain ⟨i,h1,A⟩:=Cc r p (by have:=R.len;omega) R.sort;rw [h1];simp only [bS];rcases A.2.2 with ⟨y,_,k,f',hi,hm⟩ | ⟨_,f'⟩
 ·rw [f] at f';cases f';obtain ⟨hi,ex⟩:=List.getElem?_eq_some_iff.1 hi;have q:=Jq (R.all _ hm);rw [f,iN (by simp),bY hi,ex];simp only [bS];rw [iN (by simp [x3]),iN (by simp [x4])];rcases Mv R (⟨p,e,3⟩:Rg) (Od (by rw [← k];exact q.1) (by omega) (by omega) (by omega) (by omega)) with ⟨_,u,_⟩ | ⟨u,v⟩
  ·rw [show bX (⟨p,e,3⟩:Rg)=bl p from rfl,f] at u;cases u
  rw [u];exact ⟨rfl,v⟩
 rw [f] at f';cases f'
theorem KR{n:Nat}{σ:Sh}(I:Inv n σ)(hn:n <= 50000){c:Cmd}(F:Frz σ.r (bl c.Prefix) c.Epoch):nC σ.s.Nodes σ.s.Turns σ.r c=some (σ.s.Nodes.filter (λx=>!inN σ.r (bl c.Prefix) x),σ.s.Turns.filter (λx=>!inT σ.r (bl c.Prefix) x),eD σ.r ⟨c.Prefix,c.Epoch,3⟩):=by
 have sn:=I.sn;have st:=I.st;unfold nC pD;rw [(CT I.r F).1];simp only [bS];rw [iP (by trivial),show (⟨σ.s.Nodes,σ.s.Turns⟩:Sto)=σ.s from rfl,Bd I.r c.Prefix I.s (by omega) (by omega)];rfl
/-- one of a prefix that is there, put anew, is asked of the same directories. -/
theorem PI{r:List Rg}(R:dW r){X:Rg}(R':dW (eD r X)){x:Rg}(hx:x ∈ r)(hk:bX x=bX X)(d:List UInt8):atP (eD r X) (bX X) d=atP r (bX X) d:=by
 have to:∀ y ∈ r,∃ z ∈ eD r X,bX z=bX y:=λy hy=>by
  by_cases e:bX y=bX X
  ·exact ⟨X,VX.2 (.inl rfl),e.symm⟩
  exact ⟨y,VX.2 (.inr ⟨hy,e⟩),rfl⟩
 have fro:∀ z ∈ eD r X,∃ y ∈ r,bX y=bX z:=λz hz=>by
  rcases VX.1 hz with rfl | ⟨a,_⟩
  ·exact ⟨x,hx,hk⟩
  exact ⟨z,a,rfl⟩
 unfold atP;cases g:vC r d with
 | none=>
  cases g':vC (eD r X) d with
  | none=>rfl
  | some z=>
   obtain ⟨a,b,_⟩:=C8 R' g';obtain ⟨y,y1,y2⟩:=fro z a;have:=Vw R g y y1;rw [y2,b] at this;cases this
 | some y=>
  obtain ⟨a,b,c⟩:=C8 R g;obtain ⟨z,z1,z2⟩:=to y a;have:vC (eD r X) d=some z:=Dz R' z1 (by rw [z2];exact b) λu hu hin=>by
   obtain ⟨v,v1,v2⟩:=fro u hu;rw [z2,← v2];exact c v v1 (by rw [v2];exact hin)
  rw [this];simp only [Option.any_some];rw [z2]
/-! ### one that keeps nothing -/
theorem KS{l:List Nd}(hs:l.Pairwise (key · < key ·)):srtN l=l:=by
 have hp:=srt_perm l;have nd:(srtN l).Pairwise (λa b=>key a ≠ key b):=(hp.pairwise_iff (λh=>h.symm)).2 (hs.imp λh=>uR h);exact Ab key (((srt_sorted l).and nd).imp λh=>Ic h.1 (λe=>h.2 e.symm)) hs λx=>hp.mem_iff
theorem KT{l:List Tn}(hs:l.Pairwise (cG · < cG ·)):Tn.srtN l=l:=by
 have hp:=Tn.srt_perm l;have nd:(Tn.srtN l).Pairwise (λa b=>cG a ≠ cG b):=(hp.pairwise_iff (λh=>h.symm)).2 (hs.imp λh=>uR h);exact Ab cG (((Tn.srt_sorted l).and nd).imp λh=>Ic h.1 (λe=>h.2 e.symm)) hs λx=>hp.mem_iff
theorem rg0:dW ([]:List Rg):=⟨by simp,List.Pairwise.nil,by simp⟩
theorem AN{p:BY}{e:Int}(hp:dK (bl p)=true)(h0:0 <= e)(h1:e <= 281474976710656):mU [] p e=some ([⟨p,e,1⟩],true)/\dW [(⟨p,e,1⟩:Rg)]:=by
 unfold mU nA tK;rw [xW rg0,mR,hp];simp only [bS];rw [iN (by simp),iN (by simp),iN (by simp;omega),iN (by simp;omega)];obtain ⟨i,g1,A⟩:=Cc [] p (by simp) List.Pairwise.nil;rw [g1];simp only [bS,List.find?_nil];rw [iN (by simp),iN (by simp)];rcases Mv rg0 (⟨p,e,1⟩:Rg) (Od hp h0 h1 (by omega) (by omega)) with ⟨_,_,u⟩ | ⟨u,v⟩
 ·cases u
 rw [u];exact ⟨rfl,v⟩
theorem HV{c:Cmd}(hp:dK (bl c.Prefix)=true)(h0:0 <= c.Epoch)(h1:c.Epoch <= 281474976710656)(hg:c.Gone= [])(S:cV c.Store)(hn:c.Store.Nodes.length <= 512)(ht:c.Store.Turns.length <= 512) :
  kK [] [] [] [] c=some (okA,c.Store.Nodes.filter (inN [⟨c.Prefix,c.Epoch,1⟩] (bl c.Prefix)),c.Store.Turns.filter (inT [⟨c.Prefix,c.Epoch,1⟩] (bl c.Prefix)),[⟨c.Prefix,c.Epoch,1⟩]):=by
 obtain ⟨i1,R⟩:=AN hp h0 h1;unfold kK;rcases Es rg0 c.Prefix with ⟨f,_⟩ | ⟨x,q1,_⟩
 ·rw [f];simp only [bS];rw [iN (by simp)];unfold iC;rw [iN (by simp),i1];simp only [bS];rw [iP (by trivial),hg,show xR [(⟨c.Prefix,c.Epoch,1⟩:Rg)] []=some [(⟨c.Prefix,c.Epoch,1⟩:Rg)] from rfl];simp only [bS];unfold jU jT;rw [iN (by simp),iN (by simp),Rh R [] (by simp)];simp only [bS,List.any_nil];unfold mO;rw [iN (by simp),Vx rg0 R [] (by simp)];simp only [bS,List.any_nil];have S0:cV (⟨[],[]⟩:Sto):=⟨rfl,List.Pairwise.nil,rfl,List.Pairwise.nil⟩
  rw [iN (by simp),Bd R c.Prefix S0 (by simp) (by simp)];simp only [bS];unfold pW;rw [Bd R c.Prefix S (by omega) (by omega)];simp only [bS];have n2:=List.length_filter_le (inN [(⟨c.Prefix,c.Epoch,1⟩:Rg)] (bl c.Prefix)) c.Store.Nodes;have n4:=List.length_filter_le (inT [(⟨c.Prefix,c.Epoch,1⟩:Rg)] (bl c.Prefix)) c.Store.Turns;rw [dJ (by simp only [List.filter_nil,List.length_nil,LIM];omega),dJ (by simp only [List.filter_nil,List.length_nil,LIM];omega),dJ (by rw [List.length_append];simp only [List.filter_nil,List.length_nil];omega),dJ (by rw [List.length_append];simp only [List.filter_nil,List.length_nil];omega)];rw [List.filter_nil,List.filter_nil,List.nil_append,List.nil_append,KS (S.nsort.sublist List.filter_sublist),KT (S.tsort.sublist List.filter_sublist)]
 cases q1
end Go.Cb
