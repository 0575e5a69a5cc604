/- ShardMoves, plainly: what is frozen, installed elsewhere and dropped is there what it was here, and gone here. -/
import Derived.Test.YtppeaaolgckfcaaGreatDoorEHsm
import Derived.Test.YtppeaaolgckfcaaGreatDoorEIsm
import Derived.Test.YtppeaaolgckfcaaGreatDoorKsm5
set_option linter.unusedVariables false
set_option linter.unusedSimpArgs false
namespace Go.Cb
open Go.Proofs Go.RowKit

abbrev em0:Sto:=⟨[],[]⟩
abbrev r7 (kind:Int) (p:BY) (e:Int) (S:Sto):Cmd:=⟨kind,0,0,0,false,[],p,e,0,S,[],(⟨0,0,(ByteArray.mk #[]),false⟩:aR)⟩
theorem TY:cV em0:=⟨rfl,List.Pairwise.nil,rfl,List.Pairwise.nil⟩
theorem HW{kind e:Int}{p:BY}{S:Sto}(h1:1 <= kind)(h2:kind <= 13)(he:rH e=true)(hp:W1 p=true)(hS:cV S)(hn:S.Nodes.length <= 512)(ht:S.Turns.length <= 512):fE (r7 kind p e S)=some true:=by
 unfold fE;rw [show gW (r7 kind p e S) ((((r7 kind p e S).Pieces.length:Int) - 0:Int).toNat+1) 0 0=_ from Rd (r7 kind p e S) (by simp) _ 0 0 (by omega) (by omega)];rw [List.drop_zero,iP (by rfl)];unfold fL;rw [iN (by simp),iP (decide_eq_true h1),iP (decide_eq_true h2),iP (by rfl),iP (by rfl)];unfold fK jG;rw [iP (by rfl),Mu _ (by simp),Ce,Ce];have e1:([0,0,0,e,0,0]:List Int).all rH=true:=by simp [show rH 0=true from rfl,he]
 obtain ⟨u,u1,u2⟩:=H9 S (by omega) (by omega);rw [u2.2 hS] at u1;simp only [bS];rw [iP e1,iP hp,iP (by rfl),iP (by rfl),u1];simp only [bS];rw [iP (by trivial),iP (by simp;omega)];simp;omega
section
variable (a:List Nd) (b:List Tn) (r:List Rg) (d:List Hd) (f:List Wat) (g:List Ses) (x:List (Int×Ans)) (y:List (Int×Txn)) (z:List (Int×Ans)) {c:Cmd}
theorem do5(hr:fE c=some true)(k:c.Kind=5)(hp:bl c.Prefix ≠ []):cD a b r d f g x y z c=(lT a b r d c).bind λu=>some (u.1,a,b,u.2,d,f,g,x,y,z):=by
 rw [Ih _ _ _ _ _ _ _ _ _ hr (by omega),decide_eq_false hp,Bool.and_false];unfold hB;rw [iN (by simp),iN (by simp [k]),iN (by simp [k]),iN (by simp [k]),iP (by simpa using k)]
theorem do6(hr:fE c=some true)(k:c.Kind=6)(hp:bl c.Prefix ≠ []):cD a b r d f g x y z c=(kK a b r d c).bind λu=>some (u.1,u.2.1,u.2.2.1,u.2.2.2,d,f,g,x,y,z):=by
 rw [Ih _ _ _ _ _ _ _ _ _ hr (by omega),decide_eq_false hp,Bool.and_false];unfold hB;rw [iN (by simp),iN (by simp [k]),iN (by simp [k]),iN (by simp [k]),iN (by simp [k]),iP (by simpa using k)]
theorem do7(hr:fE c=some true)(k:c.Kind=7)(hp:bl c.Prefix ≠ []):cD a b r d f g x y z c=(nC a b r c).bind λu=>some (okA,u.1,u.2.1,u.2.2,d,f,g,x,y,z):=by
 rw [Ih _ _ _ _ _ _ _ _ _ hr (by omega),decide_eq_false hp,Bool.and_false];unfold hB;rw [iN (by simp),iN (by simp [k]),iN (by simp [k]),iN (by simp [k]),iN (by simp [k]),iN (by simp [k]),iP (by simpa using k)]
end
theorem PJ{p:BY}(h:dK (bl p)=true):bl p ≠ []:=λe=>by rw [e] at h;cases h
theorem PK{p:BY}(h:dK (bl p)=true):W1 p=true:=by unfold W1;rw [h];simp
theorem Eu{r:List Rg}(R:dW r):fG r=some r:=by
 have:=R.len;unfold fG;rw [dJ (by simp only [LIM];omega)]
theorem WR:sR em0 []=some (some ([],[],[])):=by
 unfold sR zM;rw [Zo];simp only [bS];rw [iN (by simp),xW rg0];rfl
theorem ET{p:BY}{e:Int}{s0:Sto}(S:cV s0)(hp:dK (bl p)=true)(he:0 <= e)(he':e < 281474976710656){m:Nat}{τ:Sh}(I:Inv m τ)(hm:m <= 49000)(F:Frz τ.r (bl p) e)
  (c1:s0.Nodes.filter (inN τ.r (bl p))=τ.s.Nodes.filter (inN τ.r (bl p))) (c2:s0.Turns.filter (inT τ.r (bl p))=τ.s.Turns.filter (inT τ.r (bl p))) (hn0:s0.Nodes.length <= 90000) (ht0:s0.Turns.length <= 90000)
  (l1:(s0.Nodes.filter (inN τ.r (bl p))).length <= 512) (l2:(s0.Turns.filter (inT τ.r (bl p))).length <= 512) (w:List Nd×List Tn×List Rg×List Hd×List Wat×List Ses×List (Int×Ans)×List (Int×Txn)×List (Int×Ans)) (k:Nat) (i:Int) (cmds:List Cmd) (hi:¬ i < cmds.length) :
  eO true p (Cg e τ.r p s0,w) cmds e s0 (k+1) i τ.s.Nodes τ.s.Turns τ.r τ.h τ.w.Watches τ.w.Sessions τ.x τ.y τ.z=some true:=by
 have sn:=I.sn;have st:=I.st;have ne:=PJ hp;have eB:=PK hp;have nB:rH e=true:=HD he (by omega);have nB':rH (e+1)=true:=HD (by omega) (by omega);have fr:∀ k:Int,1 <= k->k <= 13->fE (r7 k p e em0)=some true:=λk h h'=>HW h h' nB eB TY (by simp) (by simp);have ab:Cg e τ.r p τ.s=Cg e τ.r p s0:=by show (⟨0,0,false,e,[],(⟨_,_⟩:Sto),[],[],[]⟩:Ans)=_;rw [← c1,← c2]
 have SA:cV (⟨s0.Nodes.filter (inN τ.r (bl p)),s0.Turns.filter (inT τ.r (bl p))⟩:Sto):=cV.filt S _ _;obtain ⟨i1,RR⟩:=AN (p:=p) (e:=e+1) hp (by omega) (by omega);unfold eO;rw [iN (by simpa using hi),show (⟨5,0,0,0,false,[],p,e,0,(⟨[],[]⟩:aG),[],(⟨0,0,(ByteArray.mk #[]),false⟩:aR)⟩:aK)=r7 5 p e em0 from rfl,do5 _ _ _ _ _ _ _ _ _ (fr 5 (by omega) (by omega)) rfl ne,ES I (by omega) (c:=r7 5 p e em0) F];simp only [bS];rw [WR];simp only [bS,Ip];rw [show Cg (r7 5 p e em0).Epoch τ.r (r7 5 p e em0).Prefix τ.s=_ from ab,VV _ ⟨by simp,by simp,by simp only;omega,by simp only;omega,by simp,by simp,rfl⟩];simp only [bS];rw [iN (by simp),TC (by omega) (by omega),show (⟨6,0,0,0,false,[],p,e+1,0,(⟨s0.Nodes.filter (inN τ.r (bl p)),s0.Turns.filter (inT τ.r (bl p))⟩:aG),[],(⟨0,0,(ByteArray.mk #[]),false⟩:aR)⟩:aK)=r7 6 p (e+1) (⟨s0.Nodes.filter (inN τ.r (bl p)),s0.Turns.filter (inT τ.r (bl p))⟩:Sto) from rfl,
  do6 _ _ _ _ _ _ _ _ _ (HW (by omega) (by omega) nB' eB SA l1 l2) rfl ne,HV (c:=r7 6 p (e+1) (⟨s0.Nodes.filter (inN τ.r (bl p)),s0.Turns.filter (inT τ.r (bl p))⟩:Sto)) hp (by simp only;omega) (by simp only;omega) rfl SA l1 l2,Eu I.r]
 simp only [bS];rw [Nb I.r p S hn0 ht0];simp only [bS];have SB:cV (⟨(s0.Nodes.filter (inN τ.r (bl p))).filter (inN [⟨p,e+1,1⟩] (bl p)),(s0.Turns.filter (inT τ.r (bl p))).filter (inT [⟨p,e+1,1⟩] (bl p))⟩:Sto):=cV.filt SA _ _;have b1:=List.length_filter_le (inN [(⟨p,e+1,1⟩:Rg)] (bl p)) (s0.Nodes.filter (inN τ.r (bl p)));have b2:=List.length_filter_le (inT [(⟨p,e+1,1⟩:Rg)] (bl p)) (s0.Turns.filter (inT τ.r (bl p)));unfold rQ;simp only;rw [show hC ((s0.Nodes.filter (inN τ.r (bl p))).filter (inN [⟨p,e+1,1⟩] (bl p))) ((s0.Turns.filter (inT τ.r (bl p))).filter (inT [⟨p,e+1,1⟩] (bl p)))=_ from Tm (⟨_,_⟩:Sto) (by simp only;omega) (by simp only;omega),Eu RR];simp only [bS];rw [Nb RR p SA (by simp only;omega) (by simp only;omega)];simp only [bS];unfold rP;rw [iN (by simp),Oi _ (by simp only;omega) (by simp only;omega)];simp only [bS];rw [iN (by simp),Oi _ (by simp only;omega) (by simp only;omega)];simp only [bS];unfold kN;obtain ⟨D1,D2⟩:=CT I.r F;rw [iN (by simp)];simp only;rw [Tm τ.s (by omega) (by omega),show (⟨7,0,0,0,false,[],p,e,0,(⟨[],[]⟩:aG),[],(⟨0,0,(ByteArray.mk #[]),false⟩:aR)⟩:aK)=r7 7 p e em0 from rfl,do7 _ _ _ _ _ _ _ _ _ (fr 7 (by omega) (by omega)) rfl ne,KR I (by omega) (c:=r7 7 p e em0) F];simp only [bS];rw [Eu D2];simp only [bS];rw [Nb D2 p I.s (by omega) (by omega)];simp only [bS];obtain ⟨x,x1,x2,x3,x4⟩:=F;have at_:∀ d,atP (eD τ.r ⟨p,e,3⟩) (bl p) d=atP τ.r (bl p) d:=λd=>PI I.r D2 x1 x2 d;have g1:=List.length_filter_le (λx=>!inN τ.r (bl p) x) τ.s.Nodes;have g2:=List.length_filter_le (λx=>!inT τ.r (bl p) x) τ.s.Turns;have f1:τ.s.Nodes.filter (λx=>!inN (eD τ.r ⟨p,e,3⟩) (bl p) x)=τ.s.Nodes.filter (λx=>!inN τ.r (bl p) x):=by unfold inN;simp only [at_]
 have f2:τ.s.Turns.filter (λx=>!inT (eD τ.r ⟨p,e,3⟩) (bl p) x)=τ.s.Turns.filter (λx=>!inT τ.r (bl p) x):=by unfold inT;simp only [at_]
 rw [f1,f2];unfold rO;rw [iP rfl,iP (by rfl)];simp only;rw [show hC (τ.s.Nodes.filter (λx=>!inN τ.r (bl p) x)) (τ.s.Turns.filter (λx=>!inT τ.r (bl p) x))=_ from Tm (⟨_,_⟩:Sto) (Nat.le_trans g1 (by omega)) (Nat.le_trans g2 (by omega))];simp only [bS];rw [Oi _ (Nat.le_trans g1 (by omega)) (Nat.le_trans g2 (by omega))];simp only [bS];have s3:stR (eD τ.r ⟨p,e,3⟩) (bl p)=3:=by unfold stR;rw [show bl p=bX (⟨p,e,3⟩:Rg) from rfl,Mx D2 (VX.2 (.inl rfl))];rfl
 have s1:stR [(⟨p,e+1,1⟩:Rg)] (bl p)=1:=by unfold stR;rw [show bl p=bX (⟨p,e+1,1⟩:Rg) from rfl,Mx RR (by simp)];rfl
 rw [iP (by trivial),Eu D2];simp only [bS];rw [Rf D2,s3];simp only [bS];rw [iP (by rfl),Eu RR];simp only [bS];rw [Rf RR,s1];rfl
theorem Ng{p:BY}{e:Int}{s0:Sto}{r0:List Rg}(S:cV s0)(hp:dK (bl p)=true)(he:0 <= e)(he':e < 281474976710656)(F:Frz r0 (bl p) e)(hn0:s0.Nodes.length <= 90000)(ht0:s0.Turns.length <= 90000)
  (l1:(s0.Nodes.filter (inN r0 (bl p))).length <= 512) (l2:(s0.Turns.filter (inT r0 (bl p))).length <= 512) (w:List Nd×List Tn×List Rg×List Hd×List Wat×List Ses×List (Int×Ans)×List (Int×Txn)×List (Int×Ans)) (cmds:List Cmd) (hl:cmds.length <= 60) (hc:∀ c ∈ cmds,J9 c) :
  ∀ (k i:Nat) (τ:Sh),i <= cmds.length->cmds.length+1 <= i+k->Inv (45000+20 * i) τ->Rk τ->τ.r=r0->s0.Nodes.filter (inN r0 (bl p))=τ.s.Nodes.filter (inN r0 (bl p))->s0.Turns.filter (inT r0 (bl p))=τ.s.Turns.filter (inT r0 (bl p))->
  eO true p (Cg e r0 p s0,w) cmds e s0 k (i:Int) τ.s.Nodes τ.s.Turns τ.r τ.h τ.w.Watches τ.w.Sessions τ.x τ.y τ.z=some true
 | 0,i,τ,_,h,_,_,_,_,_=>by omega
 | k+1,i,τ,h0,h,I,H,er,c1,c2=>by
  subst er;by_cases hi:i < cmds.length
  ·unfold eO;rw [iP (by simpa using hi),bY hi];simp only [bS];unfold nD;rw [hP (by omega)];by_cases kk:(cmds[i]).Kind < 5
   ·rw [iP (by simpa using kk)];have sm:=hc _ (List.getElem_mem hi);obtain ⟨a,τ',d1,d2,_⟩:=HS (m:=20) I (by omega) cmds[i] sm (by omega) (λq=>by omega);obtain ⟨a',τ'',e1,e2⟩:=CS I (by omega) cmds[i] sm;rw [d1] at e1;obtain ⟨rfl,rfl⟩:=AJ e1;obtain ⟨g1,g2⟩:=KP I H e2 kk F;obtain ⟨g3,g4⟩:=KQ I.s d2.s g2;rw [show cD τ.s.Nodes τ.s.Turns τ.r τ.h τ.w.Watches τ.w.Sessions τ.x τ.y τ.z cmds[i]=doS τ cmds[i] from rfl,d1];exact Ng S hp he he' F hn0 ht0 l1 l2 w cmds hl hc k (i+1) τ' (by omega) (by omega) (d2.mono (by omega)) (Nf I d2 H e2) g1 (c1.trans g3) (c2.trans g4)
   rw [iN (by simpa using kk)];exact Ng S hp he he' F hn0 ht0 l1 l2 w cmds hl hc k (i+1) τ (by omega) (by omega) (I.mono (by omega)) H rfl c1 c2
  exact ET S hp he he' I (by omega) F c1 c2 hn0 ht0 l1 l2 w k _ cmds (by simpa using hi)
theorem Wb{p:BY}{e:Int}{σ:Sh}(I:Inv 45000 σ)(H:Rk σ)(hp:dK (bl p)=true)(he:0 <= e)(F:Frz σ.r (bl p) e)(cmds:List Cmd)(hl:cmds.length <= 60)(hc:∀ c ∈ cmds,J9 c) :
  fM true p (Cg e σ.r p σ.s,σ.s.Nodes,σ.s.Turns,σ.r,σ.h,σ.w.Watches,σ.w.Sessions,σ.x,σ.y,σ.z) cmds e σ.s false=some true:=by
 have sn:=I.sn;have st:=I.st;have up:∀ u,eP true p u cmds e σ.s true=some true:=λu=>by unfold eP;rw [iP rfl]
 unfold fM;rw [iN (by simp),iN (by simp)];by_cases e1:e ≥ 281474976710656
 ·rw [iP (by simpa using e1),up]
 rw [iN (by simpa using e1)];by_cases e2:(σ.s.Nodes.filter (inN σ.r (bl p))).length <= 512
 ·rw [iN (by simp only [decide_eq_true_eq];omega)];by_cases e3:(σ.s.Turns.filter (inT σ.r (bl p))).length <= 512
  ·rw [decide_eq_false (by simp only;omega)];unfold eP;rw [iN (by simp)];exact Ng I.s hp he (by omega) F (by omega) (by omega) e2 e3 _ cmds hl hc _ 0 σ (by omega) (by omega) (I.mono (by omega)) H rfl rfl rfl
  rw [decide_eq_true (by simp only;omega),up]
 rw [iP (by simp only [decide_eq_true_eq];omega),up]
theorem Wc(p:BY)(e:Int){σ:Sh}(I:Inv 44000 σ)(H:Rk σ)(cmds:List Cmd)(hl:cmds.length <= 60)(hc:∀ c ∈ cmds,J9 c) :
  kO true p cmds σ.s σ.s.Nodes σ.s.Turns σ.r σ.h σ.w.Watches σ.w.Sessions σ.x σ.y σ.z e=some true:=by
 unfold kO;rw [show (⟨5,0,0,0,false,[],p,e,0,(⟨[],[]⟩:aG),[],(⟨0,0,(ByteArray.mk #[]),false⟩:aR)⟩:aK)=r7 5 p e em0 from rfl];have bad:∀ (x:Int) w,x ≠ 0->(if ((oW x).Err == 0)=true then fM true p (oW x,w) cmds e σ.s ((oW x).Epoch != e) else fM true p (oW x,w) cmds e σ.s false)=some true:=λx w h=>by
  rw [iN (by simpa using h)];unfold fM;rw [iN (by simp),iP (by simpa using h)];unfold eP;rw [iP rfl]
 obtain ⟨b,b1,b2⟩:=Gy (r7 5 p e em0) (by simp) (by simp) (by simp) (by simp);cases b with
 | false=>
  rw [AB _ _ _ _ _ _ _ _ _ b1];exact bad 1 _ (by decide)
 | true=>
  have C:=b2 rfl;by_cases pe:bl p= []
  ·rw [Ih _ _ _ _ _ _ _ _ _ b1 (by simp),decide_eq_true (show bl (r7 5 p e em0).Prefix= [] from pe)];unfold hB;rw [iP (by rfl),jW];exact bad 1 _ (by decide)
  have hp:dK (bl p)=true:=by
   have:=C.prefix_;unfold W1 at this;simpa [pe] using this
  have he:=Cd (show rH e=true from C.epoch);rw [do5 _ _ _ _ _ _ _ _ _ b1 rfl pe];obtain ⟨a,r',h1,h2,h3⟩:=Mz I (by omega) C;rw [h1];simp only [bS];rcases h3 with ⟨rfl,x,x1,rfl⟩ | ⟨rfl,rfl,x,x1,x2,x3,x4⟩ | ⟨rfl,rfl,hh,_,_⟩
  ·exact bad x _ (by omega)
  ·rw [iP (by rfl),show ((Cg (r7 5 p e em0).Epoch σ.r (r7 5 p e em0).Prefix σ.s).Epoch != e)=false from by simp];exact Wb (I.mono (by omega)) H hp he.1 ⟨x,x1,x2,x3,x4⟩ cmds hl hc
  rw [iP (by rfl),show ((Cg (r7 5 p e em0).Epoch (eD σ.r ⟨(r7 5 p e em0).Prefix,(r7 5 p e em0).Epoch,2⟩) (r7 5 p e em0).Prefix σ.s).Epoch != e)=false from by simp];have J:Inv 45000 (⟨σ.s,eD σ.r ⟨p,e,2⟩,σ.h,σ.w,σ.x,σ.y,σ.z⟩:Sh):=⟨I.s,by have:=I.sn;simp only;omega,by have:=I.st;simp only;omega,h2,I.h,by have:=I.hl;simp only;omega,I.w,by have:=I.wl;simp only;omega,I.x,I.y,I.z,I.tx⟩
  exact Wb J (Nf (c:=r7 5 p e em0) (a:=okA) I J H (.inr (.inr (.inr (.inr (.inr (.inl ⟨rfl,rfl,hh⟩))))))) hp he.1 ⟨_,VX.2 (.inl rfl),rfl,rfl,rfl⟩ cmds hl hc
theorem Wd(p:BY)(cmds:List Cmd)(hl:cmds.length <= 60)(hc:∀ c ∈ cmds,J9 c)(l7:List Cmd)(hl7:l7.length <= 60)(hc7:∀ c ∈ l7,J9 c):∀ (k i:Nat) (σ:Sh),i <= l7.length->l7.length+1 <= i+k->Inv (4000+600 * i) σ->Rk σ->
  kQ true p cmds l7 k (i:Int) σ.s.Nodes σ.s.Turns σ.r σ.h σ.w.Watches σ.w.Sessions σ.x σ.y σ.z=some true
 | 0,i,σ,_,h,_,_=>by omega
 | k+1,i,σ,h0,h,I,H=>by
  unfold kQ;by_cases hi:i < l7.length
  ·rw [iP (by simpa using hi),bY hi];simp only [bS];have sm:=hc7 _ (List.getElem_mem hi);obtain ⟨a,τ,d1,d2,_⟩:=VU I (by omega) l7[i] sm;obtain ⟨a',τ',e1,e2⟩:=CS I (by omega) l7[i] sm;rw [d1] at e1;obtain ⟨rfl,rfl⟩:=AJ e1;rw [show cD σ.s.Nodes σ.s.Turns σ.r σ.h σ.w.Watches σ.w.Sessions σ.x σ.y σ.z l7[i]=doS σ l7[i] from rfl,d1,hP (by omega)];exact Wd p cmds hl hc l7 hl7 hc7 k (i+1) τ (by omega) (by omega) (d2.mono (by omega)) (Nf I d2 H e2)
  have sn:=I.sn;have st:=I.st;have K:=I.mono (show 4000+600 * i <= 44000 by omega);have rl:=I.r.len;rw [iN (by simpa using hi),Tm σ.s (by omega) (by omega),Eu I.r];simp only [bS];rw [Re I.r];simp only [bS];rcases C7 I.r (bl p) with ⟨q,_⟩ | ⟨j,hj,q,_⟩
  ·rw [q,iN (by decide)];unfold jI;rw [iN (by simp)];exact Wc p 0 K H cmds hl hc
  rw [q,iP (by simp),decide_eq_true (show (j:Int) < (σ.r.length:Int) by omega)];unfold jI;rw [iP rfl,Eu I.r];simp only [bS];rw [bY hj];exact Wc p _ K H cmds hl hc
theorem BH(s:Sto)(l:List Rg)(cmds:List Cmd)(p:BY)(more:List Cmd)(hn:s.Nodes.length <= 140737488351232)(ht:s.Turns.length <= 140737488351232)(hl:l.length <= 140737488351232)(hcs:∀ c ∈ cmds,EP c)(hms:∀ c ∈ more,EP c):qA s l cmds p more=some true:=by
 unfold qA;rw [KB];simp only [bS];rcases TV s l hn ht hl with h | ⟨h,S,R⟩
 ·rw [h];rfl
 rw [h];simp only [bS,Ip];have j1t:eQ true p more cmds (s.Nodes,s.Turns,l) true=some true:=by unfold eQ;rw [iP rfl]
 obtain ⟨b,g1,g2⟩:=Vr s hn;rw [g1];simp only [bS];cases b with
 | true=>rw [iP (by trivial),j1t]
 | false=>
  obtain ⟨_,s1,s2⟩:=g2 rfl;rw [iN (by simp)];obtain ⟨b,g3⟩:=EO l;rw [g3];simp only [bS];cases b with
  | true=>rw [iP (by trivial),j1t]
  | false=>
   rw [iN (by simp)];obtain ⟨b,g4,g5⟩:=Ts cmds hcs;rw [g4];simp only [bS];cases b with
   | true=>rw [iP (by trivial),j1t]
   | false=>
    obtain ⟨c1,c2⟩:=g5 rfl;rw [iN (by simp)];obtain ⟨b,g6,g7⟩:=Ts more hms;rw [g6];simp only [bS];cases b with
    | true=>rw [iP (by trivial),j1t]
    | false=>
     obtain ⟨c3,c4⟩:=g7 rfl;rw [iN (by simp)];cases decide ((p.size:Int) > 1000) with
     | true=>exact j1t
     | false=>
      unfold eQ;rw [iN (by simp)];exact Wd p more c3 c4 cmds c1 c2 _ 0 (sh0 s l) (by omega) (by omega) ((WQ S R s1 s2).mono (by omega)) ⟨λt v h=>by simp [dN] at h,by simp⟩
end Go.Cb
