/- ShardRight, plainly: whatever is done, all stays right; what is held anew is kept here. -/
import Derived.Test.YteakhlfapjaodaaGreatDoorEAsg
import Derived.Test.YteakhlfapjaodaaGreatDoorKsg4
set_option linter.unusedVariables false
set_option linter.unusedSimpArgs false
namespace Go.Cb
open Go.Proofs Go.RowKit

theorem Jz{s:BY}(h:eJ (bl s)=true):gQ s=some true:=by
 rw [Qm s (by have:=Fk h;omega),h]
theorem PV{l:List Rg}(R:fK l):uK l=some true:=by
 have hl:=R.len;unfold uK;rw [iN (by simp;omega)];obtain ⟨r,h,rfl⟩:=sH (λk i (_:Unit)=>dQ l k i) (n:=l.length) (k:=((l.length:Int) - 0:Int).toNat+1) (λ_ _=>True) (λr=>r=true) () (lH _) trivial (by
  intro k i _ hi _ ih;unfold dQ gF;obtain ⟨a1,a2,a3,a4,a5⟩:=Ph (R.all _ (List.getElem_mem hi));rw [iP (by simpa using hi),bT hi];simp only [bS];rw [Jz a1];simp only [bS];rw [iN (by simp),iN (by simp;omega),iN (by simp;omega),iN (by simp;omega),iN (by simp;omega)];by_cases h0:0 < i
  ·have:=List.pairwise_iff_getElem.1 R.sort (i - 1) i (by omega) hi (by omega);rw [iP (by simpa using h0),Mx h0 (by omega),bT (show i - 1 < l.length by omega)];simp only [bS];rw [Z4,decide_eq_true (show bl (l[i - 1]'(by omega)).Prefix < bl (l[i]).Prefix from this),iN (by simp),gL (by omega)];exact ih () trivial
  ·rw [iN (by simpa using h0),iN (by simp),gL (by omega)];exact ih () trivial) (by
  intro k _ _;unfold dQ;rw [iN (by simp)];exact ⟨true,rfl,rfl⟩)
 exact h
theorem GB{n:Int}(h:wA n=true):pS n=some true:=by
 have:=V8 h;unfold pS;rw [iP (decide_eq_true this.1),decide_eq_true this.2]
theorem PW{l:List Hd}(H:Cc l)(hl:l.length <= 1000000):uJ l=some true:=by
 unfold uJ;obtain ⟨r,h,rfl⟩:=sH (λk i (_:Unit)=>cZ l k i) (n:=l.length) (k:=((l.length:Int) - 0:Int).toNat+1) (λ_ _=>True) (λr=>r=true) () (lH _) trivial (by
  intro k i _ hi _ ih;unfold cZ iQ;have hm:=List.getElem_mem hi;obtain ⟨a1,a2,a3⟩:=Zn (H.all _ hm);rw [iP (by simpa using hi),bT hi];simp only [bS];rw [Jz a1];simp only [bS];rw [iN (by simp),GB a2];simp only [bS];rw [iN (by simp),GB a3];simp only [bS];rw [iN (by simp)];have l2:∃ r,gE (cZ l k) (i:Int) l (((i:Int) - 0:Int).toNat+1) 0=some r/\r=true:=by
   refine sH (λk' j (_:Unit)=>gE (cZ l k) (i:Int) l k' j) (n:=i) (λ_ _=>True) (λr=>r=true) () (lH _) trivial ?_ ?_
   ·intro k' j _ hj _ ih2;unfold gE rK;have hj':j < l.length:=by omega
    rw [iP (by simpa using hj),bT hj'];simp only [bS];rw [bT hi];simp only [bS];rw [gL (by omega)];by_cases e:(l[j]).Txn=(l[i]).Txn
    ·rw [iP (by simpa using e),H.age _ (List.getElem_mem hj') _ hm e,iN (by simp)];exact ih2 () trivial
    rw [iN (by simpa using e),iN (by simp)];exact ih2 () trivial
   intro k' _ _;unfold gE;rw [iN (by simp),gL (by omega)];exact ih () trivial
  by_cases h0:0 < i
  ·have:=List.pairwise_iff_getElem.1 H.sort (i - 1) i (by omega) hi (by omega);rw [iP (by simpa using h0),Mx h0 (by omega),bT (show i - 1 < l.length by omega)];simp only [bS];rw [Z4,decide_eq_true (show bl (l[i - 1]'(by omega)).Dir < bl (l[i]).Dir from this),iN (by simp)];exact l2
  ·rw [iN (by simpa using h0),iN (by simp)];exact l2) (by
  intro k _ _;unfold cZ;rw [iN (by simp)];exact ⟨true,rfl,rfl⟩)
 exact h
theorem OA(l:List Hd)(s:BY)(hl:l.length <= 1000000):∃ t,vZ l s=some (t,M9 l (bl s)):=by
 unfold vZ;obtain ⟨r,h,h2⟩:=sH (λk i (_:Unit)=>lX l s k i) (n:=l.length) (k:=((l.length:Int) - 0:Int).toNat+1) (λi _=>∀ j (h:j < l.length),j < i->jS l[j] ≠ bl s) (λr=>r.2=M9 l (bl s)) () (lH _) (λj h hj=>by omega) (by
  intro k i _ hi P ih;unfold lX;rw [iP (by simpa using hi),bT hi];simp only [bS];rw [qG,show bl (l[i]).Dir=jS l[i] from rfl];by_cases e:jS l[i]=bl s
  ·rw [iP (decide_eq_true e)];refine ⟨_,rfl,?_⟩;unfold M9;rw [List.any_eq_true.2 ⟨_,List.getElem_mem hi,decide_eq_true e⟩]
  ·rw [iN (by simp only [decide_eq_true_eq];exact e),gL (by omega)];refine ih () λj h hj=>?_;by_cases q:j=i
   ·subst q;exact e
   exact P j h (by omega)) (by
  intro k _ P;unfold lX;rw [iN (by simp)];refine ⟨_,rfl,?_⟩;unfold M9;rw [List.any_eq_false.2 λx hx=>by
   obtain ⟨j,hj,rfl⟩:=List.mem_iff_getElem.1 hx;simpa using P j hj hj])
 obtain ⟨t,b⟩:=r;exact ⟨t,by rw [h];simp only at h2;rw [h2]⟩
theorem Tc(n:Int):kX n=some (R4 n):=by
 unfold kX R4;by_cases h:1 <= n
 ·rw [iP (decide_eq_true h),decide_eq_true h];rfl
 rw [iN (by rw [decide_eq_false (show ¬ n ≥ 1 by omega)];simp),decide_eq_false h];rfl
theorem QO{s:Ses}(H:M8 s):sF s=some true:=by
 obtain ⟨a1,a2,a3,a4,a5,a6⟩:=H;unfold sF hF;rw [Tc,a1];simp only [bS];rw [iN (by simp),iN (by simp;omega),iN (by simp;omega),iN (by simp;omega),iN (by simp;omega)];obtain ⟨r,h1,rfl⟩:=sH (λk i (_:Unit)=>dZ s k i) (n:=s.Events.length) (k:=((s.Events.length:Int) - 0:Int).toNat+1) (λi _=>True) (λr=>r=true) () (lH _) trivial (by
  intro k i _ hi _ ih;unfold dZ hC;obtain ⟨k1,k2,k3,k4⟩:=a6 _ (List.getElem_mem hi);have hn:=a5 i hi;rw [iP (by simpa using hi),bT hi];simp only [bS];rw [w64 (n:=(s.Events.length:Int) - 1) (by omega) (by omega),w64 (n:=(s.Events.length:Int) - 1 - (i:Int)) (by omega) (by omega),w64 (n:=s.Count - ((s.Events.length:Int) - 1 - (i:Int))) (by omega) (by omega)];rw [iN (by rw [hn];simp;omega),iN (by rw [decide_eq_true_eq];omega),iN (by rw [decide_eq_true_eq];omega),Jz k3];simp only [bS];rw [iN (by simp),Tc,k4];simp only [bS];rw [iN (by simp),gL (by omega)];exact ih () trivial) (by
  intro k _ _;unfold dZ;rw [iN (by simp)];exact ⟨true,rfl,rfl⟩)
 exact h1
theorem QP{w:aV}(W:oK w)(hs:w.Sessions.length <= 1000000):uI w=some true:=by
 have wl:=W.wl;unfold uI;rw [iN (by simp;omega)];have l3:∃ r,fD w (((w.Sessions.length:Int) - 0:Int).toNat+1) 0=some r/\r=true:=by
  refine sH (λk i (_:Unit)=>fD w k i) (n:=w.Sessions.length) (λ_ _=>True) (λr=>r=true) () (lH _) trivial ?_ ?_
  ·intro k i _ hi _ ih;unfold fD nM;rw [iP (by simpa using hi),bT hi];simp only [bS];rw [QO (W.so _ (List.getElem_mem hi))];simp only [bS];rw [iN (by simp)];by_cases h0:0 < i
   ·have:=List.pairwise_iff_getElem.1 W.ss (i - 1) i (by omega) hi (by omega);rw [iP (by simpa using h0),Mx h0 (by omega),bT (show i - 1 < w.Sessions.length by omega)];simp only [bS];rw [iN (by simp;omega),gL (by omega)];exact ih () trivial
   rw [iN (by simpa using h0),iN (by simp),gL (by omega)];exact ih () trivial
  intro k _ _;unfold fD;rw [iN (by simp)];exact ⟨true,rfl,rfl⟩
 obtain ⟨r,h,rfl⟩:=sH (λk i (_:Unit)=>eB w k i) (n:=w.Watches.length) (k:=((w.Watches.length:Int) - 0:Int).toNat+1) (λ_ _=>True) (λr=>r=true) () (lH _) trivial (by
  intro k i _ hi _ ih;unfold eB nK;have wb:=W.wo _ (List.getElem_mem hi);simp only [V7,Bool.and_eq_true] at wb;rw [iP (by simpa using hi),bT hi];simp only [bS];rw [Tc,wb.1];simp only [bS];rw [iN (by simp),Tc,wb.2.1];simp only [bS];rw [iN (by simp),Jz wb.2.2];simp only [bS];rw [iN (by simp)];refine sH (λk' j (_:Unit)=>gW (eB w k) (i:Int) w w.Watches[i] k' j) (n:=i) (λ_ _=>True) (λr=>r=true) () (lH _) trivial ?_ ?_
  ·intro k' j _ hj _ ih2;unfold gW rJ;have hj':j < w.Watches.length:=by omega
   have nd:=List.pairwise_iff_getElem.1 W.wkn j i (by simpa using hj') (by simpa using hi) hj;simp only [List.getElem_map,wk,ne_eq,Prod.mk.injEq,not_and] at nd;rw [iP (by simpa using hj),bT hj'];simp only [bS];rw [gL (by omega)];by_cases e:(w.Watches[j]).Session=(w.Watches[i]).Session
   ·rw [iP (by simpa using e),iN (by simpa using nd e)];exact ih2 () trivial
   rw [iN (by simpa using e),iN (by simp)];exact ih2 () trivial
  ·intro k' _ _;unfold gW;rw [iN (by simp),gL (by omega)];exact ih () trivial) (by
  intro k _ _;unfold eB;rw [iN (by simp)];exact l3)
 exact h
theorem Wc(l:List Hd)(hl:l.length <= 1000000):nQ l=some l:=by
 unfold nQ;rw [dK (by simp only [LIM];omega)]
theorem Rr{l:List Rg}(R:fK l):mU l=some l:=by
 unfold mU;rw [dK (by have:=R.len;simp only [LIM];omega)]
theorem Rs(cmds:List Cmd)(hl:cmds.length <= 60)(hc:∀ c ∈ cmds,Ak c):∀ (m i:Nat) (σ:Sh),i <= cmds.length->cmds.length+1 <= i+m->Inv (4000+600 * i) σ->
  cY cmds true m (i:Int) σ.s.Nodes σ.s.Turns σ.r σ.h σ.w.Watches σ.w.Sessions σ.x σ.y σ.z=some true
 | 0,i,σ,_,h,_=>by omega
 | m+1,i,σ,h0,h,I=>by
  unfold cY;by_cases hi:i < cmds.length
  ·have hl0:=I.hl;rw [iP (by simpa using hi),Wc _ (by omega)];simp only [bS];rw [bT hi];simp only [bS];obtain ⟨a,τ,d1,d2,d3⟩:=PU I (by omega) cmds[i] (hc _ (List.getElem_mem hi));have IH:=Rs cmds hl hc m (i+1) τ (by omega) (by omega) (d2.mono (by omega));have hl1:=d2.hl;have sn:=d2.sn;have st:=d2.st;have wl:=d2.wl;rw [show cK σ.s.Nodes σ.s.Turns σ.r σ.h σ.w.Watches σ.w.Sessions σ.x σ.y σ.z cmds[i]=doS σ cmds[i] from rfl,d1];simp only [bS];rw [Wc _ (by omega)];simp only [bS];rw [ND τ.s (by omega) (by omega)];simp only [bS];obtain ⟨b,b1,b2⟩:=Zf τ.s (d2.s.sms (by omega) (by omega));rw [b1,b2.2 d2.s];simp only [bS];rw [iN (by simp),Rr d2.r];simp only [bS];rw [PV d2.r];simp only [bS];rw [iN (by simp),PW d2.h (by omega)];simp only [bS];rw [iN (by simp),d2.w.watched (by omega)];simp only [bS];rw [QP d2.w (by omega)];simp only [bS];unfold hJ;rw [iN (by simp)];obtain ⟨r,q,rfl⟩:=sH (λk j (_:Unit)=>dT (cY cmds true m) τ.h (a,τ.s.Nodes,τ.s.Turns,τ.r,τ.h,τ.w.Watches,τ.w.Sessions,τ.x,τ.y,τ.z) cmds (i:Int) k σ.h j) (n:=τ.h.length) (k:=((τ.h.length:Int) - 0:Int).toNat+1) (λ_ _=>True) (λr=>r=true) () (lH _) trivial (by
    intro k j _ hj _ ih;unfold dT hG;have hm:=List.getElem_mem hj;rw [iP (by simpa using hj),bT hj];simp only [bS];obtain ⟨t,t1⟩:=OA σ.h (τ.h[j]).Dir (by omega);rw [t1];simp only [bS];cases hb:M9 σ.h (bl (τ.h[j]).Dir) with
    | true=>
     rw [iN (by simp),iN (by simp),gL (by omega)];exact ih () trivial
    | false=>
     rw [iP (by rfl),Rr d2.r];simp only [bS];rw [Vp d2.r];simp only [bS];rcases d3.holds _ hm with q | ⟨q1,q2,q3⟩
     ·have:=List.any_eq_false.1 hb _ q;exact absurd (decide_eq_true rfl) this
     rw [show bl (τ.h[j]).Dir=jS τ.h[j] from rfl,q3,iN (by simp),bT hi];simp only [bS];rw [iN (by simpa using q1),show (a.Err == 131)=false from by simpa using q2,iN (by simp),gL (by omega)];exact ih () trivial) (by
    intro k _ _;unfold dT;rw [iN (by simp),gL (by omega)];exact ⟨true,IH,rfl⟩)
   exact q
  rw [iN (by simpa using hi)]
theorem Ww(s:Sto)(l:List Rg)(cmds:List Cmd)(hn:s.Nodes.length <= 140737488351232)(ht:s.Turns.length <= 140737488351232)(hl:l.length <= 140737488351232)(hcs:∀ c ∈ cmds,GA c):pC s l cmds=some true:=by
 unfold pC;rw [EV];simp only [bS];rcases NZ s l hn ht hl with h | ⟨h,S,R⟩
 ·rw [h];rfl
 rw [h];simp only [bS,Lp];have j1t:gB cmds true (s.Nodes,s.Turns,l) true=some true:=by unfold gB;rw [iP rfl]
 obtain ⟨b,g1,g2⟩:=Rj s hn;rw [g1];simp only [bS];cases b with
 | true=>rw [iP (by trivial),j1t]
 | false=>
  obtain ⟨_,s1,s2⟩:=g2 rfl;rw [iN (by simp)];obtain ⟨b,g3⟩:=Zt l;rw [g3];simp only [bS];cases b with
  | true=>rw [iP (by trivial),j1t]
  | false=>
   rw [iN (by simp)];obtain ⟨b,g4,g5⟩:=Zu cmds hcs;rw [g4];simp only [bS];cases b with
   | true=>exact j1t
   | false=>
    obtain ⟨c1,c2⟩:=g5 rfl;unfold gB;rw [iN (by simp)];exact Rs cmds c1 c2 _ 0 (sh0 s l) (by omega) (by omega) ((QN S R s1 s2).mono (by omega))
end Go.Cb
