/- Watches, plainly: what may be; what is deleted from a list; a watch is added, ended; events are taken. -/
import Derived.Test.YtppeaaolgckfcaaGreatDoorE3sm
import Derived.Test.YtppeaaolgckfcaaGreatDoorPsm1
set_option linter.unusedVariables false
set_option linter.unusedSimpArgs false
namespace Go.Cb
open Go.Proofs Go.RowKit

/-! ### what is deleted, said once -/
def gDL{α:Type}(f:α->Option Bool)(z0:α):Nat->List α->Int->Int->Option (List α)
 | 0,_,_,_=>none
 | k1+1,l7,x8,x9=>
  if (decide (x9 < (l7.length:Int)))=true then ((idx l7 x9).bind λx16=>(f x16).bind λu22=>if (!u22)=true then ((idx l7 x8).bind λx24=>gDL f z0 k1 (l7.set x8.toNat x16) (IntKind.i64.wrap (x8+1)) (IntKind.i64.wrap (x9+1))) else (gDL f z0 k1 l7 x8 (IntKind.i64.wrap (x9+1)))) else ((ck (0 <= x8/\x8 <= l7.length)).bind λu29=>(ck (0 <= x8/\x8 <= (l7.take x8.toNat ++ List.replicate (l7.length - x8.toNat) z0).length)).bind λu31=>some ((l7.take x8.toNat ++ List.replicate (l7.length - x8.toNat) z0).take x8.toNat))
def gDF{α:Type}(f:α->Option Bool)(z0:α)(l:List α):Option (List α):=(gIX f l (((l.length:Int) - 0:Int).toNat+1) 0).bind λu5=>if (u5 == (-1))=true then (some (l)) else (gDL f z0 (((l.length:Int) - (IntKind.i64.wrap (u5+1)):Int).toNat+1) l u5 (IntKind.i64.wrap (u5+1)))
theorem Zt{α:Type}(f:α->Option Bool)(p:α->Bool)(z0:α)(l0:List α)(hn:l0.length <= 1000000)(hf:∀ x ∈ l0,f x=some (p x)):∀ (k i j:Nat) (l:List α),l.length=l0.length->i <= j->j <= l0.length->l0.length+1 <= j+k->l.take i=(l0.take j).filter (λx=>!p x)->l.drop j=l0.drop j->
  gDL f z0 k l (i:Int) (j:Int)=some (l0.filter (λx=>!p x))
 | 0,i,j,l,_,_,_,h,_,_=>by omega
 | k+1,i,j,l,hl,hij,hj0,h,ht,hd=>by
  unfold gDL;by_cases hj:j < l.length
  ·have hj':j < l0.length:=by omega
   have hjx:l[j]=l0[j]:=by
    have h1:l[j]? =l0[j]? :=by
     have:=congrArg (λz:List α=>z[0]?) hd;simpa [List.getElem?_drop] using this
    rw [List.getElem?_eq_getElem hj,List.getElem?_eq_getElem hj'] at h1;exact Option.some.inj h1
   rw [iP (by simpa using hj),bY hj];simp only [bS];rw [hjx,hf _ (List.getElem_mem hj')];simp only [bS];cases hc:p l0[j] with
   | false=>
    rw [iP (by rfl),bY (show i < l.length by omega)];simp only [bS,Int.toNat_natCast];rw [hP (show i <= 4611686018427387904 by omega),hP (show j <= 4611686018427387904 by omega)];refine Zt f p z0 l0 hn hf k (i+1) (j+1) (l.set i l0[j]) (by simpa using hl) (by omega) (by omega) (by omega) ?_ ?_
    ·rw [lW _ hj',hc,← ht,List.take_add_one];rw [List.getElem?_set_self (by omega),List.take_set_of_le (by omega)];simp
    rw [List.drop_set_of_lt (by omega),← List.drop_drop,hd,← List.drop_drop]
   | true=>
    rw [iN (by simp),hP (show j <= 4611686018427387904 by omega)];refine Zt f p z0 l0 hn hf k i (j+1) l hl (by omega) (by omega) (by omega) ?_ ?_
    ·rw [lW _ hj',hc,ht];simp
    rw [← List.drop_drop,hd,← List.drop_drop]
  have hje:j=l0.length:=by omega
  subst hje;rw [iN (by simpa using hj),dJ (by omega)];have hti:l.take i=l0.filter (λx=>!p x):=by rw [ht,List.take_length]
  simp only [Int.toNat_natCast];rw [dJ (by rw [List.length_append,List.length_take,List.length_replicate];omega)];rw [List.take_append_of_le_length (by rw [List.length_take];omega),List.take_take,Nat.min_self,hti]
theorem HL{α:Type}(f:α->Option Bool)(p:α->Bool)(z0:α)(l:List α)(hl:l.length <= 1000000)(hf:∀ x ∈ l,f x=some (p x)):gDF f z0 l=some (l.filter (λx=>!p x)):=by
 unfold gDF;obtain ⟨z,h1,h2⟩:=Mw f l p (by omega) hf;rw [h1];simp only [bS];rcases h2 with ⟨rfl,h3⟩ | ⟨j,rfl,hj,h4,h3⟩
 ·rw [iP (by rfl),List.filter_eq_self.2 λy hy=>by rw [h3 y hy];rfl]
 rw [iN (by simp only [beq_iff_eq];omega),hP (by omega)];refine Zt f p z0 l hl hf _ j (j+1) l rfl (by omega) (by omega) (by omega) ?_ rfl;rw [lW _ hj,h4];simp only [Bool.not_true,Bool.false_eq_true,if_false,List.append_nil];exact (List.filter_eq_self.2 λy hy=>by
  obtain ⟨m,hm,rfl⟩:=List.mem_take_iff_getElem.1 hy;rw [h3 m (by omega) (by omega)];rfl).symm
/-! ### what may be watches -/
abbrev Ev:=bV
abbrev Ses:=aI
abbrev Wat:=aR
def Di(n:Int):Bool:=decide (1 <= n) && decide (n <= 281474976710656)
theorem Of(n:Int):tL n=some (Di n):=by
 unfold tL Di;by_cases h:1 <= n
 ·rw [iP (decide_eq_true h),decide_eq_true h];rfl
 rw [iN (by rw [decide_eq_false (show ¬ n ≥ 1 by omega)];simp),decide_eq_false h];rfl
theorem Og{n:Int}(h:Di n=true):1 <= n/\n <= 281474976710656:=by
 simpa [Di] using h
structure Be (s:Ses):Prop where
 num:Di s.Num=true
 cnt:0 <= s.Count/\s.Count <= 281474976710656
 len:s.Events.length <= 8
 le:(s.Events.length:Int) <= s.Count
 nums:∀ j (h:j < s.Events.length),(s.Events[j]).Num=s.Count - s.Events.length+1+j
 evs:∀ e ∈ s.Events,1 <= e.Kind/\e.Kind <= 4/\dK (bl e.Path)=true/\Di e.Watch=true
def Dj(x:Wat):Bool:=Di x.Session && (Di x.Num && dK (bl x.Path))
def wk(x:Wat):Int×Int:=(x.Session,x.Num)
structure rN (w:bC):Prop where
 wl:w.Watches.length <= 64
 wkn:(w.Watches.map wk).Nodup
 wo:∀ x ∈ w.Watches,Dj x=true
 so:∀ s ∈ w.Sessions,Be s
 ss:w.Sessions.Pairwise (·.Num < ·.Num)
 has:∀ x ∈ w.Watches,∃ s ∈ w.Sessions,s.Num=x.Session
theorem Zu(x:Wat):A7 x=some (Dj x):=by
 unfold A7 Dj;rw [Of,Of,mR];simp only [bS];cases Di x.Session <;> cases Di x.Num <;> rfl
theorem wix(l:List Wat):∀ (k:Nat) (i:Int),eX l k i=gIX nE l k i
 | 0,_=>rfl
 | k+1,i=>by unfold eX gIX;simp only [wix l k]
theorem six(l:List Ses):∀ (k:Nat) (i:Int),eG l k i=gIX mB l k i
 | 0,_=>rfl
 | k+1,i=>by unfold eG gIX;simp only [six l k]
theorem TG{l:List Wat}(h:∀ x ∈ l,Dj x=true)(hl:l.length <= 1000000):tM l=some true:=by
 unfold tM iS kC;rw [wix];obtain ⟨z,h1,h2⟩:=U1 nE l (λx=>!Dj x) (by omega) (λx _=>by unfold nE;rw [Zu];rfl);rw [h1];simp only [bS];rw [h2,List.any_eq_false.2 λx hx=>by rw [h x hx];simp];rfl
theorem HM{s:Ses}(H:Be s):C2 s=some true:=by
 obtain ⟨a1,a2,a3,a4,a5,a6⟩:=H;unfold C2 pT;rw [Of,a1];simp only [bS];rw [iN (by simp),iN (by simp;omega),iN (by simp;omega),iN (by simp;omega)];obtain ⟨r,h1,rfl⟩:=zF (λk i (_:Unit)=>fX s k i) (n:=s.Events.length) (λi _=>True) (λr=>r=true) () (qR _) trivial (by
  intro k i _ hi _ ih;unfold fX lQ;obtain ⟨k1,k2,k3,k4⟩:=a6 _ (List.getElem_mem hi);have hn:=a5 i hi;rw [iP (by simpa using hi),bY hi];simp only [bS];rw [w64 (n:=s.Count - (s.Events.length:Int)) (by omega) (by omega),w64 (n:=s.Count - (s.Events.length:Int)+1) (by omega) (by omega),w64 (n:=s.Count - (s.Events.length:Int)+1+(i:Int)) (by omega) (by omega)];rw [iN (by rw [hn];simp),iN (show ¬ decide ((s.Events[i]).Num < 1)=true by rw [hn,decide_eq_true_eq];omega),iN (by rw [decide_eq_true_eq];omega),iN (by rw [decide_eq_true_eq];omega),mR,k3];simp only [bS];rw [iN (by simp),Of,k4];simp only [bS];rw [iN (by simp),hP (by omega)];exact ih () trivial) (by
  intro k _ _;unfold fX;rw [iN (by simp)];exact ⟨true,rfl,rfl⟩)
 exact h1
theorem TH{l:List Ses}(h:∀ s ∈ l,Be s)(hl:l.length <= 1000000):qY l=some true:=by
 unfold qY hG iG;rw [six];obtain ⟨z,h1,h2⟩:=U1 mB l (λx=>false) (by omega) (λx hx=>by unfold mB;rw [HM (h x hx)];rfl);rw [h1];simp only [bS];rw [h2,List.any_eq_false.2 λx hx=>by simp];rfl
theorem OP{a b:Int}(h1:Di a=true)(h2:Di b=true):U6.ok (a,b)=true:=by
 have x:=KC (n:=a) (by have:=Og h1;omega) (Og h1).2;have y:=KC (n:=b) (by have:=Og h2;omega) (Og h2).2;simp only [kyI] at x y;simp [U6,x,y]
theorem Jr{w:bC}(H:rN w)(hs:w.Sessions.length <= 1000000):vA w=some true:=by
 obtain ⟨wl,wkn,wo,so,ss,_⟩:=H;unfold vA;have l2:∀ m:List ((Int×Int)×Int),m.length=w.Watches.length->jS w m (((w.Sessions.length:Int) - 1:Int).toNat+1) true 1=some true:=by
  intro m hm;have fin:∀ k:Nat,∀ i:Int,¬ i < (w.Sessions.length:Int)->jS w m (k+1) true i=some true:=by
   intro k i hi;unfold jS;rw [iN (by simpa using hi),iP (by simp;omega),iP (by simp [hm]),TG wo (by omega)];simp only [bS];rw [iP (by trivial),TH so hs];rfl
  by_cases h0:w.Sessions.length=0
  ·rw [show (((w.Sessions.length:Int) - 1:Int).toNat+1)=0+1 from by omega];exact fin 0 1 (by omega)
  obtain ⟨r,h1,rfl⟩:=Xf (λk i (_:Unit)=>jS w m k true i) w.Sessions.length (λi _=>1 <= i) (λr=>r=true) (by
   intro k i _ hi hi1 ih;unfold jS zZ;rw [iP (by simpa using hi),iP (by trivial),Zp (by omega) (by omega),bY (show i - 1 < w.Sessions.length by omega),bY hi];simp only [bS];rw [decide_eq_true (List.pairwise_iff_getElem.1 ss (i - 1) i (by omega) hi (by omega)),hP (by omega)];exact ih () (by omega)) (λk _ _=>⟨true,fin k _ (by omega),rfl⟩) (((w.Sessions.length:Int) - 1:Int).toNat+1) 1 () (by omega) (by omega) (by omega)
  exact h1
 obtain ⟨r,h1,rfl⟩:=zF (λk i (m:List ((Int×Int)×Int))=>pU w k i m) (n:=w.Watches.length) (λi m=>m.length=i/\∀ q,(dN m q).isSome=true->q ∈ (w.Watches.take i).map wk) (λr=>r=true) [] (qR _) ⟨rfl,λq h=>by simp [dN] at h⟩ (by
  rintro k i m hi ⟨P1,P2⟩ ih;unfold pU J5 mlk;have wb:=wo _ (List.getElem_mem hi);simp only [Dj,Bool.and_eq_true] at wb;have ok:=OP wb.1 wb.2.1;rw [iP (by simpa using hi),bY hi];simp only [bS];rw [iP ok];simp only [bS];rw [dJ ⟨ok,by simp [maxLen];omega⟩,hP (by omega)];have fresh:(dN m (wk w.Watches[i])).isSome=false:=by
   cases c:(dN m (wk w.Watches[i])).isSome with
   | false=>rfl
   | true=>
    have q:=P2 _ c;rw [List.map_take] at q;obtain ⟨j,hj,e⟩:=List.mem_take_iff_getElem.1 q;have nd:=List.pairwise_iff_getElem.1 wkn j i (by simp at hj ⊢;omega) (by simpa using hi) (by simp at hj;omega);exact absurd (by rw [e];simp) nd
  refine ih _ ⟨?_,λq hq=>?_⟩
  ·rw [C9,show ((w.Watches[i]).Session,(w.Watches[i]).Num)=wk w.Watches[i] from rfl,fresh];simp [P1]
  ·rw [List.take_add_one,List.getElem?_eq_getElem hi,List.map_append];by_cases e:q=wk w.Watches[i]
   ·exact List.mem_append_right _ (by simp [e])
   exact List.mem_append_left _ (P2 q (by rwa [show ((w.Watches[i]).Session,(w.Watches[i]).Num)=wk w.Watches[i] from rfl,qH _ e] at hq))) (by
  rintro k m ⟨P1,P2⟩;unfold pU;rw [iN (by simp)];exact ⟨true,l2 m P1,rfl⟩)
 exact h1
/-! ### a session's place -/
theorem VT(s:Ses)(n:Int):sW s n=some (if s.Num < n then -1 else if n < s.Num then 1 else 0):=by
 unfold sW w9 yY;simp only [bS];rw [iN (by simp),iN (by simp)];by_cases a:s.Num < n
 ·rw [iP (by simpa using a),iP a];rfl
 rw [iN (by simpa using a),iN a];by_cases b:n < s.Num
 ·rw [iP (by simpa using b),iP b];rfl
 rw [iN (by simpa using b),iN b];rfl
theorem sbs(l:List Ses)(n:Int):∀ (k:Nat) (lo hi:Int),cO l n k lo hi=gBS sW l n k lo hi
 | 0,_,_=>rfl
 | k+1,lo,hi=>by unfold cO gBS;simp only [sbs l n k]
theorem TJ(l:List Ses)(n:Int):∀ (k:Nat) (lo hi:Int),cJ l n k lo hi=gBS sW l n k lo hi
 | 0,_,_=>rfl
 | k+1,lo,hi=>by unfold cJ gBS;simp only [TJ l n k]
/-- where a session is, or would be. -/
def AtS(l:List Ses)(n:Int)(i:Nat)(b:Bool):Prop:=i <= l.length/\(b=true ↔ ∃ h:i < l.length,(l[i]).Num=n)/\(∀ j (h:j < l.length),j < i->(l[j]).Num < n)/\(∀ j (h:j < l.length),i <= j->¬ (l[j]).Num < n)
theorem Zv{l:List Ses}(hs:l.Pairwise (·.Num < ·.Num))(hl:l.length <= 1000000)(n:Int):∃ i b,gBS sW l n (((l.length:Int) - 0:Int).toNat+1) 0 (l.length:Int)=some (((i:Nat):Int),b)/\AtS l n i b:=by
 have hp:=List.pairwise_iff_getElem.1 hs;obtain ⟨i,b,h1,h2,h3,h4,h5⟩:=Xg sW l n (λs=>s.Num < n) (λs=>s.Num=n) hl (λs _=>⟨_,VT s n,by
  by_cases a:s.Num < n
  ·simp [a]
  ·by_cases b:n < s.Num <;> simp [a,b],by
  by_cases a:s.Num < n
  ·simp [a];omega
  by_cases b:n < s.Num
  ·simp [a,b];omega
  simp [a,b];omega⟩) (λi j hi hj hij h=>by have:=hp i j hi hj hij;omega) (((l.length:Int) - 0:Int).toNat+1) 0 l.length (by omega) (Nat.le_refl _) (by omega) (λj _ h=>by omega) (λj h h'=>by omega)
 exact ⟨i,b,h2,h1,h3,h4,h5⟩
theorem AtS.there {l:List Ses} {n:Int} {i:Nat} {b:Bool} (A:AtS l n i b) (hs:l.Pairwise (·.Num < ·.Num)) (h:∃ s ∈ l,s.Num=n):b=true/\∃ h:i < l.length,(l[i]).Num=n:=by
 obtain ⟨h1,h2,h3,h4⟩:=A;have hp:=List.pairwise_iff_getElem.1 hs;obtain ⟨s,hs1,e⟩:=h;obtain ⟨m,hm,rfl⟩:=List.mem_iff_getElem.1 hs1;clear hs1;have q:∃ h:i < l.length,(l[i]).Num=n:=by
  rcases Nat.lt_trichotomy m i with c | c | c
  ·have:=h3 m hm c;omega
  ·subst c;exact ⟨hm,e⟩
  have a:=h4 i (by omega) (Nat.le_refl _);have b:=hp i m (by omega) hm c;exact ⟨by omega,by omega⟩
 exact ⟨h2.2 q,q⟩
/-- a session that is new, in its place. -/
theorem AtS.ins {l:List Ses} {n:Int} {i:Nat} (A:AtS l n i false) (hs:l.Pairwise (·.Num < ·.Num)) (s:Ses) (e:s.Num=n):(l.take i ++ s::l.drop i).Pairwise (·.Num < ·.Num):=by
 obtain ⟨h1,h2,h3,h4⟩:=A;have ht:∀ y ∈ l.take i,y.Num < n:=λy hy=>by
  obtain ⟨m,hm,rfl⟩:=List.mem_take_iff_getElem.1 hy;exact h3 m (by omega) (by omega)
 have hd:∀ y ∈ l.drop i,n < y.Num:=λy hy=>by
  obtain ⟨m,hm,rfl⟩:=List.mem_drop_iff_getElem.1 hy;have a:=h4 (i+m) (by omega) (by omega);rcases Nat.eq_zero_or_pos m with rfl | hm0
  ·have:¬ (l[i]).Num=n:=λq=>by have:=h2.2 ⟨by omega,q⟩;cases this
   simp only [Nat.add_zero] at a ⊢;omega
  have:=List.pairwise_iff_getElem.1 hs i (i+m) (by omega) (by omega) (by omega);have a0:=h4 i (by omega) (Nat.le_refl _);omega
 rw [List.pairwise_append];refine ⟨hs.sublist (List.take_sublist _ _),List.pairwise_cons.2 ⟨λy hy=>by rw [e];exact hd y hy,hs.sublist (List.drop_sublist _ _)⟩,λy hy z hz=>?_⟩;rcases List.mem_cons.1 hz with rfl | hz
 ·rw [e];exact ht y hy
 have:=ht y hy;have:=hd z hz;omega
/-! ### added, ended, taken -/
theorem TK(l:List Wat)(a b:Int):∀ (k:Nat) (i:Int),eM l a b k i=gIX (λx=>zI x a b) l k i
 | 0,_=>rfl
 | k+1,i=>by unfold eM gIX;simp only [TK l a b k]
theorem Zw(w:bC)(a b:Int)(hl:w.Watches.length <= 1000000):∃ z,G4 w a b=some z/\((z= -1/\∀ x ∈ w.Watches,wk x ≠ (a,b))∨∃ i:Nat,z=(i:Int)/\i < w.Watches.length):=by
 unfold G4 jB;rw [TK];obtain ⟨z,h1,h2⟩:=Mw (λx=>zI x a b) w.Watches (λx=>decide (wk x=(a,b))) (by omega) (λx _=>by
  unfold zI wk;by_cases c:x.Session=a
  ·rw [iP (by simpa using c)];simp [c];rfl
  rw [iN (by simpa using c)];simp [c])
 rw [h1];refine ⟨z,rfl,?_⟩;rcases h2 with ⟨rfl,h⟩ | ⟨i,rfl,hi,_⟩
 ·exact .inl ⟨rfl,λx hx=>of_decide_eq_false (h x hx)⟩
 exact .inr ⟨i,rfl,hi⟩
theorem TL{w:bC}(H:rN w)(hs:w.Sessions.length <= 900000)(x:Wat):(∃ u e,M2 w x=some (u,e)/\e ≠ 0)∨∃ u,M2 w x=some (u,0)/\rN u/\u.Sessions.length <= w.Sessions.length+1:=by
 have R:=Jr H (by omega);unfold M2 G6 G5 T6;rw [R,Zu];simp only [bS];rw [iN (by simp)];cases wb:Dj x with
 | false=>exact .inl ⟨_,_,by rw [iP (by rfl)],by decide⟩
 | true=>
  rw [iN (by simp)];obtain ⟨z,z1,z2⟩:=Zw w x.Session x.Num (by have:=H.wl;omega);rw [z1];simp only [bS];rcases z2 with ⟨rfl,fr⟩ | ⟨i,rfl,_⟩
  ·rw [iN (by decide)];by_cases c:w.Watches.length=64
   ·rw [iP (by simp [c])];exact .inl ⟨_,_,rfl,by decide⟩
   have wl:=H.wl;rw [iN (by simp;omega)];have wx:=wb;simp only [Dj,Bool.and_eq_true] at wx;obtain ⟨i,b,s1,A⟩:=Zv H.ss (by omega) x.Session;unfold dF;rw [sbs,s1];simp only [bS];have fin:∀ S:List Ses,(∀ s ∈ S,Be s)->S.Pairwise (·.Num < ·.Num)->(∀ s ∈ w.Sessions,s ∈ S)->(∃ s ∈ S,s.Num=x.Session)->rN ⟨w.Watches ++ [x],S⟩:=λS a1 a2 a3 a4=>
    ⟨by simp;omega,by
     rw [List.map_append,List.nodup_append];refine ⟨H.wkn,by simp,λa ha b hb=>?_⟩;obtain ⟨y,hy,rfl⟩:=List.mem_map.1 ha;rw [List.map_singleton,List.mem_singleton] at hb;rw [hb];exact fr y hy,λy hy=>by
     rcases List.mem_append.1 hy with h | h
     ·exact H.wo y h
     ·rw [List.mem_singleton.1 h];exact wb,a1,a2,λy hy=>by
     rcases List.mem_append.1 hy with h | h
     ·obtain ⟨s,b1,b2⟩:=H.has y h;exact ⟨s,a3 s b1,b2⟩
     rw [List.mem_singleton.1 h];exact a4⟩
   cases b with
   | true=>
    obtain ⟨hi,e⟩:=A.2.1.1 rfl;rw [iN (by simp),dJ (by simp [LIM];omega),dJ (by simp [LIM];omega)];exact .inr ⟨_,rfl,fin _ H.so H.ss (λs h=>h) ⟨_,List.getElem_mem hi,e⟩,by simp⟩
   | false=>
    rw [iP (by rfl),dJ (by simp [LIM];omega),dJ (by have:=A.1;omega),dJ (by simp [LIM];omega),dJ (by simp [LIM];omega),Int.toNat_natCast];have i1:=A.1;refine .inr ⟨_,rfl,fin _ (λs h=>?_) (A.ins H.ss _ rfl) (λs h=>?_) ⟨⟨x.Session,0,[]⟩,by simp,rfl⟩,by simp;omega⟩
    ·rcases List.mem_append.1 h with h | h
     ·exact H.so s (List.mem_of_mem_take h)
     rcases List.mem_cons.1 h with rfl | h
     ·exact ⟨wx.1,⟨by simp,by simp⟩,by simp,by simp,λj h=>by simp at h,λe h=>by simp at h⟩
     exact H.so s (List.mem_of_mem_drop h)
    rw [← List.take_append_drop i w.Sessions] at h;rcases List.mem_append.1 h with h | h
    ·exact List.mem_append_left _ h
    exact List.mem_append_right _ (List.mem_cons_of_mem _ h)
  rw [iP (by simp)];exact .inl ⟨_,_,rfl,by decide⟩
theorem KH{w:bC}(H:rN w)(hs:w.Sessions.length <= 900000)(a b:Int):(∃ u e,A8 w a b=some (u,e)/\e ≠ 0)∨∃ u,A8 w a b=some (u,0)/\rN u/\u.Sessions=w.Sessions:=by
 have R:=Jr H (by omega);have wl:=H.wl;unfold A8;rw [R];simp only [bS];rw [iN (by simp)];obtain ⟨z,z1,z2⟩:=Zw w a b (by omega);rw [z1];simp only [bS];rcases z2 with ⟨rfl,fr⟩ | ⟨i,rfl,hi⟩
 ·rw [iP (by decide)];exact .inl ⟨_,_,rfl,by decide⟩
 rw [iN (by simp),dJ (by simp [LIM];omega),dJ (by rw [w64 (by omega) (by omega)];omega),Int.toNat_natCast];have sl:=List.eraseIdx_sublist w.Watches i;exact .inr ⟨_,rfl,⟨Nat.le_trans sl.length_le wl,H.wkn.sublist (sl.map wk),λx hx=>H.wo x (sl.subset hx),H.so,H.ss,λx hx=>H.has x (sl.subset hx)⟩,rfl⟩
theorem eix(l:List Ev)(u:Int):∀ (k:Nat) (i:Int),fB l u k i=gIX (λx=>wH x u) l k i
 | 0,_=>rfl
 | k+1,i=>by unfold fB gIX;simp only [eix l u k]
theorem edl(u:Int):∀ (k:Nat) (l:List Ev) (i j:Int),dI u k l i j=gDL (λx=>wH x u) (⟨0,0,⟨#[]⟩,0⟩:Ev) k l i j
 | 0,_,_,_=>rfl
 | k+1,l,i,j=>by unfold dI fY gDL;simp only [edl u k]
theorem KI(l:List Ev)(u:Int)(hl:l.length <= 1000000):gY l u=some (l.filter (λx=>!decide (x.Num <= u))):=by
 have:=HL (λx=>wH x u) (λx=>decide (x.Num <= u)) (⟨0,0,⟨#[]⟩,0⟩:Ev) l hl (λx _=>rfl);unfold gDF at this;unfold gY kG;rw [eix];simp only [edl];exact this
theorem Vy:∀ (l:List Ev) (u:Int),l.Pairwise (·.Num < ·.Num)->∃ m,m <= l.length/\l.filter (λx=>!decide (x.Num <= u))=l.drop m
 | [],u,_=>⟨0,by simp,rfl⟩
 | e::l,u,h=>by
  obtain ⟨h1,h2⟩:=List.pairwise_cons.1 h;by_cases c:e.Num <= u
  ·obtain ⟨m,a,b⟩:=Vy l u h2;refine ⟨m+1,by simp;omega,?_⟩;rw [List.filter_cons,iN (by simp [c]),b,List.drop_succ_cons]
  refine ⟨0,by simp,?_⟩;rw [List.drop_zero,List.filter_eq_self];intro x hx;rcases List.mem_cons.1 hx with rfl | hx
  ·simpa using c
  have:=h1 x hx;simp;omega
theorem Be.taken {s:Ses} (H:Be s) (u:Int):Be { s with Events:=s.Events.filter (λx=>!decide (x.Num <= u)) }:=by
 obtain ⟨m,hm,e⟩:=Vy s.Events u (List.pairwise_iff_getElem.2 λi j hi hj hij=>by rw [H.nums i hi,H.nums j hj];omega);rw [e];have a:=H.le;have b:=H.len;exact ⟨H.num,H.cnt,by simp;omega,by simp;omega,λj h=>by
  have h':j < s.Events.length - m:=by simpa using h
  simp only [List.getElem_drop,List.length_drop];rw [H.nums (m+j) (by omega)];omega,λx hx=>H.evs x (List.mem_of_mem_drop hx)⟩
theorem OQ{l:List Ses}(hs:l.Pairwise (·.Num < ·.Num)){i:Nat}(hi:i < l.length)(s:Ses)(e:s.Num=(l[i]).Num):(l.set i s).Pairwise (·.Num < ·.Num)/\∀ n,(∃ t ∈ l,t.Num=n)->∃ t ∈ l.set i s,t.Num=n:=by
 have m:(l.set i s).map (·.Num)=l.map (·.Num):=by
  rw [List.map_set,e];apply List.ext_getElem (by simp);intro j h1 h2;rw [List.getElem_set];split
  ·rename_i q;subst q;simp
  rfl
 have f:∀ k:List Ses,k.Pairwise (·.Num < ·.Num) ↔ (k.map (·.Num)).Pairwise (· < ·):=λk=>List.pairwise_map.symm;refine ⟨(f _).2 (by rw [m];exact (f _).1 hs),λn ⟨t,ht,et⟩=>?_⟩;have:n ∈ (l.set i s).map (·.Num):=by rw [m];exact List.mem_map.2 ⟨t,ht,et⟩
 obtain ⟨t',a,b⟩:=List.mem_map.1 this;exact ⟨t',a,b⟩
theorem HN{l:List Ses}(h:∀ s ∈ l,Be s){i:Nat}{s:Ses}(hs:Be s):∀ t ∈ l.set i s,Be t:=λt ht=>by
 rcases List.mem_or_eq_of_mem_set ht with h' | rfl
 ·exact h t h'
 exact hs
theorem OR{w:bC}(H:rN w)(hs:w.Sessions.length <= 900000)(n u:Int):(∃ v l e,G3 w n u=some (v,l,e)/\e ≠ 0)∨∃ v l,G3 w n u=some (v,l,0)/\rN v/\v.Sessions.length=w.Sessions.length/\l.length <= 8:=by
 have R:=Jr H (by omega);unfold G3;rw [R];simp only [bS];rw [iN (by simp)];obtain ⟨i,b,s1,A⟩:=Zv H.ss (by omega) n;unfold dF;rw [sbs,s1];simp only [bS];cases b with
 | false=>exact .inl ⟨_,_,_,by rw [iP (by rfl)],by decide⟩
 | true=>
  obtain ⟨hi,e⟩:=A.2.1.1 rfl;have so:=H.so _ (List.getElem_mem hi);have len:=so.len;rw [iN (by simp),dJ (by simp [LIM];omega),bY hi];simp only [bS];have fl:((w.Sessions[i]).Events.filter (λx=>!decide (x.Num <= u))).length <= 8:=Nat.le_trans (List.length_filter_le _ _) len;rw [dJ (by simp [LIM];omega),KI _ _ (by omega)];simp only [bS];rw [dJ (Nat.le_trans fl (by decide)),Int.toNat_natCast];obtain ⟨p1,p2⟩:=OQ H.ss hi { w.Sessions[i] with Events:=(w.Sessions[i]).Events.filter (λx=>!decide (x.Num <= u)) } rfl;exact .inr ⟨_,_,rfl,⟨H.wl,H.wkn,H.wo,HN H.so (so.taken u),p1,λx hx=>p2 _ (H.has x hx)⟩,by simp,fl⟩
end Go.Cb
