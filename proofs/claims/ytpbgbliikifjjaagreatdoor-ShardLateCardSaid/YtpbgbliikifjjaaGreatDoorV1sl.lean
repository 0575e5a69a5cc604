/- Plain laws of elder seats, at this one. -/
import Derived.Test.YtpbgbliikifjjaaGreatDoorU1sl
import Derived.Test.YtpbgbliikifjjaaGreatDoorKsl1
set_option linter.unusedVariables false
set_option linter.unusedSimpArgs false
namespace Go.Cb
open Go.Proofs Go.RowKit

abbrev Tn:=aJ
abbrev Sto:=aR
abbrev Pt1:=bI
def dM(t:Tn):List UInt8:=bl t.Dir
theorem Tj{a b:List UInt8}(h:¬ a < b)(k:a ≠ b):b < a:=by
  rcases EY a b with h' | h' | h'
  · exact absurd h' h
  · exact absurd h' k
  · exact h'
section
variable {α:Type} (κ:α→List UInt8)
def gLt(p:List UInt8)(x:α):Bool:=decide (κ x < p)
def gEq(p:List UInt8)(x:α):Bool:=decide (κ x=p)
def gGt(p:List UInt8)(x:α):Bool:=!gLt κ p x && !gEq κ p x
theorem Tk(l:List α)(p:List UInt8)(i:Nat)(hs:l.Pairwise (κ · < κ ·))(h1:i ≤ l.length)(h3:∀ j (h:j < l.length),j < i→κ l[j] < p)(h4:∀ j (h:j < l.length),i ≤ j→¬ κ l[j] < p) :
    l.take i=l.filter (gLt κ p)∧((∃ x,l.drop i=x::l.filter (gGt κ p)∧κ x=p∧l.find? (gEq κ p)=some x∧l[i]? =some x∧x ∈ l)∨(l.drop i=l.filter (gGt κ p)∧l.find? (gEq κ p)=none∧l[i]?.map κ ≠ some p)):=by
  have hp:=List.pairwise_iff_getElem.1 hs
  have e:∀ g:α→Bool,l.filter g=(l.take i).filter g ++ (l.drop i).filter g:=fun g=>by rw [← List.filter_append,List.take_append_drop]
  have ht:∀ y ∈ l.take i,κ y < p:=fun y hy=>by
    obtain ⟨m,hm,rfl⟩:=List.mem_take_iff_getElem.1 hy
    exact h3 m (by omega) (by omega)
  have hd:∀ y ∈ l.drop i,¬ κ y < p:=fun y hy=>by
    obtain ⟨m,hm,rfl⟩:=List.mem_drop_iff_getElem.1 hy
    exact h4 _ (by omega) (by omega)
  have t1:(l.take i).filter (gLt κ p)=l.take i:=List.filter_eq_self.2 fun y hy=>by simpa [gLt] using ht y hy
  have t2:(l.drop i).filter (gLt κ p)= []:=List.filter_eq_nil_iff.2 fun y hy=>by simpa [gLt] using hd y hy
  have t3:(l.take i).filter (gGt κ p)= []:=List.filter_eq_nil_iff.2 fun y hy=>by simp [gGt,gLt,ht y hy]
  refine ⟨by rw [e,t1,t2,List.append_nil],?_⟩
  rw [e (gGt κ p),t3,List.nil_append]
  by_cases hi:i < l.length
  · by_cases hk:κ l[i]=p
    · refine .inl ⟨l[i],?_,hk,?_,List.getElem?_eq_getElem hi,List.getElem_mem hi⟩
      · rw [List.drop_eq_getElem_cons hi,List.filter_cons,if_neg (by simp [gGt,gEq,hk])]
        congr 1
        refine (List.filter_eq_self.2 fun y hy=>?_).symm
        obtain ⟨m,hm,rfl⟩:=List.mem_drop_iff_getElem.1 hy
        have:=hp i (i+1+m) hi (by omega) (by omega)
        rw [hk] at this
        simp [gGt,gLt,gEq,Ef this,(s5 this).symm]
      · rw [List.find?_eq_some_iff_append]
        refine ⟨by simpa [gEq] using hk,l.take i,l.drop (i+1),?_,fun y hy=>by simpa [gEq] using s5 (ht y hy)⟩
        rw [← List.drop_eq_getElem_cons hi,List.take_append_drop]
    · have hne:∀ y ∈ l.drop i,κ y ≠ p:=fun y hy=>by
        obtain ⟨m,hm,rfl⟩:=List.mem_drop_iff_getElem.1 hy
        rcases Nat.eq_zero_or_pos m with rfl | hm0
        · simpa using hk
        · have h5:=Tj (h4 i hi (Nat.le_refl _)) hk
          exact (s5 (wQ h5 (hp i (i+m) hi (by omega) (by omega)))).symm
      refine .inr ⟨?_,?_,by rw [List.getElem?_eq_getElem hi];simpa using hk⟩
      · exact (List.filter_eq_self.2 fun y hy=>by simp [gGt,gLt,gEq,hd y hy,hne y hy]).symm
      · rw [List.find?_eq_none]
        intro y hy
        rw [← List.take_append_drop i l] at hy
        rcases List.mem_append.1 hy with h | h
        · simpa [gEq] using s5 (ht y h)
        · simpa [gEq] using hne y h
  · refine .inr ⟨?_,?_,by rw [List.getElem?_eq_none (by omega)];simp⟩
    · rw [List.drop_eq_nil_of_le (by omega)];rfl
    · rw [List.find?_eq_none]
      intro y hy
      have:l.take i=l:=List.take_of_length_le (by omega)
      rw [← this] at hy
      simpa [gEq] using s5 (ht y hy)
end
theorem zF(s:ByteArray):eG s=some (fB (bl s)):=by
  unfold eG
  rw [U7]
  simp only [Option.bind_some]
  unfold spl fB
  cases parts (bl s) <;> rfl
theorem V1(x a b:Int):rG x a b=some (decide (a ≤ x∧x ≤ b)):=by
  unfold rG
  by_cases h:x ≥ a
  · rw [if_pos (by simpa using h)]
    congr 1
    exact decide_eq_decide.2 ⟨fun h'=>⟨h,h'⟩,fun h'=>h'.2⟩
  · rw [if_neg (by simpa using h),decide_eq_false (fun h'=>h h'.1)]
def sK(p d:ByteArray)(v least o:Int):Bool:=fB (bl p) && decide ((bl d).length ≤ 256) && decide (least ≤ v∧v ≤ 281474976710656) && decide (0 ≤ o∧o ≤ 1099511627776)
theorem Ib(p d:ByteArray)(v least o:Int):tP p d v least o=some (sK p d v least o):=by
  unfold tP sK
  rw [zF]
  simp only [Option.bind_some]
  have z:=hF d
  cases fB (bl p) with
  | false=>rw [if_neg (by simp)];simp
  | true=>
    rw [if_pos rfl]
    by_cases h:(bl d).length ≤ 256
    · rw [if_pos (decide_eq_true (by omega)),V1,decide_eq_true h]
      simp only [Option.bind_some]
      cases decide (least ≤ v∧v ≤ 281474976710656) with
      | false=>rw [if_neg (by simp)];simp
      | true=>rw [if_pos rfl,V1];simp
    · rw [if_neg (by rw [decide_eq_false (by omega)];simp),decide_eq_false h];simp
def pnB(x:Nd):Bool:=decide (x.Turn=0) && sK x.Path x.Data x.Version 0 x.Owner
def ptB(t:Tn):Bool:=fB (dM t) && decide (1 ≤ t.Next∧t.Next ≤ 10000)
theorem Tl(x:Nd):vE x=some (!pnB x):=by
  unfold vE pnB
  by_cases h:x.Turn=0
  · rw [if_neg (by simpa using h),Ib,decide_eq_true h];simp
  · rw [if_pos (by simpa using h),decide_eq_false h];simp
theorem Tm(t:Tn):vF t=some (!ptB t):=by
  unfold vF ptB
  rw [zF,show bl t.Dir=dM t from rfl]
  simp only [Option.bind_some]
  cases fB (dM t) with
  | false=>rw [if_pos (by rfl)];simp
  | true=>rw [if_neg (by simp),V1];simp
theorem Ny(l:List Nd)(hl:l.length ≤ 140737488351232):∀ (k i:Nat),i ≤ l.length→l.length+1 ≤ i+k→∃ v:Int,dO l k (i:Int)=some v∧decide (v ≥ 0)= !(l.drop i).all pnB
  | 0,i,_,h=>by omega
  | k+1,i,h0,h=>by
    unfold dO
    by_cases hi:i < l.length
    · rw [if_pos (by simpa using hi),dV hi,List.drop_eq_getElem_cons hi]
      simp only [Option.bind_some,Tl,List.all_cons]
      cases hm:pnB l[i] with
      | false=>rw [if_pos (by rfl)];exact ⟨_,rfl,by simp⟩
      | true=>
        rw [if_neg (by simp),oV (by omega)]
        obtain ⟨v,h1,h2⟩:=Ny l hl k (i+1) (by omega) (by omega)
        exact ⟨v,h1,by rw [h2];simp⟩
    · rw [if_neg (by simpa using hi),List.drop_eq_nil_of_le (by omega)]
      exact ⟨-1,rfl,by simp⟩
theorem Nz(l:List Tn)(hl:l.length ≤ 140737488351232):∀ (k i:Nat),i ≤ l.length→l.length+1 ≤ i+k→∃ v:Int,dP l k (i:Int)=some v∧decide (v ≥ 0)= !(l.drop i).all ptB
  | 0,i,_,h=>by omega
  | k+1,i,h0,h=>by
    unfold dP
    by_cases hi:i < l.length
    · rw [if_pos (by simpa using hi),dV hi,List.drop_eq_getElem_cons hi]
      simp only [Option.bind_some,Tm,List.all_cons]
      cases hm:ptB l[i] with
      | false=>rw [if_pos (by rfl)];exact ⟨_,rfl,by simp⟩
      | true=>
        rw [if_neg (by simp),oV (by omega)]
        obtain ⟨v,h1,h2⟩:=Nz l hl k (i+1) (by omega) (by omega)
        exact ⟨v,h1,by rw [h2];simp⟩
    · rw [if_neg (by simpa using hi),List.drop_eq_nil_of_le (by omega)]
      exact ⟨-1,rfl,by simp⟩
theorem Qt{α:Type}(κ:α→List UInt8)(l:List α):(∀ j (h:j < l.length),0 < j→κ (l[j - 1]'(by omega)) < κ l[j]) ↔ l.Pairwise (κ · < κ ·):=by
  constructor
  · intro h
    rw [List.pairwise_iff_getElem]
    intro i j hi hj hij
    induction j with
    | zero=>omega
    | succ j ih=>
      have h1:=h (j+1) hj (by omega)
      simp only [Nat.add_sub_cancel] at h1
      rcases Nat.lt_or_ge i j with c | c
      · exact wQ (ih (by omega) c) h1
      · obtain rfl:i=j:=by omega
        exact h1
  · intro h j hj h0
    exact List.pairwise_iff_getElem.1 h (j - 1) j (by omega) hj (by omega)
theorem Oa(l:List Nd)(hl:l.length ≤ 140737488351232):∀ (k i:Nat),i ≤ l.length→l.length+1 ≤ i+k→∃ b,eN l k (i:Int)=some b∧(b=true ↔ ∀ j (h:j < l.length),i ≤ j→0 < j→key (l[j - 1]'(by omega)) < key l[j])
  | 0,i,_,h=>by omega
  | k+1,i,h0,h=>by
    unfold eN kN
    by_cases hi:i < l.length
    · rw [if_pos (by simpa using hi),oV (by omega)]
      obtain ⟨b,h1,h2⟩:=Oa l hl k (i+1) (by omega) (by omega)
      by_cases h00:i=0
      · subst h00
        rw [if_neg (by simp),if_neg (by simp),h1]
        refine ⟨b,rfl,h2.trans ⟨fun H j hj hij h0=>H j hj (by omega) h0,fun H j hj hij h0=>H j hj (by omega) h0⟩⟩
      · rw [if_pos (decide_eq_true (by omega)),show IntKind.i64.wrap ((i:Int) - 1)=((i - 1:Nat):Int) from by rw [w64 (by omega) (by omega)];omega,dV (show i - 1 < l.length by omega)]
        simp only [Option.bind_some]
        rw [dV hi]
        simp only [Option.bind_some,vC]
        rw [Su,show bl (l[i - 1]'(by omega)).Path=key (l[i - 1]'(by omega)) from rfl,show bl (l[i]).Path=key l[i] from rfl]
        by_cases c:key (l[i - 1]'(by omega)) < key l[i]
        · rw [decide_eq_true c,if_neg (by simp),h1]
          refine ⟨b,rfl,h2.trans ⟨fun H j hj hij h0=>?_,fun H j hj hij h0=>H j hj (by omega) h0⟩⟩
          rcases Nat.lt_or_ge i j with d | d
          · exact H j hj (by omega) h0
          · obtain rfl:i=j:=by omega
            exact c
        · rw [decide_eq_false c,if_pos (by rfl)]
          exact ⟨false,rfl,fun h=>by simp at h,fun H=>absurd (H i hi (Nat.le_refl _) (by omega)) c⟩
    · rw [if_neg (by simpa using hi)]
      exact ⟨true,rfl,fun _ j hj hij=>by omega,fun _=>rfl⟩
theorem Ma(l:List Tn)(hl:l.length ≤ 140737488351232):∀ (k i:Nat),i ≤ l.length→l.length+1 ≤ i+k→∃ b,eO l k (i:Int)=some b∧(b=true ↔ ∀ j (h:j < l.length),i ≤ j→0 < j→dM (l[j - 1]'(by omega)) < dM l[j])
  | 0,i,_,h=>by omega
  | k+1,i,h0,h=>by
    unfold eO kO
    by_cases hi:i < l.length
    · rw [if_pos (by simpa using hi),oV (by omega)]
      obtain ⟨b,h1,h2⟩:=Ma l hl k (i+1) (by omega) (by omega)
      by_cases h00:i=0
      · subst h00
        rw [if_neg (by simp),if_neg (by simp),h1]
        refine ⟨b,rfl,h2.trans ⟨fun H j hj hij h0=>H j hj (by omega) h0,fun H j hj hij h0=>H j hj (by omega) h0⟩⟩
      · rw [if_pos (decide_eq_true (by omega)),show IntKind.i64.wrap ((i:Int) - 1)=((i - 1:Nat):Int) from by rw [w64 (by omega) (by omega)];omega,dV (show i - 1 < l.length by omega)]
        simp only [Option.bind_some]
        rw [dV hi]
        simp only [Option.bind_some,vD]
        rw [Su,show bl (l[i - 1]'(by omega)).Dir=dM (l[i - 1]'(by omega)) from rfl,show bl (l[i]).Dir=dM l[i] from rfl]
        by_cases c:dM (l[i - 1]'(by omega)) < dM l[i]
        · rw [decide_eq_true c,if_neg (by simp),h1]
          refine ⟨b,rfl,h2.trans ⟨fun H j hj hij h0=>?_,fun H j hj hij h0=>H j hj (by omega) h0⟩⟩
          rcases Nat.lt_or_ge i j with d | d
          · exact H j hj (by omega) h0
          · obtain rfl:i=j:=by omega
            exact c
        · rw [decide_eq_false c,if_pos (by rfl)]
          exact ⟨false,rfl,fun h=>by simp at h,fun H=>absurd (H i hi (Nat.le_refl _) (by omega)) c⟩
    · rw [if_neg (by simpa using hi)]
      exact ⟨true,rfl,fun _ j hj hij=>by omega,fun _=>rfl⟩
structure jX (s:Sto):Prop where
  nodes:s.Nodes.all pnB=true
  nsort:s.Nodes.Pairwise (key · < key ·)
  turns:s.Turns.all ptB=true
  tsort:s.Turns.Pairwise (dM · < dM ·)
theorem Au(s:Sto)(hn:s.Nodes.length ≤ 140737488351232)(ht:s.Turns.length ≤ 140737488351232):∃ b,mZ s=some b∧(b=true ↔ jX s):=by
  unfold mZ gE gF iA iB qB qC
  obtain ⟨v,a1,a2⟩:=Ny s.Nodes hn (((s.Nodes.length:Int) - 0:Int).toNat+1) 0 (by omega) (by omega)
  obtain ⟨u,b1,b2⟩:=Nz s.Turns ht (((s.Turns.length:Int) - 0:Int).toNat+1) 0 (by omega) (by omega)
  obtain ⟨c,c1,c2⟩:=Oa s.Nodes hn (((s.Nodes.length:Int) - 0:Int).toNat+1) 0 (by omega) (by omega)
  obtain ⟨d,d1,d2⟩:=Ma s.Turns ht (((s.Turns.length:Int) - 0:Int).toNat+1) 0 (by omega) (by omega)
  rw [show dO s.Nodes (((s.Nodes.length:Int) - 0:Int).toNat+1) 0=some v from a1,show dP s.Turns (((s.Turns.length:Int) - 0:Int).toNat+1) 0=some u from b1,
    show eN s.Nodes (((s.Nodes.length:Int) - 0:Int).toNat+1) 0=some c from c1,show eO s.Turns (((s.Turns.length:Int) - 0:Int).toNat+1) 0=some d from d1]
  simp only [Option.bind_some]
  rw [a2,b2,List.drop_zero,List.drop_zero]
  have e1:c=true ↔ s.Nodes.Pairwise (key · < key ·):=c2.trans ⟨fun H=>(Qt key _).1 fun j h h0=>H j h (by omega) h0,fun H j h _ h0=>(Qt key _).2 H j h h0⟩
  have e2:d=true ↔ s.Turns.Pairwise (dM · < dM ·):=d2.trans ⟨fun H=>(Qt dM _).1 fun j h h0=>H j h (by omega) h0,fun H j h _ h0=>(Qt dM _).2 H j h h0⟩
  cases f1:s.Nodes.all pnB with
  | false=>exact ⟨false,by simp,fun h=>by simp at h,fun H=>by rw [H.nodes] at f1;cases f1⟩
  | true=>
    cases f2:s.Turns.all ptB with
    | false=>exact ⟨false,by simp,fun h=>by simp at h,fun H=>by rw [H.turns] at f2;cases f2⟩
    | true=>
      cases c with
      | false=>exact ⟨false,by simp,fun h=>by simp at h,fun H=>e1.2 H.nsort⟩
      | true=>
        cases d with
        | false=>exact ⟨false,by simp,fun h=>by simp at h,fun H=>e2.2 H.tsort⟩
        | true=>exact ⟨true,by simp,fun _=>⟨f1,e1.1 rfl,f2,e2.1 rfl⟩,fun _=>rfl⟩
def upP(p:List UInt8):List UInt8:=(iV p).getD [47]
theorem FA(s:ByteArray):tV s=some (mk (upP (bl s))):=by
  unfold tV upP
  rw [M5]
  simp only [Option.bind_some]
  cases iV (bl s) <;> rfl
def E1(p:Pt1):List UInt8:=if p.Kind=4∨p.Kind=9∨p.Kind=10 then bl p.Path else upP (bl p.Path)
def tM(p:Pt1):Bool:=sK p.Path p.Data p.Version (-1) p.Owner && decide (bl p.Dir=E1 p) && decide (1 ≤ p.Kind∧p.Kind ≤ 10) && (decide (p.Kind ≠ 2) || !decide (bl p.Path= [47]))
theorem Bn(p:Pt1)(s:ByteArray)(hs:bl s=E1 p):tQ p s=some (tM p):=by
  unfold tQ tM
  rw [Ib,vP,hs]
  simp only [Option.bind_some]
  cases sK p.Path p.Data p.Version (-1) p.Owner with
  | false=>rw [if_neg (by simp)];simp
  | true=>
    rw [if_pos rfl]
    cases decide (bl p.Dir=E1 p) with
    | false=>rw [if_neg (by simp)];simp
    | true=>
      rw [if_pos rfl]
      by_cases a:p.Kind ≥ 1
      · rw [if_pos (decide_eq_true a)]
        by_cases b:p.Kind ≤ 10
        · rw [if_pos (decide_eq_true b),decide_eq_true (show 1 ≤ p.Kind∧p.Kind ≤ 10 from ⟨a,b⟩)]
          by_cases c:p.Kind=2
          · rw [if_neg (by simpa using c),Wf];simp [c]
          · rw [if_pos (by simpa using c)];simp [c]
        · rw [if_neg (by rw [decide_eq_false b];simp),decide_eq_false (fun h=>b h.2)];simp
      · rw [if_neg (by rw [decide_eq_false a];simp),decide_eq_false (fun h=>a h.1)];simp
theorem Gc(p:Pt1):zM p=some (tM p):=by
  unfold zM tR
  rw [FA]
  simp only [Option.bind_some]
  by_cases a:p.Kind=4
  · rw [if_pos (by simpa using a),if_pos trivial,Bn p _ (by unfold E1;rw [if_pos (.inl a)])]
  · rw [if_neg (by simpa using a)]
    by_cases b:p.Kind=9
    · rw [if_pos (by simpa using b),if_pos trivial,Bn p _ (by unfold E1;rw [if_pos (.inr (.inl b))])]
    · rw [if_neg (by simpa using b)]
      by_cases c:p.Kind=10
      · rw [if_pos (by simpa using c),Bn p _ (by unfold E1;rw [if_pos (.inr (.inr c))])]
      · rw [if_neg (by simpa using c),Bn p _ (by rw [iF];unfold E1;rw [if_neg (by simp [a,b,c])])]
end Go.Cb
