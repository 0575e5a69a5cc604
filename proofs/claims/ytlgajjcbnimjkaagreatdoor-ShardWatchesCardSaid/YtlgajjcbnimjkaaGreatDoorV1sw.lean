/- Plain laws of elder seats, at this one. -/
import Derived.Test.YtlgajjcbnimjkaaGreatDoorU1sw
import Derived.Test.YtlgajjcbnimjkaaGreatDoorKsw1
set_option linter.unusedVariables false
set_option linter.unusedSimpArgs false
namespace Go.Cb
open Go.Proofs Go.RowKit

abbrev Tn:=aI
abbrev Sto:=aW
abbrev Pt1:=bL
def dU(t:Tn):List UInt8:=bl t.Dir
theorem Tg{a b:List UInt8}(h:¬ a < b)(k:a ≠ b):b < a:=by
  rcases FA a b with h' | h' | h'
  · exact absurd h' h
  · exact absurd h' k
  · exact h'
section
variable {α:Type} (κ:α→List UInt8)
def gLt(p:List UInt8)(x:α):Bool:=decide (κ x < p)
def gEq(p:List UInt8)(x:α):Bool:=decide (κ x=p)
def gGt(p:List UInt8)(x:α):Bool:=!gLt κ p x && !gEq κ p x
theorem Th(l:List α)(p:List UInt8)(i:Nat)(hs:l.Pairwise (κ · < κ ·))(h1:i ≤ l.length)(h3:∀ j (h:j < l.length),j < i→κ l[j] < p)(h4:∀ j (h:j < l.length),i ≤ j→¬ κ l[j] < p) :
    l.take i=l.filter (gLt κ p)∧((∃ x,l.drop i=x::l.filter (gGt κ p)∧κ x=p∧l.find? (gEq κ p)=some x∧l[i]? =some x∧x ∈ l)∨(l.drop i=l.filter (gGt κ p)∧l.find? (gEq κ p)=none∧l[i]?.map κ ≠ some p)):=by
  have hp:=List.pairwise_iff_getElem.1 hs
  have e:∀ g:α→Bool,l.filter g=(l.take i).filter g ++ (l.drop i).filter g:=fun g=>by rw [← List.filter_append,List.take_append_drop]
  have ht:∀ y ∈ l.take i,κ y < p:=fun y hy=>by
    obtain ⟨m,hm,rfl⟩:=List.mem_take_iff_getElem.1 hy
    exact h3 m (by omega) (by omega)
  have hd:∀ y ∈ l.drop i,¬ κ y < p:=fun y hy=>by
    obtain ⟨m,hm,rfl⟩:=List.mem_drop_iff_getElem.1 hy
    exact h4 _ (by omega) (by omega)
  have t1:(l.take i).filter (gLt κ p)=l.take i:=List.filter_eq_self.2 fun y hy=>by simpa [gLt] using ht y hy
  have t2:(l.drop i).filter (gLt κ p)= []:=List.filter_eq_nil_iff.2 fun y hy=>by simpa [gLt] using hd y hy
  have t3:(l.take i).filter (gGt κ p)= []:=List.filter_eq_nil_iff.2 fun y hy=>by simp [gGt,gLt,ht y hy]
  refine ⟨by rw [e,t1,t2,List.append_nil],?_⟩
  rw [e (gGt κ p),t3,List.nil_append]
  by_cases hi:i < l.length
  · by_cases hk:κ l[i]=p
    · refine .inl ⟨l[i],?_,hk,?_,List.getElem?_eq_getElem hi,List.getElem_mem hi⟩
      · rw [List.drop_eq_getElem_cons hi,List.filter_cons,if_neg (by simp [gGt,gEq,hk])]
        congr 1
        refine (List.filter_eq_self.2 fun y hy=>?_).symm
        obtain ⟨m,hm,rfl⟩:=List.mem_drop_iff_getElem.1 hy
        have:=hp i (i+1+m) hi (by omega) (by omega)
        rw [hk] at this
        simp [gGt,gLt,gEq,Eu this,(w7 this).symm]
      · rw [List.find?_eq_some_iff_append]
        refine ⟨by simpa [gEq] using hk,l.take i,l.drop (i+1),?_,fun y hy=>by simpa [gEq] using w7 (ht y hy)⟩
        rw [← List.drop_eq_getElem_cons hi,List.take_append_drop]
    · have hne:∀ y ∈ l.drop i,κ y ≠ p:=fun y hy=>by
        obtain ⟨m,hm,rfl⟩:=List.mem_drop_iff_getElem.1 hy
        rcases Nat.eq_zero_or_pos m with rfl | hm0
        · simpa using hk
        · have h5:=Tg (h4 i hi (Nat.le_refl _)) hk
          exact (w7 (wY h5 (hp i (i+m) hi (by omega) (by omega)))).symm
      refine .inr ⟨?_,?_,by rw [List.getElem?_eq_getElem hi];simpa using hk⟩
      · exact (List.filter_eq_self.2 fun y hy=>by simp [gGt,gLt,gEq,hd y hy,hne y hy]).symm
      · rw [List.find?_eq_none]
        intro y hy
        rw [← List.take_append_drop i l] at hy
        rcases List.mem_append.1 hy with h | h
        · simpa [gEq] using w7 (ht y h)
        · simpa [gEq] using hne y h
  · refine .inr ⟨?_,?_,by rw [List.getElem?_eq_none (by omega)];simp⟩
    · rw [List.drop_eq_nil_of_le (by omega)];rfl
    · rw [List.find?_eq_none]
      intro y hy
      have:l.take i=l:=List.take_of_length_le (by omega)
      rw [← this] at hy
      simpa [gEq] using w7 (ht y hy)
end
theorem vY(s:ByteArray):eP s=some (dQ (bl s)):=by
  unfold eP
  rw [V9]
  simp only [Option.bind_some]
  unfold spl dQ
  cases parts (bl s) <;> rfl
theorem W2(x a b:Int):rP x a b=some (decide (a ≤ x∧x ≤ b)):=by
  unfold rP
  by_cases h:x ≥ a
  · rw [if_pos (by simpa using h)]
    congr 1
    exact decide_eq_decide.2 ⟨fun h'=>⟨h,h'⟩,fun h'=>h'.2⟩
  · rw [if_neg (by simpa using h),decide_eq_false (fun h'=>h h'.1)]
def sR(p d:ByteArray)(v least o:Int):Bool:=dQ (bl p) && decide ((bl d).length ≤ 256) && decide (least ≤ v∧v ≤ 281474976710656) && decide (0 ≤ o∧o ≤ 1099511627776)
theorem Ii(p d:ByteArray)(v least o:Int):tX p d v least o=some (sR p d v least o):=by
  unfold tX sR
  rw [vY]
  simp only [Option.bind_some]
  have z:=iD d
  cases dQ (bl p) with
  | false=>rw [if_neg (by simp)];simp
  | true=>
    rw [if_pos rfl]
    by_cases h:(bl d).length ≤ 256
    · rw [if_pos (decide_eq_true (by omega)),W2,decide_eq_true h]
      simp only [Option.bind_some]
      cases decide (least ≤ v∧v ≤ 281474976710656) with
      | false=>rw [if_neg (by simp)];simp
      | true=>rw [if_pos rfl,W2];simp
    · rw [if_neg (by rw [decide_eq_false (by omega)];simp),decide_eq_false h];simp
def pnB(x:Nd):Bool:=decide (x.Turn=0) && sR x.Path x.Data x.Version 0 x.Owner
def ptB(t:Tn):Bool:=dQ (dU t) && decide (1 ≤ t.Next∧t.Next ≤ 10000)
theorem Ti(x:Nd):vL x=some (!pnB x):=by
  unfold vL pnB
  by_cases h:x.Turn=0
  · rw [if_neg (by simpa using h),Ii,decide_eq_true h];simp
  · rw [if_pos (by simpa using h),decide_eq_false h];simp
theorem Tj(t:Tn):vM t=some (!ptB t):=by
  unfold vM ptB
  rw [vY,show bl t.Dir=dU t from rfl]
  simp only [Option.bind_some]
  cases dQ (dU t) with
  | false=>rw [if_pos (by rfl)];simp
  | true=>rw [if_neg (by simp),W2];simp
theorem Oe(l:List Nd)(hl:l.length ≤ 140737488351232):∀ (k i:Nat),i ≤ l.length→l.length+1 ≤ i+k→∃ v:Int,dW l k (i:Int)=some v∧decide (v ≥ 0)= !(l.drop i).all pnB
  | 0,i,_,h=>by omega
  | k+1,i,h0,h=>by
    unfold dW
    by_cases hi:i < l.length
    · rw [if_pos (by simpa using hi),eR hi,List.drop_eq_getElem_cons hi]
      simp only [Option.bind_some,Ti,List.all_cons]
      cases hm:pnB l[i] with
      | false=>rw [if_pos (by rfl)];exact ⟨_,rfl,by simp⟩
      | true=>
        rw [if_neg (by simp),oA (by omega)]
        obtain ⟨v,h1,h2⟩:=Oe l hl k (i+1) (by omega) (by omega)
        exact ⟨v,h1,by rw [h2];simp⟩
    · rw [if_neg (by simpa using hi),List.drop_eq_nil_of_le (by omega)]
      exact ⟨-1,rfl,by simp⟩
theorem Of(l:List Tn)(hl:l.length ≤ 140737488351232):∀ (k i:Nat),i ≤ l.length→l.length+1 ≤ i+k→∃ v:Int,dX l k (i:Int)=some v∧decide (v ≥ 0)= !(l.drop i).all ptB
  | 0,i,_,h=>by omega
  | k+1,i,h0,h=>by
    unfold dX
    by_cases hi:i < l.length
    · rw [if_pos (by simpa using hi),eR hi,List.drop_eq_getElem_cons hi]
      simp only [Option.bind_some,Tj,List.all_cons]
      cases hm:ptB l[i] with
      | false=>rw [if_pos (by rfl)];exact ⟨_,rfl,by simp⟩
      | true=>
        rw [if_neg (by simp),oA (by omega)]
        obtain ⟨v,h1,h2⟩:=Of l hl k (i+1) (by omega) (by omega)
        exact ⟨v,h1,by rw [h2];simp⟩
    · rw [if_neg (by simpa using hi),List.drop_eq_nil_of_le (by omega)]
      exact ⟨-1,rfl,by simp⟩
theorem Qr{α:Type}(κ:α→List UInt8)(l:List α):(∀ j (h:j < l.length),0 < j→κ (l[j - 1]'(by omega)) < κ l[j]) ↔ l.Pairwise (κ · < κ ·):=by
  constructor
  · intro h
    rw [List.pairwise_iff_getElem]
    intro i j hi hj hij
    induction j with
    | zero=>omega
    | succ j ih=>
      have h1:=h (j+1) hj (by omega)
      simp only [Nat.add_sub_cancel] at h1
      rcases Nat.lt_or_ge i j with c | c
      · exact wY (ih (by omega) c) h1
      · obtain rfl:i=j:=by omega
        exact h1
  · intro h j hj h0
    exact List.pairwise_iff_getElem.1 h (j - 1) j (by omega) hj (by omega)
theorem Og(l:List Nd)(hl:l.length ≤ 140737488351232):∀ (k i:Nat),i ≤ l.length→l.length+1 ≤ i+k→∃ b,eY l k (i:Int)=some b∧(b=true ↔ ∀ j (h:j < l.length),i ≤ j→0 < j→key (l[j - 1]'(by omega)) < key l[j])
  | 0,i,_,h=>by omega
  | k+1,i,h0,h=>by
    unfold eY kK
    by_cases hi:i < l.length
    · rw [if_pos (by simpa using hi),oA (by omega)]
      obtain ⟨b,h1,h2⟩:=Og l hl k (i+1) (by omega) (by omega)
      by_cases h00:i=0
      · subst h00
        rw [if_neg (by simp),if_neg (by simp),h1]
        refine ⟨b,rfl,h2.trans ⟨fun H j hj hij h0=>H j hj (by omega) h0,fun H j hj hij h0=>H j hj (by omega) h0⟩⟩
      · rw [if_pos (decide_eq_true (by omega)),show IntKind.i64.wrap ((i:Int) - 1)=((i - 1:Nat):Int) from by rw [w64 (by omega) (by omega)];omega,eR (show i - 1 < l.length by omega)]
        simp only [Option.bind_some]
        rw [eR hi]
        simp only [Option.bind_some,vJ]
        rw [Sr,show bl (l[i - 1]'(by omega)).Path=key (l[i - 1]'(by omega)) from rfl,show bl (l[i]).Path=key l[i] from rfl]
        by_cases c:key (l[i - 1]'(by omega)) < key l[i]
        · rw [decide_eq_true c,if_neg (by simp),h1]
          refine ⟨b,rfl,h2.trans ⟨fun H j hj hij h0=>?_,fun H j hj hij h0=>H j hj (by omega) h0⟩⟩
          rcases Nat.lt_or_ge i j with d | d
          · exact H j hj (by omega) h0
          · obtain rfl:i=j:=by omega
            exact c
        · rw [decide_eq_false c,if_pos (by rfl)]
          exact ⟨false,rfl,fun h=>by simp at h,fun H=>absurd (H i hi (Nat.le_refl _) (by omega)) c⟩
    · rw [if_neg (by simpa using hi)]
      exact ⟨true,rfl,fun _ j hj hij=>by omega,fun _=>rfl⟩
theorem Mb(l:List Tn)(hl:l.length ≤ 140737488351232):∀ (k i:Nat),i ≤ l.length→l.length+1 ≤ i+k→∃ b,eZ l k (i:Int)=some b∧(b=true ↔ ∀ j (h:j < l.length),i ≤ j→0 < j→dU (l[j - 1]'(by omega)) < dU l[j])
  | 0,i,_,h=>by omega
  | k+1,i,h0,h=>by
    unfold eZ kM
    by_cases hi:i < l.length
    · rw [if_pos (by simpa using hi),oA (by omega)]
      obtain ⟨b,h1,h2⟩:=Mb l hl k (i+1) (by omega) (by omega)
      by_cases h00:i=0
      · subst h00
        rw [if_neg (by simp),if_neg (by simp),h1]
        refine ⟨b,rfl,h2.trans ⟨fun H j hj hij h0=>H j hj (by omega) h0,fun H j hj hij h0=>H j hj (by omega) h0⟩⟩
      · rw [if_pos (decide_eq_true (by omega)),show IntKind.i64.wrap ((i:Int) - 1)=((i - 1:Nat):Int) from by rw [w64 (by omega) (by omega)];omega,eR (show i - 1 < l.length by omega)]
        simp only [Option.bind_some]
        rw [eR hi]
        simp only [Option.bind_some,vK]
        rw [Sr,show bl (l[i - 1]'(by omega)).Dir=dU (l[i - 1]'(by omega)) from rfl,show bl (l[i]).Dir=dU l[i] from rfl]
        by_cases c:dU (l[i - 1]'(by omega)) < dU l[i]
        · rw [decide_eq_true c,if_neg (by simp),h1]
          refine ⟨b,rfl,h2.trans ⟨fun H j hj hij h0=>?_,fun H j hj hij h0=>H j hj (by omega) h0⟩⟩
          rcases Nat.lt_or_ge i j with d | d
          · exact H j hj (by omega) h0
          · obtain rfl:i=j:=by omega
            exact c
        · rw [decide_eq_false c,if_pos (by rfl)]
          exact ⟨false,rfl,fun h=>by simp at h,fun H=>absurd (H i hi (Nat.le_refl _) (by omega)) c⟩
    · rw [if_neg (by simpa using hi)]
      exact ⟨true,rfl,fun _ j hj hij=>by omega,fun _=>rfl⟩
structure gM (s:Sto):Prop where
  nodes:s.Nodes.all pnB=true
  nsort:s.Nodes.Pairwise (key · < key ·)
  turns:s.Turns.all ptB=true
  tsort:s.Turns.Pairwise (dU · < dU ·)
theorem Be(s:Sto)(hn:s.Nodes.length ≤ 140737488351232)(ht:s.Turns.length ≤ 140737488351232):∃ b,mY s=some b∧(b=true ↔ gM s):=by
  unfold mY gS gT iJ iK qJ qK
  obtain ⟨v,a1,a2⟩:=Oe s.Nodes hn (((s.Nodes.length:Int) - 0:Int).toNat+1) 0 (by omega) (by omega)
  obtain ⟨u,b1,b2⟩:=Of s.Turns ht (((s.Turns.length:Int) - 0:Int).toNat+1) 0 (by omega) (by omega)
  obtain ⟨c,c1,c2⟩:=Og s.Nodes hn (((s.Nodes.length:Int) - 0:Int).toNat+1) 0 (by omega) (by omega)
  obtain ⟨d,d1,d2⟩:=Mb s.Turns ht (((s.Turns.length:Int) - 0:Int).toNat+1) 0 (by omega) (by omega)
  rw [show dW s.Nodes (((s.Nodes.length:Int) - 0:Int).toNat+1) 0=some v from a1,show dX s.Turns (((s.Turns.length:Int) - 0:Int).toNat+1) 0=some u from b1,
    show eY s.Nodes (((s.Nodes.length:Int) - 0:Int).toNat+1) 0=some c from c1,show eZ s.Turns (((s.Turns.length:Int) - 0:Int).toNat+1) 0=some d from d1]
  simp only [Option.bind_some]
  rw [a2,b2,List.drop_zero,List.drop_zero]
  have e1:c=true ↔ s.Nodes.Pairwise (key · < key ·):=c2.trans ⟨fun H=>(Qr key _).1 fun j h h0=>H j h (by omega) h0,fun H j h _ h0=>(Qr key _).2 H j h h0⟩
  have e2:d=true ↔ s.Turns.Pairwise (dU · < dU ·):=d2.trans ⟨fun H=>(Qr dU _).1 fun j h h0=>H j h (by omega) h0,fun H j h _ h0=>(Qr dU _).2 H j h h0⟩
  cases f1:s.Nodes.all pnB with
  | false=>exact ⟨false,by simp,fun h=>by simp at h,fun H=>by rw [H.nodes] at f1;cases f1⟩
  | true=>
    cases f2:s.Turns.all ptB with
    | false=>exact ⟨false,by simp,fun h=>by simp at h,fun H=>by rw [H.turns] at f2;cases f2⟩
    | true=>
      cases c with
      | false=>exact ⟨false,by simp,fun h=>by simp at h,fun H=>e1.2 H.nsort⟩
      | true=>
        cases d with
        | false=>exact ⟨false,by simp,fun h=>by simp at h,fun H=>e2.2 H.tsort⟩
        | true=>exact ⟨true,by simp,fun _=>⟨f1,e1.1 rfl,f2,e2.1 rfl⟩,fun _=>rfl⟩
def upP(p:List UInt8):List UInt8:=(jB p).getD [47]
theorem FD(s:ByteArray):uB s=some (mk (upP (bl s))):=by
  unfold uB upP
  rw [N6]
  simp only [Option.bind_some]
  cases jB (bl s) <;> rfl
def E8(p:Pt1):List UInt8:=if p.Kind=4∨p.Kind=9∨p.Kind=10 then bl p.Path else upP (bl p.Path)
def rR(p:Pt1):Bool:=sR p.Path p.Data p.Version (-1) p.Owner && decide (bl p.Dir=E8 p) && decide (1 ≤ p.Kind∧p.Kind ≤ 10) && (decide (p.Kind ≠ 2) || !decide (bl p.Path= [47]))
theorem Bz(p:Pt1)(s:ByteArray)(hs:bl s=E8 p):tY p s=some (rR p):=by
  unfold tY rR
  rw [Ii,vV,hs]
  simp only [Option.bind_some]
  cases sR p.Path p.Data p.Version (-1) p.Owner with
  | false=>rw [if_neg (by simp)];simp
  | true=>
    rw [if_pos rfl]
    cases decide (bl p.Dir=E8 p) with
    | false=>rw [if_neg (by simp)];simp
    | true=>
      rw [if_pos rfl]
      by_cases a:p.Kind ≥ 1
      · rw [if_pos (decide_eq_true a)]
        by_cases b:p.Kind ≤ 10
        · rw [if_pos (decide_eq_true b),decide_eq_true (show 1 ≤ p.Kind∧p.Kind ≤ 10 from ⟨a,b⟩)]
          by_cases c:p.Kind=2
          · rw [if_neg (by simpa using c),Wh];simp [c]
          · rw [if_pos (by simpa using c)];simp [c]
        · rw [if_neg (by rw [decide_eq_false b];simp),decide_eq_false (fun h=>b h.2)];simp
      · rw [if_neg (by rw [decide_eq_false a];simp),decide_eq_false (fun h=>a h.1)];simp
theorem Gn(p:Pt1):zT p=some (rR p):=by
  unfold zT tZ
  rw [FD]
  simp only [Option.bind_some]
  by_cases a:p.Kind=4
  · rw [if_pos (by simpa using a),if_pos trivial,Bz p _ (by unfold E8;rw [if_pos (.inl a)])]
  · rw [if_neg (by simpa using a)]
    by_cases b:p.Kind=9
    · rw [if_pos (by simpa using b),if_pos trivial,Bz p _ (by unfold E8;rw [if_pos (.inr (.inl b))])]
    · rw [if_neg (by simpa using b)]
      by_cases c:p.Kind=10
      · rw [if_pos (by simpa using c),Bz p _ (by unfold E8;rw [if_pos (.inr (.inr c))])]
      · rw [if_neg (by simpa using c),Bz p _ (by rw [gV];unfold E8;rw [if_neg (by simp [a,b,c])])]
end Go.Cb
