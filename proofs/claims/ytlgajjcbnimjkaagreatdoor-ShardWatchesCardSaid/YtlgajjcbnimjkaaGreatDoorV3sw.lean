/- Plain laws of elder seats, at this one. -/
import Derived.Test.YtlgajjcbnimjkaaGreatDoorV2sw
import Derived.Test.YtlgajjcbnimjkaaGreatDoorKsw2
set_option linter.unusedVariables false
set_option linter.unusedSimpArgs false
namespace Go.Cb
open Go.Proofs Go.RowKit

abbrev em:ByteArray:=ByteArray.mk #[]
theorem Tp(l:List Nd)(t:List Tn)(p:Pt1)(hlen:l.length ≤ 1000000)(hs:l.Pairwise (key · < key ·)) :
    rV l 0 em em 0 [] p=some ((if (ndS l p).2 ≠ 0 then (ndS l p).2 else if (ndS l p).1.Owner ≠ 0 then 65 else 0),em,em,0,[]):=by
  unfold rV oJ
  rcases E3 l t p hlen hs with ⟨e,he,h1,h2⟩ | ⟨i,hi,h1,h2,h3,h4,h5,h6⟩
  · rw [h2]
    simp only [Option.bind_some]
    rw [if_neg (by simp),if_neg (by simp),h1,if_pos (by omega)]
  · rw [h5]
    simp only [Option.bind_some]
    rw [if_pos (decide_eq_true (by omega)),eR hi,h1,if_neg (by simp),h2]
    simp only [Option.bind_some]
    by_cases c:(l[i]).Owner=0
    · rw [if_neg (by simpa using c),if_neg (by simpa using c)]
    · rw [if_pos (by simpa using c),if_pos c];rfl
theorem AD(l:List Nd)(t:List Tn)(p:Pt1)(hlen:l.length ≤ 1000000)(hs:l.Pairwise (key · < key ·)) :
    uE l 0 em em 0 [] p=some ((ndS l p).2,em,em,0,[]):=by
  unfold uE
  rcases E3 l t p hlen hs with ⟨e,he,h1,h2⟩ | ⟨i,hi,h1,h2,h3,h4,h5,h6⟩
  · rw [h2,h1];rfl
  · rw [h5,h1];rfl
theorem Wj(l:List Nd)(t:List Tn)(p:Pt1)(hlen:l.length ≤ 1000000)(hs:l.Pairwise (key · < key ·)) :
    tB l 0 em em 0 [] p=some ((ndS l p).2,em,em,(if (ndS l p).2 ≠ 0 then 0 else (ndS l p).1.Version),[]):=by
  unfold tB
  rcases E3 l t p hlen hs with ⟨e,he,h1,h2⟩ | ⟨i,hi,h1,h2,h3,h4,h5,h6⟩
  · rw [h2]
    simp only [Option.bind_some]
    rw [if_neg (by simp),h1,if_pos (by omega)]
  · rw [h5]
    simp only [Option.bind_some]
    rw [if_pos (decide_eq_true (by omega)),eR hi,h1,if_neg (by simp),h2]
    simp only [Option.bind_some]
theorem Wk(l:List Nd)(t:List Tn)(p:Pt1)(hlen:l.length ≤ 1000000)(hs:l.Pairwise (key · < key ·)) :
    tC l 0 em em 0 [] p=some ((ndS l p).2,em,(if (ndS l p).2 ≠ 0 then em else (ndS l p).1.Data),(if (ndS l p).2 ≠ 0 then 0 else (ndS l p).1.Version),[]):=by
  unfold tC
  rcases E3 l t p hlen hs with ⟨e,he,h1,h2⟩ | ⟨i,hi,h1,h2,h3,h4,h5,h6⟩
  · rw [h2]
    simp only [Option.bind_some]
    rw [if_neg (by simp),h1,if_pos (by omega),if_pos (by omega)]
  · rw [h5]
    simp only [Option.bind_some]
    rw [if_pos (decide_eq_true (by omega)),eR hi,h1,if_neg (by simp),if_neg (by simp),h2]
    simp only [Option.bind_some]
theorem Qs(l:List Nd)(t:List Tn)(p:Pt1)(hlen:l.length ≤ 1000000)(hs:l.Pairwise (key · < key ·)) :
    qV l 0 em em 0 [] p=some ((if (ndS l p).2 ≠ 0 then l else l.filter (fun y=>!isK (bl p.Path) y)),(ndS l p).2,em,em,0,[]):=by
  unfold qV
  rcases E3 l t p hlen hs with ⟨e,he,h1,h2⟩ | ⟨i,hi,h1,h2,h3,h4,h5,h6⟩
  · rw [h2]
    simp only [Option.bind_some]
    rw [if_neg (by simp),h1,if_pos (by omega)]
  · rw [h5]
    simp only [Option.bind_some]
    rw [if_pos (decide_eq_true (by omega)),h6,h1,if_neg (by simp)]
    simp only [Option.bind_some]
    rw [gL ⟨by omega,by omega,by rw [w64 (by omega) (by omega)]⟩,Int.toNat_natCast,Lz hs hi,h3]
def Qt(p:Pt1)(x:Nd):Nd:={ x with Data:=p.Data,Version:=x.Version+1 }
theorem Tq(l:List Nd)(t:List Tn)(p:Pt1)(hlen:l.length ≤ 1000000)(hs:l.Pairwise (key · < key ·))(hv:∀ x ∈ l,0 ≤ x.Version∧x.Version ≤ 281474976710656) :
    rT l 0 em em 0 [] p=some (if (ndS l p).2 ≠ 0 then (l,(ndS l p).2,em,em,0,[]) else if (ndS l p).1.Version=281474976710656 then (l,2,em,em,0,[]) else (upd l (bl p.Path) (Qt p),0,em,em,(ndS l p).1.Version+1,[])):=by
  unfold rT
  rcases E3 l t p hlen hs with ⟨e,he,h1,h2⟩ | ⟨i,hi,h1,h2,h3,h4,h5,h6⟩
  · rw [h2]
    simp only [Option.bind_some]
    rw [if_pos (by simp),h1,if_pos (by omega)]
  · rw [h5]
    simp only [Option.bind_some]
    rw [if_neg (by rw [decide_eq_false (by omega)];simp),eR hi,h1,if_neg (by simp),h2]
    simp only [Option.bind_some]
    by_cases c:(l[i]).Version=281474976710656
    · rw [if_pos (by simpa using c),if_pos c];rfl
    · have:=hv _ (List.getElem_mem hi)
      rw [if_neg (by simpa using c),if_neg c,w64 (by omega) (by omega)]
      simp only [Int.toNat_natCast,List.set_set]
      rw [← h3,← AA hs hi (Qt p)]
      rfl
theorem Me(x:Nd)(b:ByteArray):uU x b=some (uR (bl b) x):=by
  unfold uU uR
  rw [N6,show bl x.Path=key x from rfl]
  simp only [Option.bind_some]
  cases h:jB (key x) with
  | none=>rw [if_neg (by simp [os2])];simp
  | some q=>rw [if_pos (by simp [os2]),vV];simp [os2,gV];rfl
theorem Oh(l:List Nd)(b:ByteArray)(hlen:l.length ≤ 1000000):∀ (k j:Nat),j ≤ l.length→l.length+1 ≤ j+k→∃ z:Int,dO l b k (j:Int)=some z∧decide (z ≥ 0)=(l.drop j).any (uR (bl b))
  | 0,j,_,h=>by omega
  | k+1,j,h0,h=>by
    unfold dO
    by_cases hj:j < l.length
    · rw [if_pos (by simpa using hj),eR hj]
      simp only [Option.bind_some]
      rw [Me]
      simp only [Option.bind_some]
      rw [List.drop_eq_getElem_cons hj,List.any_cons]
      cases hc:uR (bl b) l[j] with
      | true=>rw [if_pos rfl];exact ⟨_,rfl,by simp⟩
      | false=>
        rw [if_neg (by simp),oA (by omega)]
        obtain ⟨z,h1,h2⟩:=Oh l b hlen k (j+1) (by omega) (by omega)
        exact ⟨z,h1,by rw [h2,Bool.false_or]⟩
    · rw [if_neg (by simpa using hj),List.drop_eq_nil_of_le (by omega)]
      exact ⟨_,rfl,rfl⟩
theorem AE(l:List Nd)(b:ByteArray)(hlen:l.length ≤ 1000000):fC l b=some (l.any (uR (bl b))):=by
  unfold fC hC
  obtain ⟨z,h1,h2⟩:=Oh l b hlen (((l.length:Int) - 0:Int).toNat+1) 0 (by omega) (by omega)
  rw [show dO l b (((l.length:Int) - 0:Int).toNat+1) 0=some z from h1]
  simp only [Option.bind_some]
  rw [h2,List.drop_zero]
theorem Bf(l:List Nd)(u:Int×ByteArray×ByteArray×ByteArray×Int×Int×Bool)(hlen:l.length ≤ 1000000):∀ (k j:Nat) (acc:List ByteArray),j ≤ l.length→l.length+1 ≤ j+k→acc.length ≤ j→iM l u k (j:Int) acc=some (acc ++ ((l.drop j).filter (uR (bl u.2.2.1))).map yQ)
  | 0,j,acc,_,h,_=>by omega
  | k+1,j,acc,h0,h,ha=>by
    unfold iM oK
    by_cases hj:j < l.length
    · rw [if_pos (by simpa using hj),eR hj]
      simp only [Option.bind_some]
      rw [Me,oA (by omega)]
      simp only [Option.bind_some]
      rw [List.drop_eq_getElem_cons hj,List.filter_cons]
      cases hc:uR (bl u.2.2.1) l[j] with
      | true=>
        rw [if_pos rfl,if_pos rfl,Hm]
        simp only [Option.bind_some]
        rw [gL (by simp [LIM];omega),Bf l u hlen k (j+1) _ (by omega) (by omega) (by simp;omega),show mk (wX (bl (l[j]).Path))=yQ l[j] from rfl]
        simp
      | false=>
        rw [if_neg (by simp),if_neg (by simp),Bf l u hlen k (j+1) _ (by omega) (by omega) (by omega)]
    · rw [if_neg (by simpa using hj),List.drop_eq_nil_of_le (by omega),List.filter_nil,List.map_nil,List.append_nil]
theorem Tr(l:List Nd)(t:List Tn)(p:Pt1)(hlen:l.length ≤ 1000000):rW l [] p=some ((l.filter (uR (bl p.Path))).map yQ):=by
  unfold rW wD
  simp only [Option.bind_some]
  refine (Bf l _ hlen (((l.length:Int) - 0:Int).toNat+1) 0 [] (by omega) (by omega) (by simp)).trans ?_
  simp
theorem Ij(x:Nd)(w:Int)(r5:ByteArray)(acc:List ByteArray)(ha:acc.length ≤ 1000000):mM x w r5 acc=some (sF (bl r5) w x,if sF (bl r5) w x=true then acc ++ [yQ x] else acc):=by
  unfold mM nA mZ sF
  by_cases h:x.Owner=w
  · rw [if_pos (by simpa using h),Me]
    simp only [Option.bind_some]
    rw [show (x.Owner == w)=true from by simpa using h,Bool.true_and]
    cases hc:uR (bl r5) x with
    | true=>
      rw [if_pos rfl,if_pos rfl,Hm]
      simp only [Option.bind_some]
      rw [gL (by simp [LIM];omega)]
      rfl
    | false=>rw [if_neg (by simp),if_neg (by simp)]
  · rw [if_neg (by simpa using h),if_neg (by simp),show (x.Owner == w)=false from by simpa using h,Bool.false_and,if_neg (by simp)]
theorem Mf(l:List Nd)(w:Int)(r5:ByteArray)(acc:List ByteArray)(ha:acc.length ≤ 500000)(hlen:l.length ≤ 500000):∀ (k j:Nat),j ≤ l.length→l.length+1 ≤ j+k→(∀ m (h:m < l.length),m < j→sF (bl r5) w l[m]=false)→
    (∃ i:Nat,∃ hi:i < l.length,cT l w r5 k (j:Int) acc=some ((i:Int),acc ++ [yQ l[i]])∧sF (bl r5) w l[i]=true∧∀ m (h:m < l.length),m < i→sF (bl r5) w l[m]=false)∨(cT l w r5 k (j:Int) acc=some (-1,acc)∧∀ m (h:m < l.length),sF (bl r5) w l[m]=false)
  | 0,j,_,h,_=>by omega
  | k+1,j,h0,h,hb=>by
    unfold cT
    by_cases hj:j < l.length
    · rw [if_pos (by simpa using hj),eR hj]
      simp only [Option.bind_some]
      rw [Ij _ _ _ _ (by omega)]
      simp only [Option.bind_some]
      cases hc:sF (bl r5) w l[j] with
      | true=>exact .inl ⟨j,hj,by rw [if_pos rfl,if_pos rfl],hc,fun m h hm=>hb m h hm⟩
      | false=>
        rw [if_neg (by simp),if_neg (by simp),oA (by omega)]
        refine Mf l w r5 acc ha hlen k (j+1) (by omega) (by omega) fun m h hm=>?_
        by_cases e:m=j
        · subst e;exact hc
        · exact hb m h (by omega)
    · rw [if_neg (by simpa using hj)]
      exact .inr ⟨rfl,fun m h=>hb m h (by omega)⟩
theorem Hq(l0:List Nd)(w:Int)(r5:ByteArray)(hlen:l0.length ≤ 500000):∀ (k i j:Nat) (l:List Nd) (acc:List ByteArray),l.length=l0.length→i ≤ j→j ≤ l0.length→l0.length+1 ≤ j+k→acc.length ≤ j→l.take i=(l0.take j).filter (fun x=>!sF (bl r5) w x)→l.drop j=l0.drop j→
    dC w r5 k l (i:Int) (j:Int) acc=some (l0.filter (fun x=>!sF (bl r5) w x),acc ++ ((l0.drop j).filter (sF (bl r5) w)).map yQ)
  | 0,i,j,l,acc,_,_,_,h,_,_,_=>by omega
  | k+1,i,j,l,acc,hl,hij,hj0,h,ha,ht,hd=>by
    unfold dC fE
    by_cases hj:j < l.length
    · have hj':j < l0.length:=by omega
      have hjx:l[j]=l0[j]:=by
        have h1:l[j]? =l0[j]? :=by
          have:=congrArg (fun z:List Nd=>z[0]?) hd
          simpa [List.getElem?_drop] using this
        rw [List.getElem?_eq_getElem hj,List.getElem?_eq_getElem hj'] at h1
        exact Option.some.inj h1
      rw [if_pos (by simpa using hj),eR hj]
      simp only [Option.bind_some]
      rw [hjx]
      rw [Ij _ _ _ _ (by omega)]
      simp only [Option.bind_some]
      have hd':l0.drop j=l0[j]::l0.drop (j+1):=List.drop_eq_getElem_cons hj'
      cases hc:sF (bl r5) w l0[j] with
      | false=>
        rw [if_pos (by rfl),eR (show i < l.length by omega)]
        simp only [Option.bind_some,Int.toNat_natCast]
        rw [if_neg (by simp),oA (show i ≤ 4611686018427387904 by omega),oA (show j ≤ 4611686018427387904 by omega)]
        rw [Hq l0 w r5 hlen k (i+1) (j+1) (l.set i l0[j]) acc (by simpa using hl) (by omega) (by omega) (by omega) (by omega) ?_ ?_]
        · rw [hd',List.filter_cons,if_neg (by simp [hc])]
        · rw [W1 hj',hc,← ht,List.take_add_one]
          rw [List.getElem?_set_self (by omega),List.take_set_of_le (by omega)]
          simp
        · rw [List.drop_set_of_lt (by omega),← List.drop_drop,hd,← List.drop_drop]
      | true=>
        rw [if_neg (by simp),if_pos rfl,oA (show j ≤ 4611686018427387904 by omega)]
        rw [Hq l0 w r5 hlen k i (j+1) l _ hl (by omega) (by omega) (by omega) (by simp;omega) ?_ ?_]
        · rw [hd',List.filter_cons,if_pos (by simp [hc])];simp
        · rw [W1 hj',hc,ht];simp
        · rw [← List.drop_drop,hd,← List.drop_drop]
    · have hje:j=l0.length:=by omega
      subst hje
      rw [if_neg (by simpa using hj),gL (by omega)]
      have hti:l.take i=l0.filter (fun x=>!sF (bl r5) w x):=by rw [ht,List.take_length]
      simp only [Int.toNat_natCast]
      rw [gL (by rw [List.length_append,List.length_take,List.length_replicate];omega)]
      have:(l.take i ++ List.replicate (l.length - i) (⟨⟨#[]⟩,⟨#[]⟩,0,0,0⟩:Nd)).take i=l.take i:=by
        rw [List.take_append_of_le_length (by rw [List.length_take];omega),List.take_take,Nat.min_self]
      rw [this,hti,List.drop_length]
      simp
theorem Ts(l:List Nd)(t:List Tn)(p:Pt1)(hlen:l.length ≤ 500000):rU l [] p=some (l.filter (fun x=>!sF (bl p.Path) p.Owner x),(l.filter (sF (bl p.Path) p.Owner)).map yQ):=by
  unfold rU wD
  simp only [Option.bind_some]
  unfold hP hB
  rcases Mf l p.Owner p.Path [] (by simp) hlen (((l.length:Int) - 0:Int).toNat+1) 0 (by omega) (by omega) (fun m h hm=>by omega) with ⟨j,hj,h1,h2,h3⟩ | ⟨h1,h3⟩
  · rw [show cT l p.Owner p.Path (((l.length:Int) - 0:Int).toNat+1) 0 []=some ((j:Int),[] ++ [yQ l[j]]) from h1]
    simp only [Option.bind_some]
    rw [if_neg (by simp only [beq_iff_eq];omega),oA (by omega)]
    have htk:(l.take j).filter (fun x=>!sF (bl p.Path) p.Owner x)=l.take j:=List.filter_eq_self.2 fun y hy=>by
      obtain ⟨m,hm,rfl⟩:=List.mem_take_iff_getElem.1 hy
      rw [h3 m (by omega) (by omega)];rfl
    have htk2:(l.take j).filter (sF (bl p.Path) p.Owner)= []:=List.filter_eq_nil_iff.2 fun y hy=>by
      obtain ⟨m,hm,rfl⟩:=List.mem_take_iff_getElem.1 hy
      rw [h3 m (by omega) (by omega)];simp
    rw [Hq l p.Owner p.Path hlen _ j (j+1) l _ rfl (by omega) (by omega) (by omega) (by simp) ?_ rfl]
    · simp only [Option.bind_some]
      have:l.filter (sF (bl p.Path) p.Owner)=l[j]::(l.drop (j+1)).filter (sF (bl p.Path) p.Owner):=by
        have e:∀ f:Nd→Bool,l.filter f=(l.take j).filter f ++ (l[j]::l.drop (j+1)).filter f:=fun f=>by rw [← List.filter_append,← List.drop_eq_getElem_cons hj,List.take_append_drop]
        rw [e,htk2,List.filter_cons,if_pos h2]
        rfl
      rw [this]
      rfl
    · rw [W1 hj,htk,h2];simp
  · rw [show cT l p.Owner p.Path (((l.length:Int) - 0:Int).toNat+1) 0 []=some (-1,[]) from h1]
    simp only [Option.bind_some]
    have f1:l.filter (fun x=>!sF (bl p.Path) p.Owner x)=l:=List.filter_eq_self.2 fun y hy=>by
      obtain ⟨m,hm,rfl⟩:=List.mem_iff_getElem.1 hy
      rw [h3 m hm];rfl
    have f2:l.filter (sF (bl p.Path) p.Owner)= []:=List.filter_eq_nil_iff.2 fun y hy=>by
      obtain ⟨m,hm,rfl⟩:=List.mem_iff_getElem.1 hy
      rw [h3 m hm];simp
    rw [f1,f2]
    rfl
end Go.Cb
