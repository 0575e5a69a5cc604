/- Plain laws of elder seats, at this one. -/
import Derived.Test.YtlgajjcbnimjkaaGreatDoorV1sw
import Derived.Test.YtlgajjcbnimjkaaGreatDoorKsw2
set_option linter.unusedVariables false
set_option linter.unusedSimpArgs false
namespace Go.Cb
open Go.Proofs Go.RowKit

theorem Tk(x:Nd)(s:ByteArray):pS x s=some (if key x < bl s then -1 else if key x=bl s then 0 else 1):=by
  show some (Extern.BytealgCompare.cmp x.Path s)=_
  rw [Ta];rfl
theorem Tl(x:Tn)(s:ByteArray):qQ x s=some (if dU x < bl s then -1 else if dU x=bl s then 0 else 1):=by
  show some (Extern.BytealgCompare.cmp x.Dir s)=_
  rw [Ta];rfl
theorem Mc(l:List Nd)(s:ByteArray)(hlen:l.length ≤ 1000000)(hs:∀ i j (hi:i < l.length) (hj:j < l.length),i < j→key l[i] < key l[j]):∀ (k lo hi:Nat),lo ≤ hi→hi ≤ l.length→hi+1 ≤ lo+k→(∀ j (h:j < l.length),j < lo→key l[j] < bl s)→(∀ j (h:j < l.length),hi ≤ j→¬ key l[j] < bl s)→
    ∃ i,i ≤ l.length∧cK l s k (lo:Int) (hi:Int)=some ((i:Int),decide (l[i]?.map key=some (bl s)))∧(∀ j (h:j < l.length),j < i→key l[j] < bl s)∧(∀ j (h:j < l.length),i ≤ j→¬ key l[j] < bl s)
  | 0,lo,hi,_,_,h,_,_=>by omega
  | k+1,lo,hi,hlh,hhi,h,hlo,hup=>by
    unfold cK
    by_cases hl:lo < hi
    · rw [if_pos (by simpa using hl),show IntKind.i64.wrap ((lo:Int)+(hi:Int))=IntKind.i64.wrap ((lo+hi:Nat):Int) from by rw [Int.natCast_add],FB _ (by omega)]
      have hm:(lo+hi) / 2 < l.length:=by omega
      rw [eR hm]
      simp only [Option.bind_some]
      rw [Tk]
      simp only [Option.bind_some]
      by_cases hk:key l[(lo+hi) / 2] < bl s
      · rw [if_pos hk,if_pos (by decide),show IntKind.i64.wrap ((((lo+hi) / 2:Nat):Int)+1)=(((lo+hi) / 2+1:Nat):Int) from by rw [w64 (by omega) (by omega)];omega]
        refine Mc l s hlen hs k ((lo+hi) / 2+1) hi (by omega) hhi (by omega) (fun j hj hjl=>?_) hup
        by_cases e:j=(lo+hi) / 2
        · subst e;exact hk
        · exact wY (hs j _ hj hm (by omega)) hk
      · rw [if_neg hk,if_neg (by split <;> decide)]
        refine Mc l s hlen hs k lo ((lo+hi) / 2) (by omega) (by omega) (by omega) hlo (fun j hj hjl=>?_)
        by_cases e:(lo+hi) / 2=j
        · subst e;exact hk
        · exact fun h'=>hk (wY (hs _ j hm hj (by omega)) h')
    · rw [if_neg (by simpa using hl)]
      have e:lo=hi:=by omega
      subst e
      refine ⟨lo,hhi,?_,hlo,hup⟩
      by_cases hl2:lo < l.length
      · rw [if_pos (by simpa using hl2),eR hl2]
        simp only [Option.bind_some]
        rw [Tk]
        simp only [Option.bind_some]
        rw [if_neg (hup lo hl2 (Nat.le_refl _)),List.getElem?_eq_getElem hl2]
        by_cases hk:key l[lo]=bl s <;> simp [hk]
      · rw [if_neg (by simpa using hl2),List.getElem?_eq_none (by omega)]
        simp
theorem Md(l:List Tn)(s:ByteArray)(hlen:l.length ≤ 1000000)(hs:∀ i j (hi:i < l.length) (hj:j < l.length),i < j→dU l[i] < dU l[j]):∀ (k lo hi:Nat),lo ≤ hi→hi ≤ l.length→hi+1 ≤ lo+k→(∀ j (h:j < l.length),j < lo→dU l[j] < bl s)→(∀ j (h:j < l.length),hi ≤ j→¬ dU l[j] < bl s)→
    ∃ i,i ≤ l.length∧cL l s k (lo:Int) (hi:Int)=some ((i:Int),decide (l[i]?.map dU=some (bl s)))∧(∀ j (h:j < l.length),j < i→dU l[j] < bl s)∧(∀ j (h:j < l.length),i ≤ j→¬ dU l[j] < bl s)
  | 0,lo,hi,_,_,h,_,_=>by omega
  | k+1,lo,hi,hlh,hhi,h,hlo,hup=>by
    unfold cL
    by_cases hl:lo < hi
    · rw [if_pos (by simpa using hl),show IntKind.i64.wrap ((lo:Int)+(hi:Int))=IntKind.i64.wrap ((lo+hi:Nat):Int) from by rw [Int.natCast_add],FB _ (by omega)]
      have hm:(lo+hi) / 2 < l.length:=by omega
      rw [eR hm]
      simp only [Option.bind_some]
      rw [Tl]
      simp only [Option.bind_some]
      by_cases hk:dU l[(lo+hi) / 2] < bl s
      · rw [if_pos hk,if_pos (by decide),show IntKind.i64.wrap ((((lo+hi) / 2:Nat):Int)+1)=(((lo+hi) / 2+1:Nat):Int) from by rw [w64 (by omega) (by omega)];omega]
        refine Md l s hlen hs k ((lo+hi) / 2+1) hi (by omega) hhi (by omega) (fun j hj hjl=>?_) hup
        by_cases e:j=(lo+hi) / 2
        · subst e;exact hk
        · exact wY (hs j _ hj hm (by omega)) hk
      · rw [if_neg hk,if_neg (by split <;> decide)]
        refine Md l s hlen hs k lo ((lo+hi) / 2) (by omega) (by omega) (by omega) hlo (fun j hj hjl=>?_)
        by_cases e:(lo+hi) / 2=j
        · subst e;exact hk
        · exact fun h'=>hk (wY (hs _ j hm hj (by omega)) h')
    · rw [if_neg (by simpa using hl)]
      have e:lo=hi:=by omega
      subst e
      refine ⟨lo,hhi,?_,hlo,hup⟩
      by_cases hl2:lo < l.length
      · rw [if_pos (by simpa using hl2),eR hl2]
        simp only [Option.bind_some]
        rw [Tl]
        simp only [Option.bind_some]
        rw [if_neg (hup lo hl2 (Nat.le_refl _)),List.getElem?_eq_getElem hl2]
        by_cases hk:dU l[lo]=bl s <;> simp [hk]
      · rw [if_neg (by simpa using hl2),List.getElem?_eq_none (by omega)]
        simp
theorem Tm(l:List Nd)(s:ByteArray)(hlen:l.length ≤ 1000000)(hs:l.Pairwise (key · < key ·)) :
    ∃ i:Nat,i ≤ l.length∧jZ l s=some ((i:Int),(l.find? (isK (bl s))).isSome)∧l.take i=l.filter (gLt key (bl s))∧
      ((∃ x,l.drop i=x::l.filter (gGt key (bl s))∧key x=bl s∧l.find? (isK (bl s))=some x∧l[i]? =some x∧x ∈ l)∨(l.drop i=l.filter (gGt key (bl s))∧l.find? (isK (bl s))=none)):=by
  obtain ⟨i,h1,h2,h3,h4⟩:=Mc l s hlen (List.pairwise_iff_getElem.1 hs) (((l.length:Int) - 0:Int).toNat+1) 0 l.length (by omega) (Nat.le_refl _) (by omega) (fun j _ h=>by omega) (fun j h h'=>by omega)
  obtain ⟨g1,g2⟩:=Th key l (bl s) i hs h1 h3 h4
  refine ⟨i,h1,?_,g1,?_⟩
  · unfold jZ fA
    rw [show cK l s (((l.length:Int) - 0:Int).toNat+1) 0 (l.length:Int)=_ from h2]
    simp only [Option.bind_some]
    rcases g2 with ⟨x,_,hk,hf,hi,_⟩ | ⟨_,hf,hi⟩
    · rw [hi,show l.find? (isK (bl s))=some x from hf];simp [hk]
    · rw [decide_eq_false hi,show l.find? (isK (bl s))=none from hf];rfl
  · rcases g2 with ⟨x,a,b,c,d,e⟩ | ⟨a,b,_⟩
    · exact .inl ⟨x,a,b,c,d,e⟩
    · exact .inr ⟨a,b⟩
theorem FE(l:List Tn)(s:ByteArray)(hlen:l.length ≤ 1000000)(hs:l.Pairwise (dU · < dU ·)) :
    ∃ i:Nat,i ≤ l.length∧cO l s=some ((i:Int),(l.find? (gEq dU (bl s))).isSome)∧l.take i=l.filter (gLt dU (bl s))∧
      ((∃ x,l.drop i=x::l.filter (gGt dU (bl s))∧dU x=bl s∧l.find? (gEq dU (bl s))=some x∧l[i]? =some x∧x ∈ l)∨(l.drop i=l.filter (gGt dU (bl s))∧l.find? (gEq dU (bl s))=none)):=by
  obtain ⟨i,h1,h2,h3,h4⟩:=Md l s hlen (List.pairwise_iff_getElem.1 hs) (((l.length:Int) - 0:Int).toNat+1) 0 l.length (by omega) (Nat.le_refl _) (by omega) (fun j _ h=>by omega) (fun j h h'=>by omega)
  obtain ⟨g1,g2⟩:=Th dU l (bl s) i hs h1 h3 h4
  refine ⟨i,h1,?_,g1,?_⟩
  · unfold cO
    rw [show cL l s (((l.length:Int) - 0:Int).toNat+1) 0 (l.length:Int)=_ from h2]
    rcases g2 with ⟨x,_,hk,hf,hi,_⟩ | ⟨_,hf,hi⟩
    · rw [hi,hf];simp [hk]
    · rw [decide_eq_false hi,hf];rfl
  · rcases g2 with ⟨x,a,b,c,d,e⟩ | ⟨a,b,_⟩
    · exact .inl ⟨x,a,b,c,d,e⟩
    · exact .inr ⟨a,b⟩
def FF(p:Pt1)(x:Nd):Bool:=(decide (p.Kind=3) || decide (p.Kind=5) || decide (p.Kind=6)) && decide (0 ≤ p.Version) && decide (p.Version ≠ x.Version)
def ndS(l:List Nd)(p:Pt1):Nd×Int:=match l.find? (isK (bl p.Path)) with
  | none=>(zNd,62)
  | some x=>if FF p x=true then (x,63) else (x,0)
theorem E3(l:List Nd)(t:List Tn)(p:Pt1)(hlen:l.length ≤ 1000000)(hs:l.Pairwise (key · < key ·)) :
    (∃ e,(e=62∨e=63)∧(ndS l p).2=e∧gY l 0 (ByteArray.mk #[]) (ByteArray.mk #[]) 0 [] p=some ((-1),e,ByteArray.mk #[],ByteArray.mk #[],0,[]))∨
    (∃ i:Nat,∃ hi:i < l.length,(ndS l p).2=0∧(ndS l p).1=l[i]∧key l[i]=bl p.Path∧l.find? (isK (bl p.Path))=some l[i]∧gY l 0 (ByteArray.mk #[]) (ByteArray.mk #[]) 0 [] p=some ((i:Int),0,ByteArray.mk #[],ByteArray.mk #[],0,[])∧jZ l p.Path=some ((i:Int),true)):=by
  obtain ⟨i,h1,h2,h3,h4⟩:=Tm l p.Path hlen hs
  unfold gY mL mK pT ndS gC
  rw [h2]
  simp only [Option.bind_some]
  rcases h4 with ⟨x,_,hk,hf,hi,_⟩ | ⟨_,hf⟩
  · obtain ⟨hi',rfl⟩:=List.getElem?_eq_some_iff.1 hi
    rw [hf]
    simp only [Option.isSome_some,Bool.not_true,Bool.false_eq_true,if_false]
    rw [eR hi']
    simp only [Option.bind_some]
    unfold FF
    by_cases a:p.Kind=3∨p.Kind=5∨p.Kind=6
    · by_cases b:0 ≤ p.Version
      · by_cases c:p.Version=(l[i]).Version
        · refine .inr ⟨i,hi',?_,?_,hk,rfl,?_,?_⟩
          · simp [c]
          · simp [c]
          · rcases a with a | a | a <;> simp [a,c,show 0 ≤ (l[i]).Version from c ▸ b]
          · first | rfl | (rw [h2,hf];rfl)
        · refine .inl ⟨63,.inr rfl,?_,?_⟩
          · rcases a with a | a | a <;> simp [a,b,c]
          · rcases a with a | a | a <;> simp [a,b,c]
      · refine .inr ⟨i,hi',?_,?_,hk,rfl,?_,?_⟩
        · simp [b]
        · simp [b]
        · rcases a with a | a | a <;> simp [a,b]
        · first | rfl | (rw [h2,hf];rfl)
    · refine .inr ⟨i,hi',?_,?_,hk,rfl,?_,?_⟩
      · simp [show p.Kind ≠ 3 from fun h=>a (.inl h),show p.Kind ≠ 5 from fun h=>a (.inr (.inl h)),show p.Kind ≠ 6 from fun h=>a (.inr (.inr h))]
      · simp [show p.Kind ≠ 3 from fun h=>a (.inl h),show p.Kind ≠ 5 from fun h=>a (.inr (.inl h)),show p.Kind ≠ 6 from fun h=>a (.inr (.inr h))]
      · simp [show p.Kind ≠ 3 from fun h=>a (.inl h),show p.Kind ≠ 5 from fun h=>a (.inr (.inl h)),show p.Kind ≠ 6 from fun h=>a (.inr (.inr h))]
      · first | rfl | (rw [h2,hf];rfl)
  · rw [hf]
    refine .inl ⟨62,.inl rfl,rfl,?_⟩
    simp
end Go.Cb
