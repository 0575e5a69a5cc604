/- Plain laws of elder seats, at this one. -/
import Derived.Test.YtlgajjcbnimjkaaGreatDoorQ8sw
set_option linter.unusedVariables false
set_option linter.unusedSimpArgs false
namespace Go.Cb
open Go.Proofs Go.RowKit

theorem MP{x y:Nd}{l:List Nd}:y ∈ I3 x l ↔ y=x∨y ∈ l:=by
  unfold I3
  rw [List.mem_append,List.mem_cons,List.mem_filter,List.mem_filter]
  constructor
  · rintro (h | h | h)
    · exact .inr h.1
    · exact .inl h
    · exact .inr h.1
  · rintro (h | h)
    · exact .inr (.inl h)
    · cases hc:ltB (key x) y with
      | true=>exact .inl ⟨h,rfl⟩
      | false=>exact .inr (.inr ⟨h,rfl⟩)
theorem Te{α:Type}(l:List α)(f:α→Bool):(l.filter f).length+(l.filter (fun y=>!f y)).length=l.length:=by
  induction l with
  | nil=>rfl
  | cons x l ih=>
    rw [List.filter_cons,List.filter_cons]
    cases f x <;> simp <;> omega
theorem AC(x:Nd)(l:List Nd):(I3 x l).length=l.length+1:=by
  unfold I3
  have:=Te l (ltB (key x))
  rw [List.length_append,List.length_cons];omega
theorem MQ{l:List Nd}{p:List UInt8}{f:Nd→Nd}{y:Nd}:y ∈ upd l p f ↔ ∃ z ∈ l,y=if isK p z then f z else z:=by
  unfold upd
  rw [List.mem_map]
  exact ⟨fun ⟨z,h1,h2⟩=>⟨z,h1,h2.symm⟩,fun ⟨z,h1,h2⟩=>⟨z,h1,h2.symm⟩⟩
theorem Bx{o:Op1}(h:qA o=true):(1 ≤ o.Kind∧o.Kind ≤ 7)∧(∃ ps,parts (bl o.Path)=some ps)∧(bl o.Data).length ≤ 256∧(0 ≤ o.Owner∧o.Owner ≤ 1099511627776)∧(-1 ≤ o.Version∧o.Version ≤ 281474976710656)∧T3 o.Kind (decide (bl o.Path= [47])) (!decide (bl o.Data= [])) (!decide (o.Version=0)) (!decide (o.Owner=0)) o.Turns=true:=by
  unfold qA at h
  simp only [Bool.and_eq_true,decide_eq_true_eq] at h
  obtain ⟨⟨⟨⟨⟨a,b⟩,c⟩,d⟩,e⟩,f⟩:=h
  refine ⟨a,?_,c,d,e,f⟩
  unfold dQ at b
  exact Option.isSome_iff_exists.1 b
theorem J7{p q:List UInt8}(h:jB p=some q):∃ ps t,parts p=some (ps ++ [t])∧q=nG ps∧parts q=some ps∧wX p=t∧hJ t=true∧ps.all hJ=true∧ps.length ≤ 5:=by
  obtain ⟨ps,t,h1,h2,h3⟩:=Lx h
  obtain ⟨_,h5,h6⟩:=(mH _ _).1 h1
  refine ⟨ps,t,h1,h2,h3,?_,?_,?_,?_⟩
  · unfold wX;rw [h1];simp
  · simp at h5;exact h5.2
  · simp at h5 ⊢;exact h5.1
  · simp at h6;omega
theorem De{q:List UInt8}{ps:List (List UInt8)}(hq:parts q=some ps)(h5:ps.length ≤ 5){t:List UInt8}(ht:hJ t=true):uQ q t=some (nG (ps ++ [t]))∧jB (nG (ps ++ [t]))=some q∧wX (nG (ps ++ [t]))=t∧parts (nG (ps ++ [t]))=some (ps ++ [t]):=by
  obtain ⟨h1,h2,h3⟩:=(mH _ _).1 hq
  have hp:parts (nG (ps ++ [t]))=some (ps ++ [t]):=(mH _ _).2 ⟨rfl,by simp at h2 ⊢;exact ⟨h2,ht⟩,by simp;omega⟩
  refine ⟨?_,?_,?_,hp⟩
  · unfold uQ;rw [hq];simp only;rw [if_pos ⟨ht,by omega⟩]
  · unfold jB;rw [hp];simp only;rw [if_neg (by simp),List.dropLast_concat,h1]
  · unfold wX;rw [hp];simp
/-- the path of what is created lies in the parent. -/
theorem Df{o:Op1}{q p:List UInt8}(hq:jB (bl o.Path)=some q){t:Int}(hn:B7 o q t=some p):jB p=some q∧(o.Turns=true→0 ≤ t∧t ≤ 9999∧∃ ps,parts q=some ps∧p=nG (ps ++ [wX (bl o.Path) ++ vW t.toNat])):=by
  unfold B7 at hn
  cases hT:o.Turns with
  | false=>
    rw [hT] at hn
    simp only [Bool.false_eq_true,if_false,Option.some.injEq] at hn
    subst hn
    exact ⟨hq,fun h=>by cases h⟩
  | true=>
    rw [hT] at hn
    simp only [if_true] at hn
    obtain ⟨s,hs,rfl⟩:=Option.map_eq_some_iff.1 hn
    obtain ⟨h1,h2,h3,h4⟩:=Oa hs
    obtain ⟨ps,t',_,_,h5,_,_,_,h6⟩:=J7 hq
    obtain ⟨j1,j2,_,_⟩:=De h5 h6 h1
    rw [j1]
    exact ⟨j2,fun _=>⟨h3,h4,ps,h5,by rw [h2];rfl⟩⟩
end Go.Cb
