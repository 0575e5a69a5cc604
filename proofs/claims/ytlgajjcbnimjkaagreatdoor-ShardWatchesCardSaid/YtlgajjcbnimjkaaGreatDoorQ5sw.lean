/- Plain laws of elder seats, at this one. -/
import Derived.Test.YtlgajjcbnimjkaaGreatDoorQ4sw
set_option linter.unusedVariables false
set_option linter.unusedSimpArgs false
namespace Go.Cb
open Go.Proofs Go.RowKit

theorem Qm{l:List Nd}(h:l.Pairwise (key · < key ·)){x y:Nd}(hx:x ∈ l)(hy:y ∈ l)(e:key x=key y):x=y:=by
  obtain ⟨i,hi,rfl⟩:=List.mem_iff_getElem.1 hx
  obtain ⟨j,hj,rfl⟩:=List.mem_iff_getElem.1 hy
  have h:=List.pairwise_iff_getElem.1 h
  rcases Nat.lt_trichotomy i j with c | c | c
  · exact absurd e (w7 (h i j hi hj c))
  · subst c;rfl
  · exact absurd e.symm (w7 (h j i hj hi c))
theorem Wf{l:List Nd}{p:List UInt8}{x:Nd}(h:l.find? (isK p)=some x):x ∈ l∧key x=p:=
  ⟨List.mem_of_find?_eq_some h,by have:=List.find?_some h;simpa [isK] using this⟩
theorem Wg{l:List Nd}(h:l.Pairwise (key · < key ·)){x:Nd}(hx:x ∈ l):l.find? (isK (key x))=some x:=by
  cases hf:l.find? (isK (key x)) with
  | none=>
    have:=List.find?_eq_none.1 hf x hx
    simp [isK] at this
  | some y=>
    have:=Wf hf
    rw [Qm h this.1 hx this.2]
theorem MO{l:List Nd}{p:List UInt8}:l.find? (isK p)=none ↔ ∀ x ∈ l,key x ≠ p:=by
  rw [List.find?_eq_none];simp [isK]
theorem Lx{p q:List UInt8}(h:jB p=some q):∃ ps t,parts p=some (ps ++ [t])∧q=nG ps∧parts q=some ps:=by
  unfold jB at h
  cases hp:parts p with
  | none=>rw [hp] at h;cases h
  | some ps=>
    rw [hp] at h
    simp only at h
    split at h
    · cases h
    · rename_i hne
      cases h
      obtain ⟨h0,h1,h2⟩:=(mH _ ps).1 hp
      rcases List.eq_nil_or_concat ps with e | ⟨qs,t,rfl⟩
      · exact absurd e hne
      · rw [List.concat_eq_append] at *
        refine ⟨qs,t,rfl,by rw [List.dropLast_concat],?_⟩
        rw [List.dropLast_concat]
        exact (mH _ _).2 ⟨rfl,by simp at h1 ⊢;exact h1.1,by simp at h2;omega⟩
theorem Qn:parts [47]=some []:=rfl
end Go.Cb
