/- Nodes, plainly: what an operation makes of a tree is a tree. -/
import Derived.Test.YtgdfoajophpblaaGreatDoorQ8px
set_option linter.unusedVariables false
set_option linter.unusedSimpArgs false
namespace Go.Cb
open Go.Proofs Go.RowKit

theorem mem_ins {x y : Nd} {l : List Nd} : y ∈ insS x l ↔ y = x ∨ y ∈ l := by
  unfold insS
  rw [List.mem_append, List.mem_cons, List.mem_filter, List.mem_filter]
  constructor
  · rintro (h | h | h)
    · exact .inr h.1
    · exact .inl h
    · exact .inr h.1
  · rintro (h | h)
    · exact .inr (.inl h)
    · cases hc : ltB (key x) y with
      | true => exact .inl ⟨h, rfl⟩
      | false => exact .inr (.inr ⟨h, rfl⟩)
theorem len_split {α : Type} (l : List α) (f : α → Bool) : (l.filter f).length + (l.filter (fun y => !f y)).length = l.length := by
  induction l with
  | nil => rfl
  | cons x l ih =>
    rw [List.filter_cons, List.filter_cons]
    cases f x <;> simp <;> omega
theorem ins_len (x : Nd) (l : List Nd) : (insS x l).length = l.length + 1 := by
  unfold insS
  have := len_split l (ltB (key x))
  rw [List.length_append, List.length_cons]; omega
/-! ### what may be, of an operation -/
theorem may_iff {o : Op1} (h : MayB o = true) : (1 ≤ o.Kind ∧ o.Kind ≤ 7) ∧ (∃ ps, parts (bl o.Path) = some ps) ∧ (bl o.Data).length ≤ 256 ∧ (0 ≤ o.Owner ∧ o.Owner ≤ 1099511627776) ∧ (-1 ≤ o.Version ∧ o.Version ≤ 281474976710656) ∧ kindOk o.Kind (decide (bl o.Path = [47])) (!decide (bl o.Data = [])) (!decide (o.Version = 0)) (!decide (o.Owner = 0)) o.Turns = true := by
  unfold MayB at h
  simp only [Bool.and_eq_true, decide_eq_true_eq] at h
  obtain ⟨⟨⟨⟨⟨a, b⟩, c⟩, d⟩, e⟩, f⟩ := h
  refine ⟨a, ?_, c, d, e, f⟩
  unfold pathOk at b
  exact Option.isSome_iff_exists.1 b
end Go.Cb
