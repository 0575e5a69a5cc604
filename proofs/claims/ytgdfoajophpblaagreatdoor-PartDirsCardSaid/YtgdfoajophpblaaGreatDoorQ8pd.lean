/- Nodes, plainly: what Apply makes of a tree, and when it refuses. -/
import Derived.Test.YtgdfoajophpblaaGreatDoorQ7pd
set_option linter.unusedVariables false
set_option linter.unusedSimpArgs false
namespace Go.Cb
open Go.Proofs Go.RowKit

/-! ### Create -/
/-! ### Apply -/
theorem may_parent {o : Op1} (h : MayB o = true) (hk : o.Kind = 1) : ∃ q, parentS (bl o.Path) = some q := by
  unfold MayB at h
  simp only [Bool.and_eq_true, decide_eq_true_eq] at h
  obtain ⟨⟨⟨⟨⟨_, h1⟩, _⟩, _⟩, _⟩, h2⟩ := h
  rw [hk] at h2
  simp only [kindOk, if_true, Bool.and_eq_true, Bool.not_eq_true', decide_eq_false_iff_not] at h2
  unfold pathOk at h1
  unfold parentS
  cases hp : parts (bl o.Path) with
  | none => rw [hp] at h1; cases h1
  | some ps =>
    refine ⟨_, if_neg ?_⟩
    rintro rfl
    exact h2.1 ((parts_iff _ _).1 hp).1
end Go.Cb
