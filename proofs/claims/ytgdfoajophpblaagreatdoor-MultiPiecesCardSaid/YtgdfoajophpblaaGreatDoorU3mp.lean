/- Several operations, plainly: MultiNone. -/
import Derived.Test.YtgdfoajophpblaaGreatDoorU1mp
import Derived.Test.YtgdfoajophpblaaGreatDoorKmp3
set_option linter.unusedVariables false
set_option linter.unusedSimpArgs false
namespace Go.Cb
open Go.Proofs Go.RowKit

theorem runS_at (t : List Nd) : ∀ (l : List Op1) (now : List Nd) (i : Nat) (acc : List Res), (runS t now i l acc).2.Err ≠ 0 → ∃ j : Nat, (runS t now i l acc).2.At = (j : Int) ∧ i ≤ j ∧ j < i + l.length ∧ (runS t now i l acc).1 = t ∧ (runS t now i l acc).2.Results = [] ∧ (runS t now i l acc).2.Err ≠ 1
  | [], now, i, acc, h => by exact absurd rfl h
  | o :: l, now, i, acc, h => by
    unfold runS at h ⊢
    by_cases c : (applyS now o).2.Err ≠ 0
    · rw [if_pos c] at h ⊢
      refine ⟨i, rfl, Nat.le_refl _, by simp, rfl, rfl, ?_⟩
      rcases apply_err now o with ⟨_, _, h3, _⟩ | h0
      · exact h3
      · exact absurd h0 c
    · rw [if_neg c] at h ⊢
      obtain ⟨j, h1, h2, h3, h4⟩ := runS_at t l _ (i + 1) _ h
      exact ⟨j, h1, by omega, by simp; omega, h4⟩
end Go.Cb
