/- Several operations, plainly: the document's answer; MultiTells. -/
import Derived.Test.YtgdfoajophpblaaGreatDoorU1ml
import Derived.Test.YtgdfoajophpblaaGreatDoorKml3
set_option linter.unusedVariables false
set_option linter.unusedSimpArgs false
namespace Go.Cb
open Go.Proofs Go.RowKit

/-! ### pieces -/
/-! ### likeness, of one with itself -/
theorem SameList_l1 (a : List Res) (hl : a.length ≤ 1000000) (hn : ∀ r ∈ a, r.Names.length ≤ 1000000) : ∀ (k i : Nat), i ≤ a.length → a.length + 1 ≤ i + k → m_cantonref06_SameList_l1 a a k (i : Int) = some true
  | 0, i, _, h => by omega
  | k + 1, i, h0, h => by
    unfold m_cantonref06_SameList_l1
    by_cases hi : i < a.length
    · rw [if_pos (by simpa using hi), idx_lt hi]
      simp only [Option.bind_some]
      rw [SameOne_eq _ _ (hn _ (List.getElem_mem hi)), decide_eq_true rfl]
      simp only [Option.bind_some]
      rw [if_neg (by simp), inc1 (by omega)]
      exact SameList_l1 a hl hn k (i + 1) (by omega) (by omega)
    · rw [if_neg (by simpa using hi)]
theorem SameList_self (a : List Res) (hl : a.length ≤ 1000000) (hn : ∀ r ∈ a, r.Names.length ≤ 1000000) : m_cantonref06_SameList a a = some true := by
  unfold m_cantonref06_SameList
  rw [if_neg (by simp)]
  exact SameList_l1 a hl hn (((a.length : Int) - 0 : Int).toNat + 1) 0 (by omega) (by omega)
end Go.Cb
