/- Nodes, plainly: what an operation makes of a tree is a tree. -/
import Derived.Test.YtgdfoajophpblaaGreatDoorQ8pd
set_option linter.unusedVariables false
set_option linter.unusedSimpArgs false
namespace Go.Cb
open Go.Proofs Go.RowKit

/-! ### what may be, of an operation -/
theorem may_iff {o : Op1} (h : MayB o = true) : (1 ≤ o.Kind ∧ o.Kind ≤ 7) ∧ (∃ ps, parts (bl o.Path) = some ps) ∧ (bl o.Data).length ≤ 256 ∧ (0 ≤ o.Owner ∧ o.Owner ≤ 1099511627776) ∧ (-1 ≤ o.Version ∧ o.Version ≤ 281474976710656) ∧ kindOk o.Kind (decide (bl o.Path = [47])) (!decide (bl o.Data = [])) (!decide (o.Version = 0)) (!decide (o.Owner = 0)) o.Turns = true := by
  unfold MayB at h
  simp only [Bool.and_eq_true, decide_eq_true_eq] at h
  obtain ⟨⟨⟨⟨⟨a, b⟩, c⟩, d⟩, e⟩, f⟩ := h
  refine ⟨a, ?_, c, d, e, f⟩
  unfold pathOk at b
  exact Option.isSome_iff_exists.1 b
theorem parts_q {p q : List UInt8} (h : parentS p = some q) : ∃ ps t, parts p = some (ps ++ [t]) ∧ q = joinP ps ∧ parts q = some ps ∧ lastS p = t ∧ partOk t = true ∧ ps.all partOk = true ∧ ps.length ≤ 5 := by
  obtain ⟨ps, t, h1, h2, h3⟩ := parent_parts h
  obtain ⟨_, h5, h6⟩ := (parts_iff _ _).1 h1
  refine ⟨ps, t, h1, h2, h3, ?_, ?_, ?_, ?_⟩
  · unfold lastS; rw [h1]; simp
  · simp at h5; exact h5.2
  · simp at h5 ⊢; exact h5.1
  · simp at h6; omega
end Go.Cb
