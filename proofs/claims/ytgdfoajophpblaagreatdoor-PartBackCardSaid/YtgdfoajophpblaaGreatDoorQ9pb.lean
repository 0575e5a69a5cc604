/- Nodes, plainly: what an operation makes of a tree is a tree. -/
import Derived.Test.YtgdfoajophpblaaGreatDoorQ8pb
set_option linter.unusedVariables false
set_option linter.unusedSimpArgs false
namespace Go.Cb
open Go.Proofs Go.RowKit

/-! ### what may be, of an operation -/
theorem parts_q {p q : List UInt8} (h : parentS p = some q) : ∃ ps t, parts p = some (ps ++ [t]) ∧ q = joinP ps ∧ parts q = some ps ∧ lastS p = t ∧ partOk t = true ∧ ps.all partOk = true ∧ ps.length ≤ 5 := by
  obtain ⟨ps, t, h1, h2, h3⟩ := parent_parts h
  obtain ⟨_, h5, h6⟩ := (parts_iff _ _).1 h1
  refine ⟨ps, t, h1, h2, h3, ?_, ?_, ?_, ?_⟩
  · unfold lastS; rw [h1]; simp
  · simp at h5; exact h5.2
  · simp at h5 ⊢; exact h5.1
  · simp at h6; omega
end Go.Cb
