/- Nodes, plainly: what is asked ahead of each law; likeness; NodesStill. -/
import Derived.Test.YtgdfoajophpblaaGreatDoorQ9pd
import Derived.Test.YtgdfoajophpblaaGreatDoorApd1
import Derived.Test.YtgdfoajophpblaaGreatDoorKpd1
set_option linter.unusedVariables false
set_option linter.unusedSimpArgs false
namespace Go.Cb
open Go.Proofs Go.RowKit

theorem GreatOp_eq (o : Op1) : ∃ b, m_cantonlaw06_GreatOp o = some b ∧ (b = false → (bl o.Path).length ≤ 3000 ∧ (bl o.Data).length ≤ 3000) := by
  unfold m_cantonlaw06_GreatOp
  have z1 := bl_size o.Path
  have z2 := bl_size o.Data
  by_cases h : (bl o.Path).length > 3000
  · rw [if_pos (by simp only [decide_eq_true_eq]; omega)]; exact ⟨true, rfl, fun h => by cases h⟩
  · rw [if_neg (by simp only [decide_eq_true_eq]; omega)]
    refine ⟨_, rfl, fun hb => ⟨by omega, ?_⟩⟩
    simp only [decide_eq_false_iff_not] at hb
    omega
/-! ### what an answer tells -/
end Go.Cb
