/- Nodes, plainly: the document's Create, May and Apply. -/
import Derived.Test.YtgdfoajophpblaaGreatDoorQRpb
set_option linter.unusedVariables false
set_option linter.unusedSimpArgs false
namespace Go.Cb
open Go.Proofs Go.RowKit

/-! ### May -/
theorem rRight1 (s : ByteArray) (hp : (bl s).length ≤ 100000000) : m_cantonref01_Right s = some (pathOk (bl s)) := by
  unfold m_cantonref01_Right
  rw [rSplit_eq s hp]
  simp only [Option.bind_some]
  unfold spl pathOk
  cases parts (bl s) <;> rfl
/-! ### Apply -/
end Go.Cb
