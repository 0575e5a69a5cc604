/- Nodes, plainly: NodesSweeps, NodesNames. -/
import Derived.Test.YtidapdacihcckaaDoorQ11tu
import Derived.Test.YtidapdacihcckaaDoorKtu3
set_option linter.unusedVariables false
set_option linter.unusedSimpArgs false
namespace Go.Cb
open Go.Proofs Go.RowKit

/-! ### NodesSweeps -/
/-! ### NodesNames -/
theorem joinP_app (ps : List (List UInt8)) (t : List UInt8) : joinP (ps ++ [t]) = catP ps ++ 47 :: t := by
  unfold joinP; rw [if_neg (by simp), cat_app]; simp [catP]
end Go.Cb
