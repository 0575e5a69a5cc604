/- Nodes, plainly: NodesSweeps, NodesNames. -/
import Derived.Test.YtidapdacihcckaaDoorQ11bo
import Derived.Test.YtidapdacihcckaaDoorKbo3
set_option linter.unusedVariables false
set_option linter.unusedSimpArgs false
namespace Go.Cb
open Go.Proofs Go.RowKit

/-! ### NodesSweeps -/
/-! ### NodesNames -/
end Go.Cb
