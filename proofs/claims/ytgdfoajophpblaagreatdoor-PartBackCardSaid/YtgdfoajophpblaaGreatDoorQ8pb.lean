/- Nodes, plainly: what Apply makes of a tree, and when it refuses. -/
import Derived.Test.YtgdfoajophpblaaGreatDoorQ7pb
set_option linter.unusedVariables false
set_option linter.unusedSimpArgs false
namespace Go.Cb
open Go.Proofs Go.RowKit

/-! ### Create -/
/-! ### Apply -/
end Go.Cb
