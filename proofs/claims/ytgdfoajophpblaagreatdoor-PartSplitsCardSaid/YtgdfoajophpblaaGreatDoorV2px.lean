/- Parts, plainly: the searches, a part's node, what only asks, what lies in a node. -/
import Derived.Test.YtgdfoajophpblaaGreatDoorV1px
set_option linter.unusedVariables false
set_option linter.unusedSimpArgs false
namespace Go.Cb
open Go.Proofs Go.RowKit

/-! ### the searches -/
/-! ### a part's node -/
end Go.Cb
