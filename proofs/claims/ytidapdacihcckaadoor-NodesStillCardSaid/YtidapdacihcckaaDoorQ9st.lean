/- Nodes, plainly: what an operation makes of a tree is a tree. -/
import Derived.Test.YtidapdacihcckaaDoorQ8st
set_option linter.unusedVariables false
set_option linter.unusedSimpArgs false
namespace Go.Cb
open Go.Proofs Go.RowKit

/-! ### what may be, of an operation -/
end Go.Cb
