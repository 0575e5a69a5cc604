/- Pieces, plainly: the parts of an operation, one behind the other. -/
import Derived.Test.YtgdfoajophpblaaGreatDoorU7px
set_option linter.unusedVariables false
set_option linter.unusedSimpArgs false
namespace Go.Cb
open Go.Proofs Go.RowKit

/-! ### stores of what is made -/
end Go.Cb
