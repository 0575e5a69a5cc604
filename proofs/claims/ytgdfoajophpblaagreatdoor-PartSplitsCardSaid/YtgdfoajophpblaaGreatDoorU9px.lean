/- MultiPieces, plainly. -/
import Derived.Test.YtgdfoajophpblaaGreatDoorU8px
import Derived.Test.YtgdfoajophpblaaGreatDoorKpx2
set_option linter.unusedVariables false
set_option linter.unusedSimpArgs false
namespace Go.Cb
open Go.Proofs Go.RowKit

/-! ### one part of the store of a tree -/
/-! ### the parts of an operation, one behind the other -/
end Go.Cb
