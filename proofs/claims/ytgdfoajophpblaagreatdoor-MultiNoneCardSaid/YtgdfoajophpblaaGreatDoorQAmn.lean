/- Nodes, plainly: the document's Create, May and Apply. -/
import Derived.Test.YtgdfoajophpblaaGreatDoorQRmn
set_option linter.unusedVariables false
set_option linter.unusedSimpArgs false
namespace Go.Cb
open Go.Proofs Go.RowKit

/-! ### May -/
/-! ### Apply -/
end Go.Cb
