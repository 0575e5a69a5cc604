/- Nodes, plainly: the document's Create, May and Apply. -/
import Derived.Test.YtgdfoajophpblaaGreatDoorQRpd
set_option linter.unusedVariables false
set_option linter.unusedSimpArgs false
namespace Go.Cb
open Go.Proofs Go.RowKit

/-! ### May -/
theorem sEq_root (s : ByteArray) : sEq s (ByteArray.mk #[47]) = decide (bl s = [47]) := sEq_bl _ _
/-! ### Apply -/
end Go.Cb
