/- Several operations, plainly: the document's answer; MultiTells. -/
import Derived.Test.YtgdfoajophpblaaGreatDoorU1pb
import Derived.Test.YtgdfoajophpblaaGreatDoorKpb2
set_option linter.unusedVariables false
set_option linter.unusedSimpArgs false
namespace Go.Cb
open Go.Proofs Go.RowKit

/-! ### pieces -/
/-! ### likeness, of one with itself -/
end Go.Cb
