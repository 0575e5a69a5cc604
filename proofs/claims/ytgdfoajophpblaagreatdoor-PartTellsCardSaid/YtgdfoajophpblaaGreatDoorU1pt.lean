/- Several operations, plainly: what may be, what they make, their pieces. -/
import Derived.Test.YtgdfoajophpblaaGreatDoorQApt
import Derived.Test.YtgdfoajophpblaaGreatDoorQ10pt
import Derived.Test.YtgdfoajophpblaaGreatDoorApt1
import Derived.Test.YtgdfoajophpblaaGreatDoorKpt3
set_option linter.unusedVariables false
set_option linter.unusedSimpArgs false
namespace Go.Cb
open Go.Proofs Go.RowKit

/-! ### May -/
/-! ### what they make -/
/-! ### their parts -/
end Go.Cb
