/- Several operations, plainly: what may be, what they make, their pieces. -/
import Derived.Test.YtgdfoajophpblaaGreatDoorQAps
import Derived.Test.YtgdfoajophpblaaGreatDoorQ10ps
import Derived.Test.YtgdfoajophpblaaGreatDoorAps1
import Derived.Test.YtgdfoajophpblaaGreatDoorKps2
set_option linter.unusedVariables false
set_option linter.unusedSimpArgs false
namespace Go.Cb
open Go.Proofs Go.RowKit

/-! ### May -/
/-! ### what they make -/
/-! ### their parts -/
end Go.Cb
