/- Several operations, plainly: what may be, what they make, their pieces. -/
import Derived.Test.YtgdfoajophpblaaGreatDoorQApp
import Derived.Test.YtgdfoajophpblaaGreatDoorQ10pp
import Derived.Test.YtgdfoajophpblaaGreatDoorApp1
import Derived.Test.YtgdfoajophpblaaGreatDoorKpp2
set_option linter.unusedVariables false
set_option linter.unusedSimpArgs false
namespace Go.Cb
open Go.Proofs Go.RowKit

/-! ### May -/
/-! ### what they make -/
/-! ### their parts -/
end Go.Cb
