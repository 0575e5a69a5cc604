/- Several operations, plainly: what may be, what they make, their pieces. -/
import Derived.Test.YtgdfoajophpblaaGreatDoorQApb
import Derived.Test.YtgdfoajophpblaaGreatDoorQ10pb
import Derived.Test.YtgdfoajophpblaaGreatDoorApb1
import Derived.Test.YtgdfoajophpblaaGreatDoorKpb2
set_option linter.unusedVariables false
set_option linter.unusedSimpArgs false
namespace Go.Cb
open Go.Proofs Go.RowKit

/-! ### May -/
/-! ### what they make -/
/-! ### their parts -/
end Go.Cb
