/- Several parts, plainly: what is too much, stores alike, all of a list of pieces, to both. -/
import Derived.Test.YtgdfoajophpblaaGreatDoorV6pd
import Derived.Test.YtgdfoajophpblaaGreatDoorU2pd
import Derived.Test.YtgdfoajophpblaaGreatDoorKpd2
set_option linter.unusedVariables false
set_option linter.unusedSimpArgs false
namespace Go.Cb
open Go.Proofs Go.RowKit

/-! ### is it too much? -/
/-! ### stores alike -/
/-! ### one piece, to both -/
end Go.Cb
