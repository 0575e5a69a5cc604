/- Parts, plainly: the document's side. -/
import Derived.Test.YtgdfoajophpblaaGreatDoorV4mp
import Derived.Test.YtgdfoajophpblaaGreatDoorAmp1
set_option linter.unusedVariables false
set_option linter.unusedSimpArgs false
namespace Go.Cb
open Go.Proofs Go.RowKit

/-! ### May -/
/-! ### turns -/
/-! ### Put -/
end Go.Cb
