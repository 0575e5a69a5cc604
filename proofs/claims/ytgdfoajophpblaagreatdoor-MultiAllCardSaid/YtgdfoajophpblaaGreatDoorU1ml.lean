/- Several operations, plainly: what may be, what they make, their pieces. -/
import Derived.Test.YtgdfoajophpblaaGreatDoorQAml
import Derived.Test.YtgdfoajophpblaaGreatDoorQ10ml
import Derived.Test.YtgdfoajophpblaaGreatDoorKml3
import Derived.Test.YtgdfoajophpblaaGreatDoorAml1
set_option linter.unusedVariables false
set_option linter.unusedSimpArgs false
namespace Go.Cb
open Go.Proofs Go.RowKit

abbrev Pie := S_api_Piece
set_option maxRecDepth 100000 in
theorem head8_t : m_cantonlaw08_head = some true := by kernel_rfl
/-! ### May -/
/-! ### what they make -/
/-! ### their parts -/
end Go.Cb
