/- PartDirs, plainly. -/
import Derived.Test.YtgdfoajophpblaaGreatDoorV8pp
import Derived.Test.YtgdfoajophpblaaGreatDoorU8pp
import Derived.Test.YtgdfoajophpblaaGreatDoorKpp2
set_option linter.unusedVariables false
set_option linter.unusedSimpArgs false
namespace Go.Cb
open Go.Proofs Go.RowKit

theorem home_eq (s : ByteArray) (hp : (bl s).length ≤ 100000000) : m_cantonref07_Home s = some (mk (upP (bl s))) := by
  unfold m_cantonref07_Home
  rw [rup7_eq s hp]
  rfl
end Go.Cb
