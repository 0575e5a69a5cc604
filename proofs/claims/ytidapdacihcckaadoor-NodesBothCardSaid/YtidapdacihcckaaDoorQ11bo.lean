/- Nodes, plainly: NodesTree, NodesVersions. -/
import Derived.Test.YtidapdacihcckaaDoorQ10bo
import Derived.Test.YtidapdacihcckaaDoorKbo3
set_option linter.unusedVariables false
set_option linter.unusedSimpArgs false
namespace Go.Cb
open Go.Proofs Go.RowKit

/-- the guards that all laws begin with. -/
theorem guard (l : List Nd) (hlen : l.length ≤ 140737488351232) (f : Bool → Option Bool) (g : Option Bool) (ht : f true = some true) (hg : l.length ≤ 1666 → Sm l → g = some true) : ((m_cantonlaw06_Great l).bind fun u => if u = true then f true else g) = some true := by
  obtain ⟨b, h1, h2⟩ := Great_eq l hlen
  rw [h1]
  cases b with
  | true => exact ht
  | false => obtain ⟨h3, h4⟩ := h2 rfl; exact hg h3 h4
/-! ### NodesTree -/
/-! ### NodesVersions -/
end Go.Cb
