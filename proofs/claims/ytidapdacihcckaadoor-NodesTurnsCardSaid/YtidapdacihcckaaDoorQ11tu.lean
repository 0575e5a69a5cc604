/- Nodes, plainly: NodesTree, NodesVersions. -/
import Derived.Test.YtidapdacihcckaaDoorQ10tu
import Derived.Test.YtidapdacihcckaaDoorKtu3
set_option linter.unusedVariables false
set_option linter.unusedSimpArgs false
namespace Go.Cb
open Go.Proofs Go.RowKit

/-- the guards that all laws begin with. -/
theorem guard (l : List Nd) (hlen : l.length ≤ 140737488351232) (f : Bool → Option Bool) (g : Option Bool) (ht : f true = some true) (hg : l.length ≤ 1666 → Sm l → g = some true) : ((m_cantonlaw06_Great l).bind fun u => if u = true then f true else g) = some true := by
  obtain ⟨b, h1, h2⟩ := Great_eq l hlen
  rw [h1]
  cases b with
  | true => exact ht
  | false => obtain ⟨h3, h4⟩ := h2 rfl; exact hg h3 h4
/-! ### NodesTree -/
theorem inS_self {p : List UInt8} {ps : List (List UInt8)} (h : parts p = some ps) : inS p p = true := by
  unfold inS; rw [h]; simp
theorem inS_child {p q : List UInt8} (h : parentS p = some q) : inS p q = true := by
  obtain ⟨ps, t, h1, h2, h3⟩ := parent_parts h
  unfold inS; rw [h1, h3]
  exact List.isPrefixOf_iff_prefix.2 ⟨[t], rfl⟩
/-! ### NodesVersions -/
end Go.Cb
