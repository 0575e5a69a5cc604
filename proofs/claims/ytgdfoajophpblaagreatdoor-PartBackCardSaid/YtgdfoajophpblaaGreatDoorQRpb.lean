/- Nodes, plainly: the document's answer: paths' names, Put, Children, Named, create, Apply, May. -/
import Derived.Test.YtgdfoajophpblaaGreatDoorQ9pb
import Derived.Test.YtgdfoajophpblaaGreatDoorApb1
set_option linter.unusedVariables false
set_option linter.unusedSimpArgs false
namespace Go.Cb
open Go.Proofs Go.RowKit

theorem inc1 {i : Nat} (h : i ≤ 1000000000) : IntKind.i64.wrap ((i : Int) + 1) = ((i + 1 : Nat) : Int) := by rw [w64 (by omega) (by omega)]; omega
/-! ### Put, without, Children -/
end Go.Cb
