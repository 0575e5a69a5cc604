/- Nodes, plainly: what an operation makes of a tree. -/
import Derived.Test.YtgdfoajophpblaaGreatDoorQ6px
import Derived.Test.YtgdfoajophpblaaGreatDoorApx1
set_option linter.unusedVariables false
set_option linter.unusedSimpArgs false
namespace Go.Cb
open Go.Proofs Go.RowKit

abbrev Res := S_api_Result
def res (e : Int) : Res := ⟨e, mk [], mk [], 0, []⟩
/-! ### Delete -/
def upd (l : List Nd) (p : List UInt8) (f : Nd → Nd) : List Nd := l.map fun z => if isK p z then f z else z
/-! ### Set, Check, Get -/
/-! ### List -/
/-! ### Sweep -/
end Go.Cb
