/- Nodes, plainly: what a tree, and an operation, is to the program. -/
import Derived.Test.YtgdfoajophpblaaGreatDoorQ5pp
import Derived.Test.YtgdfoajophpblaaGreatDoorKpp1
set_option linter.unusedVariables false
set_option linter.unusedSimpArgs false
namespace Go.Cb
open Go.Proofs Go.RowKit

/-! ### operations -/
abbrev Op1 := S_api_Op
def pathOk (p : List UInt8) : Bool := (parts p).isSome
end Go.Cb
