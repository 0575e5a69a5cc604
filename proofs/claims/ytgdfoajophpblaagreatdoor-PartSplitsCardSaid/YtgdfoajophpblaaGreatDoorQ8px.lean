/- Nodes, plainly: what Apply makes of a tree, and when it refuses. -/
import Derived.Test.YtgdfoajophpblaaGreatDoorQ7px
set_option linter.unusedVariables false
set_option linter.unusedSimpArgs false
namespace Go.Cb
open Go.Proofs Go.RowKit

def ltB (p : List UInt8) (y : Nd) : Bool := decide (key y < p)
/-! ### Create -/
def insS (x : Nd) (l : List Nd) : List Nd := l.filter (ltB (key x)) ++ x :: l.filter (fun y => !ltB (key x) y)
/-! ### Apply -/
end Go.Cb
