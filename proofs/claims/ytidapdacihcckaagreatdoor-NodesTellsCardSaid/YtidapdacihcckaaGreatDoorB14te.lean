/- Base 14: slices that are cut in regions that draw their order. -/
import Derived.Test.YtidapdacihcckaaGreatDoorB13te
set_option linter.unusedVariables false
set_option linter.unusedSimpArgs false
namespace Go.Cb
open Go.RowKit
section
variable {P : Program} {os : List Ob} {R : List Rp} {w : World}
end
end Go.Cb
