/- Answers, plainly: how they are read. -/
import Derived.Test.YtlocfgonplkcoaaL6m
import Derived.Test.YtlocfgonplkcoaaKm2
set_option linter.unusedVariables false
set_option linter.unusedSimpArgs false
namespace Go.Cb
open Go.RowKit
end Go.Cb
