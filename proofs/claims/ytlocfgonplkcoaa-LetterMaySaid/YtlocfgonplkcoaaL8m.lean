/- Answers, plainly: how the document reads them. -/
import Derived.Test.YtlocfgonplkcoaaL7m
set_option linter.unusedVariables false
set_option linter.unusedSimpArgs false
namespace Go.Cb
open Go.RowKit
end Go.Cb
