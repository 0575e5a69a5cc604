import Derived.Test.YtlgajjcbnimjkaaGreatDoorKsw4
set_option maxRecDepth 100000
namespace Go.Cb
open Go.RowKit
theorem Vv:zL=some true:=by kernel_rfl
end Go.Cb
