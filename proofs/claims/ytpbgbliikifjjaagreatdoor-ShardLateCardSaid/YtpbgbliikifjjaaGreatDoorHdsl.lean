import Derived.Test.YtpbgbliikifjjaaGreatDoorKsl4
set_option maxRecDepth 100000
namespace Go.Cb
open Go.RowKit
theorem Vs:zD=some true:=by kernel_rfl
end Go.Cb
