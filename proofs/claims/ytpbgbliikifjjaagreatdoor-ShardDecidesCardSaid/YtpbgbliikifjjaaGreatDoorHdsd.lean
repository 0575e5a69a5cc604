import Derived.Test.YtpbgbliikifjjaaGreatDoorKsd4
set_option maxRecDepth 100000
namespace Go.Cb
open Go.RowKit
theorem Lg:vI=some true:=by kernel_rfl
end Go.Cb
