import Derived.Test.YtpbgbliikifjjaaGreatDoorKse4
set_option maxRecDepth 100000
namespace Go.Cb
open Go.RowKit
theorem Mh:vI=some true:=by kernel_rfl
end Go.Cb
