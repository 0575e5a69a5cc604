import Derived.Test.YteakhlfapjaodaaGreatDoorKsr3
namespace Go.Cb
open Go.RowKit
set_option maxRecDepth 100000 in
theorem Xa:zR=some true:=by kernel_rfl
end Go.Cb
