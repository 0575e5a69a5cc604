/- Plain laws of elder seats, at this one. -/
import Derived.Test.YtpbgbliikifjjaaGreatDoorQ9sl
import Derived.Test.YtpbgbliikifjjaaGreatDoorAsl2
set_option linter.unusedVariables false
set_option linter.unusedSimpArgs false
namespace Go.Cb
open Go.Proofs Go.RowKit

theorem oV{i:Nat}(h:i ≤ 4611686018427387904):IntKind.i64.wrap ((i:Int)+1)=((i+1:Nat):Int):=by rw [w64 (by omega) (by omega)];omega
end Go.Cb
