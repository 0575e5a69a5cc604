/- Parts, plainly: what each work does, but for turns and puts. -/
import Derived.Test.YtgdfoajophpblaaGreatDoorV2px
set_option linter.unusedVariables false
set_option linter.unusedSimpArgs false
namespace Go.Cb
open Go.Proofs Go.RowKit

abbrev em : ByteArray := ByteArray.mk #[]
/-! ### Guard, Has, Look, Read, Remove, Alter -/
/-! ### what lies in a node -/
/-! ### Clear -/
end Go.Cb
