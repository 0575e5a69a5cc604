/- PartBack, plainly. -/
import Derived.Test.YtgdfoajophpblaaGreatDoorV8px
import Derived.Test.YtgdfoajophpblaaGreatDoorKpx3
set_option linter.unusedVariables false
set_option linter.unusedSimpArgs false
namespace Go.Cb
open Go.Proofs Go.RowKit

theorem setTs_sm {f : List UInt8 → Option Int} {l : List Nd} (sm : Sm l) : Sm (setTs f l) := fun y hy => by
  obtain ⟨x, hx, rfl⟩ := List.mem_map.1 hy
  exact sm x hx
/-! ### the tree of the store of a tree -/
/-! ### the store of the tree of a store -/
end Go.Cb
