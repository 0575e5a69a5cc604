/- Parts, plainly: turns, puts, and all that a part does. -/
import Derived.Test.YtgdfoajophpblaaGreatDoorV3pb
set_option linter.unusedVariables false
set_option linter.unusedSimpArgs false
namespace Go.Cb
open Go.Proofs Go.RowKit

/-! ### a directory's turn -/
/-! ### Put -/
theorem store_next {s : Sto} (S : StoreOk s) : ∀ y ∈ s.Turns, 1 ≤ y.Next ∧ y.Next ≤ 10000 := fun y hy => by
  have := List.all_eq_true.1 S.turns y hy
  simp [ptB] at this
  omega
/-! ### a part -/
end Go.Cb
