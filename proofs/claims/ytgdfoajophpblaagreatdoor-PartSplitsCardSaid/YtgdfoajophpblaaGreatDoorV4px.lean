/- Parts, plainly: turns, puts, and all that a part does. -/
import Derived.Test.YtgdfoajophpblaaGreatDoorV3px
set_option linter.unusedVariables false
set_option linter.unusedSimpArgs false
namespace Go.Cb
open Go.Proofs Go.RowKit

/-! ### a directory's turn -/
/-! ### Put -/
theorem store_next {s : Sto} (S : StoreOk s) : ∀ y ∈ s.Turns, 1 ≤ y.Next ∧ y.Next ≤ 10000 := fun y hy => by
  have := List.all_eq_true.1 S.turns y hy
  simp [ptB] at this
  omega
theorem ins_split {l : List Nd} {x : Nd} (hs : l.Pairwise (key · < key ·)) (hn : l.find? (isK (key x)) = none) : l.filter (gLt key (key x)) ++ x :: l.filter (gGt key (key x)) = insS x l := by
  unfold insS
  congr 2
  refine List.filter_congr fun y hy => ?_
  have := find_no.1 hn y hy
  simp [gGt, gLt, gEq, ltB, this]
/-! ### a part -/
end Go.Cb
