/- Nodes, plainly: keys in order, the search for one, what a tree is, to the program and to the document. -/
import Derived.Test.YtgdfoajophpblaaGreatDoorQ3pd
import Derived.Test.YtgdfoajophpblaaGreatDoorApd1
import Derived.Test.YtgdfoajophpblaaGreatDoorKpd1
set_option linter.unusedVariables false
set_option linter.unusedSimpArgs false
namespace Go.Cb
open Go.Proofs Go.RowKit

abbrev Nd := S_api_Node
def key (x : Nd) : List UInt8 := bl x.Path
theorem kl_irrefl (a : List UInt8) : ¬ a < a := List.lt_irrefl a
theorem kl_trans {a b c : List UInt8} (h : a < b) (k : b < c) : a < c := List.lt_trans h k
theorem kl_tri (a b : List UInt8) : a < b ∨ a = b ∨ b < a := by
  rcases Decidable.em (a < b) with h | h
  · exact .inl h
  · rcases Decidable.em (b < a) with k | k
    · exact .inr (.inr k)
    · exact .inr (.inl (List.le_antisymm (List.not_lt.1 k) (List.not_lt.1 h)))
theorem kl_asymm {a b : List UInt8} (h : a < b) : ¬ b < a := fun k => kl_irrefl _ (kl_trans h k)
theorem kl_ne {a b : List UInt8} (h : a < b) : a ≠ b := fun e => kl_irrefl b (e ▸ h)
/-! ### a node by its key -/
def isK (p : List UInt8) (x : Nd) : Bool := decide (key x = p)
end Go.Cb
