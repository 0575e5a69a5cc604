/- Parts, plainly: the document's side. -/
import Derived.Test.YtgdfoajophpblaaGreatDoorV4pd
import Derived.Test.YtgdfoajophpblaaGreatDoorKpd2
set_option linter.unusedVariables false
set_option linter.unusedSimpArgs false
namespace Go.Cb
open Go.Proofs Go.RowKit

structure SmS (s : Sto) : Prop where
  sm : Sm s.Nodes
  smt : ∀ t ∈ s.Turns, (tkey t).length ≤ 100000000
  len : s.Nodes.length ≤ 90000
  lent : s.Turns.length ≤ 90000
/-! ### May -/
theorem rup7_eq (s : ByteArray) (hp : (bl s).length ≤ 100000000) : m_cantonref07_up s = some (mk (upP (bl s))) := by
  unfold m_cantonref07_up upP
  rw [rParent_eq _ hp]
  simp only [Option.bind_some]
  cases parentS (bl s) <;> rfl
/-! ### turns -/
/-! ### Put -/
end Go.Cb
