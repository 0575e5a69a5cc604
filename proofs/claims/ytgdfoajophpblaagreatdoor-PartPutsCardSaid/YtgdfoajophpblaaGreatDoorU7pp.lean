/- Pieces, plainly: a tree's store; the parts of an operation make of it what the operation makes of the tree. -/
import Derived.Test.YtgdfoajophpblaaGreatDoorU5pp
import Derived.Test.YtgdfoajophpblaaGreatDoorKpp2
set_option linter.unusedVariables false
set_option linter.unusedSimpArgs false
namespace Go.Cb
open Go.Proofs Go.RowKit

def kn (x : Nd) : Nd := { x with Turn := 0 }
/-! ### lists that rise and have the same are the same -/
theorem sorted_ext {α : Type} (κ : α → List UInt8) : ∀ {a b : List α}, a.Pairwise (κ · < κ ·) → b.Pairwise (κ · < κ ·) → (∀ x, x ∈ a ↔ x ∈ b) → a = b
  | [], [], _, _, _ => rfl
  | [], y :: b, _, _, h => by have := (h y).2 (by simp); simp at this
  | x :: a, [], _, _, h => by have := (h x).1 (by simp); simp at this
  | x :: a, y :: b, ha, hb, h => by
    obtain ⟨a1, a2⟩ := List.pairwise_cons.1 ha
    obtain ⟨b1, b2⟩ := List.pairwise_cons.1 hb
    have e : x = y := by
      rcases List.mem_cons.1 ((h x).1 (by simp)) with e | e
      · exact e
      · rcases List.mem_cons.1 ((h y).2 (by simp)) with f | f
        · exact f.symm
        · exact absurd (b1 x e) (kl_asymm (a1 y f))
    subst e
    congr 1
    refine sorted_ext κ a2 b2 fun z => ⟨fun hz => ?_, fun hz => ?_⟩
    · rcases List.mem_cons.1 ((h z).1 (List.mem_cons_of_mem _ hz)) with e | e
      · exact absurd (a1 z hz) (e ▸ kl_irrefl _)
      · exact e
    · rcases List.mem_cons.1 ((h z).2 (List.mem_cons_of_mem _ hz)) with e | e
      · exact absurd (b1 z hz) (e ▸ kl_irrefl _)
      · exact e
/-! ### the store of a tree -/
end Go.Cb
