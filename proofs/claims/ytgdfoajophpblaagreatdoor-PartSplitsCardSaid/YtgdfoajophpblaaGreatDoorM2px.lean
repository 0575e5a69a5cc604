/- slices.overlaps at nodes of two blocks. -/
import Derived.Test.YtgdfoajophpblaaGreatDoorM1px
set_option linter.unusedVariables false
set_option linter.unusedSimpArgs false
set_option maxRecDepth 20000
namespace Go.Cb.Tn
open Go.Proofs Go.RowKit
theorem run_overlaps {w : World} {g g2 la ca lb cb off : Nat} {cs cs2 : Array Value} (hne : g2 ≠ g) (h1 : w.heap[g]? = some (.cells cs 83 (0, 0))) (h2 : w.heap[g2]? = some (.cells cs2 83 (0, 0))) :
    (Extern.SlicesOverlaps.overlaps #[39, 39] #[4] #[.slice (some ⟨g2, 0, none⟩) la ca, .slice (some ⟨g, off, none⟩) lb cb]).run Tryz.prog w = .ok (.bool false) w := by
  have hf1 : ∀ o, w.frozen? ⟨g, o, none⟩ = false := fun o => by simp [World.frozen?, h1]
  have hf2 : ∀ o, w.frozen? ⟨g2, o, none⟩ = false := fun o => by simp [World.frozen?, h2]
  have e : Extern.SlicesOverlaps.overlaps #[39, 39] #[4] #[.slice (some ⟨g2, 0, none⟩) la ca, .slice (some ⟨g, off, none⟩) lb cb] = (do
      let .slice elem ← underlying 39 | stuck "slices.overlaps: slice type expected"
      let size ← sizeOf elem
      let a : Addr := ⟨g2, 0, none⟩
      let b : Addr := ⟨g, off, none⟩
      if la = 0 ∨ lb = 0 ∨ size = 0 then pure (.bool false)
      else if a.block != b.block && (← frozen a) && (← frozen b) then unsupported .addressObserved
      else do
        if a.block != b.block then do
          noView a; noView b
          if ← mayBeOne a b then return .bool ((← choose (.extern "sameAddr.stringBytes" 2)) == 1)
        pure (.bool (a.block == b.block && a.off < b.off + lb * size && b.off < a.off + la * size))) := rfl
  have hs1 : w.shape? g = some (83, cs.size) := by simp [World.shape?, h1]
  have hs2 : w.shape? g2 = some (83, cs2.size) := by simp [World.shape?, h2]
  rw [e]
  simp [Sem.run_bind, run_underlying Tryz.underlying39, run_size nsz83, hne, frozen, Sem.run, hf1, hf2, noView, viewAt, mayBeOne, stringish, shape, getObj, h1, h2, hs1, hs2]
end Go.Cb.Tn
