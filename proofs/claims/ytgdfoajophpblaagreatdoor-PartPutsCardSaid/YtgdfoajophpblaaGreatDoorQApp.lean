/- Nodes, plainly: the document's Create, May and Apply. -/
import Derived.Test.YtgdfoajophpblaaGreatDoorQRpp
set_option linter.unusedVariables false
set_option linter.unusedSimpArgs false
namespace Go.Cb
open Go.Proofs Go.RowKit

theorem upd_sorted {l : List Nd} (hs : l.Pairwise (key · < key ·)) (p : List UInt8) {f : Nd → Nd} (hf : ∀ z, key (f z) = key z) : (upd l p f).Pairwise (key · < key ·) := by
  unfold upd
  rw [List.pairwise_map]
  exact hs.imp fun {a b} h => by rw [upd_key hf, upd_key hf]; exact h
/-! ### May -/
theorem rRight1 (s : ByteArray) (hp : (bl s).length ≤ 100000000) : m_cantonref01_Right s = some (pathOk (bl s)) := by
  unfold m_cantonref01_Right
  rw [rSplit_eq s hp]
  simp only [Option.bind_some]
  unfold spl pathOk
  cases parts (bl s) <;> rfl
theorem sEq_root (s : ByteArray) : sEq s (ByteArray.mk #[47]) = decide (bl s = [47]) := sEq_bl _ _
/-! ### Apply -/
end Go.Cb
