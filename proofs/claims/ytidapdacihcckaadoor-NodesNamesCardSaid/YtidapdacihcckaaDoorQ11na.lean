/- Nodes, plainly: NodesTree, NodesVersions. -/
import Derived.Test.YtidapdacihcckaaDoorQ10na
set_option linter.unusedVariables false
set_option linter.unusedSimpArgs false
namespace Go.Cb
open Go.Proofs Go.RowKit

/-- the guards that all laws begin with. -/
theorem guard (l : List Nd) (hlen : l.length ≤ 140737488351232) (f : Bool → Option Bool) (g : Option Bool) (ht : f true = some true) (hg : l.length ≤ 1666 → Sm l → g = some true) : ((m_cantonlaw06_Great l).bind fun u => if u = true then f true else g) = some true := by
  obtain ⟨b, h1, h2⟩ := Great_eq l hlen
  rw [h1]
  cases b with
  | true => exact ht
  | false => obtain ⟨h3, h4⟩ := h2 rfl; exact hg h3 h4
theorem guardR (l : List Nd) (hlen : l.length ≤ 1666) (sm : Sm l) (f : Bool → Option Bool) (ht : f true = some true) (hg : Tree l → f false = some true) : ((m_cantonref06_Right l).bind fun u => f (!u)) = some true := by
  obtain ⟨b, h1, h2⟩ := rRight_eq l (by omega) sm
  rw [h1]
  cases b with
  | false => exact ht
  | true => exact hg (h2.1 rfl)
/-! ### NodesTree -/
/-! ### NodesVersions -/
theorem mayV {p : ByteArray} {ps : List (List UInt8)} (h : parts (bl p) = some ps) {k : Int} (hk : k = 3 ∨ k = 4 ∨ k = 5 ∨ k = 6) {d : ByteArray} (hd : (bl d).length ≤ 256) (hd0 : k ≠ 3 → bl d = []) {v : Int} (hv : -1 ≤ v ∧ v ≤ 281474976710656) (hv0 : k = 5 ∨ k = 6 → v = 0) : MayB (⟨k, p, d, v, 0, false⟩ : Op1) = true := by
  unfold MayB pathOk kindOk
  rcases hk with rfl | rfl | rfl | rfl
  · simp [h, hd, hv]
  · simp [h, hd, hv, hd0]
  · simp [h, hd, hd0, hv0]
  · simp [h, hd, hd0, hv0]
end Go.Cb
