/- Pieces, plainly: the parts of an operation, one behind the other. -/
import Derived.Test.YtgdfoajophpblaaGreatDoorU7pd
set_option linter.unusedVariables false
set_option linter.unusedSimpArgs false
namespace Go.Cb
open Go.Proofs Go.RowKit

theorem parent_ok {p q : List UInt8} (h : parentS p = some q) : pathOk p = true ∧ pathOk q = true ∧ p ≠ [47] := by
  obtain ⟨ps, t, h1, h2, h3, _⟩ := parts_q h
  refine ⟨by unfold pathOk; rw [h1]; rfl, by unfold pathOk; rw [h3]; rfl, fun e => ?_⟩
  rw [e, parts_root] at h1
  simp at h1
theorem upP_ok (p : List UInt8) : pathOk (upP p) = true := by
  unfold upP
  cases h : parentS p with
  | none => rfl
  | some q => exact (parent_ok h).2.1
theorem part_may (o : Op1) (h : MayB o = true) : ∀ p ∈ partsOf o, mayP p = true := by
  obtain ⟨h1, ⟨ps, h2⟩, h3, h4, h5, h6⟩ := may_iff h
  have ok : pathOk (bl o.Path) = true := by unfold pathOk; rw [h2]; rfl
  have key1 : ∀ (k : Int) (d path data : ByteArray) (v w : Int) (t : Bool), pathOk (bl path) = true → (bl data).length ≤ 256 → (-1 ≤ v ∧ v ≤ 281474976710656) → (0 ≤ w ∧ w ≤ 1099511627776) → (1 ≤ k ∧ k ≤ 10) → bl d = (if k = 4 ∨ k = 9 ∨ k = 10 then bl path else upP (bl path)) → (k = 2 → bl path ≠ [47]) → mayP (⟨k, d, path, data, v, w, t⟩ : Pt1) = true := by
    intro k d path data v w t g1 g2 g3 g4 g5 g6 g7
    unfold mayP fieldsB dirOf
    simp only [g1, g2, g3, g4, g5, g6, decide_true, Bool.true_and, Bool.and_true, and_self]
    by_cases c : k = 2
    · have := g7 c
      simp [this]
    · simp [c]
  intro p hp
  unfold partsOf at hp
  have z : (bl (mk [])).length ≤ 256 := by simp [bl_mk]
  have v0 : (-1 : Int) ≤ 0 ∧ (0 : Int) ≤ 281474976710656 := by omega
  have w0 : (0 : Int) ≤ 0 ∧ (0 : Int) ≤ 1099511627776 := by omega
  have hd : bl (mk (upS (bl o.Path))) = upP (bl o.Path) := bl_mk _
  split at hp
  · rename_i c
    obtain ⟨q, hq⟩ := may_parent h c
    rcases List.mem_cons.1 hp with rfl | hp
    · exact key1 _ _ _ _ _ _ _ (by rw [hd]; exact upP_ok _) z v0 w0 (by omega) (by rw [if_neg (by omega)]; rw [bl_mk, hd]; rfl) (by omega)
    · rw [List.mem_singleton.1 hp]
      exact key1 _ _ _ _ _ _ _ ok h3 v0 h4 (by omega) (by rw [if_neg (by omega), hd]) (fun _ => (parent_ok hq).2.2)
  split at hp
  · rcases List.mem_cons.1 hp with rfl | hp
    · exact key1 _ _ _ _ _ _ _ ok z h5 w0 (by omega) (by rw [if_neg (by omega), hd]) (by omega)
    · rw [List.mem_singleton.1 hp]
      exact key1 _ _ _ _ _ _ _ ok z v0 w0 (by omega) (by rw [if_pos (by omega)]) (by omega)
  split at hp
  · rw [List.mem_singleton.1 hp]
    exact key1 _ _ _ _ _ _ _ ok h3 h5 w0 (by omega) (by rw [if_neg (by omega), hd]) (by omega)
  split at hp
  · rw [List.mem_singleton.1 hp]
    exact key1 _ _ _ _ _ _ _ ok z h5 w0 (by omega) (by rw [if_neg (by omega), hd]) (by omega)
  split at hp
  · rw [List.mem_singleton.1 hp]
    exact key1 _ _ _ _ _ _ _ ok z v0 w0 (by omega) (by rw [if_neg (by omega), hd]) (by omega)
  split at hp
  · rcases List.mem_cons.1 hp with rfl | hp
    · exact key1 _ _ _ _ _ _ _ ok z v0 w0 (by omega) (by rw [if_neg (by omega), hd]) (by omega)
    · rw [List.mem_singleton.1 hp]
      exact key1 _ _ _ _ _ _ _ ok z v0 w0 (by omega) (by rw [if_pos (by omega)]) (by omega)
  · rcases List.mem_cons.1 hp with rfl | hp
    · exact key1 _ _ _ _ _ _ _ ok z v0 w0 (by omega) (by rw [if_neg (by omega), hd]) (by omega)
    · rw [List.mem_singleton.1 hp]
      exact key1 _ _ _ _ _ _ _ ok z v0 h4 (by omega) (by rw [if_pos (by omega)]) (by omega)
/-! ### stores of what is made -/
end Go.Cb
