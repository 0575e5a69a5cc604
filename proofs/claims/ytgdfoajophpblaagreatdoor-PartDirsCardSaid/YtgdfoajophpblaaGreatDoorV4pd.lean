/- Parts, plainly: turns, puts, and all that a part does. -/
import Derived.Test.YtgdfoajophpblaaGreatDoorV3pd
set_option linter.unusedVariables false
set_option linter.unusedSimpArgs false
namespace Go.Cb
open Go.Proofs Go.RowKit

/-! ### a directory's turn -/
/-! ### Put -/
theorem store_next {s : Sto} (S : StoreOk s) : ∀ y ∈ s.Turns, 1 ≤ y.Next ∧ y.Next ≤ 10000 := fun y hy => by
  have := List.all_eq_true.1 S.turns y hy
  simp [ptB] at this
  omega
/-! ### a part -/
theorem mayP_iff {p : Pt1} (h : mayP p = true) : fieldsB p.Path p.Data p.Version (-1) p.Owner = true ∧ bl p.Dir = dirOf p ∧ (1 ≤ p.Kind ∧ p.Kind ≤ 10) ∧ (p.Kind = 2 → bl p.Path ≠ [47]) := by
  unfold mayP at h
  simp only [Bool.and_eq_true, Bool.or_eq_true, decide_eq_true_eq, Bool.not_eq_true', decide_eq_false_iff_not] at h
  exact ⟨h.1.1.1, h.1.1.2, h.1.2, fun k => h.2.resolve_left (fun h' => h' k)⟩
theorem mayP_path {p : Pt1} (h : mayP p = true) : pathOk (bl p.Path) = true := by
  have := (mayP_iff h).1
  unfold fieldsB at this
  simp only [Bool.and_eq_true] at this
  exact this.1.1.1
end Go.Cb
