/- Nodes, plainly: the document's Create, May and Apply. -/
import Derived.Test.YtgdfoajophpblaaGreatDoorQRpx
set_option linter.unusedVariables false
set_option linter.unusedSimpArgs false
namespace Go.Cb
open Go.Proofs Go.RowKit

/-! ### May -/
theorem rRight1 (s : ByteArray) (hp : (bl s).length ≤ 100000000) : m_cantonref01_Right s = some (pathOk (bl s)) := by
  unfold m_cantonref01_Right
  rw [rSplit_eq s hp]
  simp only [Option.bind_some]
  unfold spl pathOk
  cases parts (bl s) <;> rfl
theorem may_false {o : Op1} (h : ¬ ((pathOk (bl o.Path) = true ∧ (bl o.Data).length ≤ 256) ∧ 0 ≤ o.Owner ∧ o.Owner ≤ 1099511627776)) : MayB o = false := by
  unfold MayB
  rw [Bool.eq_false_iff]
  intro h'
  simp only [Bool.and_eq_true, decide_eq_true_eq] at h'
  exact h ⟨⟨h'.1.1.1.1.2, h'.1.1.1.2⟩, h'.1.1.2⟩
theorem may_kind {o : Op1} (h1 : pathOk (bl o.Path) = true) (h2 : (bl o.Data).length ≤ 256) (h3 : 0 ≤ o.Owner ∧ o.Owner ≤ 1099511627776) : MayB o = (decide (1 ≤ o.Kind ∧ o.Kind ≤ 7) && decide (-1 ≤ o.Version ∧ o.Version ≤ 281474976710656) && kindOk o.Kind (decide (bl o.Path = [47])) (!decide (bl o.Data = [])) (!decide (o.Version = 0)) (!decide (o.Owner = 0)) o.Turns) := by
  unfold MayB
  rw [h1, decide_eq_true h2, decide_eq_true h3]
  simp
theorem sEq_root (s : ByteArray) : sEq s (ByteArray.mk #[47]) = decide (bl s = [47]) := sEq_bl _ _
theorem sEq_emp (s : ByteArray) : sEq s (ByteArray.mk #[]) = decide (bl s = []) := sEq_bl _ _
theorem rMay_j2 (o : Op1) (v : Bool) (hv : v = decide (-1 ≤ o.Version ∧ o.Version ≤ 281474976710656)) (h1 : pathOk (bl o.Path) = true) (h2 : (bl o.Data).length ≤ 256) (h3 : 0 ≤ o.Owner ∧ o.Owner ≤ 1099511627776) : m_cantonref06_May_j2 o v false = some (MayB o) := by
  rw [may_kind h1 h2 h3]
  unfold m_cantonref06_May_j2 m_cantonref06_May_j3
  simp only [sEq_root, sEq_emp]
  have kk : o.Kind = 1 ∨ o.Kind = 2 ∨ o.Kind = 3 ∨ o.Kind = 4 ∨ o.Kind = 5 ∨ o.Kind = 6 ∨ o.Kind = 7 ∨ (o.Kind < 1 ∨ 7 < o.Kind) := by omega
  have ev : (o.Version == 0) = decide (o.Version = 0) := rfl
  have ew : (o.Owner == 0) = decide (o.Owner = 0) := rfl
  rw [ev, ew]
  have v0 : o.Version = 0 → -1 ≤ o.Version ∧ o.Version ≤ 281474976710656 := fun h => by omega
  have w0 : decide (o.Owner > 0) = !decide (o.Owner = 0) := by rw [Bool.eq_iff_iff]; simp; omega
  rw [w0, ← hv]
  rcases kk with c | c | c | c | c | c | c | c
  case inr.inr.inr.inr.inr.inr.inr =>
    have d1 : (o.Kind == 1) = false := by simp; omega
    have d2 : (o.Kind == 2) = false := by simp; omega
    have d3 : (o.Kind == 3) = false := by simp; omega
    have d4 : (o.Kind == 4) = false := by simp; omega
    have d5 : (o.Kind == 5) = false := by simp; omega
    have d6 : (o.Kind == 6) = false := by simp; omega
    have d7 : (o.Kind == 7) = false := by simp; omega
    rw [d1, d2, d3, d4, d5, d6, d7, decide_eq_false (p := 1 ≤ o.Kind ∧ o.Kind ≤ 7) (by omega)]
    simp
  all_goals
    simp only [c, kindOk]
    by_cases c0 : o.Version = 0
    · have hv1 : v = true := by rw [hv]; simpa using v0 c0
      rw [hv1]
      simp only [c0]
      cases o.Turns <;> cases decide (bl o.Path = [47]) <;> cases decide (bl o.Data = []) <;> cases decide (o.Owner = 0) <;> rfl
    · rw [decide_eq_false c0]
      cases v <;> cases o.Turns <;> cases decide (bl o.Path = [47]) <;> cases decide (bl o.Data = []) <;> cases decide (o.Owner = 0) <;> rfl
theorem rMay_eq (o : Op1) (hp : (bl o.Path).length ≤ 100000000) : m_cantonref06_May o = some (MayB o) := by
  have key1 : ∀ v, v = decide (-1 ≤ o.Version ∧ o.Version ≤ 281474976710656) → m_cantonref06_May_j1 o v = some (MayB o) := by
    intro v hv
    unfold m_cantonref06_May_j1
    rw [rRight1 _ hp]
    simp only [Option.bind_some]
    have zd := bl_size o.Data
    cases h1 : pathOk (bl o.Path) with
    | false => rw [if_pos (by rfl), may_false (by simp [h1])]; rfl
    | true =>
      rw [if_neg (by simp)]
      by_cases h2 : (bl o.Data).length ≤ 256
      · rw [if_neg (by simp; omega)]
        by_cases h3 : o.Owner < 0
        · rw [if_pos (by simpa using h3), may_false (by omega)]; rfl
        · rw [if_neg (by simpa using h3)]
          by_cases h4 : o.Owner > 1099511627776
          · rw [decide_eq_true h4, may_false (by omega)]; rfl
          · rw [decide_eq_false h4]
            exact rMay_j2 o v hv h1 h2 (by omega)
      · rw [if_pos (by simp; omega), may_false (by omega)]; rfl
  unfold m_cantonref06_May
  by_cases h : o.Version ≥ -1
  · rw [if_pos (by simpa using h)]
    refine key1 _ ?_
    rw [Bool.eq_iff_iff]
    simp
    omega
  · rw [if_neg (by simpa using h)]
    exact key1 _ (decide_eq_false (by omega)).symm
/-! ### Apply -/
end Go.Cb
