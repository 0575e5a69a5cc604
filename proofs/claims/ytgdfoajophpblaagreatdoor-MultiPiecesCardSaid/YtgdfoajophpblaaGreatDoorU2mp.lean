/- Several operations, plainly: the document's answer; MultiTells. -/
import Derived.Test.YtgdfoajophpblaaGreatDoorU1mp
import Derived.Test.YtgdfoajophpblaaGreatDoorKmp3
set_option linter.unusedVariables false
set_option linter.unusedSimpArgs false
namespace Go.Cb
open Go.Proofs Go.RowKit

theorem rmay_l1 (l : List Op1) (hl : l.length ≤ 1000000) (sm : SmO l) : ∀ (k i : Nat), i ≤ l.length → l.length + 1 ≤ i + k → m_cantonref08_May_l1 l k (i : Int) = some (decide (0 < l.length) && decide (l.length ≤ 8) && (l.drop i).all MayB)
  | 0, i, _, h => by omega
  | k + 1, i, h0, h => by
    unfold m_cantonref08_May_l1
    by_cases hi : i < l.length
    · have := sm _ (List.getElem_mem hi)
      rw [if_pos (by simpa using hi), idx_lt hi, List.drop_eq_getElem_cons hi]
      simp only [Option.bind_some, List.all_cons]
      rw [rMay_eq _ (by omega)]
      simp only [Option.bind_some]
      cases hm : MayB l[i] with
      | false => rw [if_pos (by rfl)]; simp
      | true =>
        rw [if_neg (by simp), inc1 (by omega), rmay_l1 l hl sm k (i + 1) (by omega) (by omega)]
        simp
    · rw [if_neg (by simpa using hi), List.drop_eq_nil_of_le (by omega)]
      by_cases a : 0 < l.length
      · rw [if_pos (decide_eq_true (by omega)), decide_eq_true a]
        simp
        omega
      · rw [if_neg (by rw [decide_eq_false (by omega)]; simp), decide_eq_false a]; simp
theorem rmultiMay_eq (l : List Op1) (hl : l.length ≤ 1000000) (sm : SmO l) : m_cantonref08_May l = some (mayL l) := by
  unfold m_cantonref08_May mayL
  refine (rmay_l1 l hl sm (((l.length : Int) - 0 : Int).toNat + 1) 0 (by omega) (by omega)).trans ?_
  simp
/-! ### pieces -/
/-! ### likeness, of one with itself -/
theorem apply_names {l : List Nd} (T : Tree l) (o : Op1) : (applyS l o).2.Names.length ≤ 512 := by
  unfold applyS createS doS
  repeat' split
  all_goals first | (simp [res]; done) | (simp only [List.length_map]; exact Nat.le_trans (List.length_filter_le _ _) T.len)
theorem runS_ok (t : List Nd) (T0 : Tree t) : ∀ (l : List Op1) (now : List Nd) (i : Nat) (acc : List Res), Tree now → l.all MayB = true → (∀ r ∈ acc, r.Names.length ≤ 512) → Tree (runS t now i l acc).1 ∧ (∀ r ∈ (runS t now i l acc).2.Results, r.Names.length ≤ 512) ∧ (runS t now i l acc).2.Results.length ≤ acc.length + l.length
  | [], now, i, acc, T, _, ha => ⟨T, ha, by simp [runS]⟩
  | o :: l, now, i, acc, T, hm, ha => by
    rw [List.all_cons, Bool.and_eq_true] at hm
    unfold runS
    split
    · exact ⟨T0, by simp, by simp⟩
    · obtain ⟨h1, h2, h3⟩ := runS_ok t T0 l _ (i + 1) (acc ++ [(applyS now o).2]) (Tree_apply T hm.1) hm.2 fun r hr => by
        rcases List.mem_append.1 hr with h | h
        · exact ha r h
        · obtain rfl := List.mem_singleton.1 h
          exact apply_names T o
      exact ⟨h1, h2, by simp at h3 ⊢; omega⟩
theorem pieces_len : ∀ (l : List Op1) (i : Nat), (piecesS i l).length ≤ 2 * l.length
  | [], _ => by simp [piecesS]
  | o :: l, i => by
    have h1 := ofS_len o
    have h2 := pieces_len l (i + 1)
    simp [piecesS]
    omega
end Go.Cb
