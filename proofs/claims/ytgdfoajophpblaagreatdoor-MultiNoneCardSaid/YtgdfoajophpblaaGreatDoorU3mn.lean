/- Several operations, plainly: MultiNone. -/
import Derived.Test.YtgdfoajophpblaaGreatDoorU1mn
import Derived.Test.YtgdfoajophpblaaGreatDoorKmn3
set_option linter.unusedVariables false
set_option linter.unusedSimpArgs false
namespace Go.Cb
open Go.Proofs Go.RowKit

theorem runS_at (t : List Nd) : ∀ (l : List Op1) (now : List Nd) (i : Nat) (acc : List Res), (runS t now i l acc).2.Err ≠ 0 → ∃ j : Nat, (runS t now i l acc).2.At = (j : Int) ∧ i ≤ j ∧ j < i + l.length ∧ (runS t now i l acc).1 = t ∧ (runS t now i l acc).2.Results = [] ∧ (runS t now i l acc).2.Err ≠ 1
  | [], now, i, acc, h => by exact absurd rfl h
  | o :: l, now, i, acc, h => by
    unfold runS at h ⊢
    by_cases c : (applyS now o).2.Err ≠ 0
    · rw [if_pos c] at h ⊢
      refine ⟨i, rfl, Nat.le_refl _, by simp, rfl, rfl, ?_⟩
      rcases apply_err now o with ⟨_, _, h3, _⟩ | h0
      · exact h3
      · exact absurd h0 c
    · rw [if_neg c] at h ⊢
      obtain ⟨j, h1, h2, h3, h4⟩ := runS_at t l _ (i + 1) _ h
      exact ⟨j, h1, by omega, by simp; omega, h4⟩
theorem runS_pre (t : List Nd) : ∀ (l : List Op1) (now : List Nd) (i : Nat) (acc : List Res), (runS t now i l acc).2.Err = 0 → ∃ rest, (runS t now i l acc).2.Results = acc ++ rest ∧ rest.length = l.length
  | [], now, i, acc, h => ⟨[], by simp [runS], rfl⟩
  | o :: l, now, i, acc, h => by
    unfold runS at h ⊢
    by_cases c : (applyS now o).2.Err ≠ 0
    · rw [if_pos c] at h; exact absurd h c
    · rw [if_neg c] at h ⊢
      obtain ⟨rest, h1, h2⟩ := runS_pre t l _ (i + 1) _ h
      exact ⟨(applyS now o).2 :: rest, by rw [h1]; simp, by simp [h2]⟩
theorem apply_names3 {l : List Nd} (T : Tree l) (o : Op1) : (applyS l o).2.Names.length ≤ 512 := by
  unfold applyS createS doS
  repeat' split
  all_goals first | (simp [res]; done) | (simp only [List.length_map]; exact Nat.le_trans (List.length_filter_le _ _) T.len)
theorem none_l1 (t : List Nd) (l : List Op1) (r : List Nd × Dn) (hl : l.length ≤ 1000) (hm : l.all MayB = true) : ∀ (k i : Nat) (now : List Nd) (acc : List Res), Tree now → i ≤ l.length → l.length + 1 ≤ i + k → acc.length = i → runS t now i (l.drop i) acc = r → m_cantonlaw08_MultiNone_l1 true r l k now (i : Int) = some true
  | 0, i, now, acc, _, _, h, _, _ => by omega
  | k + 1, i, now, acc, T, h0, h, ha, hr => by
    unfold m_cantonlaw08_MultiNone_l1
    by_cases hi : i < l.length
    · have hmi : MayB l[i] = true := List.all_eq_true.1 hm _ (List.getElem_mem hi)
      rw [List.drop_eq_getElem_cons hi] at hr
      rw [if_pos (by simpa using hi), idx_lt hi]
      simp only [Option.bind_some]
      rw [Apply_eq now l[i] T hmi]
      simp only [Option.bind_some]
      unfold runS at hr
      by_cases c : (applyS now l[i]).2.Err ≠ 0
      · rw [if_pos c] at hr
        subst hr
        rw [if_pos (by simpa using c)]
        unfold m_cantonlaw08_MultiNone_j3
        simp
      · rw [if_neg c] at hr
        have ih := none_l1 t l r hl hm k (i + 1) (applyS now l[i]).1 (acc ++ [(applyS now l[i]).2]) (Tree_apply T hmi) (by omega) (by omega) (by simp [ha]) hr
        have j4 : m_cantonlaw08_MultiNone_j4 (m_cantonlaw08_MultiNone_l1 true r l k) (applyS now l[i]) (i : Int) false = some true := by
          unfold m_cantonlaw08_MultiNone_j4
          rw [if_neg (by simp), inc1 (by omega)]
          exact ih
        by_cases e : r.2.Err = 0
        · rw [if_neg (by simpa using e)]
          unfold m_cantonlaw08_MultiNone_j3
          rw [if_neg (by simp), if_neg (by simpa using c), if_pos (by simpa using e)]
          obtain ⟨rest, h1, h2⟩ := runS_pre t _ _ _ _ (by rw [hr]; exact e)
          rw [hr] at h1
          have hx : r.2.Results[i]? = some (applyS now l[i]).2 := by
            rw [h1, List.append_assoc, List.getElem?_append_right (by omega)]
            simp [ha]
          rw [idx_b hx, SameOne_eq _ _ (by have := apply_names3 T l[i]; omega), decide_eq_true rfl]
          exact j4
        · rw [if_pos (by simpa using e)]
          obtain ⟨j, h1, h2, _⟩ := runS_at t _ _ _ _ (by rw [hr]; exact e)
          rw [hr] at h1
          have hne : ((i : Int) == r.2.At) = false := by rw [h1]; simp; omega
          unfold m_cantonlaw08_MultiNone_j3
          rw [hne, if_neg (by simp), if_neg (by simpa using c), if_neg (by simpa using e)]
          exact j4
    · rw [List.drop_eq_nil_of_le (by omega)] at hr
      subst hr
      rw [if_neg (by simpa using hi)]
      simp only [if_true, runS]
      have := T.len
      rw [Same_eq _ _ (by omega)]
      simp
theorem mnone_j1 (t : List Nd) (l : List Op1) (hlen : t.length ≤ 1666) (sm : Sm t) (hl : l.length ≤ 40) (so : SmO l) : m_cantonlaw08_MultiNone_j1 true l t false = some true := by
  unfold m_cantonlaw08_MultiNone_j1
  rw [if_neg (by simp)]
  by_cases h : Tree t ∧ mayL l = true
  · have hm := h.2
    unfold mayL at hm
    simp only [Bool.and_eq_true, decide_eq_true_eq] at hm
    rw [multiApply_eq t l h.1 h.2]
    simp only [Option.bind_some]
    obtain ⟨r, hr⟩ : ∃ r, r = runS t t 0 l [] := ⟨_, rfl⟩
    have hl1 : m_cantonlaw08_MultiNone_j2 true r l t false = some true := by
      unfold m_cantonlaw08_MultiNone_j2
      rw [if_neg (by simp)]
      exact none_l1 t l r (by omega) hm.2 (((l.length : Int) - 0 : Int).toNat + 1) 0 t [] h.1 (by omega) (by omega) rfl (by rw [hr]; simp)
    rw [← hr]
    by_cases e : r.2.Err = 0
    · rw [if_neg (by rw [e]; simp), if_neg (by simpa using e), if_pos (by simpa using e)]
      obtain ⟨rest, h1, h2⟩ := runS_pre t l t 0 [] (by rw [← hr]; exact e)
      rw [← hr] at h1
      have : ((r.2.Results.length : Int) != (l.length : Int)) = false := by rw [h1]; simp [h2]
      rw [this]
      exact hl1
    · obtain ⟨j, h1, h2, h3, h4, h5, h6⟩ := runS_at t l t 0 [] (by rw [← hr]; exact e)
      rw [← hr] at h1 h4 h5 h6
      rw [if_neg (by simpa using h6), if_pos (by simpa using e), h1, if_neg (by simp), if_neg (by simp; omega), h4, Same_eq _ _ (by omega)]
      simp only [Option.bind_some, decide_true, Bool.not_true, Bool.false_eq_true, if_false]
      rw [h5, if_neg (by simp), if_neg (by simpa using e)]
      exact hl1
  · rw [multiApply_bad t l (by omega) sm (by omega) h]
    rfl
theorem pure_mnone (t : List Nd) (l : List Op1) (hlen : t.length ≤ 140737488351232) : m_cantonlaw08_MultiNone t l = some true := by
  unfold m_cantonlaw08_MultiNone
  rw [head8_t]
  obtain ⟨b, h1, h2⟩ := Great_eq t hlen
  simp only [Option.bind_some]
  rw [h1]
  simp only [Option.bind_some]
  cases b with
  | true => rw [if_pos rfl]; rfl
  | false =>
    rw [if_neg (by simp)]
    obtain ⟨c, h3, h4⟩ := GreatOps_eq l
    rw [h3]
    simp only [Option.bind_some]
    cases c with
    | true => rfl
    | false => exact mnone_j1 t l (h2 rfl).1 (h2 rfl).2 (h4 rfl).1 (h4 rfl).2
end Go.Cb
