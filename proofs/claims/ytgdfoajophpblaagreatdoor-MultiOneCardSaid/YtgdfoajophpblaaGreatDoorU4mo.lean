/- Several operations, plainly: MultiOne. -/
import Derived.Test.YtgdfoajophpblaaGreatDoorU1mo
import Derived.Test.YtgdfoajophpblaaGreatDoorKmo3
set_option linter.unusedVariables false
set_option linter.unusedSimpArgs false
namespace Go.Cb
open Go.Proofs Go.RowKit

theorem apply_names4 {l : List Nd} (T : Tree l) (o : Op1) : (applyS l o).2.Names.length ≤ 512 := by
  unfold applyS createS doS
  repeat' split
  all_goals first | (simp [res]; done) | (simp only [List.length_map]; exact Nat.le_trans (List.length_filter_le _ _) T.len)
theorem apply_back {l : List Nd} {o : Op1} (h : (applyS l o).2.Err ≠ 0) : (applyS l o).1 = l := by
  rcases apply_err l o with ⟨_, h2, _, _⟩ | h0
  · exact h2
  · exact absurd h0 h
theorem one_j2 (t : List Nd) (a b : Op1) (T : Tree t) (ha : MayB a = true) (hb : MayB b = true) : m_cantonlaw08_MultiOne_j2 (applyS t a) b t a true false = some true := by
  have hl := T.len
  have Ta := Tree_apply T ha
  have hla := Ta.len
  have Tb := Tree_apply Ta hb
  have hlb := Tb.len
  have hm2 : mayL [a, b] = true := by simp [mayL, ha, hb]
  unfold m_cantonlaw08_MultiOne_j2
  rw [if_neg (by simp), Apply_eq _ b Ta hb, multiApply_eq t _ T hm2]
  simp only [Option.bind_some]
  by_cases c : (applyS t a).2.Err = 0
  · by_cases d : (applyS (applyS t a).1 b).2.Err = 0
    · have hr : runS t t 0 [a, b] [] = ((applyS (applyS t a).1 b).1, ⟨0, 0, [(applyS t a).2, (applyS (applyS t a).1 b).2]⟩) := by
        simp only [runS]
        rw [if_neg (by simpa using c), if_neg (by simpa using d)]
        rfl
      rw [hr, if_neg (by simpa using c), if_neg (by simpa using d)]
      simp only [if_true, beq_self_eq_true]
      rw [Same_eq _ _ (by omega)]
      simp only [Option.bind_some, decide_true, if_true]
      rw [if_pos (by simp), show idx [(applyS t a).2, (applyS (applyS t a).1 b).2] 1 = some (applyS (applyS t a).1 b).2 from rfl]
      simp only [Option.bind_some]
      rw [SameOne_eq _ _ (by have := apply_names4 Ta b; omega)]
      simp
    · have hr : runS t t 0 [a, b] [] = (t, ⟨(applyS (applyS t a).1 b).2.Err, 1, []⟩) := by
        simp only [runS]
        rw [if_neg (by simpa using c), if_pos (by simpa using d)]
        rfl
      rw [hr, if_neg (by simpa using c), if_pos (by simpa using d)]
      simp only [if_true, beq_self_eq_true]
      rw [Same_eq _ _ (by omega)]
      simp
  · have hr : runS t t 0 [a, b] [] = (t, ⟨(applyS t a).2.Err, 0, []⟩) := by
      simp only [runS]
      rw [if_pos (by simpa using c)]
      rfl
    rw [hr, if_pos (by simpa using c)]
    simp
theorem one_j1 (t : List Nd) (a b : Op1) (T : Tree t) (ha : MayB a = true) (hb : MayB b = true) : m_cantonlaw08_MultiOne_j1 b t a true false = some true := by
  have hl := T.len
  have Ta := Tree_apply T ha
  have hla := Ta.len
  have hm1 : mayL [a] = true := by simp [mayL, ha]
  unfold m_cantonlaw08_MultiOne_j1
  rw [if_neg (by simp), Apply_eq _ a T ha, multiApply_eq t _ T hm1]
  simp only [Option.bind_some]
  by_cases c : (applyS t a).2.Err = 0
  · have hr : runS t t 0 [a] [] = ((applyS t a).1, ⟨0, 0, [(applyS t a).2]⟩) := by
      simp only [runS]
      rw [if_neg (by simpa using c)]
      rfl
    rw [hr, if_neg (by simp [c]), Same_eq _ _ (by omega)]
    simp only [Option.bind_some, decide_true, Bool.not_true, Bool.false_eq_true, if_false]
    rw [if_pos (by simpa using c), if_neg (by simp), show idx [(applyS t a).2] 0 = some (applyS t a).2 from rfl]
    simp only [Option.bind_some]
    rw [SameOne_eq _ _ (by have := apply_names4 T a; omega)]
    simp only [Option.bind_some, decide_true, Bool.not_true]
    exact one_j2 t a b T ha hb
  · have hr : runS t t 0 [a] [] = (t, ⟨(applyS t a).2.Err, 0, []⟩) := by
      simp only [runS]
      rw [if_pos (by simpa using c)]
      rfl
    have hs : m_cantonref06_Same (applyS t a).1 t = some true := by
      rw [Same_eq _ _ (by omega), decide_eq_true (apply_back c)]
    rw [hr, if_neg (by simp), hs]
    simp only [Option.bind_some, Bool.not_true, Bool.false_eq_true, if_false]
    rw [if_neg (by simpa using c)]
    exact one_j2 t a b T ha hb
theorem pure_mone (t : List Nd) (a b : Op1) (hlen : t.length ≤ 140737488351232) : m_cantonlaw08_MultiOne t a b = some true := by
  have up : m_cantonlaw08_MultiOne_j1 b t a true true = some true := rfl
  unfold m_cantonlaw08_MultiOne
  rw [head8_t]
  obtain ⟨g, h1, h2⟩ := Great_eq t hlen
  simp only [Option.bind_some]
  rw [h1]
  simp only [Option.bind_some]
  cases g with
  | true => rw [if_pos rfl]; exact up
  | false =>
    obtain ⟨hl, sm⟩ := h2 rfl
    rw [if_neg (by simp)]
    obtain ⟨c, h3, h4⟩ := GreatOp_eq a
    rw [h3]
    simp only [Option.bind_some]
    cases c with
    | true => rw [if_pos rfl]; exact up
    | false =>
      rw [if_neg (by simp)]
      obtain ⟨d, h5, h6⟩ := GreatOp_eq b
      rw [h5]
      simp only [Option.bind_some]
      cases d with
      | true => rw [if_pos rfl]; exact up
      | false =>
        rw [if_neg (by simp)]
        obtain ⟨e, h7, h8⟩ := rRight_eq t (by omega) sm
        rw [h7]
        simp only [Option.bind_some]
        cases e with
        | false => rw [if_pos (by rfl)]; exact up
        | true =>
          have e1 := (h4 rfl).1
          have e2 := (h6 rfl).1
          rw [if_neg (by simp), rMay_eq a (by omega)]
          simp only [Option.bind_some]
          cases ha : MayB a with
          | false => rw [if_pos (by rfl)]; exact up
          | true =>
            rw [if_neg (by simp), rMay_eq b (by omega)]
            simp only [Option.bind_some]
            cases hb : MayB b with
            | false => exact up
            | true => exact one_j1 t a b (h8.1 rfl) ha hb
end Go.Cb
