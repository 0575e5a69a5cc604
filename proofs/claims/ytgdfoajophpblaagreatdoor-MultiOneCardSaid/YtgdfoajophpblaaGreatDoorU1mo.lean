/- Several operations, plainly: what may be, what they make, their pieces. -/
import Derived.Test.YtgdfoajophpblaaGreatDoorQAmo
import Derived.Test.YtgdfoajophpblaaGreatDoorQ10mo
import Derived.Test.YtgdfoajophpblaaGreatDoorKmo2
import Derived.Test.YtgdfoajophpblaaGreatDoorKmo3
import Derived.Test.YtgdfoajophpblaaGreatDoorAmo1
set_option linter.unusedVariables false
set_option linter.unusedSimpArgs false
namespace Go.Cb
open Go.Proofs Go.RowKit

abbrev Dn := S_api_Done
set_option maxRecDepth 100000 in
theorem head8_t : m_cantonlaw08_head = some true := by kernel_rfl
/-! ### May -/
def mayL (l : List Op1) : Bool := decide (0 < l.length) && decide (l.length ≤ 8) && l.all MayB
theorem idxo_l1 (l : List Op1) (hl : l.length ≤ 1000000) : ∀ (k i : Nat), i ≤ l.length → l.length + 1 ≤ i + k → ∃ v : Int, m_slices_IndexFunc_api_Op_api_Op_l1 l k (i : Int) = some v ∧ decide (v ≥ 0) = !(l.drop i).all MayB
  | 0, i, _, h => by omega
  | k + 1, i, h0, h => by
    unfold m_slices_IndexFunc_api_Op_api_Op_l1
    by_cases hi : i < l.length
    · rw [if_pos (by simpa using hi), idx_lt hi, List.drop_eq_getElem_cons hi]
      simp only [Option.bind_some, m_multi_May_1, May_eq, List.all_cons]
      cases hm : MayB l[i] with
      | false => rw [if_pos (by rfl)]; exact ⟨_, rfl, by simp⟩
      | true =>
        rw [if_neg (by simp), inc1 (by omega)]
        obtain ⟨v, h1, h2⟩ := idxo_l1 l hl k (i + 1) (by omega) (by omega)
        exact ⟨v, h1, by rw [h2]; simp⟩
    · rw [if_neg (by simpa using hi), List.drop_eq_nil_of_le (by omega)]
      exact ⟨-1, rfl, by simp⟩
theorem multiMay_eq (l : List Op1) (hl : l.length ≤ 1000000) : m_multi_May l = some (mayL l) := by
  unfold m_multi_May m_slices_ContainsFunc_api_Op_api_Op m_slices_IndexFunc_api_Op_api_Op mayL
  obtain ⟨v, h1, h2⟩ := idxo_l1 l hl (((l.length : Int) - 0 : Int).toNat + 1) 0 (by omega) (by omega)
  rw [show m_slices_IndexFunc_api_Op_api_Op_l1 l (((l.length : Int) - 0 : Int).toNat + 1) 0 = some v from h1]
  simp only [Option.bind_some]
  rw [h2, List.drop_zero]
  by_cases a : 0 < l.length
  · rw [if_pos (decide_eq_true (by omega))]
    by_cases b : l.length ≤ 8
    · rw [if_pos (decide_eq_true (by omega)), decide_eq_true a, decide_eq_true b]; simp
    · rw [if_neg (by rw [decide_eq_false (by omega)]; simp), decide_eq_false b]; simp
  · rw [if_neg (by rw [decide_eq_false (by omega)]; simp), decide_eq_false a]; simp
/-! ### what they make -/
def runS (t : List Nd) : List Nd → Nat → List Op1 → List Res → List Nd × Dn
  | now, _, [], acc => (now, ⟨0, 0, acc⟩)
  | now, i, o :: l, acc => if (applyS now o).2.Err ≠ 0 then (t, ⟨(applyS now o).2.Err, i, []⟩) else runS t (applyS now o).1 (i + 1) l (acc ++ [(applyS now o).2])
theorem multiApply_l1 (l : List Op1) (t : List Nd) (hl : l.length ≤ 1000000) (hm : l.all MayB = true) : ∀ (k i : Nat) (now : List Nd) (acc : List Res), Tree now → i ≤ l.length → l.length + 1 ≤ i + k → acc.length ≤ i → m_multi_Apply_l1 l t k now (i : Int) acc = some (runS t now i (l.drop i) acc)
  | 0, i, now, acc, _, _, h, _ => by omega
  | k + 1, i, now, acc, T, h0, h, ha => by
    unfold m_multi_Apply_l1 m_multi_Apply_j1
    by_cases hi : i < l.length
    · have hmi : MayB l[i] = true := List.all_eq_true.1 hm _ (List.getElem_mem hi)
      rw [if_pos (by simpa using hi), idx_lt hi, List.drop_eq_getElem_cons hi]
      simp only [Option.bind_some]
      rw [Apply_eq now l[i] T hmi]
      simp only [Option.bind_some, runS]
      by_cases he : (applyS now l[i]).2.Err = 0
      · rw [if_neg (by simpa using he), if_neg (by simpa using he), ck_b (by simp [LIM]; omega), inc1 (by omega)]
        exact multiApply_l1 l t hl hm k (i + 1) _ _ (Tree_apply T hmi) (by omega) (by omega) (by simp; omega)
      · rw [if_pos (by simpa using he), if_pos he]
    · rw [if_neg (by simpa using hi), List.drop_eq_nil_of_le (by omega)]
      rfl
theorem multiApply_eq (t : List Nd) (l : List Op1) (T : Tree t) (hm : mayL l = true) : m_multi_Apply t l = some (runS t t 0 l []) := by
  have h := hm
  unfold mayL at h
  simp only [Bool.and_eq_true, decide_eq_true_eq] at h
  have hl := T.len
  unfold m_multi_Apply m_multi_Apply_j2
  obtain ⟨b, h1, h2⟩ := pRight_eq t (by omega) T.sm
  rw [h1, h2.2 T, multiMay_eq l (by omega), hm]
  simp only [Option.bind_some]
  rw [if_neg (by simp), if_neg (by simp)]
  refine (multiApply_l1 l t (by omega) h.2 (((l.length : Int) - 0 : Int).toNat + 1) 0 t [] T (by omega) (by omega) (by simp)).trans ?_
  simp
/-! ### their parts -/
end Go.Cb
