/- Nodes, plainly: NodesTells. -/
import Derived.Test.YtidapdacihcckaaGreatDoorQAte
import Derived.Test.YtidapdacihcckaaGreatDoorQ10te
import Derived.Test.YtidapdacihcckaaGreatDoorKte4
set_option linter.unusedVariables false
set_option linter.unusedSimpArgs false
namespace Go.Cb
open Go.Proofs Go.RowKit

theorem apply_names {l : List Nd} (T : Tree l) (o : Op1) : (applyS l o).2.Names.length ≤ 512 := by
  unfold applyS createS doS
  repeat' split
  all_goals first | (simp [res]; done) | (simp only [List.length_map]; exact Nat.le_trans (List.length_filter_le _ _) T.len)
theorem tells_j1 (l : List Nd) (o : Op1) (hlen : l.length ≤ 1666) (sm : Sm l) (hp : (bl o.Path).length ≤ 3000) : m_cantonlaw06_NodesTells_j1 true l o false = some true := by
  unfold m_cantonlaw06_NodesTells_j1
  rw [if_neg (by simp), show (⟨o.Kind, o.Path, o.Data, o.Version, o.Owner, o.Turns⟩ : Op1) = o from rfl]
  have hr : ∃ r, m_nodes_Apply l o = some r ∧ m_cantonref06_Apply l o = some r ∧ r.1.length ≤ 100000 ∧ r.2.Names.length ≤ 100000 := by
    by_cases h : Tree l ∧ MayB o = true
    · refine ⟨_, Apply_eq l o h.1 h.2, rApply_eq l o h.1 (by omega) h.2, ?_, ?_⟩
      · have := (Tree_apply h.1 h.2).len; omega
      · have := apply_names h.1 o; omega
    · exact ⟨_, Apply_bad l o (by omega) sm h, rApply_bad l o (by omega) sm (by omega) h, by simp, by simp [res]⟩
  obtain ⟨r, h1, h2, h3, h4⟩ := hr
  rw [h1, h2, Find_eq l _ (by omega), rFind_eq l _ (by omega)]
  simp only [Option.bind_some]
  obtain ⟨b, e1, e2⟩ := pRight_eq l (by omega) sm
  obtain ⟨b', e3, e4⟩ := rRight_eq l (by omega) sm
  have hb : b = b' := by rw [Bool.eq_iff_iff, e2, e4]
  subst hb
  rw [if_pos trivial, e1, e3, May_eq, rMay_eq o (by omega)]
  simp only [Option.bind_some, beq_self_eq_true, if_true]
  rw [Same_eq _ _ (by omega)]
  simp only [Option.bind_some, decide_true, if_true]
  rw [show m_cantonref06_SameOne (⟨r.2.Err, r.2.Path, r.2.Data, r.2.Version, r.2.Names⟩ : Res) (⟨r.2.Err, r.2.Path, r.2.Data, r.2.Version, r.2.Names⟩ : Res) = _ from SameOne_eq r.2 r.2 (by omega)]
  simp only [Option.bind_some, decide_true, if_true]
  have es : ∀ s, sEq s s = true := fun s => (sEq_iff s s).2 rfl
  rw [es, es]
  rfl
theorem pure_tells (l : List Nd) (o : Op1) (hlen : l.length ≤ 140737488351232) : m_cantonlaw06_NodesTells l o = some true := by
  unfold m_cantonlaw06_NodesTells
  rw [head_t]
  obtain ⟨b, h1, h2⟩ := Great_eq l hlen
  simp only [Option.bind_some]
  rw [h1]
  simp only [Option.bind_some]
  cases b with
  | true => rw [if_pos rfl]; rfl
  | false =>
    rw [if_neg (by simp), show (⟨o.Kind, o.Path, o.Data, o.Version, o.Owner, o.Turns⟩ : Op1) = o from rfl]
    obtain ⟨c, h3, h4⟩ := GreatOp_eq o
    rw [h3]
    simp only [Option.bind_some]
    cases c with
    | true => rfl
    | false => exact tells_j1 l o (h2 rfl).1 (h2 rfl).2 (h4 rfl).1
end Go.Cb
