/- MultiAll, plainly. -/
import Derived.Test.YtgdfoajophpblaaGreatDoorU5ml
set_option linter.unusedVariables false
set_option linter.unusedSimpArgs false
namespace Go.Cb
open Go.Proofs Go.RowKit

theorem mall_j1 (s : Sto) (l : List Pie) (hs : SmS s) (h1 : s.Nodes.length ≤ 1666) (h2 : s.Turns.length < 3000) (hl : l.length ≤ 60) (sp : SmP l) : m_cantonlaw08_MultiAll_j1 true s l false = some true := by
  unfold m_cantonlaw08_MultiAll_j1 m_multi_All m_cantonref08_All
  rw [if_neg (by simp)]
  obtain ⟨r, g1, g2, g3, g4, g5, g6⟩ := both_all s l hl sp ⟨by omega, by omega⟩ (((l.length : Int) - 0 : Int).toNat + 1) 0 s [] hs (by omega) (by omega) (by omega) (by omega) (by simp) (by simp)
  rw [show m_multi_All_l1 l s (((l.length : Int) - 0 : Int).toNat + 1) [] 0 s.Nodes s.Turns = some r from g1, show m_cantonref08_All_l1 s l (((l.length : Int) - 0 : Int).toNat + 1) [] 0 s.Nodes s.Turns = some r from g2]
  simp only [Option.bind_some, if_true]
  rw [sameS_eq _ _ (by omega) (by omega)]
  simp only [Option.bind_some, decide_true, if_true]
  rw [SameList_self _ (by omega) g6]
  simp only [Option.bind_some, if_true, beq_self_eq_true]
theorem pure_mall (s : Sto) (l : List Pie) (hlen : s.Nodes.length ≤ 140737488351232) : m_cantonlaw08_MultiAll s l = some true := by
  unfold m_cantonlaw08_MultiAll
  rw [head8_t]
  obtain ⟨b, h1, h2⟩ := great7_eq s hlen
  simp only [Option.bind_some]
  rw [h1]
  simp only [Option.bind_some]
  cases b with
  | true => rw [if_pos rfl]; rfl
  | false =>
    obtain ⟨g1, g2, g3⟩ := h2 rfl
    rw [if_neg (by simp)]
    obtain ⟨c, h3, h4⟩ := greatPieces_eq l
    rw [h3]
    simp only [Option.bind_some]
    cases c with
    | true => rfl
    | false => exact mall_j1 s l g1 g2 g3 (h4 rfl).1 (h4 rfl).2
end Go.Cb
