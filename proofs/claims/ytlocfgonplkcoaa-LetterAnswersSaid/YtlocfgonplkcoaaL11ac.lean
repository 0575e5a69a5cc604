/- Letters: a law, plainly. -/
import Derived.Test.YtlocfgonplkcoaaL11c
import Derived.Test.YtlocfgonplkcoaaKc5
set_option linter.unusedVariables false
set_option linter.unusedSimpArgs false
namespace Go.Cb
open Go.RowKit
theorem pure_answers (x : Answer) (l : List Int) (h : InA x) (hb : Bs l) : m_cantonlaw17_LetterAnswers x l = some true := by
  unfold m_cantonlaw17_LetterAnswers
  rw [head_t]
  simp only [Option.bind_some]
  have hj : ∀ b, b = true → m_cantonlaw17_LetterAnswers_j1 true x l b = some true := by rintro _ rfl; rfl
  obtain ⟨b, h1, h2⟩ := greatA x h
  show (m_cantonlaw17_GreatAnswer x).bind _ = _
  rw [h1]
  simp only [Option.bind_some]
  cases b with
  | true => exact hj _ rfl
  | false =>
    have hf := h2 rfl
    rw [if_neg (by simp)]
    by_cases hl : (l.length : Int) > 20000
    · exact hj _ (by simpa using hl)
    have hl' : l.length ≤ 20000 := by omega
    have hG : Good l := ⟨hb, by omega⟩
    have hd : decide ((l.length : Int) > 20000) = false := by simpa using hl
    rw [hd]
    unfold m_cantonlaw17_LetterAnswers_j1
    rw [if_neg (by simp)]
    show (m_letter_PutAnswer x).bind _ = _
    rw [putA_m x hf]
    simp only [Option.bind_some]
    show (m_cantonref17_PutAnswer x).bind _ = _
    rw [putAR_m x hf]
    simp only [Option.bind_some]
    rw [getA_m hG]
    simp only [Option.bind_some]
    rw [getAR_m hG]
    simp only [Option.bind_some]
    rw [if_pos (by trivial), if_pos (by simp [sEq_self]), if_pos (by simp)]
    show (m_cantonref13_Same (cAnswer.get zAnswer l).1 (cAnswer.get zAnswer l).1).bind _ = _
    rw [sameA_self _ (getA_short hb hl')]
    simp
end Go.Cb
