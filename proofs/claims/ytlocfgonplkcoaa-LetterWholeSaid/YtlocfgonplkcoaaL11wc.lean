/- Letters: a law, plainly. -/
import Derived.Test.YtlocfgonplkcoaaL11c
import Derived.Test.YtlocfgonplkcoaaKc5
set_option linter.unusedVariables false
set_option linter.unusedSimpArgs false
namespace Go.Cb
open Go.RowKit
theorem pure_whole (x : Answer) (l : List Int) (cut more : Int) (h : InA x) (hb : Bs l) (hc : 0 ≤ cut ∧ cut ≤ 65535) (hm : 0 ≤ more ∧ more ≤ 255) : m_cantonlaw17_LetterWhole x l cut more = some true := by
  unfold m_cantonlaw17_LetterWhole
  rw [head_t]
  simp only [Option.bind_some]
  have hj : ∀ b, b = true → m_cantonlaw17_LetterWhole_j1 l true cut more x b = some true := by rintro _ rfl; rfl
  obtain ⟨b, h1, h2⟩ := greatA x h
  show (m_cantonlaw17_GreatAnswer x).bind _ = _
  rw [h1]
  simp only [Option.bind_some]
  cases b with
  | true => exact hj _ rfl
  | false =>
    have hf := h2 rfl
    rw [if_neg (by simp)]
    by_cases hl : (l.length : Int) > 20000
    · exact hj _ (by simpa using hl)
    have hl' : l.length ≤ 20000 := by omega
    have hG : Good l := ⟨hb, by omega⟩
    have hd : decide ((l.length : Int) > 20000) = false := by simpa using hl
    have wx := ansW_len x hf
    rw [hd]
    obtain ⟨c, rfl⟩ : ∃ c : Nat, cut = (c : Int) := ⟨cut.toNat, by omega⟩
    have htm : ∀ n : Nat, 0 < n → (IntKind.i64.wrap (c : Int)).tmod (n : Int) = ((c % n : Nat) : Int) := fun n hn => by
      rw [w64 (by omega) (by omega), Int.tmod_eq_emod_of_nonneg (by omega)]; rfl
    have bm : Bs [more] := by intro z hz; simp at hz; subst hz; exact hm
    have j2 : m_cantonlaw17_LetterWhole_j2 l true = some true := by
      unfold m_cantonlaw17_LetterWhole_j2
      rw [getA_m hG]
      simp only [Option.bind_some]
      rcases cAnswer.get_two zAnswer l with h0 | h0
      · obtain ⟨e1, e2⟩ := cAnswer.get_ok hb h0
        rw [if_neg (by simpa using h0)]
        show (m_letter_PutAnswer (cAnswer.get zAnswer l).1).bind _ = _
        rw [putA_m _ (answer_fits e2 (by rw [← e1]; exact hl')), put_of e2, ← e1]
        simp only [Option.bind_some]
        rw [if_pos (by trivial), if_pos (by simp), sEq_self]
      · rw [h0, if_pos (by simp), if_pos (by trivial)]
        show (m_cantonref13_Same zAnswer zAnswer).bind _ = _
        rw [sameA_self _ zShort]
        rfl
    unfold m_cantonlaw17_LetterWhole_j1
    rw [if_neg (by simp)]
    show (m_letter_PutAnswer x).bind _ = _
    rw [putA_m x hf]
    simp only [Option.bind_some]
    by_cases h0 : (cAnswer.put x).2 = 0
    · obtain ⟨e1, e2⟩ := put_ok h0
      have hpos := cAnswer.pos x e1
      have hlt := Nat.mod_lt c (show 0 < (cAnswer.W x).length by omega)
      have hne : (((cAnswer.W x).length : Int) == 0) = false := by simp; intro h; rw [h] at hpos; simp at hpos
      rw [if_pos (by simpa using h0), e2]
      dsimp only
      rw [getA_m ⟨cAnswer.bsW x, by omega⟩, cAnswer.get_put zAnswer x e1 (by omega)]
      simp only [Option.bind_some]
      rw [if_neg (by simp)]
      show (m_cantonref13_Same x x).bind _ = _
      rw [sameA_self x hf.short]
      simp only [Option.bind_some]
      rw [if_neg (by simp), hne]
      unfold m_cantonlaw17_LetterWhole_j3
      rw [if_neg (by simp)]
      dsimp only
      rw [ck_b (by omega), htm _ (by omega), ck_b ⟨by omega, by omega⟩, Int.toNat_natCast]
      rw [getA_m ⟨(cAnswer.bsW x).take _, by rw [List.length_take]; omega⟩]
      simp only [Option.bind_some]
      rw [ck_b (by simp [LIM]; omega), ck_b (by simp [LIM]; omega), List.nil_append]
      rw [getA_m ⟨(cAnswer.bsW x).app bm, by rw [List.length_append]; simp; omega⟩]
      simp only [Option.bind_some]
      rw [cAnswer.cut zAnswer x e1 (by omega) _ hlt, cAnswer.more zAnswer x e1 (by omega) more hm]
      unfold m_cantonlaw17_LetterWhole_j4
      simpa using j2
    · rw [if_neg (by simpa using h0)]; exact j2
end Go.Cb
