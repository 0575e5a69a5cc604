/- Letters and saved things, plainly. -/
import Derived.Test.YtlocfgonplkcoaaL3c
import Derived.Test.YtlocfgonplkcoaaHc
import Derived.Test.YtlocfgonplkcoaaKc2
import Derived.Test.YtlocfgonplkcoaaKc3
import Derived.Test.YtlocfgonplkcoaaKc1
set_option linter.unusedVariables false
set_option linter.unusedSimpArgs false
namespace Go.Cb
open Go.RowKit
abbrev Letter := S_api_Letter
abbrev Saved := S_api_Saved
def cLetter : Codec Letter := (cNum.pair (cNum.pair (cNum.pair (cNum.pair (cNum.pair (cTexts.pair (cNum.pair cText))))))).iso
  (fun t => ⟨t.1, t.2.1, t.2.2.1, t.2.2.2.1, t.2.2.2.2.1, t.2.2.2.2.2.1, t.2.2.2.2.2.2.1, t.2.2.2.2.2.2.2⟩) (fun x => (x.Kind, x.View, x.Normal, x.Len, x.Stays, x.Log, x.Num, x.Text)) (fun _ => rfl) (fun _ => rfl)
def cSaved : Codec Saved := (cNum.pair (cNum.pair cTexts)).iso (fun t => ⟨t.1, t.2.1, t.2.2⟩) (fun x => (x.View, x.Normal, x.Log)) (fun _ => rfl) (fun _ => rfl)
def zLetter : Letter := ⟨0, 0, 0, 0, 0, [], 0, ⟨#[]⟩⟩
def zSaved : Saved := ⟨0, 0, []⟩
theorem p_end' (l : List Int) (e : Int) : (!(e == 0 && l.isEmpty)) = true ↔ ¬ (e = 0 ∧ l = []) := by
  cases l <;> by_cases h : e = 0 <;> simp [h]
theorem num_m {l : List Int} (e : Int) (h : Good l) : m_letter_reader_num l e = some (rdN 281474976710656 l e) := by
  unfold m_letter_reader_num; rw [prN e h]; rfl
theorem small_m {l : List Int} (e : Int) (h : Good l) : m_letter_reader_small l e = some (rdN 281474976710656 l e) := by
  unfold m_letter_reader_small; rw [num_m e h]; rfl
theorem get_m {l : List Int} (h : Good l) : m_letter_Get l = some (cLetter.get zLetter l) := by
  unfold m_letter_Get
  rw [p_new l (by have := h.n; simp [LIM]; omega)]
  simp only [Option.bind_some]
  rw [small_m 0 h]
  simp only [Option.bind_some]
  have g1 := rdN_good (M := 281474976710656) 0 h
  rw [num_m _ g1]
  simp only [Option.bind_some]
  have g2 := rdN_good (M := 281474976710656) (rdN 281474976710656 l 0).2.2 g1
  rw [num_m _ g2]
  simp only [Option.bind_some]
  have g3 := rdN_good (M := 281474976710656) (rdN 281474976710656 (rdN 281474976710656 l 0).2.1 (rdN 281474976710656 l 0).2.2).2.2 g2
  rw [small_m _ g3]
  simp only [Option.bind_some]
  generalize hx1 : rdN 281474976710656 l 0 = x1 at *
  generalize hx2 : rdN 281474976710656 x1.2.1 x1.2.2 = x2 at *
  generalize hx3 : rdN 281474976710656 x2.2.1 x2.2.2 = x3 at *
  have g4 := rdN_good (M := 281474976710656) x3.2.2 g3
  generalize hx4 : rdN 281474976710656 x3.2.1 x3.2.2 = x4 at *
  rw [small_m _ g4]
  simp only [Option.bind_some]
  have g5 := rdN_good (M := 281474976710656) x4.2.2 g4
  generalize hx5 : rdN 281474976710656 x4.2.1 x4.2.2 = x5 at *
  rw [prL _ g5]
  simp only [Option.bind_some]
  have g6 := rdLe_good x5.2.2 g5
  generalize hx6 : rdLe x5.2.1 x5.2.2 = x6 at *
  rw [num_m _ g6]
  simp only [Option.bind_some]
  have g7 := rdN_good (M := 281474976710656) x6.2.2 g6
  generalize hx7 : rdN 281474976710656 x6.2.1 x6.2.2 = x7 at *
  rw [prT _ g7]
  simp only [Option.bind_some]
  unfold m_letter_whole_api_Letter
  rw [p_end]
  simp only [Option.bind_some]
  have hP : cLetter.P l 0 = (⟨x1.1, x2.1, x3.1, x4.1, x5.1, x6.1, x7.1, (rdTe x7.2.1 x7.2.2).1⟩, (rdTe x7.2.1 x7.2.2).2) := by
    subst hx7 hx6 hx5 hx4 hx3 hx2 hx1
    rfl
  unfold Codec.get
  rw [hP]
  by_cases hc : (rdTe x7.2.1 x7.2.2).2.2 = 0 ∧ (rdTe x7.2.1 x7.2.2).2.1 = []
  · rw [if_neg (by rw [p_end']; exact fun h => h hc), if_pos hc]; rfl
  · rw [if_pos (by rw [p_end']; exact hc), if_neg hc]; rfl
theorem getR_m {l : List Int} (h : Good l) : m_cantonref17_Get l = some (cLetter.get zLetter l) := by
  unfold m_cantonref17_Get
  rw [r_new l (by have := h.n; simp [LIM]; omega)]
  simp only [Option.bind_some]
  rw [rrN 0 h]
  simp only [Option.bind_some]
  have g1 := rdN_good (M := 281474976710656) 0 h
  generalize hx1 : rdN 281474976710656 l 0 = x1 at *
  rw [rrN _ g1]
  simp only [Option.bind_some]
  have g2 := rdN_good (M := 281474976710656) x1.2.2 g1
  generalize hx2 : rdN 281474976710656 x1.2.1 x1.2.2 = x2 at *
  rw [rrN _ g2]
  simp only [Option.bind_some]
  have g3 := rdN_good (M := 281474976710656) x2.2.2 g2
  generalize hx3 : rdN 281474976710656 x2.2.1 x2.2.2 = x3 at *
  rw [rrN _ g3]
  simp only [Option.bind_some]
  have g4 := rdN_good (M := 281474976710656) x3.2.2 g3
  generalize hx4 : rdN 281474976710656 x3.2.1 x3.2.2 = x4 at *
  rw [rrN _ g4]
  simp only [Option.bind_some]
  have g5 := rdN_good (M := 281474976710656) x4.2.2 g4
  generalize hx5 : rdN 281474976710656 x4.2.1 x4.2.2 = x5 at *
  rw [rrL _ g5]
  simp only [Option.bind_some]
  have g6 := rdLe_good x5.2.2 g5
  generalize hx6 : rdLe x5.2.1 x5.2.2 = x6 at *
  rw [rrN _ g6]
  simp only [Option.bind_some]
  have g7 := rdN_good (M := 281474976710656) x6.2.2 g6
  generalize hx7 : rdN 281474976710656 x6.2.1 x6.2.2 = x7 at *
  rw [rrT _ g7]
  simp only [Option.bind_some]
  rw [r_end]
  simp only [Option.bind_some]
  have hP : cLetter.P l 0 = (⟨x1.1, x2.1, x3.1, x4.1, x5.1, x6.1, x7.1, (rdTe x7.2.1 x7.2.2).1⟩, (rdTe x7.2.1 x7.2.2).2) := by
    subst hx7 hx6 hx5 hx4 hx3 hx2 hx1
    rfl
  unfold Codec.get
  rw [hP]
  by_cases hc : (rdTe x7.2.1 x7.2.2).2.2 = 0 ∧ (rdTe x7.2.1 x7.2.2).2.1 = []
  · rw [if_neg (by rw [p_end']; exact fun h => h hc), if_pos hc]
  · rw [if_pos (by rw [p_end']; exact hc), if_neg hc]; rfl
theorem getS_m {l : List Int} (h : Good l) : m_letter_GetSaved l = some (cSaved.get zSaved l) := by
  unfold m_letter_GetSaved
  rw [p_new l (by have := h.n; simp [LIM]; omega)]
  simp only [Option.bind_some]
  rw [num_m 0 h]
  simp only [Option.bind_some]
  have g1 := rdN_good (M := 281474976710656) 0 h
  generalize hx1 : rdN 281474976710656 l 0 = x1 at *
  rw [num_m _ g1]
  simp only [Option.bind_some]
  have g2 := rdN_good (M := 281474976710656) x1.2.2 g1
  generalize hx2 : rdN 281474976710656 x1.2.1 x1.2.2 = x2 at *
  rw [prL _ g2]
  simp only [Option.bind_some]
  unfold m_letter_whole_api_Saved
  rw [p_end]
  simp only [Option.bind_some]
  have hP : cSaved.P l 0 = (⟨x1.1, x2.1, (rdLe x2.2.1 x2.2.2).1⟩, (rdLe x2.2.1 x2.2.2).2) := by
    subst hx2 hx1
    rfl
  unfold Codec.get
  rw [hP]
  by_cases hc : (rdLe x2.2.1 x2.2.2).2.2 = 0 ∧ (rdLe x2.2.1 x2.2.2).2.1 = []
  · rw [if_neg (by rw [p_end']; exact fun h => h hc), if_pos hc]; rfl
  · rw [if_pos (by rw [p_end']; exact hc), if_neg hc]; rfl
theorem getSR_m {l : List Int} (h : Good l) : m_cantonref17_GetSaved l = some (cSaved.get zSaved l) := by
  unfold m_cantonref17_GetSaved
  rw [r_new l (by have := h.n; simp [LIM]; omega)]
  simp only [Option.bind_some]
  rw [rrN 0 h]
  simp only [Option.bind_some]
  have g1 := rdN_good (M := 281474976710656) 0 h
  generalize hx1 : rdN 281474976710656 l 0 = x1 at *
  rw [rrN _ g1]
  simp only [Option.bind_some]
  have g2 := rdN_good (M := 281474976710656) x1.2.2 g1
  generalize hx2 : rdN 281474976710656 x1.2.1 x1.2.2 = x2 at *
  rw [rrL _ g2]
  simp only [Option.bind_some]
  rw [r_end]
  simp only [Option.bind_some]
  have hP : cSaved.P l 0 = (⟨x1.1, x2.1, (rdLe x2.2.1 x2.2.2).1⟩, (rdLe x2.2.1 x2.2.2).2) := by
    subst hx2 hx1
    rfl
  unfold Codec.get
  rw [hP]
  by_cases hc : (rdLe x2.2.1 x2.2.2).2.2 = 0 ∧ (rdLe x2.2.1 x2.2.2).2.1 = []
  · rw [if_neg (by rw [p_end']; exact fun h => h hc), if_pos hc]
  · rw [if_pos (by rw [p_end']; exact hc), if_neg hc]; rfl

/-! ### writing -/
theorem nums_l1 (L : List Int) (hL : L.length ≤ 1000) : ∀ (k i f : Nat) (l : List Int) (b : Bool), i + k = L.length → k + 1 ≤ f → l.length + 10 * k + 10 ≤ LIM →
    m_letter_writer_nums_l1 L f (i : Int) l b = some (l ++ (L.drop i).flatMap encN, b || (L.drop i).any badN)
  | k, i, 0, l, b, h, h', hl => by omega
  | 0, i, f + 1, l, b, h, h', hl => by
    unfold m_letter_writer_nums_l1
    rw [if_neg (by simp; omega), List.drop_eq_nil_of_le (by omega)]
    simp
  | k + 1, i, f + 1, l, b, h, h', hl => by
    unfold m_letter_writer_nums_l1
    have hi : i < L.length := by omega
    have hn := encN_len L[i]
    rw [if_pos (by simp; omega), idx_lt hi]
    simp only [Option.bind_some]
    rw [pw_n l b _ (by omega)]
    simp only [Option.bind_some]
    rw [show IntKind.i64.wrap ((i : Int) + 1) = ((i + 1 : Nat) : Int) from by rw [w64 (by omega) (by omega)]; rfl]
    rw [nums_l1 L hL k (i + 1) f _ _ (by omega) (by omega) (by rw [List.length_append]; omega)]
    rw [List.drop_eq_getElem_cons hi, List.flatMap_cons, List.any_cons, List.append_assoc, Bool.or_assoc]
theorem nums_m (L : List Int) (hL : L.length ≤ 1000) (l : List Int) (b : Bool) (hl : l.length + 20000 ≤ LIM) : m_letter_writer_nums l b L = some (l ++ L.flatMap encN, b || L.any badN) := by
  unfold m_letter_writer_nums
  have := nums_l1 L hL L.length 0 (((L.length : Int) - 0 : Int).toNat + 1) l b (by omega) (by omega) (by omega)
  rw [List.drop_zero] at this
  exact this
/-- a log that is not too much. -/
structure Log (L : List ByteArray) : Prop where
  n : L.length ≤ 100000000000
  s : ∀ s ∈ L, s.size ≤ 100000000000
  w : wL L ≤ 20000000000
theorem encL_len {L : List ByteArray} (h : Log L) : (encL L).length ≤ wL L + 7 := by
  have h1 : (L.flatMap encT).length ≤ wL L := by
    have hs := h.s
    clear h
    induction L with
    | nil => simp
    | cons s L ih =>
      have h1 := ih fun t ht => hs t (by simp [ht])
      have h2 := hs s (by simp)
      have h3 := enc_len s.size (by omega)
      have h4 := bytesOf_len s
      rw [List.flatMap_cons, List.length_append]
      simp only [wL, List.map_cons, List.sum_cons, encT, List.length_append] at h1 ⊢
      have h5 : wT s = s.size + 7 := rfl
      omega
  have := enc_len L.length (by have := h.n; omega)
  simp only [encL, List.length_append]
  omega
theorem encT_le (s : ByteArray) (h : s.size ≤ 100000000000) : (encT s).length ≤ s.size + 7 := by
  have := enc_len s.size (by omega)
  have := bytesOf_len s
  simp only [encT, List.length_append]
  omega
theorem putS_m (x : Saved) (h : Log x.Log) : m_letter_PutSaved x = some (cSaved.put x) := by
  unfold m_letter_PutSaved
  rw [nums_m _ (by simp) _ _ (by simp [LIM])]
  simp only [Option.bind_some]
  have h1 := encN_len x.View
  have h2 := encN_len x.Normal
  have hw := h.w
  have hL := encL_len h
  rw [pw_texts _ _ x.Log h.n h.s (by simp [LIM]; omega)]
  simp only [Option.bind_some]
  rw [pw_bytes _ _ (by simp [LIM]; omega)]
  simp only [Option.bind_some]
  have e1 : cSaved.bad x = (badN x.View || (badN x.Normal || false)) := rfl
  have e2 : cSaved.W x = encN x.View ++ (encN x.Normal ++ encL x.Log) := rfl
  unfold Codec.put
  rw [e1, e2]
  simp
theorem put_m (x : Letter) (h : Log x.Log) (ht : x.Text.size ≤ 100000) : m_letter_Put x = some (cLetter.put x) := by
  unfold m_letter_Put
  rw [nums_m _ (by simp) _ _ (by simp [LIM])]
  simp only [Option.bind_some]
  have h1 := encN_len x.Kind
  have h2 := encN_len x.View
  have h3 := encN_len x.Normal
  have h4 := encN_len x.Len
  have h5 := encN_len x.Stays
  have h6 := encN_len x.Num
  have hw := h.w
  have hL := encL_len h
  have hT := encT_le x.Text (by omega)
  rw [pw_texts _ _ x.Log h.n h.s (by simp [LIM]; omega)]
  simp only [Option.bind_some]
  rw [pw_n _ _ _ (by simp [LIM]; omega)]
  simp only [Option.bind_some]
  rw [pw_text _ _ _ (by omega) (by simp [LIM]; omega)]
  simp only [Option.bind_some]
  rw [pw_bytes _ _ (by simp [LIM]; omega)]
  simp only [Option.bind_some]
  have e1 : cLetter.bad x = (badN x.Kind || (badN x.View || (badN x.Normal || (badN x.Len || (badN x.Stays || (false || (badN x.Num || false))))))) := rfl
  have e2 : cLetter.W x = encN x.Kind ++ (encN x.View ++ (encN x.Normal ++ (encN x.Len ++ (encN x.Stays ++ (encL x.Log ++ (encN x.Num ++ encT x.Text)))))) := rfl
  unfold Codec.put
  rw [e1, e2]
  simp [Bool.or_assoc]
theorem putSR_m (x : Saved) (h : Log x.Log) : m_cantonref17_PutSaved x = some (cSaved.put x) := by
  unfold m_cantonref17_PutSaved
  have h1 := encN_len x.View
  have h2 := encN_len x.Normal
  have hw := h.w
  have hL := encL_len h
  rw [rw_n _ _ _ (by simp [LIM])]
  simp only [Option.bind_some]
  rw [rw_n _ _ _ (by simp [LIM]; omega)]
  simp only [Option.bind_some]
  rw [rw_texts _ _ x.Log h.n h.s (by simp [LIM]; omega)]
  simp only [Option.bind_some]
  rw [rw_bytes _ _ (by simp [LIM]; omega)]
  simp only [Option.bind_some]
  have e1 : cSaved.bad x = (badN x.View || (badN x.Normal || false)) := rfl
  have e2 : cSaved.W x = encN x.View ++ (encN x.Normal ++ encL x.Log) := rfl
  unfold Codec.put
  rw [e1, e2]
  simp
theorem putR_m (x : Letter) (h : Log x.Log) (ht : x.Text.size ≤ 100000) : m_cantonref17_Put x = some (cLetter.put x) := by
  unfold m_cantonref17_Put
  have h1 := encN_len x.Kind
  have h2 := encN_len x.View
  have h3 := encN_len x.Normal
  have h4 := encN_len x.Len
  have h5 := encN_len x.Stays
  have h6 := encN_len x.Num
  have hw := h.w
  have hL := encL_len h
  have hT := encT_le x.Text (by omega)
  rw [rw_n _ _ _ (by simp [LIM])]
  simp only [Option.bind_some]
  rw [rw_n _ _ _ (by simp [LIM]; omega)]
  simp only [Option.bind_some]
  rw [rw_n _ _ _ (by simp [LIM]; omega)]
  simp only [Option.bind_some]
  rw [rw_n _ _ _ (by simp [LIM]; omega)]
  simp only [Option.bind_some]
  rw [rw_n _ _ _ (by simp [LIM]; omega)]
  simp only [Option.bind_some]
  rw [rw_texts _ _ x.Log h.n h.s (by simp [LIM]; omega)]
  simp only [Option.bind_some]
  rw [rw_n _ _ _ (by simp [LIM]; omega)]
  simp only [Option.bind_some]
  rw [rw_text _ _ _ (by omega) (by simp [LIM]; omega), pw_text _ _ _ (by omega) (by simp [LIM]; omega)]
  simp only [Option.bind_some]
  rw [rw_bytes _ _ (by simp [LIM]; omega)]
  simp only [Option.bind_some]
  have e1 : cLetter.bad x = (badN x.Kind || (badN x.View || (badN x.Normal || (badN x.Len || (badN x.Stays || (false || (badN x.Num || false))))))) := rfl
  have e2 : cLetter.W x = encN x.Kind ++ (encN x.View ++ (encN x.Normal ++ (encN x.Len ++ (encN x.Stays ++ (encL x.Log ++ (encN x.Num ++ encT x.Text)))))) := rfl
  unfold Codec.put
  rw [e1, e2]
  simp [Bool.or_assoc]
end Go.Cb
