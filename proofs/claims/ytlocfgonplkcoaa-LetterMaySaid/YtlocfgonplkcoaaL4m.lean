/- Letters and saved things, plainly. -/
import Derived.Test.YtlocfgonplkcoaaL3m
import Derived.Test.YtlocfgonplkcoaaHm
import Derived.Test.YtlocfgonplkcoaaKm2
import Derived.Test.YtlocfgonplkcoaaKm1
import Derived.Test.YtlocfgonplkcoaaKm3
set_option linter.unusedVariables false
set_option linter.unusedSimpArgs false
namespace Go.Cb
open Go.RowKit
abbrev Saved := S_api_Saved
def cSaved : Codec Saved := (cNum.pair (cNum.pair cTexts)).iso (fun t => ⟨t.1, t.2.1, t.2.2⟩) (fun x => (x.View, x.Normal, x.Log)) (fun _ => rfl) (fun _ => rfl)
/-! ### writing -/
theorem nums_l1 (L : List Int) (hL : L.length ≤ 1000) : ∀ (k i f : Nat) (l : List Int) (b : Bool), i + k = L.length → k + 1 ≤ f → l.length + 10 * k + 10 ≤ LIM →
    m_letter_writer_nums_l1 L f (i : Int) l b = some (l ++ (L.drop i).flatMap encN, b || (L.drop i).any badN)
  | k, i, 0, l, b, h, h', hl => by omega
  | 0, i, f + 1, l, b, h, h', hl => by
    unfold m_letter_writer_nums_l1
    rw [if_neg (by simp; omega), List.drop_eq_nil_of_le (by omega)]
    simp
  | k + 1, i, f + 1, l, b, h, h', hl => by
    unfold m_letter_writer_nums_l1
    have hi : i < L.length := by omega
    have hn := encN_len L[i]
    rw [if_pos (by simp; omega), idx_lt hi]
    simp only [Option.bind_some]
    rw [pw_n l b _ (by omega)]
    simp only [Option.bind_some]
    rw [show IntKind.i64.wrap ((i : Int) + 1) = ((i + 1 : Nat) : Int) from by rw [w64 (by omega) (by omega)]; rfl]
    rw [nums_l1 L hL k (i + 1) f _ _ (by omega) (by omega) (by rw [List.length_append]; omega)]
    rw [List.drop_eq_getElem_cons hi, List.flatMap_cons, List.any_cons, List.append_assoc, Bool.or_assoc]
theorem nums_m (L : List Int) (hL : L.length ≤ 1000) (l : List Int) (b : Bool) (hl : l.length + 20000 ≤ LIM) : m_letter_writer_nums l b L = some (l ++ L.flatMap encN, b || L.any badN) := by
  unfold m_letter_writer_nums
  have := nums_l1 L hL L.length 0 (((L.length : Int) - 0 : Int).toNat + 1) l b (by omega) (by omega) (by omega)
  rw [List.drop_zero] at this
  exact this
/-- a log that is not too much. -/
structure Log (L : List ByteArray) : Prop where
  n : L.length ≤ 100000000000
  s : ∀ s ∈ L, s.size ≤ 100000000000
  w : wL L ≤ 20000000000
theorem encL_len {L : List ByteArray} (h : Log L) : (encL L).length ≤ wL L + 7 := by
  have h1 : (L.flatMap encT).length ≤ wL L := by
    have hs := h.s
    clear h
    induction L with
    | nil => simp
    | cons s L ih =>
      have h1 := ih fun t ht => hs t (by simp [ht])
      have h2 := hs s (by simp)
      have h3 := enc_len s.size (by omega)
      have h4 := bytesOf_len s
      rw [List.flatMap_cons, List.length_append]
      simp only [wL, List.map_cons, List.sum_cons, encT, List.length_append] at h1 ⊢
      have h5 : wT s = s.size + 7 := rfl
      omega
  have := enc_len L.length (by have := h.n; omega)
  simp only [encL, List.length_append]
  omega
theorem encT_le (s : ByteArray) (h : s.size ≤ 100000000000) : (encT s).length ≤ s.size + 7 := by
  have := enc_len s.size (by omega)
  have := bytesOf_len s
  simp only [encT, List.length_append]
  omega
theorem putS_m (x : Saved) (h : Log x.Log) : m_letter_PutSaved x = some (cSaved.put x) := by
  unfold m_letter_PutSaved
  rw [nums_m _ (by simp) _ _ (by simp [LIM])]
  simp only [Option.bind_some]
  have h1 := encN_len x.View
  have h2 := encN_len x.Normal
  have hw := h.w
  have hL := encL_len h
  rw [pw_texts _ _ x.Log h.n h.s (by simp [LIM]; omega)]
  simp only [Option.bind_some]
  rw [pw_bytes _ _ (by simp [LIM]; omega)]
  simp only [Option.bind_some]
  have e1 : cSaved.bad x = (badN x.View || (badN x.Normal || false)) := rfl
  have e2 : cSaved.W x = encN x.View ++ (encN x.Normal ++ encL x.Log) := rfl
  unfold Codec.put
  rw [e1, e2]
  simp
end Go.Cb
