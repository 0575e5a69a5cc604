/- Several parts, plainly: what is too much, stores alike, all of a list of pieces, to both. -/
import Derived.Test.YtgdfoajophpblaaGreatDoorV6pp
import Derived.Test.YtgdfoajophpblaaGreatDoorU2pp
import Derived.Test.YtgdfoajophpblaaGreatDoorKpp2
set_option linter.unusedVariables false
set_option linter.unusedSimpArgs false
namespace Go.Cb
open Go.Proofs Go.RowKit

/-! ### is it too much? -/
theorem great7_full (s : Sto) (k : Nat) (n i : Int) (hn : 3000 ≤ n) : m_cantonlaw07_Great_l1 s (k + 1) n i = some true := by
  unfold m_cantonlaw07_Great_l1 m_cantonlaw07_Great_j1
  rw [if_neg (show ¬ decide (n < 3000) = true by simpa using hn), if_pos (decide_eq_true hn)]
  split <;> rfl
theorem great7_l1 (s : Sto) (hn : s.Nodes.length ≤ 140737488351232) (hl : s.Turns.length < 3000) : ∀ (k i : Nat) (n : Int), 0 ≤ n → n ≤ 6000 → i ≤ s.Turns.length → s.Turns.length + 2 ≤ i + k → ∃ b, m_cantonlaw07_Great_l1 s k n (i : Int) = some b ∧ (b = false → (∀ j (h : j < s.Turns.length), i ≤ j → (tkey s.Turns[j]).length < 3000) ∧ s.Nodes.length ≤ 1666 ∧ Sm s.Nodes)
  | 0, i, n, _, _, _, h => by omega
  | k + 1, i, n, n0, n1, hi, h => by
    by_cases c : 3000 ≤ n
    · rw [great7_full s k n i c]
      exact ⟨true, rfl, fun h => by cases h⟩
    · unfold m_cantonlaw07_Great_l1
      by_cases hj : i < s.Turns.length
      · rw [if_pos (by simpa using hj), if_pos (by simp; omega), idx_lt hj]
        simp only [Option.bind_some]
        have z : ((s.Turns[i]).Dir.size : Int) = ((tkey s.Turns[i]).length : Int) := by rw [bl_size]; rfl
        rw [z, w64 (by omega) (by omega), inc1 (by omega)]
        by_cases d : (tkey s.Turns[i]).length < 3000
        · obtain ⟨b, h1, h2⟩ := great7_l1 s hn hl k (i + 1) (n + min ((tkey s.Turns[i]).length : Int) 3000) (by omega) (by omega) (by omega) (by omega)
          refine ⟨b, h1, fun hb => ⟨fun j hj hij => ?_, (h2 hb).2⟩⟩
          rcases Nat.lt_or_ge i j with e | e
          · exact (h2 hb).1 j hj (by omega)
          · obtain rfl : i = j := by omega
            exact d
        · obtain ⟨k', rfl⟩ : ∃ k', k = k' + 1 := ⟨k - 1, by omega⟩
          rw [great7_full s k' _ _ (by omega)]
          exact ⟨true, rfl, fun h => by cases h⟩
      · rw [if_neg (by simpa using hj)]
        unfold m_cantonlaw07_Great_j1
        rw [if_neg (by simp; omega)]
        obtain ⟨b, h1, h2⟩ := Great_eq s.Nodes hn
        rw [h1]
        exact ⟨b, rfl, fun hb => ⟨fun j hj hij => by omega, h2 hb⟩⟩
theorem great7_eq (s : Sto) (hn : s.Nodes.length ≤ 140737488351232) : ∃ b, m_cantonlaw07_Great s = some b ∧ (b = false → SmS s ∧ s.Nodes.length ≤ 1666 ∧ s.Turns.length < 3000) := by
  unfold m_cantonlaw07_Great
  by_cases h : s.Turns.length < 3000
  · obtain ⟨b, h1, h2⟩ := great7_l1 s hn h 3002 0 (s.Turns.length : Int) (by omega) (by omega) (by omega) (by omega)
    refine ⟨b, h1, fun hb => ?_⟩
    obtain ⟨g1, g2, g3⟩ := h2 hb
    refine ⟨⟨g3, fun t ht => ?_, by omega, by omega⟩, g2, h⟩
    obtain ⟨j, hj, rfl⟩ := List.mem_iff_getElem.1 ht
    have := g1 j hj (by omega)
    omega
  · rw [great7_full s 3001 _ _ (by omega)]
    exact ⟨true, rfl, fun h => by cases h⟩
theorem greatPart_eq (p : Pt1) : ∃ b, m_cantonlaw07_GreatPart p = some b ∧ (b = false → (bl p.Dir).length ≤ 3000 ∧ (bl p.Path).length ≤ 3000 ∧ (bl p.Data).length ≤ 3000) := by
  unfold m_cantonlaw07_GreatPart
  have a := bl_size p.Dir
  have b := bl_size p.Path
  have c := bl_size p.Data
  by_cases h1 : (p.Dir.size : Int) > 3000
  · rw [if_pos (decide_eq_true h1)]; exact ⟨true, rfl, fun h => by cases h⟩
  · rw [if_neg (by simpa using h1)]
    by_cases h2 : (p.Path.size : Int) > 3000
    · rw [if_pos (decide_eq_true h2)]; exact ⟨true, rfl, fun h => by cases h⟩
    · rw [if_neg (by simpa using h2)]
      refine ⟨_, rfl, fun h => ?_⟩
      simp only [decide_eq_false_iff_not] at h
      omega
/-! ### stores alike -/
/-! ### one piece, to both -/
end Go.Cb
