/- Several parts, plainly: what is too much, stores alike, all of a list of pieces, to both. -/
import Derived.Test.YtgdfoajophpblaaGreatDoorV6px
import Derived.Test.YtgdfoajophpblaaGreatDoorU2px
import Derived.Test.YtgdfoajophpblaaGreatDoorKpx2
set_option linter.unusedVariables false
set_option linter.unusedSimpArgs false
namespace Go.Cb
open Go.Proofs Go.RowKit

/-! ### is it too much? -/
theorem great7_full (s : Sto) (k : Nat) (n i : Int) (hn : 3000 ≤ n) : m_cantonlaw07_Great_l1 s (k + 1) n i = some true := by
  unfold m_cantonlaw07_Great_l1 m_cantonlaw07_Great_j1
  rw [if_neg (show ¬ decide (n < 3000) = true by simpa using hn), if_pos (decide_eq_true hn)]
  split <;> rfl
theorem great7_l1 (s : Sto) (hn : s.Nodes.length ≤ 140737488351232) (hl : s.Turns.length < 3000) : ∀ (k i : Nat) (n : Int), 0 ≤ n → n ≤ 6000 → i ≤ s.Turns.length → s.Turns.length + 2 ≤ i + k → ∃ b, m_cantonlaw07_Great_l1 s k n (i : Int) = some b ∧ (b = false → (∀ j (h : j < s.Turns.length), i ≤ j → (tkey s.Turns[j]).length < 3000) ∧ s.Nodes.length ≤ 1666 ∧ Sm s.Nodes)
  | 0, i, n, _, _, _, h => by omega
  | k + 1, i, n, n0, n1, hi, h => by
    by_cases c : 3000 ≤ n
    · rw [great7_full s k n i c]
      exact ⟨true, rfl, fun h => by cases h⟩
    · unfold m_cantonlaw07_Great_l1
      by_cases hj : i < s.Turns.length
      · rw [if_pos (by simpa using hj), if_pos (by simp; omega), idx_lt hj]
        simp only [Option.bind_some]
        have z : ((s.Turns[i]).Dir.size : Int) = ((tkey s.Turns[i]).length : Int) := by rw [bl_size]; rfl
        rw [z, w64 (by omega) (by omega), inc1 (by omega)]
        by_cases d : (tkey s.Turns[i]).length < 3000
        · obtain ⟨b, h1, h2⟩ := great7_l1 s hn hl k (i + 1) (n + min ((tkey s.Turns[i]).length : Int) 3000) (by omega) (by omega) (by omega) (by omega)
          refine ⟨b, h1, fun hb => ⟨fun j hj hij => ?_, (h2 hb).2⟩⟩
          rcases Nat.lt_or_ge i j with e | e
          · exact (h2 hb).1 j hj (by omega)
          · obtain rfl : i = j := by omega
            exact d
        · obtain ⟨k', rfl⟩ : ∃ k', k = k' + 1 := ⟨k - 1, by omega⟩
          rw [great7_full s k' _ _ (by omega)]
          exact ⟨true, rfl, fun h => by cases h⟩
      · rw [if_neg (by simpa using hj)]
        unfold m_cantonlaw07_Great_j1
        rw [if_neg (by simp; omega)]
        obtain ⟨b, h1, h2⟩ := Great_eq s.Nodes hn
        rw [h1]
        exact ⟨b, rfl, fun hb => ⟨fun j hj hij => by omega, h2 hb⟩⟩
theorem great7_eq (s : Sto) (hn : s.Nodes.length ≤ 140737488351232) : ∃ b, m_cantonlaw07_Great s = some b ∧ (b = false → SmS s ∧ s.Nodes.length ≤ 1666 ∧ s.Turns.length < 3000) := by
  unfold m_cantonlaw07_Great
  by_cases h : s.Turns.length < 3000
  · obtain ⟨b, h1, h2⟩ := great7_l1 s hn h 3002 0 (s.Turns.length : Int) (by omega) (by omega) (by omega) (by omega)
    refine ⟨b, h1, fun hb => ?_⟩
    obtain ⟨g1, g2, g3⟩ := h2 hb
    refine ⟨⟨g3, fun t ht => ?_, by omega, by omega⟩, g2, h⟩
    obtain ⟨j, hj, rfl⟩ := List.mem_iff_getElem.1 ht
    have := g1 j hj (by omega)
    omega
  · rw [great7_full s 3001 _ _ (by omega)]
    exact ⟨true, rfl, fun h => by cases h⟩
/-! ### stores alike -/
theorem sameS_l1 (a b : Sto) (h : a.Turns.length = b.Turns.length) (hl : a.Turns.length ≤ 1000000) : ∀ (k i : Nat), i ≤ a.Turns.length → a.Turns.length + 1 ≤ i + k → m_cantonref07_Same_l1 a b k (i : Int) = some (decide (a.Turns.drop i = b.Turns.drop i))
  | 0, i, _, h => by omega
  | k + 1, i, h0, hk => by
    unfold m_cantonref07_Same_l1
    by_cases hi : i < a.Turns.length
    · have hi' : i < b.Turns.length := by omega
      rw [if_pos (by simpa using hi), idx_lt hi, idx_lt hi', List.drop_eq_getElem_cons hi, List.drop_eq_getElem_cons hi']
      simp only [Option.bind_some]
      have e : ((sEq (a.Turns[i]).Dir (b.Turns[i]).Dir) && ((a.Turns[i]).Next == (b.Turns[i]).Next)) = decide (a.Turns[i] = b.Turns[i]) := by
        rw [Bool.eq_iff_iff]
        simp only [Bool.and_eq_true, sEq_iff, beq_iff_eq, decide_eq_true_eq]
        constructor
        · rintro ⟨h1, h2⟩
          cases hx : a.Turns[i]; cases hy : b.Turns[i]
          simp only [hx, hy] at h1 h2
          rw [h1, h2]
        · intro h; rw [h]; exact ⟨rfl, rfl⟩
      rw [e]
      by_cases c : a.Turns[i] = b.Turns[i]
      · rw [decide_eq_true c, if_neg (by simp), inc1 (by omega), sameS_l1 a b h hl k (i + 1) (by omega) (by omega)]
        exact congrArg some (decide_eq_decide.2 ⟨fun h => by rw [c, h], fun h => (List.cons.inj h).2⟩)
      · rw [decide_eq_false c, if_pos (by rfl)]
        exact congrArg some (decide_eq_false fun h => c (List.cons.inj h).1).symm
    · rw [if_neg (by simpa using hi), List.drop_eq_nil_of_le (by omega), List.drop_eq_nil_of_le (by omega)]
      rfl
theorem sameS_eq (a b : Sto) (hn : a.Nodes.length ≤ 1000000) (hl : a.Turns.length ≤ 1000000) : m_cantonref07_Same a b = some (decide (a = b)) := by
  unfold m_cantonref07_Same m_cantonref07_Same_j1
  rw [Same_eq _ _ hn]
  simp only [Option.bind_some]
  have ext : a = b ↔ a.Nodes = b.Nodes ∧ a.Turns = b.Turns := by
    constructor
    · rintro rfl; exact ⟨rfl, rfl⟩
    · cases a; cases b; rintro ⟨h1, h2⟩; simp only at h1 h2; rw [h1, h2]
  by_cases h1 : a.Nodes = b.Nodes
  · rw [decide_eq_true h1, if_neg (by simp)]
    by_cases h2 : a.Turns.length = b.Turns.length
    · rw [if_neg (by simp; omega), show m_cantonref07_Same_l1 a b (((a.Turns.length : Int) - 0 : Int).toNat + 1) 0 = some (decide (a.Turns.drop 0 = b.Turns.drop 0)) from sameS_l1 a b h2 hl _ 0 (by omega) (by omega)]
      congr 1
      exact decide_eq_decide.2 ((show a.Turns.drop 0 = b.Turns.drop 0 ↔ a.Turns = b.Turns by simp).trans ⟨fun h => ext.2 ⟨h1, h⟩, fun h => (ext.1 h).2⟩)
    · rw [if_pos (by simp; omega), decide_eq_false (fun h => h2 (by rw [h]))]
  · rw [decide_eq_false h1, if_pos (by rfl), if_pos trivial, decide_eq_false (fun h => h1 (by rw [h]))]
/-! ### one piece, to both -/
end Go.Cb
