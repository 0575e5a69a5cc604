/- Nodes, plainly: what is asked ahead of each law; likeness; NodesStill. -/
import Derived.Test.YtidapdacihcckaaDoorQ9tu
import Derived.Test.YtidapdacihcckaaDoorKtu3
set_option linter.unusedVariables false
set_option linter.unusedSimpArgs false
namespace Go.Cb
open Go.Proofs Go.RowKit

set_option maxRecDepth 100000 in
theorem head_t : m_cantonlaw06_head = some true := by kernel_rfl
theorem great_full (l : List Nd) (k : Nat) (n i : Int) (hn : 5000 ≤ n) : m_cantonlaw06_Great_l1 l (k + 1) n i = some true := by
  unfold m_cantonlaw06_Great_l1 m_cantonlaw06_Great_j1
  rw [show decide (n ≥ 5000) = true from by simpa using hn, show decide (n < 5000) = false from by simp; omega]
  simp
theorem great_l1 (l : List Nd) (hlen : l.length ≤ 1666) : ∀ (k i : Nat) (n : Int), 0 ≤ n → n ≤ 20000 → i ≤ l.length → l.length + 2 ≤ i + k → ∃ b, m_cantonlaw06_Great_l1 l k n (i : Int) = some b ∧ (b = false → ∀ j (h : j < l.length), i ≤ j → (key l[j]).length < 5000)
  | 0, i, n, _, _, _, h => by omega
  | k + 1, i, n, h0, h1, hi0, h => by
    by_cases hn : n < 5000
    · by_cases hi : i < l.length
      · unfold m_cantonlaw06_Great_l1
        rw [if_pos (by simpa using hi), if_pos (by simpa using hn), idx_lt hi]
        simp only [Option.bind_some]
        have e1 : IntKind.i64.wrap ((i : Int) + 1) = ((i + 1 : Nat) : Int) := by rw [w64 (by omega) (by omega)]; omega
        have z1 := bl_size (l[i]).Path
        rw [e1, w64 (n := n + _) (by omega) (by omega), w64 (by omega) (by omega)]
        by_cases hp : (key l[i]).length < 5000
        · obtain ⟨b, h2, h3⟩ := great_l1 l hlen k (i + 1) (n + (min ((l[i]).Path.size : Int) 5000) + (min ((l[i]).Data.size : Int) 5000)) (by omega) (by omega) (by omega) (by omega)
          refine ⟨b, h2, fun hb j hj hij => ?_⟩
          by_cases e : i = j
          · subst e; exact hp
          · exact h3 hb j hj (by omega)
        · cases k with
          | zero => omega
          | succ k =>
            have hp : 5000 ≤ (bl (l[i]).Path).length := by unfold key at hp; omega
            rw [great_full l k _ _ (by omega)]
            exact ⟨true, rfl, fun h => by cases h⟩
      · unfold m_cantonlaw06_Great_l1 m_cantonlaw06_Great_j1
        rw [if_neg (by simpa using hi)]
        exact ⟨_, rfl, fun _ j hj hij => by omega⟩
    · rw [great_full l k _ _ (by omega)]
      exact ⟨true, rfl, fun h => by cases h⟩
theorem Great_eq (l : List Nd) (hlen : l.length ≤ 140737488351232) : ∃ b, m_cantonlaw06_Great l = some b ∧ (b = false → l.length ≤ 1666 ∧ Sm l) := by
  unfold m_cantonlaw06_Great
  have e : IntKind.i64.wrap (3 * (l.length : Int)) = 3 * (l.length : Int) := w64 (by omega) (by omega)
  rw [e]
  by_cases h : l.length ≤ 1666
  · obtain ⟨b, h1, h2⟩ := great_l1 l h 5002 0 (3 * (l.length : Int)) (by omega) (by omega) (by omega) (by omega)
    refine ⟨b, h1, fun hb => ⟨h, fun x hx => ?_⟩⟩
    obtain ⟨j, hj, rfl⟩ := List.mem_iff_getElem.1 hx
    have := h2 hb j hj (by omega)
    omega
  · rw [great_full l 5001 _ _ (by omega)]
    exact ⟨true, rfl, fun h => by cases h⟩
theorem GreatOp_eq (o : Op1) : ∃ b, m_cantonlaw06_GreatOp o = some b ∧ (b = false → (bl o.Path).length ≤ 3000 ∧ (bl o.Data).length ≤ 3000) := by
  unfold m_cantonlaw06_GreatOp
  have z1 := bl_size o.Path
  have z2 := bl_size o.Data
  by_cases h : (bl o.Path).length > 3000
  · rw [if_pos (by simp only [decide_eq_true_eq]; omega)]; exact ⟨true, rfl, fun h => by cases h⟩
  · rw [if_neg (by simp only [decide_eq_true_eq]; omega)]
    refine ⟨_, rfl, fun hb => ⟨by omega, ?_⟩⟩
    simp only [decide_eq_false_iff_not] at hb
    omega
/-! ### what an answer tells -/
theorem create_err (l : List Nd) (o : Op1) (q : List UInt8) : ((createS l o q).2 = res (createS l o q).2.Err ∧ (createS l o q).1 = l ∧ (createS l o q).2.Err ≠ 1 ∧ (createS l o q).2.Err ≠ 0) ∨ (createS l o q).2.Err = 0 := by
  unfold createS
  split
  · exact .inl ⟨rfl, rfl, by simp [res], by simp [res]⟩
  · split
    · exact .inl ⟨rfl, rfl, by simp [res], by simp [res]⟩
    · split
      · exact .inl ⟨rfl, rfl, by simp [res], by simp [res]⟩
      · split
        · exact .inl ⟨rfl, rfl, by simp [res], by simp [res]⟩
        · split
          · exact .inl ⟨rfl, rfl, by simp [res], by simp [res]⟩
          · exact .inr rfl
theorem do_err (l : List Nd) (o : Op1) (x : Nd) : ((doS l o x).2 = res (doS l o x).2.Err ∧ (doS l o x).1 = l ∧ (doS l o x).2.Err ≠ 1 ∧ (doS l o x).2.Err ≠ 0) ∨ (doS l o x).2.Err = 0 := by
  unfold doS
  repeat' split
  all_goals first | exact .inl ⟨rfl, rfl, by simp [res], by simp [res]⟩ | exact .inr rfl
theorem apply_err (l : List Nd) (o : Op1) : ((applyS l o).2 = res (applyS l o).2.Err ∧ (applyS l o).1 = l ∧ (applyS l o).2.Err ≠ 1 ∧ (applyS l o).2.Err ≠ 0) ∨ (applyS l o).2.Err = 0 := by
  unfold applyS
  split
  · split
    · exact .inl ⟨rfl, rfl, by simp [res], by simp [res]⟩
    · exact create_err _ _ _
  · split
    · exact .inl ⟨rfl, rfl, by simp [res], by simp [res]⟩
    · split
      · exact .inl ⟨rfl, rfl, by simp [res], by simp [res]⟩
      · exact do_err _ _ _
end Go.Cb
