/- Nodes, plainly: what is asked ahead of each law; likeness; NodesStill. -/
import Derived.Test.YtgdfoajophpblaaGreatDoorQ9px
import Derived.Test.YtgdfoajophpblaaGreatDoorKpx1
import Derived.Test.YtgdfoajophpblaaGreatDoorApx1
set_option linter.unusedVariables false
set_option linter.unusedSimpArgs false
namespace Go.Cb
open Go.Proofs Go.RowKit

theorem great_full (l : List Nd) (k : Nat) (n i : Int) (hn : 5000 ≤ n) : m_cantonlaw06_Great_l1 l (k + 1) n i = some true := by
  unfold m_cantonlaw06_Great_l1 m_cantonlaw06_Great_j1
  rw [show decide (n ≥ 5000) = true from by simpa using hn, show decide (n < 5000) = false from by simp; omega]
  simp
theorem great_l1 (l : List Nd) (hlen : l.length ≤ 1666) : ∀ (k i : Nat) (n : Int), 0 ≤ n → n ≤ 20000 → i ≤ l.length → l.length + 2 ≤ i + k → ∃ b, m_cantonlaw06_Great_l1 l k n (i : Int) = some b ∧ (b = false → ∀ j (h : j < l.length), i ≤ j → (key l[j]).length < 5000)
  | 0, i, n, _, _, _, h => by omega
  | k + 1, i, n, h0, h1, hi0, h => by
    by_cases hn : n < 5000
    · by_cases hi : i < l.length
      · unfold m_cantonlaw06_Great_l1
        rw [if_pos (by simpa using hi), if_pos (by simpa using hn), idx_lt hi]
        simp only [Option.bind_some]
        have e1 : IntKind.i64.wrap ((i : Int) + 1) = ((i + 1 : Nat) : Int) := by rw [w64 (by omega) (by omega)]; omega
        have z1 := bl_size (l[i]).Path
        rw [e1, w64 (n := n + _) (by omega) (by omega), w64 (by omega) (by omega)]
        by_cases hp : (key l[i]).length < 5000
        · obtain ⟨b, h2, h3⟩ := great_l1 l hlen k (i + 1) (n + (min ((l[i]).Path.size : Int) 5000) + (min ((l[i]).Data.size : Int) 5000)) (by omega) (by omega) (by omega) (by omega)
          refine ⟨b, h2, fun hb j hj hij => ?_⟩
          by_cases e : i = j
          · subst e; exact hp
          · exact h3 hb j hj (by omega)
        · cases k with
          | zero => omega
          | succ k =>
            have hp : 5000 ≤ (bl (l[i]).Path).length := by unfold key at hp; omega
            rw [great_full l k _ _ (by omega)]
            exact ⟨true, rfl, fun h => by cases h⟩
      · unfold m_cantonlaw06_Great_l1 m_cantonlaw06_Great_j1
        rw [if_neg (by simpa using hi)]
        exact ⟨_, rfl, fun _ j hj hij => by omega⟩
    · rw [great_full l k _ _ (by omega)]
      exact ⟨true, rfl, fun h => by cases h⟩
theorem Great_eq (l : List Nd) (hlen : l.length ≤ 140737488351232) : ∃ b, m_cantonlaw06_Great l = some b ∧ (b = false → l.length ≤ 1666 ∧ Sm l) := by
  unfold m_cantonlaw06_Great
  have e : IntKind.i64.wrap (3 * (l.length : Int)) = 3 * (l.length : Int) := w64 (by omega) (by omega)
  rw [e]
  by_cases h : l.length ≤ 1666
  · obtain ⟨b, h1, h2⟩ := great_l1 l h 5002 0 (3 * (l.length : Int)) (by omega) (by omega) (by omega) (by omega)
    refine ⟨b, h1, fun hb => ⟨h, fun x hx => ?_⟩⟩
    obtain ⟨j, hj, rfl⟩ := List.mem_iff_getElem.1 hx
    have := h2 hb j hj (by omega)
    omega
  · rw [great_full l 5001 _ _ (by omega)]
    exact ⟨true, rfl, fun h => by cases h⟩
theorem GreatOp_eq (o : Op1) : ∃ b, m_cantonlaw06_GreatOp o = some b ∧ (b = false → (bl o.Path).length ≤ 3000 ∧ (bl o.Data).length ≤ 3000) := by
  unfold m_cantonlaw06_GreatOp
  have z1 := bl_size o.Path
  have z2 := bl_size o.Data
  by_cases h : (bl o.Path).length > 3000
  · rw [if_pos (by simp only [decide_eq_true_eq]; omega)]; exact ⟨true, rfl, fun h => by cases h⟩
  · rw [if_neg (by simp only [decide_eq_true_eq]; omega)]
    refine ⟨_, rfl, fun hb => ⟨by omega, ?_⟩⟩
    simp only [decide_eq_false_iff_not] at hb
    omega
theorem nd_eq (x y : Nd) : ((sEq x.Path y.Path) && ((sEq x.Data y.Data) && ((x.Version == y.Version) && ((x.Turn == y.Turn) && (x.Owner == y.Owner))))) = decide (x = y) := by
  rw [Bool.eq_iff_iff]
  cases x; cases y
  simp [sEq_iff]
theorem Same_l1 (a b : List Nd) (h : a.length = b.length) (hl : a.length ≤ 1000000) : ∀ (k i : Nat), i ≤ a.length → a.length + 1 ≤ i + k → m_cantonref06_Same_l1 a b k (i : Int) = some (decide (a.drop i = b.drop i))
  | 0, i, _, h => by omega
  | k + 1, i, h0, hk => by
    unfold m_cantonref06_Same_l1
    by_cases hi : i < a.length
    · have hi' : i < b.length := by omega
      rw [if_pos (by simpa using hi), idx_lt hi]
      simp only [Option.bind_some]
      rw [idx_lt hi']
      simp only [Option.bind_some]
      rw [nd_eq, List.drop_eq_getElem_cons hi, List.drop_eq_getElem_cons hi']
      by_cases e : a[i] = b[i]
      · rw [if_neg (by simp [e]), show IntKind.i64.wrap ((i : Int) + 1) = ((i + 1 : Nat) : Int) from by rw [w64 (by omega) (by omega)]; omega, Same_l1 a b h hl k (i + 1) (by omega) (by omega), e]
        congr 1
        exact decide_eq_decide.2 ⟨fun h => by rw [h], fun h => (List.cons.inj h).2⟩
      · rw [if_pos (by simp [e]), decide_eq_false (fun h => e (List.cons.inj h).1)]
    · rw [if_neg (by simpa using hi), List.drop_eq_nil_of_le (by omega), List.drop_eq_nil_of_le (by omega)]
      rfl
theorem Same_eq (a b : List Nd) (hl : a.length ≤ 1000000) : m_cantonref06_Same a b = some (decide (a = b)) := by
  unfold m_cantonref06_Same
  by_cases h : a.length = b.length
  · rw [if_neg (by simp; omega)]
    refine (Same_l1 a b h hl (((a.length : Int) - 0 : Int).toNat + 1) 0 (by omega) (by omega)).trans ?_
    simp
  · rw [if_pos (by simp; omega)]
    congr 1
    exact (decide_eq_false fun e => h (by rw [e])).symm
/-! ### what an answer tells -/
end Go.Cb
