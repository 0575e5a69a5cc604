/- Parts, plainly: the document's side. -/
import Derived.Test.YtgdfoajophpblaaGreatDoorV4px
import Derived.Test.YtgdfoajophpblaaGreatDoorKpx2
set_option linter.unusedVariables false
set_option linter.unusedSimpArgs false
namespace Go.Cb
open Go.Proofs Go.RowKit

theorem ife (c b : Bool) : (if c = true then some b else some false) = some (c && b) := by cases c <;> rfl
structure SmS (s : Sto) : Prop where
  sm : Sm s.Nodes
  smt : ∀ t ∈ s.Turns, (tkey t).length ≤ 100000000
  len : s.Nodes.length ≤ 90000
  lent : s.Turns.length ≤ 90000
theorem rnode_eq (x : Nd) (hp : (key x).length ≤ 100000000) : m_cantonref07_node x = some (pnB x) := by
  unfold m_cantonref07_node pnB fieldsB
  rw [rRight1 _ hp]
  simp only [Option.bind_some, ife]
  congr 1
  rw [Bool.eq_iff_iff]
  simp only [Bool.and_eq_true, decide_eq_true_eq, beq_iff_eq]
  rw [bl_size]
  constructor
  · rintro ⟨h1, h2, h3, h4, h5, h6, h7⟩
    exact ⟨h7, ⟨⟨h1, by omega⟩, by omega⟩, by omega⟩
  · rintro ⟨h7, ⟨⟨h1, h2⟩, h3⟩, h4⟩
    exact ⟨h1, by omega, by omega, by omega, by omega, by omega, h7⟩
theorem rRightS_l2 (s : Sto) (hs : SmS s) : ∀ (k i : Nat), i ≤ s.Turns.length → s.Turns.length + 1 ≤ i + k → ∃ b, m_cantonref07_Right_l2 s k (i : Int) = some b ∧ (b = true ↔ ∀ j (h : j < s.Turns.length), i ≤ j → ptB s.Turns[j] = true ∧ (0 < j → tkey (s.Turns[j - 1]'(by omega)) < tkey s.Turns[j]))
  | 0, i, _, h => by omega
  | k + 1, i, h0, h => by
    have hl := hs.lent
    unfold m_cantonref07_Right_l2 m_cantonref07_Right_j2
    by_cases hi : i < s.Turns.length
    · rw [if_pos (by simpa using hi), idx_lt hi]
      simp only [Option.bind_some]
      rw [rRight1 _ (hs.smt _ (List.getElem_mem hi)), inc1 (by omega)]
      simp only [Option.bind_some, if_true, Bool.false_eq_true, if_false]
      obtain ⟨b, h1, h2⟩ := rRightS_l2 s hs k (i + 1) (by omega) (by omega)
      have bad : ∀ P : Prop, ¬ (ptB s.Turns[i] = true ∧ (0 < i → tkey (s.Turns[i - 1]'(by omega)) < tkey s.Turns[i])) → ∃ b, some false = some b ∧ (b = true ↔ ∀ j (h : j < s.Turns.length), i ≤ j → ptB s.Turns[j] = true ∧ (0 < j → tkey (s.Turns[j - 1]'(by omega)) < tkey s.Turns[j])) := fun _ H => ⟨false, rfl, fun h => by simp at h, fun H' => absurd (H' i hi (Nat.le_refl _)) H⟩
      have good : (ptB s.Turns[i] = true ∧ (0 < i → tkey (s.Turns[i - 1]'(by omega)) < tkey s.Turns[i])) → ∃ b, m_cantonref07_Right_l2 s k ((i + 1 : Nat) : Int) = some b ∧ (b = true ↔ ∀ j (h : j < s.Turns.length), i ≤ j → ptB s.Turns[j] = true ∧ (0 < j → tkey (s.Turns[j - 1]'(by omega)) < tkey s.Turns[j])) := fun H => by
        refine ⟨b, h1, h2.trans ⟨fun H' j hj hij => ?_, fun H' j hj hij => H' j hj (by omega)⟩⟩
        rcases Nat.lt_or_ge i j with d | d
        · exact H' j hj (by omega)
        · obtain rfl : i = j := by omega
          exact H
      have e0 : bl (s.Turns[i]).Dir = tkey s.Turns[i] := rfl
      rw [e0]
      by_cases a : pathOk (tkey s.Turns[i]) = true
      · rw [if_neg (by rw [a]; simp)]
        by_cases n1 : (s.Turns[i]).Next < 1
        · rw [if_pos (by simpa using n1)]
          exact bad True fun H => by have := H.1; simp [ptB] at this; omega
        · rw [if_neg (by simpa using n1)]
          by_cases n2 : (s.Turns[i]).Next > 10000
          · rw [if_pos (by simpa using n2)]
            exact bad True fun H => by have := H.1; simp [ptB] at this; omega
          · rw [if_neg (by simpa using n2)]
            have ok : ptB s.Turns[i] = true := by simp [ptB, a]; omega
            by_cases z : i = 0
            · subst z
              rw [if_neg (by simp)]
              exact good ⟨ok, fun h => by omega⟩
            · rw [if_pos (decide_eq_true (by omega)), show IntKind.i64.wrap ((i : Int) - 1) = ((i - 1 : Nat) : Int) from by rw [w64 (by omega) (by omega)]; omega, idx_lt (show i - 1 < s.Turns.length by omega)]
              simp only [Option.bind_some]
              rw [sLt_bl, show bl (s.Turns[i - 1]'(by omega)).Dir = tkey (s.Turns[i - 1]'(by omega)) from rfl, e0]
              by_cases c : tkey (s.Turns[i - 1]'(by omega)) < tkey s.Turns[i]
              · rw [decide_eq_true c, if_neg (by simp)]
                exact good ⟨ok, fun _ => c⟩
              · rw [decide_eq_false c, if_pos (by rfl)]
                exact bad True fun H => c (H.2 (by omega))
      · rw [if_pos (by simpa using a)]
        exact bad True fun H => by have := H.1; simp [ptB] at this; exact a this.1
    · rw [if_neg (by simpa using hi)]
      exact ⟨true, rfl, fun _ j hj hij => by omega, fun _ => rfl⟩
theorem rRightS_l1 (s : Sto) (hs : SmS s) : ∀ (k i : Nat), i ≤ s.Nodes.length → s.Nodes.length + 1 ≤ i + k → ∃ b, m_cantonref07_Right_l1 s k (i : Int) = some b ∧ (b = true ↔ (∀ j (h : j < s.Nodes.length), i ≤ j → pnB s.Nodes[j] = true ∧ (0 < j → key (s.Nodes[j - 1]'(by omega)) < key s.Nodes[j])) ∧ (∀ j (h : j < s.Turns.length), 0 ≤ j → ptB s.Turns[j] = true ∧ (0 < j → tkey (s.Turns[j - 1]'(by omega)) < tkey s.Turns[j])))
  | 0, i, _, h => by omega
  | k + 1, i, h0, h => by
    have hl := hs.len
    unfold m_cantonref07_Right_l1 m_cantonref07_Right_j1
    by_cases hi : i < s.Nodes.length
    · rw [if_pos (by simpa using hi), idx_lt hi]
      simp only [Option.bind_some]
      rw [rnode_eq _ (hs.sm _ (List.getElem_mem hi)), inc1 (by omega)]
      simp only [Option.bind_some, if_true, Bool.false_eq_true, if_false]
      obtain ⟨b, h1, h2⟩ := rRightS_l1 s hs k (i + 1) (by omega) (by omega)
      by_cases a : pnB s.Nodes[i] = true
      · rw [if_neg (by rw [a]; simp)]
        have good : (0 < i → key (s.Nodes[i - 1]'(by omega)) < key s.Nodes[i]) → ∃ b, m_cantonref07_Right_l1 s k ((i + 1 : Nat) : Int) = some b ∧ (b = true ↔ (∀ j (h : j < s.Nodes.length), i ≤ j → pnB s.Nodes[j] = true ∧ (0 < j → key (s.Nodes[j - 1]'(by omega)) < key s.Nodes[j])) ∧ (∀ j (h : j < s.Turns.length), 0 ≤ j → ptB s.Turns[j] = true ∧ (0 < j → tkey (s.Turns[j - 1]'(by omega)) < tkey s.Turns[j]))) := fun H => by
          refine ⟨b, h1, h2.trans ⟨fun H' => ⟨fun j hj hij => ?_, H'.2⟩, fun H' => ⟨fun j hj hij => H'.1 j hj (by omega), H'.2⟩⟩⟩
          rcases Nat.lt_or_ge i j with d | d
          · exact H'.1 j hj (by omega)
          · obtain rfl : i = j := by omega
            exact ⟨a, H⟩
        by_cases z : i = 0
        · subst z
          rw [if_neg (by simp)]
          exact good fun h => by omega
        · rw [if_pos (decide_eq_true (by omega)), show IntKind.i64.wrap ((i : Int) - 1) = ((i - 1 : Nat) : Int) from by rw [w64 (by omega) (by omega)]; omega, idx_lt (show i - 1 < s.Nodes.length by omega)]
          simp only [Option.bind_some]
          rw [sLt_bl, show bl (s.Nodes[i - 1]'(by omega)).Path = key (s.Nodes[i - 1]'(by omega)) from rfl, show bl (s.Nodes[i]).Path = key s.Nodes[i] from rfl]
          by_cases c : key (s.Nodes[i - 1]'(by omega)) < key s.Nodes[i]
          · rw [decide_eq_true c, if_neg (by simp)]
            exact good fun _ => c
          · rw [decide_eq_false c, if_pos (by rfl)]
            exact ⟨false, rfl, fun h => by simp at h, fun H => absurd ((H.1 i hi (Nat.le_refl _)).2 (by omega)) c⟩
      · rw [if_pos (by simpa using a)]
        exact ⟨false, rfl, fun h => by simp at h, fun H => absurd (H.1 i hi (Nat.le_refl _)).1 a⟩
    · rw [if_neg (by simpa using hi)]
      obtain ⟨b, h1, h2⟩ := rRightS_l2 s hs (((s.Turns.length : Int) - 0 : Int).toNat + 1) 0 (by omega) (by omega)
      exact ⟨b, h1, h2.trans ⟨fun H => ⟨fun j hj hij => by omega, H⟩, fun H => H.2⟩⟩
theorem all_get {α : Type} (l : List α) (f : α → Bool) : l.all f = true ↔ ∀ j (h : j < l.length), f l[j] = true := by
  rw [List.all_eq_true]
  constructor
  · intro H j h; exact H _ (List.getElem_mem h)
  · intro H x hx
    obtain ⟨j, hj, rfl⟩ := List.mem_iff_getElem.1 hx
    exact H j hj
theorem rRightS_eq (s : Sto) (hs : SmS s) : ∃ b, m_cantonref07_Right s = some b ∧ (b = true ↔ StoreOk s) := by
  obtain ⟨b, h1, h2⟩ := rRightS_l1 s hs (((s.Nodes.length : Int) - 0 : Int).toNat + 1) 0 (by omega) (by omega)
  refine ⟨b, h1, h2.trans ⟨fun H => ⟨?_, ?_, ?_, ?_⟩, fun H => ⟨fun j hj _ => ⟨?_, ?_⟩, fun j hj _ => ⟨?_, ?_⟩⟩⟩⟩
  · exact (all_get _ _).2 fun j hj => (H.1 j hj (by omega)).1
  · exact (gadj key _).1 fun j hj h0 => (H.1 j hj (by omega)).2 h0
  · exact (all_get _ _).2 fun j hj => (H.2 j hj (by omega)).1
  · exact (gadj tkey _).1 fun j hj h0 => (H.2 j hj (by omega)).2 h0
  · exact (all_get _ _).1 H.nodes j hj
  · exact (gadj key _).2 H.nsort j hj
  · exact (all_get _ _).1 H.turns j hj
  · exact (gadj tkey _).2 H.tsort j hj
/-! ### May -/
/-! ### turns -/
/-! ### Put -/
end Go.Cb
