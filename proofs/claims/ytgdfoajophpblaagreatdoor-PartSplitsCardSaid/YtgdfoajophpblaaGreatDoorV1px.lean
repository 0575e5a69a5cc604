/- Parts, plainly: what may be a store, and a part; places in a store. -/
import Derived.Test.YtgdfoajophpblaaGreatDoorQApx
import Derived.Test.YtgdfoajophpblaaGreatDoorQ10px
import Derived.Test.YtgdfoajophpblaaGreatDoorKpx2
set_option linter.unusedVariables false
set_option linter.unusedSimpArgs false
namespace Go.Cb
open Go.Proofs Go.RowKit

abbrev Tn := S_api_Turn
abbrev Sto := S_api_Store
abbrev Pt1 := S_api_Part
def tkey (t : Tn) : List UInt8 := bl t.Dir
theorem kl_not {a b : List UInt8} (h : ¬ a < b) (k : a ≠ b) : b < a := by
  rcases kl_tri a b with h' | h' | h'
  · exact absurd h' h
  · exact absurd h' k
  · exact h'
/-! ### a place among keys that rise -/
section
variable {α : Type} (κ : α → List UInt8)
def gLt (p : List UInt8) (x : α) : Bool := decide (κ x < p)
def gEq (p : List UInt8) (x : α) : Bool := decide (κ x = p)
def gGt (p : List UInt8) (x : α) : Bool := !gLt κ p x && !gEq κ p x
end
/-! ### what may be -/
theorem pathRight_eq (s : ByteArray) : m_path_Right s = some (pathOk (bl s)) := by
  unfold m_path_Right
  rw [Split_eq]
  simp only [Option.bind_some]
  unfold spl pathOk
  cases parts (bl s) <;> rfl
theorem pwithin_eq (x a b : Int) : m_part_within x a b = some (decide (a ≤ x ∧ x ≤ b)) := by
  unfold m_part_within
  by_cases h : x ≥ a
  · rw [if_pos (by simpa using h)]
    congr 1
    exact decide_eq_decide.2 ⟨fun h' => ⟨h, h'⟩, fun h' => h'.2⟩
  · rw [if_neg (by simpa using h), decide_eq_false (fun h' => h h'.1)]
def fieldsB (p d : ByteArray) (v least o : Int) : Bool := pathOk (bl p) && decide ((bl d).length ≤ 256) && decide (least ≤ v ∧ v ≤ 281474976710656) && decide (0 ≤ o ∧ o ≤ 1099511627776)
theorem fields_eq (p d : ByteArray) (v least o : Int) : m_part_fields p d v least o = some (fieldsB p d v least o) := by
  unfold m_part_fields fieldsB
  rw [pathRight_eq]
  simp only [Option.bind_some]
  have z := bl_size d
  cases pathOk (bl p) with
  | false => rw [if_neg (by simp)]; simp
  | true =>
    rw [if_pos rfl]
    by_cases h : (bl d).length ≤ 256
    · rw [if_pos (decide_eq_true (by omega)), pwithin_eq, decide_eq_true h]
      simp only [Option.bind_some]
      cases decide (least ≤ v ∧ v ≤ 281474976710656) with
      | false => rw [if_neg (by simp)]; simp
      | true => rw [if_pos rfl, pwithin_eq]; simp
    · rw [if_neg (by rw [decide_eq_false (by omega)]; simp), decide_eq_false h]; simp
def pnB (x : Nd) : Bool := decide (x.Turn = 0) && fieldsB x.Path x.Data x.Version 0 x.Owner
def ptB (t : Tn) : Bool := pathOk (tkey t) && decide (1 ≤ t.Next ∧ t.Next ≤ 10000)
theorem Right1_eq (x : Nd) : m_part_Right_1 x = some (!pnB x) := by
  unfold m_part_Right_1 pnB
  by_cases h : x.Turn = 0
  · rw [if_neg (by simpa using h), fields_eq, decide_eq_true h]; simp
  · rw [if_pos (by simpa using h), decide_eq_false h]; simp
theorem Right2_eq (t : Tn) : m_part_Right_2 t = some (!ptB t) := by
  unfold m_part_Right_2 ptB
  rw [pathRight_eq, show bl t.Dir = tkey t from rfl]
  simp only [Option.bind_some]
  cases pathOk (tkey t) with
  | false => rw [if_pos (by rfl)]; simp
  | true => rw [if_neg (by simp), pwithin_eq]; simp
theorem idx2_l1 (l : List Nd) (hl : l.length ≤ 1000000) : ∀ (k i : Nat), i ≤ l.length → l.length + 1 ≤ i + k → ∃ v : Int, m_slices_IndexFunc_api_Node_api_Node_2_l1 l k (i : Int) = some v ∧ decide (v ≥ 0) = !(l.drop i).all pnB
  | 0, i, _, h => by omega
  | k + 1, i, h0, h => by
    unfold m_slices_IndexFunc_api_Node_api_Node_2_l1
    by_cases hi : i < l.length
    · rw [if_pos (by simpa using hi), idx_lt hi, List.drop_eq_getElem_cons hi]
      simp only [Option.bind_some, Right1_eq, List.all_cons]
      cases hm : pnB l[i] with
      | false => rw [if_pos (by rfl)]; exact ⟨_, rfl, by simp⟩
      | true =>
        rw [if_neg (by simp), inc1 (by omega)]
        obtain ⟨v, h1, h2⟩ := idx2_l1 l hl k (i + 1) (by omega) (by omega)
        exact ⟨v, h1, by rw [h2]; simp⟩
    · rw [if_neg (by simpa using hi), List.drop_eq_nil_of_le (by omega)]
      exact ⟨-1, rfl, by simp⟩
theorem idxt_l1 (l : List Tn) (hl : l.length ≤ 1000000) : ∀ (k i : Nat), i ≤ l.length → l.length + 1 ≤ i + k → ∃ v : Int, m_slices_IndexFunc_api_Turn_api_Turn_l1 l k (i : Int) = some v ∧ decide (v ≥ 0) = !(l.drop i).all ptB
  | 0, i, _, h => by omega
  | k + 1, i, h0, h => by
    unfold m_slices_IndexFunc_api_Turn_api_Turn_l1
    by_cases hi : i < l.length
    · rw [if_pos (by simpa using hi), idx_lt hi, List.drop_eq_getElem_cons hi]
      simp only [Option.bind_some, Right2_eq, List.all_cons]
      cases hm : ptB l[i] with
      | false => rw [if_pos (by rfl)]; exact ⟨_, rfl, by simp⟩
      | true =>
        rw [if_neg (by simp), inc1 (by omega)]
        obtain ⟨v, h1, h2⟩ := idxt_l1 l hl k (i + 1) (by omega) (by omega)
        exact ⟨v, h1, by rw [h2]; simp⟩
    · rw [if_neg (by simpa using hi), List.drop_eq_nil_of_le (by omega)]
      exact ⟨-1, rfl, by simp⟩
theorem gadj {α : Type} (κ : α → List UInt8) (l : List α) : (∀ j (h : j < l.length), 0 < j → κ (l[j - 1]'(by omega)) < κ l[j]) ↔ l.Pairwise (κ · < κ ·) := by
  constructor
  · intro h
    rw [List.pairwise_iff_getElem]
    intro i j hi hj hij
    induction j with
    | zero => omega
    | succ j ih =>
      have h1 := h (j + 1) hj (by omega)
      simp only [Nat.add_sub_cancel] at h1
      rcases Nat.lt_or_ge i j with c | c
      · exact kl_trans (ih (by omega) c) h1
      · obtain rfl : i = j := by omega
        exact h1
  · intro h j hj h0
    exact List.pairwise_iff_getElem.1 h (j - 1) j (by omega) hj (by omega)
theorem rise_l1 (l : List Nd) (hl : l.length ≤ 1000000) : ∀ (k i : Nat), i ≤ l.length → l.length + 1 ≤ i + k → ∃ b, m_part_rising_api_Node_l1 l k (i : Int) = some b ∧ (b = true ↔ ∀ j (h : j < l.length), i ≤ j → 0 < j → key (l[j - 1]'(by omega)) < key l[j])
  | 0, i, _, h => by omega
  | k + 1, i, h0, h => by
    unfold m_part_rising_api_Node_l1 m_part_rising_api_Node_j1
    by_cases hi : i < l.length
    · rw [if_pos (by simpa using hi), inc1 (by omega)]
      obtain ⟨b, h1, h2⟩ := rise_l1 l hl k (i + 1) (by omega) (by omega)
      by_cases h00 : i = 0
      · subst h00
        rw [if_neg (by simp), if_neg (by simp), h1]
        refine ⟨b, rfl, h2.trans ⟨fun H j hj hij h0 => H j hj (by omega) h0, fun H j hj hij h0 => H j hj (by omega) h0⟩⟩
      · rw [if_pos (decide_eq_true (by omega)), show IntKind.i64.wrap ((i : Int) - 1) = ((i - 1 : Nat) : Int) from by rw [w64 (by omega) (by omega)]; omega, idx_lt (show i - 1 < l.length by omega)]
        simp only [Option.bind_some]
        rw [idx_lt hi]
        simp only [Option.bind_some, m_part_Right_3]
        rw [sLt_bl, show bl (l[i - 1]'(by omega)).Path = key (l[i - 1]'(by omega)) from rfl, show bl (l[i]).Path = key l[i] from rfl]
        by_cases c : key (l[i - 1]'(by omega)) < key l[i]
        · rw [decide_eq_true c, if_neg (by simp), h1]
          refine ⟨b, rfl, h2.trans ⟨fun H j hj hij h0 => ?_, fun H j hj hij h0 => H j hj (by omega) h0⟩⟩
          rcases Nat.lt_or_ge i j with d | d
          · exact H j hj (by omega) h0
          · obtain rfl : i = j := by omega
            exact c
        · rw [decide_eq_false c, if_pos (by rfl)]
          exact ⟨false, rfl, fun h => by simp at h, fun H => absurd (H i hi (Nat.le_refl _) (by omega)) c⟩
    · rw [if_neg (by simpa using hi)]
      exact ⟨true, rfl, fun _ j hj hij => by omega, fun _ => rfl⟩
theorem riset_l1 (l : List Tn) (hl : l.length ≤ 1000000) : ∀ (k i : Nat), i ≤ l.length → l.length + 1 ≤ i + k → ∃ b, m_part_rising_api_Turn_l1 l k (i : Int) = some b ∧ (b = true ↔ ∀ j (h : j < l.length), i ≤ j → 0 < j → tkey (l[j - 1]'(by omega)) < tkey l[j])
  | 0, i, _, h => by omega
  | k + 1, i, h0, h => by
    unfold m_part_rising_api_Turn_l1 m_part_rising_api_Turn_j1
    by_cases hi : i < l.length
    · rw [if_pos (by simpa using hi), inc1 (by omega)]
      obtain ⟨b, h1, h2⟩ := riset_l1 l hl k (i + 1) (by omega) (by omega)
      by_cases h00 : i = 0
      · subst h00
        rw [if_neg (by simp), if_neg (by simp), h1]
        refine ⟨b, rfl, h2.trans ⟨fun H j hj hij h0 => H j hj (by omega) h0, fun H j hj hij h0 => H j hj (by omega) h0⟩⟩
      · rw [if_pos (decide_eq_true (by omega)), show IntKind.i64.wrap ((i : Int) - 1) = ((i - 1 : Nat) : Int) from by rw [w64 (by omega) (by omega)]; omega, idx_lt (show i - 1 < l.length by omega)]
        simp only [Option.bind_some]
        rw [idx_lt hi]
        simp only [Option.bind_some, m_part_Right_4]
        rw [sLt_bl, show bl (l[i - 1]'(by omega)).Dir = tkey (l[i - 1]'(by omega)) from rfl, show bl (l[i]).Dir = tkey l[i] from rfl]
        by_cases c : tkey (l[i - 1]'(by omega)) < tkey l[i]
        · rw [decide_eq_true c, if_neg (by simp), h1]
          refine ⟨b, rfl, h2.trans ⟨fun H j hj hij h0 => ?_, fun H j hj hij h0 => H j hj (by omega) h0⟩⟩
          rcases Nat.lt_or_ge i j with d | d
          · exact H j hj (by omega) h0
          · obtain rfl : i = j := by omega
            exact c
        · rw [decide_eq_false c, if_pos (by rfl)]
          exact ⟨false, rfl, fun h => by simp at h, fun H => absurd (H i hi (Nat.le_refl _) (by omega)) c⟩
    · rw [if_neg (by simpa using hi)]
      exact ⟨true, rfl, fun _ j hj hij => by omega, fun _ => rfl⟩
structure StoreOk (s : Sto) : Prop where
  nodes : s.Nodes.all pnB = true
  nsort : s.Nodes.Pairwise (key · < key ·)
  turns : s.Turns.all ptB = true
  tsort : s.Turns.Pairwise (tkey · < tkey ·)
theorem partRight_eq (s : Sto) (hn : s.Nodes.length ≤ 1000000) (ht : s.Turns.length ≤ 1000000) : ∃ b, m_part_Right s = some b ∧ (b = true ↔ StoreOk s) := by
  unfold m_part_Right m_slices_ContainsFunc_api_Node_api_Node_1 m_slices_ContainsFunc_api_Turn_api_Turn m_slices_IndexFunc_api_Node_api_Node_2 m_slices_IndexFunc_api_Turn_api_Turn m_part_rising_api_Node m_part_rising_api_Turn
  obtain ⟨v, a1, a2⟩ := idx2_l1 s.Nodes hn (((s.Nodes.length : Int) - 0 : Int).toNat + 1) 0 (by omega) (by omega)
  obtain ⟨u, b1, b2⟩ := idxt_l1 s.Turns ht (((s.Turns.length : Int) - 0 : Int).toNat + 1) 0 (by omega) (by omega)
  obtain ⟨c, c1, c2⟩ := rise_l1 s.Nodes hn (((s.Nodes.length : Int) - 0 : Int).toNat + 1) 0 (by omega) (by omega)
  obtain ⟨d, d1, d2⟩ := riset_l1 s.Turns ht (((s.Turns.length : Int) - 0 : Int).toNat + 1) 0 (by omega) (by omega)
  rw [show m_slices_IndexFunc_api_Node_api_Node_2_l1 s.Nodes (((s.Nodes.length : Int) - 0 : Int).toNat + 1) 0 = some v from a1, show m_slices_IndexFunc_api_Turn_api_Turn_l1 s.Turns (((s.Turns.length : Int) - 0 : Int).toNat + 1) 0 = some u from b1,
    show m_part_rising_api_Node_l1 s.Nodes (((s.Nodes.length : Int) - 0 : Int).toNat + 1) 0 = some c from c1, show m_part_rising_api_Turn_l1 s.Turns (((s.Turns.length : Int) - 0 : Int).toNat + 1) 0 = some d from d1]
  simp only [Option.bind_some]
  rw [a2, b2, List.drop_zero, List.drop_zero]
  have e1 : c = true ↔ s.Nodes.Pairwise (key · < key ·) := c2.trans ⟨fun H => (gadj key _).1 fun j h h0 => H j h (by omega) h0, fun H j h _ h0 => (gadj key _).2 H j h h0⟩
  have e2 : d = true ↔ s.Turns.Pairwise (tkey · < tkey ·) := d2.trans ⟨fun H => (gadj tkey _).1 fun j h h0 => H j h (by omega) h0, fun H j h _ h0 => (gadj tkey _).2 H j h h0⟩
  cases f1 : s.Nodes.all pnB with
  | false => exact ⟨false, by simp, fun h => by simp at h, fun H => by rw [H.nodes] at f1; cases f1⟩
  | true =>
    cases f2 : s.Turns.all ptB with
    | false => exact ⟨false, by simp, fun h => by simp at h, fun H => by rw [H.turns] at f2; cases f2⟩
    | true =>
      cases c with
      | false => exact ⟨false, by simp, fun h => by simp at h, fun H => e1.2 H.nsort⟩
      | true =>
        cases d with
        | false => exact ⟨false, by simp, fun h => by simp at h, fun H => e2.2 H.tsort⟩
        | true => exact ⟨true, by simp, fun _ => ⟨f1, e1.1 rfl, f2, e2.1 rfl⟩, fun _ => rfl⟩
/-! ### a part -/
end Go.Cb
