/- Parts, plainly: what may be a store, and a part; places in a store. -/
import Derived.Test.YtgdfoajophpblaaGreatDoorQApp
import Derived.Test.YtgdfoajophpblaaGreatDoorQ10pp
import Derived.Test.YtgdfoajophpblaaGreatDoorKpp2
set_option linter.unusedVariables false
set_option linter.unusedSimpArgs false
namespace Go.Cb
open Go.Proofs Go.RowKit

abbrev Tn := S_api_Turn
abbrev Sto := S_api_Store
abbrev Pt1 := S_api_Part
def tkey (t : Tn) : List UInt8 := bl t.Dir
theorem kl_not {a b : List UInt8} (h : ¬ a < b) (k : a ≠ b) : b < a := by
  rcases kl_tri a b with h' | h' | h'
  · exact absurd h' h
  · exact absurd h' k
  · exact h'
/-! ### a place among keys that rise -/
section
variable {α : Type} (κ : α → List UInt8)
def gLt (p : List UInt8) (x : α) : Bool := decide (κ x < p)
def gEq (p : List UInt8) (x : α) : Bool := decide (κ x = p)
def gGt (p : List UInt8) (x : α) : Bool := !gLt κ p x && !gEq κ p x
theorem gplace (l : List α) (p : List UInt8) (i : Nat) (hs : l.Pairwise (κ · < κ ·)) (h1 : i ≤ l.length) (h3 : ∀ j (h : j < l.length), j < i → κ l[j] < p) (h4 : ∀ j (h : j < l.length), i ≤ j → ¬ κ l[j] < p) :
    l.take i = l.filter (gLt κ p) ∧ ((∃ x, l.drop i = x :: l.filter (gGt κ p) ∧ κ x = p ∧ l.find? (gEq κ p) = some x ∧ l[i]? = some x ∧ x ∈ l) ∨ (l.drop i = l.filter (gGt κ p) ∧ l.find? (gEq κ p) = none ∧ l[i]?.map κ ≠ some p)) := by
  have hp := List.pairwise_iff_getElem.1 hs
  have e : ∀ g : α → Bool, l.filter g = (l.take i).filter g ++ (l.drop i).filter g := fun g => by rw [← List.filter_append, List.take_append_drop]
  have ht : ∀ y ∈ l.take i, κ y < p := fun y hy => by
    obtain ⟨m, hm, rfl⟩ := List.mem_take_iff_getElem.1 hy
    exact h3 m (by omega) (by omega)
  have hd : ∀ y ∈ l.drop i, ¬ κ y < p := fun y hy => by
    obtain ⟨m, hm, rfl⟩ := List.mem_drop_iff_getElem.1 hy
    exact h4 _ (by omega) (by omega)
  have t1 : (l.take i).filter (gLt κ p) = l.take i := List.filter_eq_self.2 fun y hy => by simpa [gLt] using ht y hy
  have t2 : (l.drop i).filter (gLt κ p) = [] := List.filter_eq_nil_iff.2 fun y hy => by simpa [gLt] using hd y hy
  have t3 : (l.take i).filter (gGt κ p) = [] := List.filter_eq_nil_iff.2 fun y hy => by simp [gGt, gLt, ht y hy]
  refine ⟨by rw [e, t1, t2, List.append_nil], ?_⟩
  rw [e (gGt κ p), t3, List.nil_append]
  by_cases hi : i < l.length
  · by_cases hk : κ l[i] = p
    · refine .inl ⟨l[i], ?_, hk, ?_, List.getElem?_eq_getElem hi, List.getElem_mem hi⟩
      · rw [List.drop_eq_getElem_cons hi, List.filter_cons, if_neg (by simp [gGt, gEq, hk])]
        congr 1
        refine (List.filter_eq_self.2 fun y hy => ?_).symm
        obtain ⟨m, hm, rfl⟩ := List.mem_drop_iff_getElem.1 hy
        have := hp i (i + 1 + m) hi (by omega) (by omega)
        rw [hk] at this
        simp [gGt, gLt, gEq, kl_asymm this, (kl_ne this).symm]
      · rw [List.find?_eq_some_iff_append]
        refine ⟨by simpa [gEq] using hk, l.take i, l.drop (i + 1), ?_, fun y hy => by simpa [gEq] using kl_ne (ht y hy)⟩
        rw [← List.drop_eq_getElem_cons hi, List.take_append_drop]
    · have hne : ∀ y ∈ l.drop i, κ y ≠ p := fun y hy => by
        obtain ⟨m, hm, rfl⟩ := List.mem_drop_iff_getElem.1 hy
        rcases Nat.eq_zero_or_pos m with rfl | hm0
        · simpa using hk
        · have h5 := kl_not (h4 i hi (Nat.le_refl _)) hk
          exact (kl_ne (kl_trans h5 (hp i (i + m) hi (by omega) (by omega)))).symm
      refine .inr ⟨?_, ?_, by rw [List.getElem?_eq_getElem hi]; simpa using hk⟩
      · exact (List.filter_eq_self.2 fun y hy => by simp [gGt, gLt, gEq, hd y hy, hne y hy]).symm
      · rw [List.find?_eq_none]
        intro y hy
        rw [← List.take_append_drop i l] at hy
        rcases List.mem_append.1 hy with h | h
        · simpa [gEq] using kl_ne (ht y h)
        · simpa [gEq] using hne y h
  · refine .inr ⟨?_, ?_, by rw [List.getElem?_eq_none (by omega)]; simp⟩
    · rw [List.drop_eq_nil_of_le (by omega)]; rfl
    · rw [List.find?_eq_none]
      intro y hy
      have : l.take i = l := List.take_of_length_le (by omega)
      rw [← this] at hy
      simpa [gEq] using kl_ne (ht y hy)
end
/-! ### what may be -/
theorem pathRight_eq (s : ByteArray) : m_path_Right s = some (pathOk (bl s)) := by
  unfold m_path_Right
  rw [Split_eq]
  simp only [Option.bind_some]
  unfold spl pathOk
  cases parts (bl s) <;> rfl
theorem pwithin_eq (x a b : Int) : m_part_within x a b = some (decide (a ≤ x ∧ x ≤ b)) := by
  unfold m_part_within
  by_cases h : x ≥ a
  · rw [if_pos (by simpa using h)]
    congr 1
    exact decide_eq_decide.2 ⟨fun h' => ⟨h, h'⟩, fun h' => h'.2⟩
  · rw [if_neg (by simpa using h), decide_eq_false (fun h' => h h'.1)]
def fieldsB (p d : ByteArray) (v least o : Int) : Bool := pathOk (bl p) && decide ((bl d).length ≤ 256) && decide (least ≤ v ∧ v ≤ 281474976710656) && decide (0 ≤ o ∧ o ≤ 1099511627776)
theorem fields_eq (p d : ByteArray) (v least o : Int) : m_part_fields p d v least o = some (fieldsB p d v least o) := by
  unfold m_part_fields fieldsB
  rw [pathRight_eq]
  simp only [Option.bind_some]
  have z := bl_size d
  cases pathOk (bl p) with
  | false => rw [if_neg (by simp)]; simp
  | true =>
    rw [if_pos rfl]
    by_cases h : (bl d).length ≤ 256
    · rw [if_pos (decide_eq_true (by omega)), pwithin_eq, decide_eq_true h]
      simp only [Option.bind_some]
      cases decide (least ≤ v ∧ v ≤ 281474976710656) with
      | false => rw [if_neg (by simp)]; simp
      | true => rw [if_pos rfl, pwithin_eq]; simp
    · rw [if_neg (by rw [decide_eq_false (by omega)]; simp), decide_eq_false h]; simp
def pnB (x : Nd) : Bool := decide (x.Turn = 0) && fieldsB x.Path x.Data x.Version 0 x.Owner
def ptB (t : Tn) : Bool := pathOk (tkey t) && decide (1 ≤ t.Next ∧ t.Next ≤ 10000)
theorem Right1_eq (x : Nd) : m_part_Right_1 x = some (!pnB x) := by
  unfold m_part_Right_1 pnB
  by_cases h : x.Turn = 0
  · rw [if_neg (by simpa using h), fields_eq, decide_eq_true h]; simp
  · rw [if_pos (by simpa using h), decide_eq_false h]; simp
theorem Right2_eq (t : Tn) : m_part_Right_2 t = some (!ptB t) := by
  unfold m_part_Right_2 ptB
  rw [pathRight_eq, show bl t.Dir = tkey t from rfl]
  simp only [Option.bind_some]
  cases pathOk (tkey t) with
  | false => rw [if_pos (by rfl)]; simp
  | true => rw [if_neg (by simp), pwithin_eq]; simp
theorem idx2_l1 (l : List Nd) (hl : l.length ≤ 1000000) : ∀ (k i : Nat), i ≤ l.length → l.length + 1 ≤ i + k → ∃ v : Int, m_slices_IndexFunc_api_Node_api_Node_2_l1 l k (i : Int) = some v ∧ decide (v ≥ 0) = !(l.drop i).all pnB
  | 0, i, _, h => by omega
  | k + 1, i, h0, h => by
    unfold m_slices_IndexFunc_api_Node_api_Node_2_l1
    by_cases hi : i < l.length
    · rw [if_pos (by simpa using hi), idx_lt hi, List.drop_eq_getElem_cons hi]
      simp only [Option.bind_some, Right1_eq, List.all_cons]
      cases hm : pnB l[i] with
      | false => rw [if_pos (by rfl)]; exact ⟨_, rfl, by simp⟩
      | true =>
        rw [if_neg (by simp), inc1 (by omega)]
        obtain ⟨v, h1, h2⟩ := idx2_l1 l hl k (i + 1) (by omega) (by omega)
        exact ⟨v, h1, by rw [h2]; simp⟩
    · rw [if_neg (by simpa using hi), List.drop_eq_nil_of_le (by omega)]
      exact ⟨-1, rfl, by simp⟩
theorem idxt_l1 (l : List Tn) (hl : l.length ≤ 1000000) : ∀ (k i : Nat), i ≤ l.length → l.length + 1 ≤ i + k → ∃ v : Int, m_slices_IndexFunc_api_Turn_api_Turn_l1 l k (i : Int) = some v ∧ decide (v ≥ 0) = !(l.drop i).all ptB
  | 0, i, _, h => by omega
  | k + 1, i, h0, h => by
    unfold m_slices_IndexFunc_api_Turn_api_Turn_l1
    by_cases hi : i < l.length
    · rw [if_pos (by simpa using hi), idx_lt hi, List.drop_eq_getElem_cons hi]
      simp only [Option.bind_some, Right2_eq, List.all_cons]
      cases hm : ptB l[i] with
      | false => rw [if_pos (by rfl)]; exact ⟨_, rfl, by simp⟩
      | true =>
        rw [if_neg (by simp), inc1 (by omega)]
        obtain ⟨v, h1, h2⟩ := idxt_l1 l hl k (i + 1) (by omega) (by omega)
        exact ⟨v, h1, by rw [h2]; simp⟩
    · rw [if_neg (by simpa using hi), List.drop_eq_nil_of_le (by omega)]
      exact ⟨-1, rfl, by simp⟩
theorem gadj {α : Type} (κ : α → List UInt8) (l : List α) : (∀ j (h : j < l.length), 0 < j → κ (l[j - 1]'(by omega)) < κ l[j]) ↔ l.Pairwise (κ · < κ ·) := by
  constructor
  · intro h
    rw [List.pairwise_iff_getElem]
    intro i j hi hj hij
    induction j with
    | zero => omega
    | succ j ih =>
      have h1 := h (j + 1) hj (by omega)
      simp only [Nat.add_sub_cancel] at h1
      rcases Nat.lt_or_ge i j with c | c
      · exact kl_trans (ih (by omega) c) h1
      · obtain rfl : i = j := by omega
        exact h1
  · intro h j hj h0
    exact List.pairwise_iff_getElem.1 h (j - 1) j (by omega) hj (by omega)
theorem rise_l1 (l : List Nd) (hl : l.length ≤ 1000000) : ∀ (k i : Nat), i ≤ l.length → l.length + 1 ≤ i + k → ∃ b, m_part_rising_api_Node_l1 l k (i : Int) = some b ∧ (b = true ↔ ∀ j (h : j < l.length), i ≤ j → 0 < j → key (l[j - 1]'(by omega)) < key l[j])
  | 0, i, _, h => by omega
  | k + 1, i, h0, h => by
    unfold m_part_rising_api_Node_l1 m_part_rising_api_Node_j1
    by_cases hi : i < l.length
    · rw [if_pos (by simpa using hi), inc1 (by omega)]
      obtain ⟨b, h1, h2⟩ := rise_l1 l hl k (i + 1) (by omega) (by omega)
      by_cases h00 : i = 0
      · subst h00
        rw [if_neg (by simp), if_neg (by simp), h1]
        refine ⟨b, rfl, h2.trans ⟨fun H j hj hij h0 => H j hj (by omega) h0, fun H j hj hij h0 => H j hj (by omega) h0⟩⟩
      · rw [if_pos (decide_eq_true (by omega)), show IntKind.i64.wrap ((i : Int) - 1) = ((i - 1 : Nat) : Int) from by rw [w64 (by omega) (by omega)]; omega, idx_lt (show i - 1 < l.length by omega)]
        simp only [Option.bind_some]
        rw [idx_lt hi]
        simp only [Option.bind_some, m_part_Right_3]
        rw [sLt_bl, show bl (l[i - 1]'(by omega)).Path = key (l[i - 1]'(by omega)) from rfl, show bl (l[i]).Path = key l[i] from rfl]
        by_cases c : key (l[i - 1]'(by omega)) < key l[i]
        · rw [decide_eq_true c, if_neg (by simp), h1]
          refine ⟨b, rfl, h2.trans ⟨fun H j hj hij h0 => ?_, fun H j hj hij h0 => H j hj (by omega) h0⟩⟩
          rcases Nat.lt_or_ge i j with d | d
          · exact H j hj (by omega) h0
          · obtain rfl : i = j := by omega
            exact c
        · rw [decide_eq_false c, if_pos (by rfl)]
          exact ⟨false, rfl, fun h => by simp at h, fun H => absurd (H i hi (Nat.le_refl _) (by omega)) c⟩
    · rw [if_neg (by simpa using hi)]
      exact ⟨true, rfl, fun _ j hj hij => by omega, fun _ => rfl⟩
theorem riset_l1 (l : List Tn) (hl : l.length ≤ 1000000) : ∀ (k i : Nat), i ≤ l.length → l.length + 1 ≤ i + k → ∃ b, m_part_rising_api_Turn_l1 l k (i : Int) = some b ∧ (b = true ↔ ∀ j (h : j < l.length), i ≤ j → 0 < j → tkey (l[j - 1]'(by omega)) < tkey l[j])
  | 0, i, _, h => by omega
  | k + 1, i, h0, h => by
    unfold m_part_rising_api_Turn_l1 m_part_rising_api_Turn_j1
    by_cases hi : i < l.length
    · rw [if_pos (by simpa using hi), inc1 (by omega)]
      obtain ⟨b, h1, h2⟩ := riset_l1 l hl k (i + 1) (by omega) (by omega)
      by_cases h00 : i = 0
      · subst h00
        rw [if_neg (by simp), if_neg (by simp), h1]
        refine ⟨b, rfl, h2.trans ⟨fun H j hj hij h0 => H j hj (by omega) h0, fun H j hj hij h0 => H j hj (by omega) h0⟩⟩
      · rw [if_pos (decide_eq_true (by omega)), show IntKind.i64.wrap ((i : Int) - 1) = ((i - 1 : Nat) : Int) from by rw [w64 (by omega) (by omega)]; omega, idx_lt (show i - 1 < l.length by omega)]
        simp only [Option.bind_some]
        rw [idx_lt hi]
        simp only [Option.bind_some, m_part_Right_4]
        rw [sLt_bl, show bl (l[i - 1]'(by omega)).Dir = tkey (l[i - 1]'(by omega)) from rfl, show bl (l[i]).Dir = tkey l[i] from rfl]
        by_cases c : tkey (l[i - 1]'(by omega)) < tkey l[i]
        · rw [decide_eq_true c, if_neg (by simp), h1]
          refine ⟨b, rfl, h2.trans ⟨fun H j hj hij h0 => ?_, fun H j hj hij h0 => H j hj (by omega) h0⟩⟩
          rcases Nat.lt_or_ge i j with d | d
          · exact H j hj (by omega) h0
          · obtain rfl : i = j := by omega
            exact c
        · rw [decide_eq_false c, if_pos (by rfl)]
          exact ⟨false, rfl, fun h => by simp at h, fun H => absurd (H i hi (Nat.le_refl _) (by omega)) c⟩
    · rw [if_neg (by simpa using hi)]
      exact ⟨true, rfl, fun _ j hj hij => by omega, fun _ => rfl⟩
structure StoreOk (s : Sto) : Prop where
  nodes : s.Nodes.all pnB = true
  nsort : s.Nodes.Pairwise (key · < key ·)
  turns : s.Turns.all ptB = true
  tsort : s.Turns.Pairwise (tkey · < tkey ·)
theorem partRight_eq (s : Sto) (hn : s.Nodes.length ≤ 1000000) (ht : s.Turns.length ≤ 1000000) : ∃ b, m_part_Right s = some b ∧ (b = true ↔ StoreOk s) := by
  unfold m_part_Right m_slices_ContainsFunc_api_Node_api_Node_1 m_slices_ContainsFunc_api_Turn_api_Turn m_slices_IndexFunc_api_Node_api_Node_2 m_slices_IndexFunc_api_Turn_api_Turn m_part_rising_api_Node m_part_rising_api_Turn
  obtain ⟨v, a1, a2⟩ := idx2_l1 s.Nodes hn (((s.Nodes.length : Int) - 0 : Int).toNat + 1) 0 (by omega) (by omega)
  obtain ⟨u, b1, b2⟩ := idxt_l1 s.Turns ht (((s.Turns.length : Int) - 0 : Int).toNat + 1) 0 (by omega) (by omega)
  obtain ⟨c, c1, c2⟩ := rise_l1 s.Nodes hn (((s.Nodes.length : Int) - 0 : Int).toNat + 1) 0 (by omega) (by omega)
  obtain ⟨d, d1, d2⟩ := riset_l1 s.Turns ht (((s.Turns.length : Int) - 0 : Int).toNat + 1) 0 (by omega) (by omega)
  rw [show m_slices_IndexFunc_api_Node_api_Node_2_l1 s.Nodes (((s.Nodes.length : Int) - 0 : Int).toNat + 1) 0 = some v from a1, show m_slices_IndexFunc_api_Turn_api_Turn_l1 s.Turns (((s.Turns.length : Int) - 0 : Int).toNat + 1) 0 = some u from b1,
    show m_part_rising_api_Node_l1 s.Nodes (((s.Nodes.length : Int) - 0 : Int).toNat + 1) 0 = some c from c1, show m_part_rising_api_Turn_l1 s.Turns (((s.Turns.length : Int) - 0 : Int).toNat + 1) 0 = some d from d1]
  simp only [Option.bind_some]
  rw [a2, b2, List.drop_zero, List.drop_zero]
  have e1 : c = true ↔ s.Nodes.Pairwise (key · < key ·) := c2.trans ⟨fun H => (gadj key _).1 fun j h h0 => H j h (by omega) h0, fun H j h _ h0 => (gadj key _).2 H j h h0⟩
  have e2 : d = true ↔ s.Turns.Pairwise (tkey · < tkey ·) := d2.trans ⟨fun H => (gadj tkey _).1 fun j h h0 => H j h (by omega) h0, fun H j h _ h0 => (gadj tkey _).2 H j h h0⟩
  cases f1 : s.Nodes.all pnB with
  | false => exact ⟨false, by simp, fun h => by simp at h, fun H => by rw [H.nodes] at f1; cases f1⟩
  | true =>
    cases f2 : s.Turns.all ptB with
    | false => exact ⟨false, by simp, fun h => by simp at h, fun H => by rw [H.turns] at f2; cases f2⟩
    | true =>
      cases c with
      | false => exact ⟨false, by simp, fun h => by simp at h, fun H => e1.2 H.nsort⟩
      | true =>
        cases d with
        | false => exact ⟨false, by simp, fun h => by simp at h, fun H => e2.2 H.tsort⟩
        | true => exact ⟨true, by simp, fun _ => ⟨f1, e1.1 rfl, f2, e2.1 rfl⟩, fun _ => rfl⟩
/-! ### a part -/
def upP (p : List UInt8) : List UInt8 := (parentS p).getD [47]
theorem pup_eq (s : ByteArray) : m_part_up s = some (mk (upP (bl s))) := by
  unfold m_part_up upP
  rw [Parent_eq]
  simp only [Option.bind_some]
  cases parentS (bl s) <;> rfl
def dirOf (p : Pt1) : List UInt8 := if p.Kind = 4 ∨ p.Kind = 9 ∨ p.Kind = 10 then bl p.Path else upP (bl p.Path)
def mayP (p : Pt1) : Bool := fieldsB p.Path p.Data p.Version (-1) p.Owner && decide (bl p.Dir = dirOf p) && decide (1 ≤ p.Kind ∧ p.Kind ≤ 10) && (decide (p.Kind ≠ 2) || !decide (bl p.Path = [47]))
theorem mayP_j1 (p : Pt1) (s : ByteArray) (hs : bl s = dirOf p) : m_part_May_j1 p s = some (mayP p) := by
  unfold m_part_May_j1 mayP
  rw [fields_eq, sEq_bl, hs]
  simp only [Option.bind_some]
  cases fieldsB p.Path p.Data p.Version (-1) p.Owner with
  | false => rw [if_neg (by simp)]; simp
  | true =>
    rw [if_pos rfl]
    cases decide (bl p.Dir = dirOf p) with
    | false => rw [if_neg (by simp)]; simp
    | true =>
      rw [if_pos rfl]
      by_cases a : p.Kind ≥ 1
      · rw [if_pos (decide_eq_true a)]
        by_cases b : p.Kind ≤ 10
        · rw [if_pos (decide_eq_true b), decide_eq_true (show 1 ≤ p.Kind ∧ p.Kind ≤ 10 from ⟨a, b⟩)]
          by_cases c : p.Kind = 2
          · rw [if_neg (by simpa using c), sEq_root]; simp [c]
          · rw [if_pos (by simpa using c)]; simp [c]
        · rw [if_neg (by rw [decide_eq_false b]; simp), decide_eq_false (fun h => b h.2)]; simp
      · rw [if_neg (by rw [decide_eq_false a]; simp), decide_eq_false (fun h => a h.1)]; simp
theorem partMay_eq (p : Pt1) : m_part_May p = some (mayP p) := by
  unfold m_part_May m_part_May_j2
  rw [pup_eq]
  simp only [Option.bind_some]
  by_cases a : p.Kind = 4
  · rw [if_pos (by simpa using a), if_pos trivial, mayP_j1 p _ (by unfold dirOf; rw [if_pos (.inl a)])]
  · rw [if_neg (by simpa using a)]
    by_cases b : p.Kind = 9
    · rw [if_pos (by simpa using b), if_pos trivial, mayP_j1 p _ (by unfold dirOf; rw [if_pos (.inr (.inl b))])]
    · rw [if_neg (by simpa using b)]
      by_cases c : p.Kind = 10
      · rw [if_pos (by simpa using c), mayP_j1 p _ (by unfold dirOf; rw [if_pos (.inr (.inr c))])]
      · rw [if_neg (by simpa using c), mayP_j1 p _ (by rw [bl_mk]; unfold dirOf; rw [if_neg (by simp [a, b, c])])]
end Go.Cb
