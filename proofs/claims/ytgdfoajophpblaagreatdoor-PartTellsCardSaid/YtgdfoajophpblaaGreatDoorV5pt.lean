/- Parts, plainly: the document's side. -/
import Derived.Test.YtgdfoajophpblaaGreatDoorV4pt
import Derived.Test.YtgdfoajophpblaaGreatDoorKpt2
set_option linter.unusedVariables false
set_option linter.unusedSimpArgs false
namespace Go.Cb
open Go.Proofs Go.RowKit

theorem ife (c b : Bool) : (if c = true then some b else some false) = some (c && b) := by cases c <;> rfl
structure SmS (s : Sto) : Prop where
  sm : Sm s.Nodes
  smt : ∀ t ∈ s.Turns, (tkey t).length ≤ 100000000
  len : s.Nodes.length ≤ 90000
  lent : s.Turns.length ≤ 90000
theorem rnode_eq (x : Nd) (hp : (key x).length ≤ 100000000) : m_cantonref07_node x = some (pnB x) := by
  unfold m_cantonref07_node pnB fieldsB
  rw [rRight1 _ hp]
  simp only [Option.bind_some, ife]
  congr 1
  rw [Bool.eq_iff_iff]
  simp only [Bool.and_eq_true, decide_eq_true_eq, beq_iff_eq]
  rw [bl_size]
  constructor
  · rintro ⟨h1, h2, h3, h4, h5, h6, h7⟩
    exact ⟨h7, ⟨⟨h1, by omega⟩, by omega⟩, by omega⟩
  · rintro ⟨h7, ⟨⟨h1, h2⟩, h3⟩, h4⟩
    exact ⟨h1, by omega, by omega, by omega, by omega, by omega, h7⟩
theorem rRightS_l2 (s : Sto) (hs : SmS s) : ∀ (k i : Nat), i ≤ s.Turns.length → s.Turns.length + 1 ≤ i + k → ∃ b, m_cantonref07_Right_l2 s k (i : Int) = some b ∧ (b = true ↔ ∀ j (h : j < s.Turns.length), i ≤ j → ptB s.Turns[j] = true ∧ (0 < j → tkey (s.Turns[j - 1]'(by omega)) < tkey s.Turns[j]))
  | 0, i, _, h => by omega
  | k + 1, i, h0, h => by
    have hl := hs.lent
    unfold m_cantonref07_Right_l2 m_cantonref07_Right_j2
    by_cases hi : i < s.Turns.length
    · rw [if_pos (by simpa using hi), idx_lt hi]
      simp only [Option.bind_some]
      rw [rRight1 _ (hs.smt _ (List.getElem_mem hi)), inc1 (by omega)]
      simp only [Option.bind_some, if_true, Bool.false_eq_true, if_false]
      obtain ⟨b, h1, h2⟩ := rRightS_l2 s hs k (i + 1) (by omega) (by omega)
      have bad : ∀ P : Prop, ¬ (ptB s.Turns[i] = true ∧ (0 < i → tkey (s.Turns[i - 1]'(by omega)) < tkey s.Turns[i])) → ∃ b, some false = some b ∧ (b = true ↔ ∀ j (h : j < s.Turns.length), i ≤ j → ptB s.Turns[j] = true ∧ (0 < j → tkey (s.Turns[j - 1]'(by omega)) < tkey s.Turns[j])) := fun _ H => ⟨false, rfl, fun h => by simp at h, fun H' => absurd (H' i hi (Nat.le_refl _)) H⟩
      have good : (ptB s.Turns[i] = true ∧ (0 < i → tkey (s.Turns[i - 1]'(by omega)) < tkey s.Turns[i])) → ∃ b, m_cantonref07_Right_l2 s k ((i + 1 : Nat) : Int) = some b ∧ (b = true ↔ ∀ j (h : j < s.Turns.length), i ≤ j → ptB s.Turns[j] = true ∧ (0 < j → tkey (s.Turns[j - 1]'(by omega)) < tkey s.Turns[j])) := fun H => by
        refine ⟨b, h1, h2.trans ⟨fun H' j hj hij => ?_, fun H' j hj hij => H' j hj (by omega)⟩⟩
        rcases Nat.lt_or_ge i j with d | d
        · exact H' j hj (by omega)
        · obtain rfl : i = j := by omega
          exact H
      have e0 : bl (s.Turns[i]).Dir = tkey s.Turns[i] := rfl
      rw [e0]
      by_cases a : pathOk (tkey s.Turns[i]) = true
      · rw [if_neg (by rw [a]; simp)]
        by_cases n1 : (s.Turns[i]).Next < 1
        · rw [if_pos (by simpa using n1)]
          exact bad True fun H => by have := H.1; simp [ptB] at this; omega
        · rw [if_neg (by simpa using n1)]
          by_cases n2 : (s.Turns[i]).Next > 10000
          · rw [if_pos (by simpa using n2)]
            exact bad True fun H => by have := H.1; simp [ptB] at this; omega
          · rw [if_neg (by simpa using n2)]
            have ok : ptB s.Turns[i] = true := by simp [ptB, a]; omega
            by_cases z : i = 0
            · subst z
              rw [if_neg (by simp)]
              exact good ⟨ok, fun h => by omega⟩
            · rw [if_pos (decide_eq_true (by omega)), show IntKind.i64.wrap ((i : Int) - 1) = ((i - 1 : Nat) : Int) from by rw [w64 (by omega) (by omega)]; omega, idx_lt (show i - 1 < s.Turns.length by omega)]
              simp only [Option.bind_some]
              rw [sLt_bl, show bl (s.Turns[i - 1]'(by omega)).Dir = tkey (s.Turns[i - 1]'(by omega)) from rfl, e0]
              by_cases c : tkey (s.Turns[i - 1]'(by omega)) < tkey s.Turns[i]
              · rw [decide_eq_true c, if_neg (by simp)]
                exact good ⟨ok, fun _ => c⟩
              · rw [decide_eq_false c, if_pos (by rfl)]
                exact bad True fun H => c (H.2 (by omega))
      · rw [if_pos (by simpa using a)]
        exact bad True fun H => by have := H.1; simp [ptB] at this; exact a this.1
    · rw [if_neg (by simpa using hi)]
      exact ⟨true, rfl, fun _ j hj hij => by omega, fun _ => rfl⟩
theorem rRightS_l1 (s : Sto) (hs : SmS s) : ∀ (k i : Nat), i ≤ s.Nodes.length → s.Nodes.length + 1 ≤ i + k → ∃ b, m_cantonref07_Right_l1 s k (i : Int) = some b ∧ (b = true ↔ (∀ j (h : j < s.Nodes.length), i ≤ j → pnB s.Nodes[j] = true ∧ (0 < j → key (s.Nodes[j - 1]'(by omega)) < key s.Nodes[j])) ∧ (∀ j (h : j < s.Turns.length), 0 ≤ j → ptB s.Turns[j] = true ∧ (0 < j → tkey (s.Turns[j - 1]'(by omega)) < tkey s.Turns[j])))
  | 0, i, _, h => by omega
  | k + 1, i, h0, h => by
    have hl := hs.len
    unfold m_cantonref07_Right_l1 m_cantonref07_Right_j1
    by_cases hi : i < s.Nodes.length
    · rw [if_pos (by simpa using hi), idx_lt hi]
      simp only [Option.bind_some]
      rw [rnode_eq _ (hs.sm _ (List.getElem_mem hi)), inc1 (by omega)]
      simp only [Option.bind_some, if_true, Bool.false_eq_true, if_false]
      obtain ⟨b, h1, h2⟩ := rRightS_l1 s hs k (i + 1) (by omega) (by omega)
      by_cases a : pnB s.Nodes[i] = true
      · rw [if_neg (by rw [a]; simp)]
        have good : (0 < i → key (s.Nodes[i - 1]'(by omega)) < key s.Nodes[i]) → ∃ b, m_cantonref07_Right_l1 s k ((i + 1 : Nat) : Int) = some b ∧ (b = true ↔ (∀ j (h : j < s.Nodes.length), i ≤ j → pnB s.Nodes[j] = true ∧ (0 < j → key (s.Nodes[j - 1]'(by omega)) < key s.Nodes[j])) ∧ (∀ j (h : j < s.Turns.length), 0 ≤ j → ptB s.Turns[j] = true ∧ (0 < j → tkey (s.Turns[j - 1]'(by omega)) < tkey s.Turns[j]))) := fun H => by
          refine ⟨b, h1, h2.trans ⟨fun H' => ⟨fun j hj hij => ?_, H'.2⟩, fun H' => ⟨fun j hj hij => H'.1 j hj (by omega), H'.2⟩⟩⟩
          rcases Nat.lt_or_ge i j with d | d
          · exact H'.1 j hj (by omega)
          · obtain rfl : i = j := by omega
            exact ⟨a, H⟩
        by_cases z : i = 0
        · subst z
          rw [if_neg (by simp)]
          exact good fun h => by omega
        · rw [if_pos (decide_eq_true (by omega)), show IntKind.i64.wrap ((i : Int) - 1) = ((i - 1 : Nat) : Int) from by rw [w64 (by omega) (by omega)]; omega, idx_lt (show i - 1 < s.Nodes.length by omega)]
          simp only [Option.bind_some]
          rw [sLt_bl, show bl (s.Nodes[i - 1]'(by omega)).Path = key (s.Nodes[i - 1]'(by omega)) from rfl, show bl (s.Nodes[i]).Path = key s.Nodes[i] from rfl]
          by_cases c : key (s.Nodes[i - 1]'(by omega)) < key s.Nodes[i]
          · rw [decide_eq_true c, if_neg (by simp)]
            exact good fun _ => c
          · rw [decide_eq_false c, if_pos (by rfl)]
            exact ⟨false, rfl, fun h => by simp at h, fun H => absurd ((H.1 i hi (Nat.le_refl _)).2 (by omega)) c⟩
      · rw [if_pos (by simpa using a)]
        exact ⟨false, rfl, fun h => by simp at h, fun H => absurd (H.1 i hi (Nat.le_refl _)).1 a⟩
    · rw [if_neg (by simpa using hi)]
      obtain ⟨b, h1, h2⟩ := rRightS_l2 s hs (((s.Turns.length : Int) - 0 : Int).toNat + 1) 0 (by omega) (by omega)
      exact ⟨b, h1, h2.trans ⟨fun H => ⟨fun j hj hij => by omega, H⟩, fun H => H.2⟩⟩
theorem all_get {α : Type} (l : List α) (f : α → Bool) : l.all f = true ↔ ∀ j (h : j < l.length), f l[j] = true := by
  rw [List.all_eq_true]
  constructor
  · intro H j h; exact H _ (List.getElem_mem h)
  · intro H x hx
    obtain ⟨j, hj, rfl⟩ := List.mem_iff_getElem.1 hx
    exact H j hj
theorem rRightS_eq (s : Sto) (hs : SmS s) : ∃ b, m_cantonref07_Right s = some b ∧ (b = true ↔ StoreOk s) := by
  obtain ⟨b, h1, h2⟩ := rRightS_l1 s hs (((s.Nodes.length : Int) - 0 : Int).toNat + 1) 0 (by omega) (by omega)
  refine ⟨b, h1, h2.trans ⟨fun H => ⟨?_, ?_, ?_, ?_⟩, fun H => ⟨fun j hj _ => ⟨?_, ?_⟩, fun j hj _ => ⟨?_, ?_⟩⟩⟩⟩
  · exact (all_get _ _).2 fun j hj => (H.1 j hj (by omega)).1
  · exact (gadj key _).1 fun j hj h0 => (H.1 j hj (by omega)).2 h0
  · exact (all_get _ _).2 fun j hj => (H.2 j hj (by omega)).1
  · exact (gadj tkey _).1 fun j hj h0 => (H.2 j hj (by omega)).2 h0
  · exact (all_get _ _).1 H.nodes j hj
  · exact (gadj key _).2 H.nsort j hj
  · exact (all_get _ _).1 H.turns j hj
  · exact (gadj tkey _).2 H.tsort j hj
/-! ### May -/
theorem rup7_eq (s : ByteArray) (hp : (bl s).length ≤ 100000000) : m_cantonref07_up s = some (mk (upP (bl s))) := by
  unfold m_cantonref07_up upP
  rw [rParent_eq _ hp]
  simp only [Option.bind_some]
  cases parentS (bl s) <;> rfl
theorem rmayP_j1 (p : Pt1) (s : ByteArray) (hs : bl s = dirOf p) (hp : (bl p.Path).length ≤ 100000000) : m_cantonref07_May_j1 p s = some (mayP p) := by
  unfold m_cantonref07_May_j1 m_cantonref07_May_j2 mayP fieldsB
  rw [rRight1 _ hp, sEq_bl, hs, sEq_root]
  simp only [Option.bind_some, ife]
  have z := bl_size p.Data
  generalize hA : pathOk (bl p.Path) = A
  generalize hB : decide (bl p.Dir = dirOf p) = B
  cases A <;> cases B
  all_goals simp only [Bool.false_eq_true, if_true, if_false, Bool.false_and, Bool.true_and, Bool.and_false]
  by_cases k1 : p.Kind ≥ 1
  · rw [if_pos (decide_eq_true k1)]
    by_cases k2 : p.Kind ≤ 10
    · rw [if_pos (decide_eq_true k2)]
      by_cases k3 : p.Kind = 2
      · rw [if_neg (by simpa using k3)]
        congr 1
        rw [Bool.eq_iff_iff]
        by_cases r : bl p.Path = [47]
        · simp [k3, r]
        · simp [k3, r, z]; omega
      · rw [if_pos (by simpa using k3)]
        congr 1
        rw [Bool.eq_iff_iff]
        simp [k1, k2, k3, z]; omega
    · rw [if_neg (by simpa using k2)]; simp [k2]
  · rw [if_neg (by simpa using k1)]; simp [k1]
theorem rmayP_eq (p : Pt1) (hp : (bl p.Path).length ≤ 100000000) : m_cantonref07_May p = some (mayP p) := by
  unfold m_cantonref07_May m_cantonref07_May_j3
  rw [rup7_eq _ hp]
  simp only [Option.bind_some]
  by_cases a : p.Kind = 4
  · rw [if_pos (by simpa using a), if_pos trivial, rmayP_j1 p _ (by unfold dirOf; rw [if_pos (.inl a)]) hp]
  · rw [if_neg (by simpa using a)]
    by_cases b : p.Kind = 9
    · rw [if_pos (by simpa using b), if_pos trivial, rmayP_j1 p _ (by unfold dirOf; rw [if_pos (.inr (.inl b))]) hp]
    · rw [if_neg (by simpa using b)]
      by_cases c : p.Kind = 10
      · rw [if_pos (by simpa using c), rmayP_j1 p _ (by unfold dirOf; rw [if_pos (.inr (.inr c))]) hp]
      · rw [if_neg (by simpa using c), rmayP_j1 p _ (by rw [bl_mk]; unfold dirOf; rw [if_neg (by simp [a, b, c])]) hp]
/-! ### turns -/
theorem rturn_l1 (s : Sto) (d : ByteArray) (hl : s.Turns.length ≤ 100000) : ∀ (k i : Nat), i ≤ s.Turns.length → s.Turns.length + 1 ≤ i + k → m_cantonref07_turn_l1 s d k (i : Int) = some (turnOf (s.Turns.drop i) (bl d))
  | 0, i, _, h => by omega
  | k + 1, i, h0, h => by
    unfold m_cantonref07_turn_l1
    by_cases hi : i < s.Turns.length
    · rw [if_pos (by simpa using hi), idx_lt hi, List.drop_eq_getElem_cons hi]
      simp only [Option.bind_some]
      unfold turnOf
      rw [List.find?_cons, sEq_bl, show (gEq tkey (bl d) s.Turns[i]) = decide (bl (s.Turns[i]).Dir = bl d) from rfl]
      by_cases c : bl (s.Turns[i]).Dir = bl d
      · rw [if_pos (by simpa using c), decide_eq_true c]
      · rw [if_neg (by simpa using c), decide_eq_false c, inc1 (by omega), rturn_l1 s d hl k (i + 1) (by omega) (by omega)]
        rfl
    · rw [if_neg (by simpa using hi), List.drop_eq_nil_of_le (by omega)]
      rfl
theorem rturn_eq (s : Sto) (d : ByteArray) (hl : s.Turns.length ≤ 100000) : m_cantonref07_turn s d = some (turnOf s.Turns (bl d)) := by
  have := rturn_l1 s d hl (((s.Turns.length : Int) - 0 : Int).toNat + 1) 0 (by omega) (by omega)
  rw [List.drop_zero] at this
  exact this
theorem turned_done (s : Sto) (d : ByteArray) (n : Int) (hl : s.Turns.length ≤ 100000) : ∀ (k i : Nat) (acc : List Tn), i ≤ s.Turns.length → s.Turns.length + 1 ≤ i + k → acc.length ≤ i + 1 → m_cantonref07_turned_l1 s d n k acc true (i : Int) = some ⟨s.Nodes, acc ++ (s.Turns.drop i).filter (fun t => !gEq tkey (bl d) t)⟩
  | 0, i, acc, _, h, _ => by omega
  | k + 1, i, acc, h0, h, ha => by
    unfold m_cantonref07_turned_l1 m_cantonref07_turned_j3 m_cantonref07_turned_j2 m_cantonref07_turned_j1 m_cantonref07_turned_j4
    by_cases hi : i < s.Turns.length
    · rw [if_pos (by simpa using hi), if_neg (by simp), if_neg (by simp), idx_lt hi, List.drop_eq_getElem_cons hi, List.filter_cons]
      simp only [Option.bind_some]
      rw [sEq_bl, inc1 (by omega), show (gEq tkey (bl d) s.Turns[i]) = decide (bl (s.Turns[i]).Dir = bl d) from rfl]
      by_cases c : bl (s.Turns[i]).Dir = bl d
      · rw [if_neg (by simpa using c), if_neg (by simpa using c), turned_done s d n hl k (i + 1) acc (by omega) (by omega) (by omega)]
      · rw [if_pos (by simpa using c), if_pos (by simpa using c), ck_b (by simp [LIM]; omega), turned_done s d n hl k (i + 1) _ (by omega) (by omega) (by simp; omega)]
        simp
    · rw [if_neg (by simpa using hi), if_neg (by simp), List.drop_eq_nil_of_le (by omega)]
      simp
theorem turned_not (s : Sto) (d : ByteArray) (n : Int) (hl : s.Turns.length ≤ 100000) (hs : s.Turns.Pairwise (tkey · < tkey ·)) : ∀ (k i : Nat) (acc : List Tn), i ≤ s.Turns.length → s.Turns.length + 1 ≤ i + k → acc.length ≤ i → m_cantonref07_turned_l1 s d n k acc false (i : Int) = some ⟨s.Nodes, acc ++ ((s.Turns.drop i).filter (gLt tkey (bl d)) ++ ⟨d, n⟩ :: (s.Turns.drop i).filter (gGt tkey (bl d)))⟩
  | 0, i, acc, _, h, _ => by omega
  | k + 1, i, acc, h0, h, ha => by
    unfold m_cantonref07_turned_l1 m_cantonref07_turned_j3 m_cantonref07_turned_j2 m_cantonref07_turned_j1 m_cantonref07_turned_j4
    by_cases hi : i < s.Turns.length
    · rw [if_pos (by simpa using hi), if_pos (by rfl), idx_lt hi]
      simp only [Option.bind_some]
      rw [sLt_bl, sEq_bl, inc1 (by omega), show bl (s.Turns[i]).Dir = tkey s.Turns[i] from rfl]
      have hd := List.drop_eq_getElem_cons hi
      by_cases c : tkey s.Turns[i] < bl d
      · have c2 := kl_ne c
        rw [if_neg (by simpa using c), if_pos (by simpa using c2), ck_b (by simp [LIM]; omega), turned_not s d n hl hs k (i + 1) _ (by omega) (by omega) (by simp; omega), hd, List.filter_cons, List.filter_cons, if_pos (by simpa [gLt] using c), if_neg (by simp [gGt, gLt, c])]
        simp
      · have hp := hs.sublist (List.drop_sublist i s.Turns)
        have e1 : (s.Turns.drop i).filter (gLt tkey (bl d)) = [] := List.filter_eq_nil_iff.2 fun y hy => by
          rw [hd] at hy hp
          have h5 := List.pairwise_cons.1 hp
          simp only [gLt, decide_eq_true_eq]
          rcases List.mem_cons.1 hy with rfl | hy
          · exact c
          · exact fun h => c (kl_trans (h5.1 y hy) h)
        have e2 := not_eq_split (s.Turns.drop i) (bl d) hp
        rw [e1, List.nil_append] at e2 ⊢
        rw [← e2, hd, List.filter_cons, show (gEq tkey (bl d) s.Turns[i]) = decide (tkey s.Turns[i] = bl d) from rfl]
        rw [if_pos (by simpa using c), ck_b (by simp [LIM]; omega)]
        by_cases c3 : tkey s.Turns[i] = bl d
        · rw [if_neg (by simpa using c3), if_neg (by simpa using c3), turned_done s d n hl k (i + 1) _ (by omega) (by omega) (by simp; omega)]
          simp
        · rw [if_pos (by simpa using c3), if_pos (by simpa using c3), ck_b (by simp [LIM]; omega), turned_done s d n hl k (i + 1) _ (by omega) (by omega) (by simp; omega)]
          simp
    · rw [if_neg (by simpa using hi), if_pos (by rfl), List.drop_eq_nil_of_le (by omega), ck_b (by simp [LIM]; omega)]
      simp
theorem turned_eq (s : Sto) (d : ByteArray) (n : Int) (hl : s.Turns.length ≤ 100000) (hs : s.Turns.Pairwise (tkey · < tkey ·)) : m_cantonref07_turned s d n = some ⟨s.Nodes, setTurn s.Turns (bl d) n⟩ := by
  unfold m_cantonref07_turned setTurn
  by_cases h : n = 0
  · subst h
    rw [if_pos rfl]
    refine (turned_done s d 0 hl (((s.Turns.length : Int) - 0 : Int).toNat + 1) 0 [] (by omega) (by omega) (by simp)).trans ?_
    simp
  · rw [if_neg h, show (n == 0) = false from by simpa using h]
    refine (turned_not s d n hl hs (((s.Turns.length : Int) - 0 : Int).toNat + 1) 0 [] (by omega) (by omega) (by simp)).trans ?_
    rw [mk_bl]
    simp
theorem rwithout_l1 (s : Sto) (d : ByteArray) (hl : s.Nodes.length ≤ 100000) : ∀ (k i : Nat) (acc : List Nd), i ≤ s.Nodes.length → s.Nodes.length + 1 ≤ i + k → acc.length ≤ i → m_cantonref07_without_l1 s d k acc (i : Int) = some ⟨acc ++ (s.Nodes.drop i).filter (fun y => !isK (bl d) y), s.Turns⟩
  | 0, i, acc, _, h, _ => by omega
  | k + 1, i, acc, h0, h, ha => by
    unfold m_cantonref07_without_l1 m_cantonref07_without_j1
    by_cases hi : i < s.Nodes.length
    · rw [if_pos (by simpa using hi), idx_lt hi, List.drop_eq_getElem_cons hi, List.filter_cons]
      simp only [Option.bind_some]
      rw [sEq_key, inc1 (by omega)]
      cases hc : isK (bl d) s.Nodes[i] with
      | true => rw [if_neg (by simp), if_neg (by simp), rwithout_l1 s d hl k (i + 1) acc (by omega) (by omega) (by omega)]
      | false =>
        rw [if_pos (by rfl), if_pos (by rfl), ck_b (by simp [LIM]; omega), rwithout_l1 s d hl k (i + 1) _ (by omega) (by omega) (by simp; omega)]
        simp
    · rw [if_neg (by simpa using hi), List.drop_eq_nil_of_le (by omega)]
      simp
theorem rwithout_eq (s : Sto) (d : ByteArray) (hl : s.Nodes.length ≤ 100000) : m_cantonref07_without s d = some ⟨s.Nodes.filter (fun y => !isK (bl d) y), s.Turns⟩ := by
  refine (rwithout_l1 s d hl (((s.Nodes.length : Int) - 0 : Int).toNat + 1) 0 [] (by omega) (by omega) (by simp)).trans ?_
  simp
/-! ### Put -/
theorem rput_j1 (s : Sto) (p : Pt1) (q d : List UInt8) (hl : s.Nodes.length ≤ 90000) (ht : s.Turns.length ≤ 90000) (S : StoreOk s) (n : Int) (hn : 0 ≤ n ∧ n ≤ 10000) :
    m_cantonref07_put_j1 (mk q, true) p s (mk d, true) n false = some (if (s.Nodes.find? (isK q)).isSome = true then (s, res 61) else (⟨insS ⟨mk q, p.Data, 0, 0, p.Owner⟩ s.Nodes, if p.Turns = true then setTurn s.Turns d (n + 1) else s.Turns⟩, { res 0 with Path := mk q })) := by
  unfold m_cantonref07_put_j1 m_cantonref07_put_j2
  rw [if_neg (by simp), rFind_eq _ _ (by omega), bl_mk]
  simp only [Option.bind_some]
  cases hf : s.Nodes.find? (isK q) with
  | some x => rw [fnd_some hf]; rfl
  | none =>
    rw [fnd_none hf]
    simp only [Bool.false_eq_true, if_false, Option.isSome_none]
    have e : m_cantonref06_Put s.Nodes (⟨mk q, p.Data, 0, 0, p.Owner⟩ : Nd) = some (insS ⟨mk q, p.Data, 0, 0, p.Owner⟩ s.Nodes) := by
      rw [Put_eq _ _ (by omega) S.nsort]; exact congrArg some (put_new (x := (⟨mk q, p.Data, 0, 0, p.Owner⟩ : Nd)) (fun y hy => find_no.1 hf y hy))
    cases hT : p.Turns with
    | true =>
      simp only [if_true]
      rw [w64 (by omega) (by omega), turned_eq s _ _ (by omega) S.tsort, bl_mk]
      simp only [Option.bind_some]
      rw [e]
      rfl
    | false =>
      simp only [Bool.false_eq_true, if_false]
      rw [e]
      rfl
theorem turnOf_le {s : Sto} (S : StoreOk s) (d : List UInt8) : 0 ≤ turnOf s.Turns d ∧ turnOf s.Turns d ≤ 10000 := by
  unfold turnOf
  cases h : s.Turns.find? (gEq tkey d) with
  | none => simp
  | some t => have := store_next S t (List.mem_of_find?_eq_some h); simp only; omega
theorem rput_eq (s : Sto) (p : Pt1) (q : List UInt8) (hq : parentS (bl p.Path) = some q) (hp : (bl p.Path).length ≤ 100000000) (hl : s.Nodes.length ≤ 90000) (ht : s.Turns.length ≤ 90000) (S : StoreOk s) : m_cantonref07_put s p = some (putP s p) := by
  unfold m_cantonref07_put putP
  have hu : upP (bl p.Path) = q := by unfold upP; rw [hq]; rfl
  rw [rParent_eq _ hp, hq, hu, show (os2 (some q)) = (mk q, true) from rfl]
  simp only [Option.bind_some]
  rw [rturn_eq s _ (by omega), bl_mk]
  simp only [Option.bind_some]
  rw [show (⟨0, p.Path, ByteArray.mk #[], 0, 0, p.Turns⟩ : Op1) = pop p from rfl, rNamed_eq (pop p) q _ hp hq]
  simp only [Option.bind_some]
  rw [if_neg (by simp)]
  cases hn : nameS (pop p) q (turnOf s.Turns q) with
  | none => rfl
  | some t =>
    rw [show os2 (some t) = (mk t, true) from rfl]
    exact rput_j1 s p t q hl ht S _ (turnOf_le S q)
end Go.Cb
