/- Several operations, plainly: the document's answer; MultiTells. -/
import Derived.Test.YtgdfoajophpblaaGreatDoorU1mt
import Derived.Test.YtgdfoajophpblaaGreatDoorKmt3
set_option linter.unusedVariables false
set_option linter.unusedSimpArgs false
namespace Go.Cb
open Go.Proofs Go.RowKit

theorem rmay_l1 (l : List Op1) (hl : l.length ≤ 1000000) (sm : SmO l) : ∀ (k i : Nat), i ≤ l.length → l.length + 1 ≤ i + k → m_cantonref08_May_l1 l k (i : Int) = some (decide (0 < l.length) && decide (l.length ≤ 8) && (l.drop i).all MayB)
  | 0, i, _, h => by omega
  | k + 1, i, h0, h => by
    unfold m_cantonref08_May_l1
    by_cases hi : i < l.length
    · have := sm _ (List.getElem_mem hi)
      rw [if_pos (by simpa using hi), idx_lt hi, List.drop_eq_getElem_cons hi]
      simp only [Option.bind_some, List.all_cons]
      rw [rMay_eq _ (by omega)]
      simp only [Option.bind_some]
      cases hm : MayB l[i] with
      | false => rw [if_pos (by rfl)]; simp
      | true =>
        rw [if_neg (by simp), inc1 (by omega), rmay_l1 l hl sm k (i + 1) (by omega) (by omega)]
        simp
    · rw [if_neg (by simpa using hi), List.drop_eq_nil_of_le (by omega)]
      by_cases a : 0 < l.length
      · rw [if_pos (decide_eq_true (by omega)), decide_eq_true a]
        simp
        omega
      · rw [if_neg (by rw [decide_eq_false (by omega)]; simp), decide_eq_false a]; simp
theorem rmultiMay_eq (l : List Op1) (hl : l.length ≤ 1000000) (sm : SmO l) : m_cantonref08_May l = some (mayL l) := by
  unfold m_cantonref08_May mayL
  refine (rmay_l1 l hl sm (((l.length : Int) - 0 : Int).toNat + 1) 0 (by omega) (by omega)).trans ?_
  simp
theorem may_path {o : Op1} (h : MayB o = true) : (bl o.Path).length ≤ 78 := by
  obtain ⟨_, ⟨ps, hp⟩, _⟩ := may_iff h
  exact parts_len hp
theorem rmultiApply_l1 (l : List Op1) (t : List Nd) (hl : l.length ≤ 1000000) (hm : l.all MayB = true) : ∀ (k i : Nat) (now : List Nd) (acc : List Res), Tree now → i ≤ l.length → l.length + 1 ≤ i + k → acc.length ≤ i → m_cantonref08_Apply_l1 l t k now acc (i : Int) = some (runS t now i (l.drop i) acc)
  | 0, i, now, acc, _, _, h, _ => by omega
  | k + 1, i, now, acc, T, h0, h, ha => by
    unfold m_cantonref08_Apply_l1
    by_cases hi : i < l.length
    · have hmi : MayB l[i] = true := List.all_eq_true.1 hm _ (List.getElem_mem hi)
      have hp := may_path hmi
      rw [if_pos (by simpa using hi), idx_lt hi, List.drop_eq_getElem_cons hi]
      simp only [Option.bind_some]
      rw [rApply_eq now l[i] T (by omega) hmi]
      simp only [Option.bind_some, runS]
      by_cases he : (applyS now l[i]).2.Err = 0
      · rw [if_neg (by simpa using he), if_neg (by simpa using he), ck_b (by simp [LIM]; omega), inc1 (by omega)]
        exact rmultiApply_l1 l t hl hm k (i + 1) _ _ (Tree_apply T hmi) (by omega) (by omega) (by simp; omega)
      · rw [if_pos (by simpa using he), if_pos he]
    · rw [if_neg (by simpa using hi), List.drop_eq_nil_of_le (by omega)]
      rfl
theorem rmultiApply_eq (t : List Nd) (l : List Op1) (T : Tree t) (sm : SmO l) (hm : mayL l = true) : m_cantonref08_Apply t l = some (runS t t 0 l []) := by
  have h := hm
  unfold mayL at h
  simp only [Bool.and_eq_true, decide_eq_true_eq] at h
  have hl := T.len
  unfold m_cantonref08_Apply m_cantonref08_Apply_j1
  obtain ⟨b, h1, h2⟩ := rRight_eq t (by omega) T.sm
  rw [h1, h2.2 T, rmultiMay_eq l (by omega) sm, hm]
  simp only [Option.bind_some]
  rw [if_neg (by simp), if_neg (by simp)]
  refine (rmultiApply_l1 l t (by omega) h.2 (((l.length : Int) - 0 : Int).toNat + 1) 0 t [] T (by omega) (by omega) (by simp)).trans ?_
  simp
theorem rmultiApply_bad (t : List Nd) (l : List Op1) (hlen : t.length ≤ 1000000) (sm : Sm t) (hl : l.length ≤ 1000000) (so : SmO l) (h : ¬ (Tree t ∧ mayL l = true)) : m_cantonref08_Apply t l = some ([], ⟨1, 0, []⟩) := by
  unfold m_cantonref08_Apply
  obtain ⟨b, h1, h2⟩ := rRight_eq t (by omega) sm
  rw [h1]
  simp only [Option.bind_some]
  cases b with
  | false => rw [if_pos (by rfl)]; rfl
  | true =>
    rw [if_neg (by simp), rmultiMay_eq l hl so, show mayL l = false from by cases hm : mayL l with | false => rfl | true => exact absurd ⟨h2.1 rfl, hm⟩ h]
    rfl
/-! ### pieces -/
theorem rup_eq (s : ByteArray) (hs : (bl s).length ≤ 100000000) : m_cantonref07_up s = some (mk (upS (bl s))) := by
  unfold m_cantonref07_up upS
  rw [rParent_eq s hs]
  simp only [Option.bind_some]
  cases parentS (bl s) <;> rfl
theorem up_len (p : List UInt8) : (upS p).length ≤ 78 := by
  unfold upS
  cases h : parentS p with
  | none => simp
  | some q =>
    obtain ⟨ps, t, _, _, hq⟩ := parent_parts h
    exact parts_len hq
theorem rOf_eq (o : Op1) (hp : (bl o.Path).length ≤ 3000) : m_cantonref07_Of o = some (ofS o) := by
  unfold m_cantonref07_Of ofS
  rw [rMay_eq o (by omega)]
  simp only [Option.bind_some]
  cases hm : MayB o with
  | false => rw [if_pos (by rfl), if_neg (by simp)]
  | true =>
    have hk := (may_iff hm).1
    rw [if_neg (by simp), if_pos rfl, rup_eq _ (by omega)]
    unfold partsOf
    simp only [Option.bind_some]
    have kk : o.Kind = 1 ∨ o.Kind = 2 ∨ o.Kind = 3 ∨ o.Kind = 4 ∨ o.Kind = 5 ∨ o.Kind = 6 ∨ o.Kind = 7 := by omega
    rcases kk with c | c | c | c | c | c | c
    all_goals simp only [c, Int.reduceBEq, Int.reduceEq, Bool.false_eq_true, if_true, if_false, beq_self_eq_true]
    · have := up_len (bl o.Path)
      rw [rup_eq _ (by rw [bl_mk]; omega), bl_mk]
      rfl
    all_goals rfl
theorem rmultiOf_l2 (rec : List Pie → Int → Option (List Pie)) (u : List Pt) (x : Int) (hu : u.length ≤ 2) : ∀ (k j : Nat) (acc : List Pie), acc.length ≤ 1000000 + j → j ≤ u.length → u.length + 1 ≤ j + k → m_cantonref08_Of_l2 rec u x k acc (j : Int) = rec (acc ++ (u.drop j).map (fun p => ⟨x, p⟩)) (IntKind.i64.wrap (x + 1))
  | 0, j, acc, _, _, h => by omega
  | k + 1, j, acc, ha, h0, h => by
    unfold m_cantonref08_Of_l2
    by_cases hj : j < u.length
    · rw [if_pos (by simpa using hj), idx_lt hj, List.drop_eq_getElem_cons hj]
      simp only [Option.bind_some]
      rw [ck_b (by simp [LIM]; omega), inc1 (by omega), rmultiOf_l2 rec u x hu k (j + 1) _ (by simp; omega) (by omega) (by omega), List.map_cons, List.append_assoc]
      rfl
    · rw [if_neg (by simpa using hj), List.drop_eq_nil_of_le (by omega)]
      simp
theorem rmultiOf_l1 (l : List Op1) (hl : l.length ≤ 1000) (sm : SmO l) : ∀ (k i : Nat) (acc : List Pie), acc.length ≤ 2 * i → i ≤ l.length → l.length + 1 ≤ i + k → m_cantonref08_Of_l1 l k acc (i : Int) = some (acc ++ piecesS i (l.drop i))
  | 0, i, acc, _, _, h => by omega
  | k + 1, i, acc, ha, h0, h => by
    unfold m_cantonref08_Of_l1
    by_cases hi : i < l.length
    · have h2 := ofS_len l[i]
      rw [if_pos (by simpa using hi), idx_lt hi, List.drop_eq_getElem_cons hi]
      simp only [Option.bind_some]
      rw [rOf_eq _ (sm _ (List.getElem_mem hi)).1]
      simp only [Option.bind_some]
      refine (rmultiOf_l2 _ _ _ h2 (((ofS l[i]).length : Int) - 0 : Int).toNat.succ 0 acc (by omega) (by omega) (by omega)).trans ?_
      rw [inc1 (by omega), rmultiOf_l1 l hl sm k (i + 1) _ (by simp; omega) (by omega) (by omega)]
      simp [piecesS]
    · rw [if_neg (by simpa using hi), List.drop_eq_nil_of_le (by omega)]
      simp [piecesS]
theorem rmultiOf_eq (l : List Op1) (hl : l.length ≤ 1000) (sm : SmO l) : m_cantonref08_Of l = some (piecesL l) := by
  unfold m_cantonref08_Of piecesL
  rw [rmultiMay_eq l (by omega) sm]
  simp only [Option.bind_some]
  cases hm : mayL l with
  | false => rw [if_pos (by rfl), if_neg (by simp)]
  | true =>
    rw [if_neg (by simp), if_pos rfl]
    refine (rmultiOf_l1 l hl sm (((l.length : Int) - 0 : Int).toNat + 1) 0 [] (by simp) (by omega) (by omega)).trans ?_
    simp
/-! ### likeness, of one with itself -/
theorem SameList_l1 (a : List Res) (hl : a.length ≤ 1000000) (hn : ∀ r ∈ a, r.Names.length ≤ 1000000) : ∀ (k i : Nat), i ≤ a.length → a.length + 1 ≤ i + k → m_cantonref06_SameList_l1 a a k (i : Int) = some true
  | 0, i, _, h => by omega
  | k + 1, i, h0, h => by
    unfold m_cantonref06_SameList_l1
    by_cases hi : i < a.length
    · rw [if_pos (by simpa using hi), idx_lt hi]
      simp only [Option.bind_some]
      rw [SameOne_eq _ _ (hn _ (List.getElem_mem hi)), decide_eq_true rfl]
      simp only [Option.bind_some]
      rw [if_neg (by simp), inc1 (by omega)]
      exact SameList_l1 a hl hn k (i + 1) (by omega) (by omega)
    · rw [if_neg (by simpa using hi)]
theorem SameList_self (a : List Res) (hl : a.length ≤ 1000000) (hn : ∀ r ∈ a, r.Names.length ≤ 1000000) : m_cantonref06_SameList a a = some true := by
  unfold m_cantonref06_SameList
  rw [if_neg (by simp)]
  exact SameList_l1 a hl hn (((a.length : Int) - 0 : Int).toNat + 1) 0 (by omega) (by omega)
theorem SamePieces_l1 (a : List Pie) (hl : a.length ≤ 1000000) : ∀ (k i : Nat), i ≤ a.length → a.length + 1 ≤ i + k → m_cantonref08_SamePieces_l1 a a k (i : Int) = some true
  | 0, i, _, h => by omega
  | k + 1, i, h0, h => by
    unfold m_cantonref08_SamePieces_l1
    have es : ∀ s : ByteArray, sEq s s = true := fun s => (sEq_iff s s).2 rfl
    by_cases hi : i < a.length
    · rw [if_pos (by simpa using hi), idx_lt hi]
      simp only [Option.bind_some, es, beq_self_eq_true, Bool.and_self, Bool.not_true, Bool.false_eq_true, if_false]
      rw [inc1 (by omega)]
      exact SamePieces_l1 a hl k (i + 1) (by omega) (by omega)
    · rw [if_neg (by simpa using hi)]
theorem SamePieces_self (a : List Pie) (hl : a.length ≤ 1000000) : m_cantonref08_SamePieces a a = some true := by
  unfold m_cantonref08_SamePieces
  rw [if_neg (by simp)]
  exact SamePieces_l1 a hl (((a.length : Int) - 0 : Int).toNat + 1) 0 (by omega) (by omega)
theorem apply_names {l : List Nd} (T : Tree l) (o : Op1) : (applyS l o).2.Names.length ≤ 512 := by
  unfold applyS createS doS
  repeat' split
  all_goals first | (simp [res]; done) | (simp only [List.length_map]; exact Nat.le_trans (List.length_filter_le _ _) T.len)
theorem runS_ok (t : List Nd) (T0 : Tree t) : ∀ (l : List Op1) (now : List Nd) (i : Nat) (acc : List Res), Tree now → l.all MayB = true → (∀ r ∈ acc, r.Names.length ≤ 512) → Tree (runS t now i l acc).1 ∧ (∀ r ∈ (runS t now i l acc).2.Results, r.Names.length ≤ 512) ∧ (runS t now i l acc).2.Results.length ≤ acc.length + l.length
  | [], now, i, acc, T, _, ha => ⟨T, ha, by simp [runS]⟩
  | o :: l, now, i, acc, T, hm, ha => by
    rw [List.all_cons, Bool.and_eq_true] at hm
    unfold runS
    split
    · exact ⟨T0, by simp, by simp⟩
    · obtain ⟨h1, h2, h3⟩ := runS_ok t T0 l _ (i + 1) (acc ++ [(applyS now o).2]) (Tree_apply T hm.1) hm.2 fun r hr => by
        rcases List.mem_append.1 hr with h | h
        · exact ha r h
        · obtain rfl := List.mem_singleton.1 h
          exact apply_names T o
      exact ⟨h1, h2, by simp at h3 ⊢; omega⟩
theorem pieces_len : ∀ (l : List Op1) (i : Nat), (piecesS i l).length ≤ 2 * l.length
  | [], _ => by simp [piecesS]
  | o :: l, i => by
    have h1 := ofS_len o
    have h2 := pieces_len l (i + 1)
    simp [piecesS]
    omega
theorem mtells_j1 (t : List Nd) (l : List Op1) (hlen : t.length ≤ 1666) (sm : Sm t) (hl : l.length ≤ 40) (so : SmO l) : m_cantonlaw08_MultiTells_j1 true t l false = some true := by
  unfold m_cantonlaw08_MultiTells_j1
  rw [if_neg (by simp)]
  have hr : ∃ r, m_multi_Apply t l = some r ∧ m_cantonref08_Apply t l = some r ∧ r.1.length ≤ 1000 ∧ r.2.Results.length ≤ 1000 ∧ ∀ x ∈ r.2.Results, x.Names.length ≤ 512 := by
    by_cases h : Tree t ∧ mayL l = true
    · have hm := h.2
      unfold mayL at hm
      simp only [Bool.and_eq_true, decide_eq_true_eq] at hm
      obtain ⟨h1, h2, h3⟩ := runS_ok t h.1 l t 0 [] h.1 hm.2 (by simp)
      have := h1.len
      simp at h3
      exact ⟨_, multiApply_eq t l h.1 h.2, rmultiApply_eq t l h.1 so h.2, by omega, by omega, h2⟩
    · exact ⟨_, multiApply_bad t l (by omega) sm (by omega) h, rmultiApply_bad t l (by omega) sm (by omega) so h, by simp, by simp, by simp⟩
  obtain ⟨r, h1, h2, h3, h4, h5⟩ := hr
  rw [h1, h2]
  simp only [Option.bind_some]
  rw [if_pos trivial, multiMay_eq l (by omega), rmultiMay_eq l (by omega) so]
  simp only [Option.bind_some, beq_self_eq_true, if_true]
  rw [Same_eq _ _ (by omega)]
  simp only [Option.bind_some, decide_true, if_true]
  unfold m_cantonref08_SameDone
  simp only [beq_self_eq_true, if_true]
  rw [SameList_self _ (by omega) (fun x hx => by have := h5 x hx; omega)]
  simp only [Option.bind_some, if_true]
  have hp : (piecesL l).length ≤ 80 := by
    unfold piecesL
    split
    · have := pieces_len l 0; omega
    · simp
  rw [multiOf_eq l (by omega), rmultiOf_eq l (by omega) so]
  simp only [Option.bind_some]
  rw [SamePieces_self _ (by omega)]
  rfl
theorem pure_mtells (t : List Nd) (l : List Op1) (hlen : t.length ≤ 140737488351232) : m_cantonlaw08_MultiTells t l = some true := by
  unfold m_cantonlaw08_MultiTells
  rw [head8_t]
  obtain ⟨b, h1, h2⟩ := Great_eq t hlen
  simp only [Option.bind_some]
  rw [h1]
  simp only [Option.bind_some]
  cases b with
  | true => rw [if_pos rfl]; rfl
  | false =>
    rw [if_neg (by simp)]
    obtain ⟨c, h3, h4⟩ := GreatOps_eq l
    rw [h3]
    simp only [Option.bind_some]
    cases c with
    | true => rfl
    | false => exact mtells_j1 t l (h2 rfl).1 (h2 rfl).2 (h4 rfl).1 (h4 rfl).2
end Go.Cb
