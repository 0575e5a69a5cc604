/- Parts, plainly: what each work does, but for turns and puts. -/
import Derived.Test.YtgdfoajophpblaaGreatDoorV2pp
set_option linter.unusedVariables false
set_option linter.unusedSimpArgs false
namespace Go.Cb
open Go.Proofs Go.RowKit

abbrev em : ByteArray := ByteArray.mk #[]
/-! ### Guard, Has, Look, Read, Remove, Alter -/
theorem pguard_eq (l : List Nd) (t : List Tn) (p : Pt1) (hlen : l.length ≤ 1000000) (hs : l.Pairwise (key · < key ·)) :
    m_part_work_guard l t 0 em em 0 [] p = some ((if (ndS l p).2 ≠ 0 then (ndS l p).2 else if (ndS l p).1.Owner ≠ 0 then 65 else 0), em, em, 0, []) := by
  unfold m_part_work_guard m_part_work_guard_j1
  rcases pnode_eq l t p hlen hs with ⟨e, he, h1, h2⟩ | ⟨i, hi, h1, h2, h3, h4, h5, h6⟩
  · rw [h2]
    simp only [Option.bind_some]
    rw [if_neg (by simp), if_neg (by simp), h1, if_pos (by omega)]
  · rw [h5]
    simp only [Option.bind_some]
    rw [if_pos (decide_eq_true (by omega)), idx_lt hi, h1, if_neg (by simp), h2]
    simp only [Option.bind_some]
    by_cases c : (l[i]).Owner = 0
    · rw [if_neg (by simpa using c), if_neg (by simpa using c)]
    · rw [if_pos (by simpa using c), if_pos c]; rfl
theorem phas_eq (l : List Nd) (t : List Tn) (p : Pt1) (hlen : l.length ≤ 1000000) (hs : l.Pairwise (key · < key ·)) :
    m_part_work_has l t 0 em em 0 [] p = some ((ndS l p).2, em, em, 0, []) := by
  unfold m_part_work_has
  rcases pnode_eq l t p hlen hs with ⟨e, he, h1, h2⟩ | ⟨i, hi, h1, h2, h3, h4, h5, h6⟩
  · rw [h2, h1]; rfl
  · rw [h5, h1]; rfl
theorem plook_eq (l : List Nd) (t : List Tn) (p : Pt1) (hlen : l.length ≤ 1000000) (hs : l.Pairwise (key · < key ·)) :
    m_part_work_look l t 0 em em 0 [] p = some ((ndS l p).2, em, em, (if (ndS l p).2 ≠ 0 then 0 else (ndS l p).1.Version), []) := by
  unfold m_part_work_look
  rcases pnode_eq l t p hlen hs with ⟨e, he, h1, h2⟩ | ⟨i, hi, h1, h2, h3, h4, h5, h6⟩
  · rw [h2]
    simp only [Option.bind_some]
    rw [if_neg (by simp), h1, if_pos (by omega)]
  · rw [h5]
    simp only [Option.bind_some]
    rw [if_pos (decide_eq_true (by omega)), idx_lt hi, h1, if_neg (by simp), h2]
    simp only [Option.bind_some]
theorem pread_eq (l : List Nd) (t : List Tn) (p : Pt1) (hlen : l.length ≤ 1000000) (hs : l.Pairwise (key · < key ·)) :
    m_part_work_read l t 0 em em 0 [] p = some ((ndS l p).2, em, (if (ndS l p).2 ≠ 0 then em else (ndS l p).1.Data), (if (ndS l p).2 ≠ 0 then 0 else (ndS l p).1.Version), []) := by
  unfold m_part_work_read
  rcases pnode_eq l t p hlen hs with ⟨e, he, h1, h2⟩ | ⟨i, hi, h1, h2, h3, h4, h5, h6⟩
  · rw [h2]
    simp only [Option.bind_some]
    rw [if_neg (by simp), h1, if_pos (by omega), if_pos (by omega)]
  · rw [h5]
    simp only [Option.bind_some]
    rw [if_pos (decide_eq_true (by omega)), idx_lt hi, h1, if_neg (by simp), if_neg (by simp), h2]
    simp only [Option.bind_some]
theorem premove_eq (l : List Nd) (t : List Tn) (p : Pt1) (hlen : l.length ≤ 1000000) (hs : l.Pairwise (key · < key ·)) :
    m_part_work_remove l t 0 em em 0 [] p = some ((if (ndS l p).2 ≠ 0 then l else l.filter (fun y => !isK (bl p.Path) y)), (ndS l p).2, em, em, 0, []) := by
  unfold m_part_work_remove
  rcases pnode_eq l t p hlen hs with ⟨e, he, h1, h2⟩ | ⟨i, hi, h1, h2, h3, h4, h5, h6⟩
  · rw [h2]
    simp only [Option.bind_some]
    rw [if_neg (by simp), h1, if_pos (by omega)]
  · rw [h5]
    simp only [Option.bind_some]
    rw [if_pos (decide_eq_true (by omega)), h6, h1, if_neg (by simp)]
    simp only [Option.bind_some]
    rw [ck_b ⟨by omega, by omega, by rw [w64 (by omega) (by omega)]⟩, Int.toNat_natCast, erase_filter hs hi, h3]
def altF (p : Pt1) (x : Nd) : Nd := { x with Data := p.Data, Version := x.Version + 1 }
theorem palter_eq (l : List Nd) (t : List Tn) (p : Pt1) (hlen : l.length ≤ 1000000) (hs : l.Pairwise (key · < key ·)) (hv : ∀ x ∈ l, 0 ≤ x.Version ∧ x.Version ≤ 281474976710656) :
    m_part_work_alter l t 0 em em 0 [] p = some (if (ndS l p).2 ≠ 0 then (l, (ndS l p).2, em, em, 0, []) else if (ndS l p).1.Version = 281474976710656 then (l, 2, em, em, 0, []) else (upd l (bl p.Path) (altF p), 0, em, em, (ndS l p).1.Version + 1, [])) := by
  unfold m_part_work_alter
  rcases pnode_eq l t p hlen hs with ⟨e, he, h1, h2⟩ | ⟨i, hi, h1, h2, h3, h4, h5, h6⟩
  · rw [h2]
    simp only [Option.bind_some]
    rw [if_pos (by simp), h1, if_pos (by omega)]
  · rw [h5]
    simp only [Option.bind_some]
    rw [if_neg (by rw [decide_eq_false (by omega)]; simp), idx_lt hi, h1, if_neg (by simp), h2]
    simp only [Option.bind_some]
    by_cases c : (l[i]).Version = 281474976710656
    · rw [if_pos (by simpa using c), if_pos c]; rfl
    · have := hv _ (List.getElem_mem hi)
      rw [if_neg (by simpa using c), if_neg c, w64 (by omega) (by omega)]
      simp only [Int.toNat_natCast, List.set_set]
      rw [← h3, ← set_upd hs hi (altF p)]
      rfl
/-! ### what lies in a node -/
theorem pin_eq (x : Nd) (k : Int) (a b c : ByteArray) (v w : Int) (t : Bool) : m_part_in_1 x k a b c v w t = some (childB (bl b) x) := by
  unfold m_part_in_1 childB
  rw [Parent_eq, show bl x.Path = key x from rfl]
  simp only [Option.bind_some]
  cases h : parentS (key x) with
  | none => rw [if_neg (by simp [os2])]; simp
  | some q => rw [if_pos (by simp [os2]), sEq_bl]; simp [os2, bl_mk]; rfl
theorem pidx_l1 (l : List Nd) (kd : Int) (a b c : ByteArray) (v w : Int) (t : Bool) (hlen : l.length ≤ 1000000) : ∀ (k j : Nat), j ≤ l.length → l.length + 1 ≤ j + k → ∃ z : Int, m_slices_IndexFunc_api_Node_api_Node_4_l1 l kd a b c v w t k (j : Int) = some z ∧ decide (z ≥ 0) = (l.drop j).any (childB (bl b))
  | 0, j, _, h => by omega
  | k + 1, j, h0, h => by
    unfold m_slices_IndexFunc_api_Node_api_Node_4_l1
    by_cases hj : j < l.length
    · rw [if_pos (by simpa using hj), idx_lt hj]
      simp only [Option.bind_some]
      rw [pin_eq]
      simp only [Option.bind_some]
      rw [List.drop_eq_getElem_cons hj, List.any_cons]
      cases hc : childB (bl b) l[j] with
      | true => rw [if_pos rfl]; exact ⟨_, rfl, by simp⟩
      | false =>
        rw [if_neg (by simp), inc1 (by omega)]
        obtain ⟨z, h1, h2⟩ := pidx_l1 l kd a b c v w t hlen k (j + 1) (by omega) (by omega)
        exact ⟨z, h1, by rw [h2, Bool.false_or]⟩
    · rw [if_neg (by simpa using hj), List.drop_eq_nil_of_le (by omega)]
      exact ⟨_, rfl, rfl⟩
theorem pany_eq (l : List Nd) (kd : Int) (a b c : ByteArray) (v w : Int) (t : Bool) (hlen : l.length ≤ 1000000) : m_slices_ContainsFunc_api_Node_api_Node_2 l kd a b c v w t = some (l.any (childB (bl b))) := by
  unfold m_slices_ContainsFunc_api_Node_api_Node_2 m_slices_IndexFunc_api_Node_api_Node_4
  obtain ⟨z, h1, h2⟩ := pidx_l1 l kd a b c v w t hlen (((l.length : Int) - 0 : Int).toNat + 1) 0 (by omega) (by omega)
  rw [show m_slices_IndexFunc_api_Node_api_Node_4_l1 l kd a b c v w t (((l.length : Int) - 0 : Int).toNat + 1) 0 = some z from h1]
  simp only [Option.bind_some]
  rw [h2, List.drop_zero]
theorem pnames_l1 (l : List Nd) (u : Int × ByteArray × ByteArray × ByteArray × Int × Int × Bool) (hlen : l.length ≤ 1000000) : ∀ (k j : Nat) (acc : List ByteArray), j ≤ l.length → l.length + 1 ≤ j + k → acc.length ≤ j → m_part_work_names_l1 l u k (j : Int) acc = some (acc ++ ((l.drop j).filter (childB (bl u.2.2.1))).map lastN)
  | 0, j, acc, _, h, _ => by omega
  | k + 1, j, acc, h0, h, ha => by
    unfold m_part_work_names_l1 m_part_work_names_j1
    by_cases hj : j < l.length
    · rw [if_pos (by simpa using hj), idx_lt hj]
      simp only [Option.bind_some]
      rw [pin_eq, inc1 (by omega)]
      simp only [Option.bind_some]
      rw [List.drop_eq_getElem_cons hj, List.filter_cons]
      cases hc : childB (bl u.2.2.1) l[j] with
      | true =>
        rw [if_pos rfl, if_pos rfl, Last_eq]
        simp only [Option.bind_some]
        rw [ck_b (by simp [LIM]; omega), pnames_l1 l u hlen k (j + 1) _ (by omega) (by omega) (by simp; omega), show mk (lastS (bl (l[j]).Path)) = lastN l[j] from rfl]
        simp
      | false =>
        rw [if_neg (by simp), if_neg (by simp), pnames_l1 l u hlen k (j + 1) _ (by omega) (by omega) (by omega)]
    · rw [if_neg (by simpa using hj), List.drop_eq_nil_of_le (by omega), List.filter_nil, List.map_nil, List.append_nil]
theorem pnames_eq (l : List Nd) (t : List Tn) (p : Pt1) (hlen : l.length ≤ 1000000) : m_part_work_names l t 0 em em 0 [] p = some ((l.filter (childB (bl p.Path))).map lastN) := by
  unfold m_part_work_names m_part_in
  simp only [Option.bind_some]
  refine (pnames_l1 l _ hlen (((l.length : Int) - 0 : Int).toNat + 1) 0 [] (by omega) (by omega) (by simp)).trans ?_
  simp
/-! ### Clear -/
theorem clear1_eq (x : Nd) (k : Int) (s4 s5 s6 : ByteArray) (v w : Int) (t : Bool) (k2 : Int) (r4 r5 r6 : ByteArray) (v2 w2 : Int) (t2 : Bool) (l : List Nd) (tt : List Tn) (a : Int) (b c : ByteArray) (d : Int) (acc : List ByteArray) (ha : acc.length ≤ 1000000) : m_part_work_clear_1 x k s4 s5 s6 v w t k2 r4 r5 r6 v2 w2 t2 l tt a b c d acc = some (ownB (bl r5) w x, if ownB (bl r5) w x = true then acc ++ [lastN x] else acc) := by
  unfold m_part_work_clear_1 m_part_work_clear_1_j1 m_part_work_clear_1_j2 ownB
  by_cases h : x.Owner = w
  · rw [if_pos (by simpa using h), pin_eq]
    simp only [Option.bind_some]
    rw [show (x.Owner == w) = true from by simpa using h, Bool.true_and]
    cases hc : childB (bl r5) x with
    | true =>
      rw [if_pos rfl, if_pos rfl, Last_eq]
      simp only [Option.bind_some]
      rw [ck_b (by simp [LIM]; omega)]
      rfl
    | false => rw [if_neg (by simp), if_neg (by simp)]
  · rw [if_neg (by simpa using h), if_neg (by simp), show (x.Owner == w) = false from by simpa using h, Bool.false_and, if_neg (by simp)]
theorem pidxs_l1 (l : List Nd) (kd : Int) (s4 s5 s6 : ByteArray) (v w : Int) (t : Bool) (k2 : Int) (r4 r5 r6 : ByteArray) (v2 w2 : Int) (t2 : Bool) (tt : List Tn) (a : Int) (b c : ByteArray) (d : Int) (acc : List ByteArray) (ha : acc.length ≤ 500000) (hlen : l.length ≤ 500000) : ∀ (k j : Nat), j ≤ l.length → l.length + 1 ≤ j + k → (∀ m (h : m < l.length), m < j → ownB (bl r5) w l[m] = false) →
    (∃ i : Nat, ∃ hi : i < l.length, m_slices_IndexFunc_api_Node_api_Node_3_l1 l kd s4 s5 s6 v w t k2 r4 r5 r6 v2 w2 t2 tt a b c d k (j : Int) acc = some ((i : Int), acc ++ [lastN l[i]]) ∧ ownB (bl r5) w l[i] = true ∧ ∀ m (h : m < l.length), m < i → ownB (bl r5) w l[m] = false) ∨ (m_slices_IndexFunc_api_Node_api_Node_3_l1 l kd s4 s5 s6 v w t k2 r4 r5 r6 v2 w2 t2 tt a b c d k (j : Int) acc = some (-1, acc) ∧ ∀ m (h : m < l.length), ownB (bl r5) w l[m] = false)
  | 0, j, _, h, _ => by omega
  | k + 1, j, h0, h, hb => by
    unfold m_slices_IndexFunc_api_Node_api_Node_3_l1
    by_cases hj : j < l.length
    · rw [if_pos (by simpa using hj), idx_lt hj]
      simp only [Option.bind_some]
      rw [clear1_eq _ _ _ _ _ _ _ _ _ _ _ _ _ _ _ _ _ _ _ _ _ _ (by omega)]
      simp only [Option.bind_some]
      cases hc : ownB (bl r5) w l[j] with
      | true => exact .inl ⟨j, hj, by rw [if_pos rfl, if_pos rfl], hc, fun m h hm => hb m h hm⟩
      | false =>
        rw [if_neg (by simp), if_neg (by simp), inc1 (by omega)]
        refine pidxs_l1 l kd s4 s5 s6 v w t k2 r4 r5 r6 v2 w2 t2 tt a b c d acc ha hlen k (j + 1) (by omega) (by omega) fun m h hm => ?_
        by_cases e : m = j
        · subst e; exact hc
        · exact hb m h (by omega)
    · rw [if_neg (by simpa using hj)]
      exact .inr ⟨rfl, fun m h => hb m h (by omega)⟩
theorem pdel_l1 (l0 : List Nd) (kd : Int) (s4 s5 s6 : ByteArray) (v w : Int) (t : Bool) (k2 : Int) (r4 r5 r6 : ByteArray) (v2 w2 : Int) (t2 : Bool) (tt : List Tn) (a : Int) (b c : ByteArray) (d : Int) (hlen : l0.length ≤ 500000) : ∀ (k i j : Nat) (l : List Nd) (acc : List ByteArray), l.length = l0.length → i ≤ j → j ≤ l0.length → l0.length + 1 ≤ j + k → acc.length ≤ j → l.take i = (l0.take j).filter (fun x => !ownB (bl r5) w x) → l.drop j = l0.drop j →
    m_slices_DeleteFunc_api_Node_api_Node_1_l1 kd s4 s5 s6 v w t k2 r4 r5 r6 v2 w2 t2 tt a b c d k l (i : Int) (j : Int) acc = some (l0.filter (fun x => !ownB (bl r5) w x), acc ++ ((l0.drop j).filter (ownB (bl r5) w)).map lastN)
  | 0, i, j, l, acc, _, _, _, h, _, _, _ => by omega
  | k + 1, i, j, l, acc, hl, hij, hj0, h, ha, ht, hd => by
    unfold m_slices_DeleteFunc_api_Node_api_Node_1_l1 m_slices_DeleteFunc_api_Node_api_Node_1_j1
    by_cases hj : j < l.length
    · have hj' : j < l0.length := by omega
      have hjx : l[j] = l0[j] := by
        have h1 : l[j]? = l0[j]? := by
          have := congrArg (fun z : List Nd => z[0]?) hd
          simpa [List.getElem?_drop] using this
        rw [List.getElem?_eq_getElem hj, List.getElem?_eq_getElem hj'] at h1
        exact Option.some.inj h1
      rw [if_pos (by simpa using hj), idx_lt hj]
      simp only [Option.bind_some]
      rw [hjx]
      rw [clear1_eq _ _ _ _ _ _ _ _ _ _ _ _ _ _ _ _ _ _ _ _ _ _ (by omega)]
      simp only [Option.bind_some]
      have hd' : l0.drop j = l0[j] :: l0.drop (j + 1) := List.drop_eq_getElem_cons hj'
      cases hc : ownB (bl r5) w l0[j] with
      | false =>
        rw [if_pos (by rfl), idx_lt (show i < l.length by omega)]
        simp only [Option.bind_some, Int.toNat_natCast]
        rw [if_neg (by simp), inc1 (show i ≤ 1000000000 by omega), inc1 (show j ≤ 1000000000 by omega)]
        rw [pdel_l1 l0 kd s4 s5 s6 v w t k2 r4 r5 r6 v2 w2 t2 tt a b c d hlen k (i + 1) (j + 1) (l.set i l0[j]) acc (by simpa using hl) (by omega) (by omega) (by omega) (by omega) ?_ ?_]
        · rw [hd', List.filter_cons, if_neg (by simp [hc])]
        · rw [filt_split hj', hc, ← ht, List.take_add_one]
          rw [List.getElem?_set_self (by omega), List.take_set_of_le (by omega)]
          simp
        · rw [List.drop_set_of_lt (by omega), ← List.drop_drop, hd, ← List.drop_drop]
      | true =>
        rw [if_neg (by simp), if_pos rfl, inc1 (show j ≤ 1000000000 by omega)]
        rw [pdel_l1 l0 kd s4 s5 s6 v w t k2 r4 r5 r6 v2 w2 t2 tt a b c d hlen k i (j + 1) l _ hl (by omega) (by omega) (by omega) (by simp; omega) ?_ ?_]
        · rw [hd', List.filter_cons, if_pos (by simp [hc])]; simp
        · rw [filt_split hj', hc, ht]; simp
        · rw [← List.drop_drop, hd, ← List.drop_drop]
    · have hje : j = l0.length := by omega
      subst hje
      rw [if_neg (by simpa using hj), ck_b (by omega)]
      have hti : l.take i = l0.filter (fun x => !ownB (bl r5) w x) := by rw [ht, List.take_length]
      simp only [Int.toNat_natCast]
      rw [ck_b (by rw [List.length_append, List.length_take, List.length_replicate]; omega)]
      have : (l.take i ++ List.replicate (l.length - i) (⟨⟨#[]⟩, ⟨#[]⟩, 0, 0, 0⟩ : Nd)).take i = l.take i := by
        rw [List.take_append_of_le_length (by rw [List.length_take]; omega), List.take_take, Nat.min_self]
      rw [this, hti, List.drop_length]
      simp
theorem pclear_eq (l : List Nd) (t : List Tn) (p : Pt1) (hlen : l.length ≤ 500000) : m_part_work_clear l t 0 em em 0 [] p = some (l.filter (fun x => !ownB (bl p.Path) p.Owner x), (l.filter (ownB (bl p.Path) p.Owner)).map lastN) := by
  unfold m_part_work_clear m_part_in
  simp only [Option.bind_some]
  unfold m_slices_DeleteFunc_api_Node_api_Node_1 m_slices_IndexFunc_api_Node_api_Node_3
  rcases pidxs_l1 l p.Kind p.Dir p.Path p.Data p.Version p.Owner p.Turns p.Kind p.Dir p.Path p.Data p.Version p.Owner p.Turns t 0 em em 0 [] (by simp) hlen (((l.length : Int) - 0 : Int).toNat + 1) 0 (by omega) (by omega) (fun m h hm => by omega) with ⟨j, hj, h1, h2, h3⟩ | ⟨h1, h3⟩
  · rw [show m_slices_IndexFunc_api_Node_api_Node_3_l1 l p.Kind p.Dir p.Path p.Data p.Version p.Owner p.Turns p.Kind p.Dir p.Path p.Data p.Version p.Owner p.Turns t 0 em em 0 (((l.length : Int) - 0 : Int).toNat + 1) 0 [] = some ((j : Int), [] ++ [lastN l[j]]) from h1]
    simp only [Option.bind_some]
    rw [if_neg (by simp only [beq_iff_eq]; omega), inc1 (by omega)]
    have htk : (l.take j).filter (fun x => !ownB (bl p.Path) p.Owner x) = l.take j := List.filter_eq_self.2 fun y hy => by
      obtain ⟨m, hm, rfl⟩ := List.mem_take_iff_getElem.1 hy
      rw [h3 m (by omega) (by omega)]; rfl
    have htk2 : (l.take j).filter (ownB (bl p.Path) p.Owner) = [] := List.filter_eq_nil_iff.2 fun y hy => by
      obtain ⟨m, hm, rfl⟩ := List.mem_take_iff_getElem.1 hy
      rw [h3 m (by omega) (by omega)]; simp
    rw [pdel_l1 l p.Kind p.Dir p.Path p.Data p.Version p.Owner p.Turns p.Kind p.Dir p.Path p.Data p.Version p.Owner p.Turns t 0 em em 0 hlen _ j (j + 1) l _ rfl (by omega) (by omega) (by omega) (by simp) ?_ rfl]
    · simp only [Option.bind_some]
      have : l.filter (ownB (bl p.Path) p.Owner) = l[j] :: (l.drop (j + 1)).filter (ownB (bl p.Path) p.Owner) := by
        have e : ∀ f : Nd → Bool, l.filter f = (l.take j).filter f ++ (l[j] :: l.drop (j + 1)).filter f := fun f => by rw [← List.filter_append, ← List.drop_eq_getElem_cons hj, List.take_append_drop]
        rw [e, htk2, List.filter_cons, if_pos h2]
        rfl
      rw [this]
      rfl
    · rw [filt_split hj, htk, h2]; simp
  · rw [show m_slices_IndexFunc_api_Node_api_Node_3_l1 l p.Kind p.Dir p.Path p.Data p.Version p.Owner p.Turns p.Kind p.Dir p.Path p.Data p.Version p.Owner p.Turns t 0 em em 0 (((l.length : Int) - 0 : Int).toNat + 1) 0 [] = some (-1, []) from h1]
    simp only [Option.bind_some]
    have f1 : l.filter (fun x => !ownB (bl p.Path) p.Owner x) = l := List.filter_eq_self.2 fun y hy => by
      obtain ⟨m, hm, rfl⟩ := List.mem_iff_getElem.1 hy
      rw [h3 m hm]; rfl
    have f2 : l.filter (ownB (bl p.Path) p.Owner) = [] := List.filter_eq_nil_iff.2 fun y hy => by
      obtain ⟨m, hm, rfl⟩ := List.mem_iff_getElem.1 hy
      rw [h3 m hm]; simp
    rw [f1, f2]
    rfl
end Go.Cb
