/- Nodes, plainly: what an operation makes of a tree. -/
import Derived.Test.YtgdfoajophpblaaGreatDoorQ6mp
import Derived.Test.YtgdfoajophpblaaGreatDoorKmp1
set_option linter.unusedVariables false
set_option linter.unusedSimpArgs false
namespace Go.Cb
open Go.Proofs Go.RowKit

abbrev Res := S_api_Result
def res (e : Int) : Res := ⟨e, mk [], mk [], 0, []⟩
def childB (p : List UInt8) (x : Nd) : Bool := decide (parentS (key x) = some p)
theorem in_eq (x : Nd) (s : ByteArray) : m_nodes_in x s = some (childB (bl s) x) := by
  unfold m_nodes_in childB
  rw [Parent_eq, show bl x.Path = key x from rfl]
  simp only [Option.bind_some]
  cases h : parentS (key x) with
  | none => rw [if_neg (by simp [os2])]; simp
  | some q => rw [if_pos (by simp [os2]), sEq_bl]; simp [os2, bl_mk]; rfl
theorem in_eta (x : Nd) (s : ByteArray) : m_nodes_in (⟨x.Path, x.Data, x.Version, x.Turn, x.Owner⟩ : Nd) s = some (childB (bl s) x) := in_eq x s
/-! ### Delete -/
theorem idx1_l1 (l m : List Nd) (i : Nat) (hi : i < m.length) (hlen : l.length ≤ 1000000) : ∀ (k j : Nat), j ≤ l.length → l.length + 1 ≤ j + k → ∃ v : Int, m_slices_IndexFunc_api_Node_api_Node_1_l1 l m (i : Int) k (j : Int) = some v ∧ (decide (v ≥ 0) = (l.drop j).any (childB (key m[i])))
  | 0, j, _, h => by omega
  | k + 1, j, h0, h => by
    unfold m_slices_IndexFunc_api_Node_api_Node_1_l1
    by_cases hj : j < l.length
    · rw [if_pos (by simpa using hj), idx_lt hj]
      simp only [Option.bind_some]
      unfold m_nodes_remove_1
      rw [idx_lt hi]
      simp only [Option.bind_some]
      rw [in_eta]
      simp only [Option.bind_some]
      rw [List.drop_eq_getElem_cons hj, List.any_cons, show bl (m[i]).Path = key m[i] from rfl]
      cases hc : childB (key m[i]) l[j] with
      | true => rw [if_pos rfl]; exact ⟨_, rfl, by simp⟩
      | false =>
        rw [if_neg (by simp), show IntKind.i64.wrap ((j : Int) + 1) = ((j + 1 : Nat) : Int) from by rw [w64 (by omega) (by omega)]; omega]
        obtain ⟨v, h1, h2⟩ := idx1_l1 l m i hi hlen k (j + 1) (by omega) (by omega)
        exact ⟨v, h1, by rw [h2, Bool.false_or]⟩
    · rw [if_neg (by simpa using hj), List.drop_eq_nil_of_le (by omega)]
      exact ⟨_, rfl, rfl⟩
theorem erase_filter {l : List Nd} (h : l.Pairwise (key · < key ·)) {i : Nat} (hi : i < l.length) : l.eraseIdx i = l.filter (fun y => !isK (key l[i]) y) := by
  have hs := List.pairwise_iff_getElem.1 h
  have e : l = l.take i ++ l[i] :: l.drop (i + 1) := by rw [← List.drop_eq_getElem_cons hi, List.take_append_drop]
  rw [List.eraseIdx_eq_take_drop_succ]
  obtain ⟨p, hp⟩ : ∃ p, p = key l[i] := ⟨_, rfl⟩
  rw [← hp]
  have e2 : l.filter (fun y => !isK p y) = (l.take i ++ l[i] :: l.drop (i + 1)).filter (fun y => !isK p y) := by rw [← e]
  rw [e2, List.filter_append, List.filter_cons, if_neg (by simp [isK, hp])]
  congr 1
  · refine (List.filter_eq_self.2 fun y hy => ?_).symm
    obtain ⟨j, hj, rfl⟩ := List.mem_take_iff_getElem.1 hy
    have := kl_ne (hs j i (by omega) hi (by omega))
    simpa [isK, hp] using this
  · refine (List.filter_eq_self.2 fun y hy => ?_).symm
    obtain ⟨j, hj, rfl⟩ := List.mem_drop_iff_getElem.1 hy
    have := kl_ne (hs i (i + 1 + j) hi (by omega) (by omega))
    simpa [isK, hp] using this.symm
def upd (l : List Nd) (p : List UInt8) (f : Nd → Nd) : List Nd := l.map fun z => if isK p z then f z else z
theorem set_upd {l : List Nd} (h : l.Pairwise (key · < key ·)) {i : Nat} (hi : i < l.length) (f : Nd → Nd) : l.set i (f l[i]) = upd l (key l[i]) f := by
  have hs := List.pairwise_iff_getElem.1 h
  unfold upd
  apply List.ext_getElem (by simp)
  intro j h1 h2
  simp at h1
  rw [List.getElem_map, List.getElem_set]
  by_cases e : i = j
  · subst e; rw [if_pos rfl, if_pos (by simp [isK])]
  · rw [if_neg e, if_neg]
    rw [isK]
    simp only [decide_eq_true_eq]
    rcases Nat.lt_or_gt_of_ne e with c | c
    · exact (kl_ne (hs i j hi h1 c)).symm
    · exact kl_ne (hs j i h1 hi c)
theorem remove_eq (l : List Nd) (o : Op1) {i : Nat} (hi : i < l.length) (hlen : l.length ≤ 1000000) (h : l.Pairwise (key · < key ·)) : m_nodes_remove l (i : Int) o = some (if l.any (childB (key l[i])) = true then (l, res 64) else (l.filter (fun y => !isK (key l[i]) y), res 0)) := by
  unfold m_nodes_remove m_slices_ContainsFunc_api_Node_api_Node m_slices_IndexFunc_api_Node_api_Node_1
  obtain ⟨v, h1, h2⟩ := idx1_l1 l l i hi hlen (((l.length : Int) - 0 : Int).toNat + 1) 0 (by omega) (by omega)
  rw [show m_slices_IndexFunc_api_Node_api_Node_1_l1 l l (i : Int) (((l.length : Int) - 0 : Int).toNat + 1) 0 = some v from h1]
  simp only [Option.bind_some]
  rw [h2, List.drop_zero]
  cases hc : l.any (childB (key l[i])) with
  | true => rw [if_pos rfl, if_pos rfl]; rfl
  | false =>
    rw [if_neg (by simp), if_neg (by simp), ck_b (by simp [LIM]; omega), ck_b ⟨by omega, by omega, by rw [w64 (by omega) (by omega)]⟩, Int.toNat_natCast, erase_filter h hi]
    rfl
/-! ### Set, Check, Get -/
def setF (o : Op1) (x : Nd) : Nd := { x with Data := o.Data, Version := x.Version + 1 }
theorem set_eq (l : List Nd) (o : Op1) {i : Nat} (hi : i < l.length) (hlen : l.length ≤ 1000000) (h : l.Pairwise (key · < key ·)) (hv : 0 ≤ (l[i]).Version ∧ (l[i]).Version ≤ 281474976710656) : m_nodes_set l (i : Int) o = some (if (l[i]).Version = 281474976710656 then (l, res 2) else (upd l (key l[i]) (setF o), { res 0 with Version := (l[i]).Version + 1 })) := by
  unfold m_nodes_set
  rw [idx_lt hi]
  simp only [Option.bind_some]
  by_cases c : (l[i]).Version = 281474976710656
  · rw [if_pos (by simpa using c), if_pos c]; rfl
  · have e0 : IntKind.i64.wrap ((l[i]).Version + 1) = (l[i]).Version + 1 := w64 (by omega) (by omega)
    rw [if_neg (by simpa using c), if_neg c, ck_b (by simp [LIM]; omega)]
    simp only [Int.toNat_natCast]
    rw [idx_lt (by simpa using hi)]
    simp only [Option.bind_some, List.getElem_set_self]
    rw [idx_lt (by simpa using hi)]
    simp only [Option.bind_some, List.getElem_set_self, List.set_set, e0]
    rw [← set_upd h hi (setF o)]
    rfl
theorem check_eq (l : List Nd) (o : Op1) {i : Nat} (hi : i < l.length) : m_nodes_check l (i : Int) o = some (l, { res 0 with Version := (l[i]).Version }) := by
  unfold m_nodes_check; rw [idx_lt hi]; rfl
theorem get_eq (l : List Nd) (o : Op1) {i : Nat} (hi : i < l.length) : m_nodes_get l (i : Int) o = some (l, { res 0 with Data := (l[i]).Data, Version := (l[i]).Version }) := by
  unfold m_nodes_get; rw [idx_lt hi]; simp only [Option.bind_some]; rfl
/-! ### List -/
def lastN (x : Nd) : ByteArray := mk (lastS (key x))
theorem list_l1 (l : List Nd) {i : Nat} (hi : i < l.length) (hlen : l.length ≤ 1000000) : ∀ (k j : Nat) (acc : List ByteArray), j ≤ l.length → l.length + 1 ≤ j + k → acc.length ≤ j → m_nodes_list_l1 l (i : Int) k (j : Int) acc = some (l, { res 0 with Names := acc ++ ((l.drop j).filter (childB (key l[i]))).map lastN })
  | 0, j, acc, _, h, _ => by omega
  | k + 1, j, acc, h0, h, ha => by
    unfold m_nodes_list_l1 m_nodes_list_j1
    by_cases hj : j < l.length
    · have e1 : IntKind.i64.wrap ((j : Int) + 1) = ((j + 1 : Nat) : Int) := by rw [w64 (by omega) (by omega)]; omega
      rw [if_pos (by simpa using hj), idx_lt hj]
      simp only [Option.bind_some]
      rw [idx_lt hi]
      simp only [Option.bind_some]
      rw [in_eta, e1]
      simp only [Option.bind_some]
      rw [List.drop_eq_getElem_cons hj, show bl (l[i]).Path = key l[i] from rfl, List.filter_cons]
      cases hc : childB (key l[i]) l[j] with
      | true =>
        rw [if_pos rfl, if_pos rfl, Last_eq]
        simp only [Option.bind_some]
        rw [ck_b (by simp [LIM]; omega), list_l1 l hi hlen k (j + 1) _ (by omega) (by omega) (by simp; omega), show mk (lastS (bl (l[j]).Path)) = lastN l[j] from rfl]
        simp
      | false =>
        rw [if_neg (by simp), if_neg (by simp), list_l1 l hi hlen k (j + 1) _ (by omega) (by omega) (by omega)]
    · rw [if_neg (by simpa using hj), List.drop_eq_nil_of_le (by omega), List.filter_nil, List.map_nil, List.append_nil]
      rfl
theorem list_eq (l : List Nd) (o : Op1) {i : Nat} (hi : i < l.length) (hlen : l.length ≤ 1000000) : m_nodes_list l (i : Int) o = some (l, { res 0 with Names := (l.filter (childB (key l[i]))).map lastN }) := by
  unfold m_nodes_list
  have := list_l1 l hi hlen (((l.length : Int) - 0 : Int).toNat + 1) 0 [] (by omega) (by omega) (by simp)
  refine this.trans ?_
  simp
/-! ### Sweep -/
def ownB (p : List UInt8) (w : Int) (x : Nd) : Bool := (x.Owner == w) && childB p x
theorem sweep1_eq (x : Nd) (k : Int) (s4 s5 : ByteArray) (v w : Int) (t : Bool) (s : ByteArray) (a : Int) (b c : ByteArray) (d : Int) (acc : List ByteArray) (ha : acc.length ≤ 1000000) : m_nodes_sweep_1 x k s4 s5 v w t s a b c d acc = some (ownB (bl s) w x, if ownB (bl s) w x = true then acc ++ [lastN x] else acc) := by
  unfold m_nodes_sweep_1 m_nodes_sweep_1_j1 m_nodes_sweep_1_j2 ownB
  by_cases h : x.Owner = w
  · rw [if_pos (by simpa using h), in_eta]
    simp only [Option.bind_some]
    rw [show (x.Owner == w) = true from by simpa using h, Bool.true_and]
    cases hc : childB (bl s) x with
    | true =>
      rw [if_pos rfl, if_pos rfl, Last_eq]
      simp only [Option.bind_some]
      rw [ck_b (by simp [LIM]; omega)]
      rfl
    | false => rw [if_neg (by simp), if_neg (by simp)]
  · rw [if_neg (by simpa using h), if_neg (by simp), show (x.Owner == w) = false from by simpa using h, Bool.false_and, if_neg (by simp)]
theorem filt_split {l : List Nd} {f : Nd → Bool} {i : Nat} (hi : i < l.length) : (l.take (i + 1)).filter f = (l.take i).filter f ++ if f l[i] = true then [l[i]] else [] := by
  rw [List.take_add_one, List.getElem?_eq_getElem hi, List.filter_append]
  congr 1
  simp [List.filter_cons]
theorem idxs_l1 (l : List Nd) (kd : Int) (s4 s5 : ByteArray) (v w : Int) (t : Bool) (s : ByteArray) (a : Int) (b c : ByteArray) (d : Int) (acc : List ByteArray) (ha : acc.length ≤ 500000) (hlen : l.length ≤ 500000) : ∀ (k j : Nat), j ≤ l.length → l.length + 1 ≤ j + k → (∀ m (h : m < l.length), m < j → ownB (bl s) w l[m] = false) →
    (∃ i : Nat, ∃ hi : i < l.length, m_slices_IndexFunc_api_Node_api_Node_l1 l kd s4 s5 v w t s a b c d k (j : Int) acc = some ((i : Int), acc ++ [lastN l[i]]) ∧ ownB (bl s) w l[i] = true ∧ ∀ m (h : m < l.length), m < i → ownB (bl s) w l[m] = false) ∨ (m_slices_IndexFunc_api_Node_api_Node_l1 l kd s4 s5 v w t s a b c d k (j : Int) acc = some (-1, acc) ∧ ∀ m (h : m < l.length), ownB (bl s) w l[m] = false)
  | 0, j, _, h, _ => by omega
  | k + 1, j, h0, h, hb => by
    unfold m_slices_IndexFunc_api_Node_api_Node_l1
    by_cases hj : j < l.length
    · rw [if_pos (by simpa using hj), idx_lt hj]
      simp only [Option.bind_some]
      rw [sweep1_eq _ _ _ _ _ _ _ _ _ _ _ _ _ (by omega)]
      simp only [Option.bind_some]
      cases hc : ownB (bl s) w l[j] with
      | true => exact .inl ⟨j, hj, by rw [if_pos rfl, if_pos rfl], hc, fun m h hm => hb m h hm⟩
      | false =>
        rw [if_neg (by simp), if_neg (by simp), show IntKind.i64.wrap ((j : Int) + 1) = ((j + 1 : Nat) : Int) from by rw [w64 (by omega) (by omega)]; omega]
        refine idxs_l1 l kd s4 s5 v w t s a b c d acc ha hlen k (j + 1) (by omega) (by omega) fun m h hm => ?_
        by_cases e : m = j
        · subst e; exact hc
        · exact hb m h (by omega)
    · rw [if_neg (by simpa using hj)]
      exact .inr ⟨rfl, fun m h => hb m h (by omega)⟩
theorem del_l1 (l0 : List Nd) (kd : Int) (s4 s5 : ByteArray) (v w : Int) (t : Bool) (s : ByteArray) (a : Int) (b c : ByteArray) (d : Int) (hlen : l0.length ≤ 500000) : ∀ (k i j : Nat) (l : List Nd) (acc : List ByteArray), l.length = l0.length → i ≤ j → j ≤ l0.length → l0.length + 1 ≤ j + k → acc.length ≤ j → l.take i = (l0.take j).filter (fun x => !ownB (bl s) w x) → l.drop j = l0.drop j →
    m_slices_DeleteFunc_api_Node_api_Node_l1 kd s4 s5 v w t s a b c d k l (i : Int) (j : Int) acc = some (l0.filter (fun x => !ownB (bl s) w x), acc ++ ((l0.drop j).filter (ownB (bl s) w)).map lastN)
  | 0, i, j, l, acc, _, _, _, h, _, _, _ => by omega
  | k + 1, i, j, l, acc, hl, hij, hj0, h, ha, ht, hd => by
    unfold m_slices_DeleteFunc_api_Node_api_Node_l1 m_slices_DeleteFunc_api_Node_api_Node_j1
    have e1 : ∀ q : Nat, q ≤ 500000 → IntKind.i64.wrap ((q : Int) + 1) = ((q + 1 : Nat) : Int) := fun q hq => by rw [w64 (by omega) (by omega)]; omega
    by_cases hj : j < l.length
    · have hj' : j < l0.length := by omega
      have hjx : l[j] = l0[j] := by
        have h1 : l[j]? = l0[j]? := by
          have := congrArg (fun z : List Nd => z[0]?) hd
          simpa [List.getElem?_drop] using this
        rw [List.getElem?_eq_getElem hj, List.getElem?_eq_getElem hj'] at h1
        exact Option.some.inj h1
      rw [if_pos (by simpa using hj), idx_lt hj]
      simp only [Option.bind_some]
      rw [hjx]
      rw [sweep1_eq _ _ _ _ _ _ _ _ _ _ _ _ _ (by omega)]
      simp only [Option.bind_some]
      have hd' : l0.drop j = l0[j] :: l0.drop (j + 1) := List.drop_eq_getElem_cons hj'
      cases hc : ownB (bl s) w l0[j] with
      | false =>
        rw [if_pos (by rfl), idx_lt (show i < l.length by omega)]
        simp only [Option.bind_some, Int.toNat_natCast]
        rw [if_neg (by simp), e1 i (by omega), e1 j (by omega)]
        rw [del_l1 l0 kd s4 s5 v w t s a b c d hlen k (i + 1) (j + 1) (l.set i l0[j]) acc (by simpa using hl) (by omega) (by omega) (by omega) (by omega) ?_ ?_]
        · rw [hd', List.filter_cons, if_neg (by simp [hc])]
        · rw [filt_split hj', hc, ← ht, List.take_add_one]
          rw [List.getElem?_set_self (by omega), List.take_set_of_le (by omega)]
          simp
        · rw [List.drop_set_of_lt (by omega), ← List.drop_drop, hd, ← List.drop_drop]
      | true =>
        rw [if_neg (by simp), if_pos rfl, e1 j (by omega)]
        rw [del_l1 l0 kd s4 s5 v w t s a b c d hlen k i (j + 1) l _ hl (by omega) (by omega) (by omega) (by simp; omega) ?_ ?_]
        · rw [hd', List.filter_cons, if_pos (by simp [hc])]; simp
        · rw [filt_split hj', hc, ht]; simp
        · rw [← List.drop_drop, hd, ← List.drop_drop]
    · have hje : j = l0.length := by omega
      subst hje
      rw [if_neg (by simpa using hj), ck_b (by omega)]
      have hti : l.take i = l0.filter (fun x => !ownB (bl s) w x) := by rw [ht, List.take_length]
      simp only [Int.toNat_natCast]
      rw [ck_b (by rw [List.length_append, List.length_take, List.length_replicate]; omega)]
      have : (l.take i ++ List.replicate (l.length - i) (⟨⟨#[]⟩, ⟨#[]⟩, 0, 0, 0⟩ : Nd)).take i = l.take i := by
        rw [List.take_append_of_le_length (by rw [List.length_take]; omega), List.take_take, Nat.min_self]
      rw [this, hti, List.drop_length]
      simp
theorem sweep_eq (l : List Nd) (o : Op1) {i : Nat} (hi : i < l.length) (hlen : l.length ≤ 500000) : m_nodes_sweep l (i : Int) o = some (l.filter (fun x => !ownB (key l[i]) o.Owner x), { res 0 with Names := (l.filter (ownB (key l[i]) o.Owner)).map lastN }) := by
  unfold m_nodes_sweep
  rw [idx_lt hi]
  simp only [Option.bind_some]
  rw [ck_b (by simp [LIM]; omega)]
  unfold m_slices_DeleteFunc_api_Node_api_Node m_slices_IndexFunc_api_Node_api_Node
  have hk : bl (l[i]).Path = key l[i] := rfl
  rcases idxs_l1 l o.Kind o.Path o.Data o.Version o.Owner o.Turns (l[i]).Path 0 (ByteArray.mk #[]) (ByteArray.mk #[]) 0 [] (by simp) hlen (((l.length : Int) - 0 : Int).toNat + 1) 0 (by omega) (by omega) (fun m h hm => by omega) with ⟨j, hj, h1, h2, h3⟩ | ⟨h1, h3⟩
  · rw [show m_slices_IndexFunc_api_Node_api_Node_l1 l o.Kind o.Path o.Data o.Version o.Owner o.Turns (l[i]).Path 0 (ByteArray.mk #[]) (ByteArray.mk #[]) 0 (((l.length : Int) - 0 : Int).toNat + 1) 0 [] = some ((j : Int), [] ++ [lastN l[j]]) from h1]
    simp only [Option.bind_some]
    rw [hk] at h2 h3
    rw [if_neg (by simp only [beq_iff_eq]; omega), show IntKind.i64.wrap ((j : Int) + 1) = ((j + 1 : Nat) : Int) from by rw [w64 (by omega) (by omega)]; omega]
    have htk : (l.take j).filter (fun x => !ownB (key l[i]) o.Owner x) = l.take j := List.filter_eq_self.2 fun y hy => by
      obtain ⟨m, hm, rfl⟩ := List.mem_take_iff_getElem.1 hy
      rw [h3 m (by omega) (by omega)]; rfl
    have htk2 : (l.take j).filter (ownB (key l[i]) o.Owner) = [] := List.filter_eq_nil_iff.2 fun y hy => by
      obtain ⟨m, hm, rfl⟩ := List.mem_take_iff_getElem.1 hy
      rw [h3 m (by omega) (by omega)]; simp
    rw [del_l1 l o.Kind o.Path o.Data o.Version o.Owner o.Turns (l[i]).Path 0 (ByteArray.mk #[]) (ByteArray.mk #[]) 0 hlen _ j (j + 1) l _ rfl (by omega) (by omega) (by omega) (by simp) ?_ rfl]
    · simp only [Option.bind_some, hk]
      have : l.filter (ownB (key l[i]) o.Owner) = l[j] :: (l.drop (j + 1)).filter (ownB (key l[i]) o.Owner) := by
        have e : ∀ f : Nd → Bool, l.filter f = (l.take j).filter f ++ (l[j] :: l.drop (j + 1)).filter f := fun f => by rw [← List.filter_append, ← List.drop_eq_getElem_cons hj, List.take_append_drop]
        rw [e, htk2, List.filter_cons, if_pos h2]
        rfl
      rw [this]
      rfl
    · rw [filt_split hj, hk, htk, h2]; simp
  · rw [show m_slices_IndexFunc_api_Node_api_Node_l1 l o.Kind o.Path o.Data o.Version o.Owner o.Turns (l[i]).Path 0 (ByteArray.mk #[]) (ByteArray.mk #[]) 0 (((l.length : Int) - 0 : Int).toNat + 1) 0 [] = some (-1, []) from h1]
    simp only [Option.bind_some]
    rw [hk] at h3
    have f1 : l.filter (fun x => !ownB (key l[i]) o.Owner x) = l := List.filter_eq_self.2 fun y hy => by
      obtain ⟨m, hm, rfl⟩ := List.mem_iff_getElem.1 hy
      rw [h3 m hm]; rfl
    have f2 : l.filter (ownB (key l[i]) o.Owner) = [] := List.filter_eq_nil_iff.2 fun y hy => by
      obtain ⟨m, hm, rfl⟩ := List.mem_iff_getElem.1 hy
      rw [h3 m hm]; simp
    rw [f1, f2]
    rfl
end Go.Cb
