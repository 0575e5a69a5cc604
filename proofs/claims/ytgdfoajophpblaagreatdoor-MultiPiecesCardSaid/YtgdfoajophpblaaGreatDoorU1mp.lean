/- Several operations, plainly: what may be, what they make, their pieces. -/
import Derived.Test.YtgdfoajophpblaaGreatDoorQAmp
import Derived.Test.YtgdfoajophpblaaGreatDoorQ10mp
import Derived.Test.YtgdfoajophpblaaGreatDoorKmp2
import Derived.Test.YtgdfoajophpblaaGreatDoorKmp3
set_option linter.unusedVariables false
set_option linter.unusedSimpArgs false
namespace Go.Cb
open Go.Proofs Go.RowKit

abbrev Pt := S_api_Part
abbrev Pie := S_api_Piece
abbrev Dn := S_api_Done
set_option maxRecDepth 100000 in
theorem head8_t : m_cantonlaw08_head = some true := by kernel_rfl
def SmO (l : List Op1) : Prop := ∀ o ∈ l, (bl o.Path).length ≤ 3000 ∧ (bl o.Data).length ≤ 3000
theorem GreatOps_l1 (l : List Op1) (hl : l.length ≤ 40) : ∀ (k i : Nat), i ≤ l.length → l.length + 1 ≤ i + k → ∃ b, m_cantonlaw08_GreatOps_l1 l k (i : Int) = some b ∧ (b = false → ∀ j (h : j < l.length), i ≤ j → (bl (l[j]).Path).length ≤ 3000 ∧ (bl (l[j]).Data).length ≤ 3000)
  | 0, i, _, h => by omega
  | k + 1, i, h0, h => by
    unfold m_cantonlaw08_GreatOps_l1
    by_cases hi : i < l.length
    · rw [if_pos (by simpa using hi), idx_lt hi]
      simp only [Option.bind_some]
      obtain ⟨b, h1, h2⟩ := GreatOp_eq l[i]
      rw [h1]
      simp only [Option.bind_some]
      cases b with
      | true => rw [if_pos rfl]; exact ⟨true, rfl, fun h => by cases h⟩
      | false =>
        rw [if_neg (by simp), inc1 (by omega)]
        obtain ⟨b', h3, h4⟩ := GreatOps_l1 l hl k (i + 1) (by omega) (by omega)
        refine ⟨b', h3, fun hb j hj hij => ?_⟩
        rcases Nat.lt_or_ge i j with c | c
        · exact h4 hb j hj (by omega)
        · obtain rfl : i = j := by omega
          exact h2 rfl
    · rw [if_neg (by simpa using hi)]
      exact ⟨false, rfl, fun _ j hj hij => by omega⟩
theorem GreatOps_eq (l : List Op1) : ∃ b, m_cantonlaw08_GreatOps l = some b ∧ (b = false → l.length ≤ 40 ∧ SmO l) := by
  unfold m_cantonlaw08_GreatOps
  by_cases h : l.length ≤ 40
  · rw [if_neg (by simp; omega)]
    obtain ⟨b, h1, h2⟩ := GreatOps_l1 l h (((l.length : Int) - 0 : Int).toNat + 1) 0 (by omega) (by omega)
    refine ⟨b, h1, fun hb => ⟨h, fun o ho => ?_⟩⟩
    obtain ⟨j, hj, rfl⟩ := List.mem_iff_getElem.1 ho
    exact h2 hb j hj (by omega)
  · rw [if_pos (by simp; omega)]
    exact ⟨true, rfl, fun h => by cases h⟩
/-! ### May -/
def mayL (l : List Op1) : Bool := decide (0 < l.length) && decide (l.length ≤ 8) && l.all MayB
theorem idxo_l1 (l : List Op1) (hl : l.length ≤ 1000000) : ∀ (k i : Nat), i ≤ l.length → l.length + 1 ≤ i + k → ∃ v : Int, m_slices_IndexFunc_api_Op_api_Op_l1 l k (i : Int) = some v ∧ decide (v ≥ 0) = !(l.drop i).all MayB
  | 0, i, _, h => by omega
  | k + 1, i, h0, h => by
    unfold m_slices_IndexFunc_api_Op_api_Op_l1
    by_cases hi : i < l.length
    · rw [if_pos (by simpa using hi), idx_lt hi, List.drop_eq_getElem_cons hi]
      simp only [Option.bind_some, m_multi_May_1, May_eq, List.all_cons]
      cases hm : MayB l[i] with
      | false => rw [if_pos (by rfl)]; exact ⟨_, rfl, by simp⟩
      | true =>
        rw [if_neg (by simp), inc1 (by omega)]
        obtain ⟨v, h1, h2⟩ := idxo_l1 l hl k (i + 1) (by omega) (by omega)
        exact ⟨v, h1, by rw [h2]; simp⟩
    · rw [if_neg (by simpa using hi), List.drop_eq_nil_of_le (by omega)]
      exact ⟨-1, rfl, by simp⟩
theorem multiMay_eq (l : List Op1) (hl : l.length ≤ 1000000) : m_multi_May l = some (mayL l) := by
  unfold m_multi_May m_slices_ContainsFunc_api_Op_api_Op m_slices_IndexFunc_api_Op_api_Op mayL
  obtain ⟨v, h1, h2⟩ := idxo_l1 l hl (((l.length : Int) - 0 : Int).toNat + 1) 0 (by omega) (by omega)
  rw [show m_slices_IndexFunc_api_Op_api_Op_l1 l (((l.length : Int) - 0 : Int).toNat + 1) 0 = some v from h1]
  simp only [Option.bind_some]
  rw [h2, List.drop_zero]
  by_cases a : 0 < l.length
  · rw [if_pos (decide_eq_true (by omega))]
    by_cases b : l.length ≤ 8
    · rw [if_pos (decide_eq_true (by omega)), decide_eq_true a, decide_eq_true b]; simp
    · rw [if_neg (by rw [decide_eq_false (by omega)]; simp), decide_eq_false b]; simp
  · rw [if_neg (by rw [decide_eq_false (by omega)]; simp), decide_eq_false a]; simp
/-! ### what they make -/
def runS (t : List Nd) : List Nd → Nat → List Op1 → List Res → List Nd × Dn
  | now, _, [], acc => (now, ⟨0, 0, acc⟩)
  | now, i, o :: l, acc => if (applyS now o).2.Err ≠ 0 then (t, ⟨(applyS now o).2.Err, i, []⟩) else runS t (applyS now o).1 (i + 1) l (acc ++ [(applyS now o).2])
theorem multiApply_l1 (l : List Op1) (t : List Nd) (hl : l.length ≤ 1000000) (hm : l.all MayB = true) : ∀ (k i : Nat) (now : List Nd) (acc : List Res), Tree now → i ≤ l.length → l.length + 1 ≤ i + k → acc.length ≤ i → m_multi_Apply_l1 l t k now (i : Int) acc = some (runS t now i (l.drop i) acc)
  | 0, i, now, acc, _, _, h, _ => by omega
  | k + 1, i, now, acc, T, h0, h, ha => by
    unfold m_multi_Apply_l1 m_multi_Apply_j1
    by_cases hi : i < l.length
    · have hmi : MayB l[i] = true := List.all_eq_true.1 hm _ (List.getElem_mem hi)
      rw [if_pos (by simpa using hi), idx_lt hi, List.drop_eq_getElem_cons hi]
      simp only [Option.bind_some]
      rw [Apply_eq now l[i] T hmi]
      simp only [Option.bind_some, runS]
      by_cases he : (applyS now l[i]).2.Err = 0
      · rw [if_neg (by simpa using he), if_neg (by simpa using he), ck_b (by simp [LIM]; omega), inc1 (by omega)]
        exact multiApply_l1 l t hl hm k (i + 1) _ _ (Tree_apply T hmi) (by omega) (by omega) (by simp; omega)
      · rw [if_pos (by simpa using he), if_pos he]
    · rw [if_neg (by simpa using hi), List.drop_eq_nil_of_le (by omega)]
      rfl
theorem multiApply_eq (t : List Nd) (l : List Op1) (T : Tree t) (hm : mayL l = true) : m_multi_Apply t l = some (runS t t 0 l []) := by
  have h := hm
  unfold mayL at h
  simp only [Bool.and_eq_true, decide_eq_true_eq] at h
  have hl := T.len
  unfold m_multi_Apply m_multi_Apply_j2
  obtain ⟨b, h1, h2⟩ := pRight_eq t (by omega) T.sm
  rw [h1, h2.2 T, multiMay_eq l (by omega), hm]
  simp only [Option.bind_some]
  rw [if_neg (by simp), if_neg (by simp)]
  refine (multiApply_l1 l t (by omega) h.2 (((l.length : Int) - 0 : Int).toNat + 1) 0 t [] T (by omega) (by omega) (by simp)).trans ?_
  simp
/-! ### their parts -/
def upS (p : List UInt8) : List UInt8 := (parentS p).getD [47]
theorem up_eq (s : ByteArray) : m_part_up s = some (mk (upS (bl s))) := by
  unfold m_part_up upS
  rw [Parent_eq]
  simp only [Option.bind_some]
  cases parentS (bl s) <;> rfl
def partsOf (o : Op1) : List Pt :=
  let d := mk (upS (bl o.Path))
  if o.Kind = 1 then [⟨1, mk (upS (upS (bl o.Path))), d, mk [], 0, 0, false⟩, ⟨2, d, o.Path, o.Data, 0, o.Owner, o.Turns⟩]
  else if o.Kind = 2 then [⟨3, d, o.Path, mk [], o.Version, 0, false⟩, ⟨4, o.Path, o.Path, mk [], 0, 0, false⟩]
  else if o.Kind = 3 then [⟨5, d, o.Path, o.Data, o.Version, 0, false⟩]
  else if o.Kind = 4 then [⟨6, d, o.Path, mk [], o.Version, 0, false⟩]
  else if o.Kind = 5 then [⟨7, d, o.Path, mk [], 0, 0, false⟩]
  else if o.Kind = 6 then [⟨8, d, o.Path, mk [], 0, 0, false⟩, ⟨9, o.Path, o.Path, mk [], 0, 0, false⟩]
  else [⟨8, d, o.Path, mk [], 0, 0, false⟩, ⟨10, o.Path, o.Path, mk [], 0, o.Owner, false⟩]
def ofS (o : Op1) : List Pt := if MayB o = true then partsOf o else []
theorem may_zero {o : Op1} (h : MayB o = true) : (o.Kind = 2 → o.Owner = 0) ∧ (o.Kind = 6 → o.Owner = 0) := by
  obtain ⟨_, _, _, _, _, h⟩ := may_iff h
  refine ⟨fun k => ?_, fun k => ?_⟩
  · rw [k] at h; simp [kindOk] at h; exact h.1.2
  · rw [k] at h; simp [kindOk] at h; exact h.1.2
theorem partOf1 (a b : List Pt) (h : a.length + b.length ≤ 1000) : m_part_Of_1 a b = some (b ++ a) := by
  unfold m_part_Of_1
  rw [ck_b (by simp [LIM]; omega)]
theorem partOf_eq (o : Op1) : m_part_Of o = some (ofS o) := by
  unfold m_part_Of ofS
  rw [May_eq]
  simp only [Option.bind_some]
  cases hm : MayB o with
  | false => rw [if_pos (by rfl), if_neg (by simp)]
  | true =>
    obtain ⟨z2, z6⟩ := may_zero hm
    have hk := (may_iff hm).1
    rw [if_neg (by simp), if_pos rfl, up_eq]
    unfold partsOf
    simp only [Option.bind_some, m_part_Of_2, m_part_Of_3, m_part_Of_4, m_part_Of_j1]
    have kk : o.Kind = 1 ∨ o.Kind = 2 ∨ o.Kind = 3 ∨ o.Kind = 4 ∨ o.Kind = 5 ∨ o.Kind = 6 ∨ o.Kind = 7 := by omega
    rcases kk with c | c | c | c | c | c | c
    all_goals simp only [c, Int.reduceBEq, Int.reduceEq, Bool.false_eq_true, if_true, if_false, beq_self_eq_true]
    · rw [up_eq, bl_mk]
      simp only [Option.bind_some]
      rw [partOf1 _ _ (by simp)]
      rfl
    · rw [partOf1 _ _ (by simp), z2 c]; rfl
    · rw [partOf1 _ _ (by simp)]; rfl
    · rw [partOf1 _ _ (by simp)]; rfl
    · rw [partOf1 _ _ (by simp)]; rfl
    · rw [partOf1 _ _ (by simp), z6 c]; rfl
    · rw [partOf1 _ _ (by simp)]; rfl
def piecesS : Nat → List Op1 → List Pie
  | _, [] => []
  | i, o :: l => (ofS o).map (fun p => ⟨(i : Int), p⟩) ++ piecesS (i + 1) l
theorem ofS_len (o : Op1) : (ofS o).length ≤ 2 := by
  unfold ofS partsOf
  repeat' split
  all_goals simp
theorem multiOf_l2 (rec : List Pie → Int → Option (List Pie)) (u : List Pt) (x : Int) (hu : u.length ≤ 2) : ∀ (k j : Nat) (acc : List Pie), acc.length ≤ 1000000 + j → j ≤ u.length → u.length + 1 ≤ j + k → m_multi_Of_l2 rec u x k acc (j : Int) = rec (acc ++ (u.drop j).map (fun p => ⟨x, p⟩)) (IntKind.i64.wrap (x + 1))
  | 0, j, acc, _, _, h => by omega
  | k + 1, j, acc, ha, h0, h => by
    unfold m_multi_Of_l2
    by_cases hj : j < u.length
    · rw [if_pos (by simpa using hj), idx_lt hj, List.drop_eq_getElem_cons hj]
      simp only [Option.bind_some]
      rw [ck_b (by simp [LIM]; omega), inc1 (by omega), multiOf_l2 rec u x hu k (j + 1) _ (by simp; omega) (by omega) (by omega), List.map_cons, List.append_assoc]
      rfl
    · rw [if_neg (by simpa using hj), List.drop_eq_nil_of_le (by omega)]
      simp
theorem multiOf_l1 (l : List Op1) (hl : l.length ≤ 1000) : ∀ (k i : Nat) (acc : List Pie), acc.length ≤ 2 * i → i ≤ l.length → l.length + 1 ≤ i + k → m_multi_Of_l1 l k acc (i : Int) = some (acc ++ piecesS i (l.drop i))
  | 0, i, acc, _, _, h => by omega
  | k + 1, i, acc, ha, h0, h => by
    unfold m_multi_Of_l1
    by_cases hi : i < l.length
    · have h2 := ofS_len l[i]
      rw [if_pos (by simpa using hi), idx_lt hi, List.drop_eq_getElem_cons hi]
      simp only [Option.bind_some]
      rw [partOf_eq]
      simp only [Option.bind_some]
      refine (multiOf_l2 _ _ _ h2 (((ofS l[i]).length : Int) - 0 : Int).toNat.succ 0 acc (by omega) (by omega) (by omega)).trans ?_
      rw [inc1 (by omega), multiOf_l1 l hl k (i + 1) _ (by simp; omega) (by omega) (by omega)]
      simp [piecesS]
    · rw [if_neg (by simpa using hi), List.drop_eq_nil_of_le (by omega)]
      simp [piecesS]
def piecesL (l : List Op1) : List Pie := if mayL l = true then piecesS 0 l else []
theorem multiOf_eq (l : List Op1) (hl : l.length ≤ 1000) : m_multi_Of l = some (piecesL l) := by
  unfold m_multi_Of piecesL
  rw [multiMay_eq l (by omega)]
  simp only [Option.bind_some]
  cases hm : mayL l with
  | false => rw [if_pos (by rfl), if_neg (by simp)]
  | true =>
    rw [if_neg (by simp), if_pos rfl]
    refine (multiOf_l1 l hl (((l.length : Int) - 0 : Int).toNat + 1) 0 [] (by simp) (by omega) (by omega)).trans ?_
    simp
end Go.Cb
