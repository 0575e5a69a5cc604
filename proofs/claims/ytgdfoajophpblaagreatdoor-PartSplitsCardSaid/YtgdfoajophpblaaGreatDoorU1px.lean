/- Several operations, plainly: what may be, what they make, their pieces. -/
import Derived.Test.YtgdfoajophpblaaGreatDoorQApx
import Derived.Test.YtgdfoajophpblaaGreatDoorQ10px
import Derived.Test.YtgdfoajophpblaaGreatDoorApx1
import Derived.Test.YtgdfoajophpblaaGreatDoorKpx2
set_option linter.unusedVariables false
set_option linter.unusedSimpArgs false
namespace Go.Cb
open Go.Proofs Go.RowKit

abbrev Pt := S_api_Part
/-! ### May -/
/-! ### what they make -/
/-! ### their parts -/
def upS (p : List UInt8) : List UInt8 := (parentS p).getD [47]
theorem up_eq (s : ByteArray) : m_part_up s = some (mk (upS (bl s))) := by
  unfold m_part_up upS
  rw [Parent_eq]
  simp only [Option.bind_some]
  cases parentS (bl s) <;> rfl
def partsOf (o : Op1) : List Pt :=
  let d := mk (upS (bl o.Path))
  if o.Kind = 1 then [⟨1, mk (upS (upS (bl o.Path))), d, mk [], 0, 0, false⟩, ⟨2, d, o.Path, o.Data, 0, o.Owner, o.Turns⟩]
  else if o.Kind = 2 then [⟨3, d, o.Path, mk [], o.Version, 0, false⟩, ⟨4, o.Path, o.Path, mk [], 0, 0, false⟩]
  else if o.Kind = 3 then [⟨5, d, o.Path, o.Data, o.Version, 0, false⟩]
  else if o.Kind = 4 then [⟨6, d, o.Path, mk [], o.Version, 0, false⟩]
  else if o.Kind = 5 then [⟨7, d, o.Path, mk [], 0, 0, false⟩]
  else if o.Kind = 6 then [⟨8, d, o.Path, mk [], 0, 0, false⟩, ⟨9, o.Path, o.Path, mk [], 0, 0, false⟩]
  else [⟨8, d, o.Path, mk [], 0, 0, false⟩, ⟨10, o.Path, o.Path, mk [], 0, o.Owner, false⟩]
def ofS (o : Op1) : List Pt := if MayB o = true then partsOf o else []
theorem may_zero {o : Op1} (h : MayB o = true) : (o.Kind = 2 → o.Owner = 0) ∧ (o.Kind = 6 → o.Owner = 0) := by
  obtain ⟨_, _, _, _, _, h⟩ := may_iff h
  refine ⟨fun k => ?_, fun k => ?_⟩
  · rw [k] at h; simp [kindOk] at h; exact h.1.2
  · rw [k] at h; simp [kindOk] at h; exact h.1.2
theorem partOf1 (a b : List Pt) (h : a.length + b.length ≤ 1000) : m_part_Of_1 a b = some (b ++ a) := by
  unfold m_part_Of_1
  rw [ck_b (by simp [LIM]; omega)]
theorem partOf_eq (o : Op1) : m_part_Of o = some (ofS o) := by
  unfold m_part_Of ofS
  rw [May_eq]
  simp only [Option.bind_some]
  cases hm : MayB o with
  | false => rw [if_pos (by rfl), if_neg (by simp)]
  | true =>
    obtain ⟨z2, z6⟩ := may_zero hm
    have hk := (may_iff hm).1
    rw [if_neg (by simp), if_pos rfl, up_eq]
    unfold partsOf
    simp only [Option.bind_some, m_part_Of_2, m_part_Of_3, m_part_Of_4, m_part_Of_j1]
    have kk : o.Kind = 1 ∨ o.Kind = 2 ∨ o.Kind = 3 ∨ o.Kind = 4 ∨ o.Kind = 5 ∨ o.Kind = 6 ∨ o.Kind = 7 := by omega
    rcases kk with c | c | c | c | c | c | c
    all_goals simp only [c, Int.reduceBEq, Int.reduceEq, Bool.false_eq_true, if_true, if_false, beq_self_eq_true]
    · rw [up_eq, bl_mk]
      simp only [Option.bind_some]
      rw [partOf1 _ _ (by simp)]
      rfl
    · rw [partOf1 _ _ (by simp), z2 c]; rfl
    · rw [partOf1 _ _ (by simp)]; rfl
    · rw [partOf1 _ _ (by simp)]; rfl
    · rw [partOf1 _ _ (by simp)]; rfl
    · rw [partOf1 _ _ (by simp), z6 c]; rfl
    · rw [partOf1 _ _ (by simp)]; rfl
theorem ofS_len (o : Op1) : (ofS o).length ≤ 2 := by
  unfold ofS partsOf
  repeat' split
  all_goals simp
end Go.Cb
