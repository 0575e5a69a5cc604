/- Several operations, plainly: the document's answer; MultiTells. -/
import Derived.Test.YtgdfoajophpblaaGreatDoorU1px
import Derived.Test.YtgdfoajophpblaaGreatDoorKpx2
set_option linter.unusedVariables false
set_option linter.unusedSimpArgs false
namespace Go.Cb
open Go.Proofs Go.RowKit

/-! ### pieces -/
theorem rup_eq (s : ByteArray) (hs : (bl s).length ≤ 100000000) : m_cantonref07_up s = some (mk (upS (bl s))) := by
  unfold m_cantonref07_up upS
  rw [rParent_eq s hs]
  simp only [Option.bind_some]
  cases parentS (bl s) <;> rfl
theorem up_len (p : List UInt8) : (upS p).length ≤ 78 := by
  unfold upS
  cases h : parentS p with
  | none => simp
  | some q =>
    obtain ⟨ps, t, _, _, hq⟩ := parent_parts h
    exact parts_len hq
theorem rOf_eq (o : Op1) (hp : (bl o.Path).length ≤ 3000) : m_cantonref07_Of o = some (ofS o) := by
  unfold m_cantonref07_Of ofS
  rw [rMay_eq o (by omega)]
  simp only [Option.bind_some]
  cases hm : MayB o with
  | false => rw [if_pos (by rfl), if_neg (by simp)]
  | true =>
    have hk := (may_iff hm).1
    rw [if_neg (by simp), if_pos rfl, rup_eq _ (by omega)]
    unfold partsOf
    simp only [Option.bind_some]
    have kk : o.Kind = 1 ∨ o.Kind = 2 ∨ o.Kind = 3 ∨ o.Kind = 4 ∨ o.Kind = 5 ∨ o.Kind = 6 ∨ o.Kind = 7 := by omega
    rcases kk with c | c | c | c | c | c | c
    all_goals simp only [c, Int.reduceBEq, Int.reduceEq, Bool.false_eq_true, if_true, if_false, beq_self_eq_true]
    · have := up_len (bl o.Path)
      rw [rup_eq _ (by rw [bl_mk]; omega), bl_mk]
      rfl
    all_goals rfl
/-! ### likeness, of one with itself -/
end Go.Cb
