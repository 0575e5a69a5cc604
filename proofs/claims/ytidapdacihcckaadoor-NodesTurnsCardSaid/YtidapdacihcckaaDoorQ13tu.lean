/- Nodes, plainly: NodesBoth. -/
import Derived.Test.YtidapdacihcckaaDoorQ12tu
import Derived.Test.YtidapdacihcckaaDoorKtu3
set_option linter.unusedVariables false
set_option linter.unusedSimpArgs false
namespace Go.Cb
open Go.Proofs Go.RowKit

theorem create_ok {l : List Nd} {o : Op1} {q : List UInt8} (h : (createS l o q).2.Err = 0) : ∃ u p, l.find? (isK q) = some u ∧ u.Owner = 0 ∧ nameS o q u.Turn = some p ∧ l.find? (isK p) = none ∧ l.length ≠ 512 ∧ createS l o q = (insS ⟨mk p, o.Data, 0, 0, o.Owner⟩ (if o.Turns = true then upd l q turnF else l), { res 0 with Path := mk p }) := by
  unfold createS at h ⊢
  cases hf : l.find? (isK q) with
  | none => rw [hf] at h; simp [res] at h
  | some u =>
    rw [hf] at h
    simp only at h ⊢
    by_cases ho : u.Owner = 0
    · rw [if_neg (by simp [ho])] at h ⊢
      cases hn : nameS o q u.Turn with
      | none => rw [hn] at h; simp [res] at h
      | some p =>
        rw [hn] at h
        simp only at h ⊢
        cases hp : l.find? (isK p) with
        | some z => rw [hp] at h; simp [res] at h
        | none =>
          rw [hp] at h
          simp only [Option.isSome_none, Bool.false_eq_true, if_false] at h ⊢
          by_cases h5 : l.length = 512
          · rw [if_pos h5] at h; simp [res] at h
          · rw [if_neg h5]
            exact ⟨u, p, rfl, ho, hn, hp, h5, rfl⟩
    · rw [if_pos ho] at h; simp [res] at h
end Go.Cb
