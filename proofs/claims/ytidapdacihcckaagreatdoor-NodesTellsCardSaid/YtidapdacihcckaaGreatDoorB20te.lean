/- Base 20: arrays that are values: an element at a place. -/
import Derived.Test.YtidapdacihcckaaGreatDoorB19te
set_option linter.unusedVariables false
set_option linter.unusedSimpArgs false
namespace Go.Cb
open Go.RowKit
section
variable {P : Program} {o : Oper} {w : World} {a : Act} {n : Nat} {env : List (Nat × Value)}
theorem x_ixArr (E : Env n a env) {x i : Operand} {t e : TypeId} {m : Nat} {vs : List Value} {k : IntKind} {j : Int} {v : Value} {d : TypeDesc} (ho : o.op = .index t x i) (hx : opv env x = some (.agg vs.toArray)) (hi : opv env i = some (.int k j)) (ht : P.underlying t = some (.array m e)) (hm : vs.length = m)
    (hs : (P.info? e).map (·.size) = some 1) (he : P.underlying e = some d) (hp : plainDesc d = true) (hj : idx vs j = some v) : (execOp a.eval o).run P w = .ok (.value v) w := by
  obtain ⟨h0, hlt, hv⟩ := (show 0 ≤ j ∧ j.toNat < vs.length ∧ vs[j.toNat]? = some v from by
    unfold idx at hj
    split at hj
    · rename_i h0
      exact ⟨h0, (List.getElem?_eq_some_iff.1 hj).1, hj⟩
    · cases hj)
  have hlt' : j < (m : Int) := by omega
  have hpart : (part e vs.toArray j.toNat).run P w = .ok v w := by
    unfold part
    simp [Sem.run_bind, isAgg_plain he hp, hv]
  simp only [execOp, ho, E.eval hx, E.eval hi]
  simp [Sem.run_bind, Instr.index, asIntOf, run_underlying ht, run_size hs, h0, hlt', hpart]
theorem idx_map {α β : Type} (f : α → β) {xs : List α} {j : Int} {y : α} (h : idx xs j = some y) : idx (xs.map f) j = some (f y) := by
  unfold idx at *
  split at h
  · rename_i h0
    rw [if_pos h0, List.getElem?_map, h]; rfl
  · cases h
end
end Go.Cb
