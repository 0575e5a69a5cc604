/- Base 32: an element of a slice that a region itself has read. -/
import Derived.Test.YtgdfoajophpblaaGreatDoorB31px
set_option linter.unusedVariables false
set_option linter.unusedSimpArgs false
namespace Go.Cb
open Go.RowKit
section
variable {P : Program} {os : List Ob} {rs R : List Rp} {w : World}
theorem dr_ixS {t e : TypeId} {α : Type} {d : Kd α} (F : Flat d) {v : Value} {xs : List α} {k : IntKind} {j : Int} {y : α} (hI : Still os R w) (h : DR R (rSl d v xs)) (ht : P.underlying t = some (.slice e)) (hs : (P.info? e).map (·.size) = some d.sz) (hj : idx xs j = some y) :
    ∃ q, (∀ W, (Instr.indexAt t v (.int k j)).run P W = .ok (.pointer (some q)) W) ∧ DR R (rAw d q y (F.enc y)) := by
  obtain ⟨h0, hlt, hy⟩ := idx_some hj
  have hne : xs ≠ [] := fun e => by rw [e] at hlt; simp at hlt
  obtain ⟨ok, hall⟩ := still_ok hI
  obtain ⟨a, c, flat, rfl, hc, hr, hm⟩ := h w ok hall
  obtain ⟨b, rfl, hok, hcell⟩ := hm hne
  refine ⟨b.add (j.toNat * d.sz), fun W => ?_, fun W ok' hW => ?_⟩
  · have hlt' : j < (xs.length : Int) := by omega
    simp [Instr.indexAt, asIntOf, Sem.run_bind, run_underlying ht, run_size hs, h0, hlt']
  · obtain ⟨a', c', flat', he, hc', hr', hm'⟩ := h W ok' hW
    obtain ⟨b', hb', hok', hcell'⟩ := hm' hne
    cases he
    cases hb'
    have e := F.open' (hr'.2 _ _ hy)
    refine ⟨by rw [add_block]; exact hok', F.mk', fun i u hu => ?_⟩
    rw [add_add]
    refine hcell' _ u ?_
    rw [← e, List.getElem?_take] at hu
    split at hu
    · rw [List.getElem?_drop] at hu; exact hu
    · cases hu
end
end Go.Cb
