/- Base 11: what can be told of what is read, wherever it is looked at. -/
import Derived.Test.YtidapdacihcckaaGreatDoorB10te
set_option linter.unusedVariables false
set_option linter.unusedSimpArgs false
namespace Go.Cb
open Go.RowKit
/-- r follows from what R reads. -/
def DR (R : List Rp) (r : Rp) : Prop := ∀ W ok, (∀ x, x ∈ R → x.p W ok) → r.p W ok
section
variable {P : Program} {os : List Ob} {rs R : List Rp} {w : World}
theorem dr_mem {r : Rp} (h : r ∈ R) : DR R r := fun W ok k => k r h
theorem DR.imp {r r' : Rp} (h : DR R r) (k : ∀ w ok, r.p w ok → r'.p w ok) : DR R r' := fun W ok hr => k W ok (h W ok hr)
theorem DR.ir {r : Rp} (h : DR R r) : IR (Still os R) r := fun W ⟨os', rs', H, _, h2⟩ => by
  obtain ⟨col, _, hr⟩ := H
  exact ⟨_, h W _ fun x hx => hr x (h2 x hx)⟩
theorem still_ok (hI : Still os R w) : ∃ ok, ∀ x, x ∈ R → x.p w ok := by
  obtain ⟨os', rs', ⟨col, _, hr⟩, _, h2⟩ := hI
  exact ⟨_, fun x hx => hr x (h2 x hx)⟩
theorem dr_fld {α β : Type} {A : Kd α} {B : Kd β} {q q' : Addr} {x : α} {y : β} {cs : List Value} {F : List Value → List Value} (h : DR R (rAw A q x cs)) (k : ∀ w ok cs, (rAw A q x cs).p w ok → ∃ c, (rAw B q' y c).p w ok ∧ c = F cs) : DR R (rAw B q' y (F cs)) := fun W ok hW => by
  obtain ⟨c, hc, rfl⟩ := k W ok cs (h W ok hW)
  exact hc
theorem dr_ixW {t e : TypeId} {α : Type} {d : Kd α} {v : Value} {xs : List α} {flat : List Value} {k : IntKind} {j : Int} {y : α} (hI : Still os R w) (h : DR R (rRow d v xs flat)) (ht : P.underlying t = some (.slice e)) (hs : (P.info? e).map (·.size) = some d.sz) (hj : idx xs j = some y) :
    ∃ q cs, (∀ W, (Instr.indexAt t v (.int k j)).run P W = .ok (.pointer (some q)) W) ∧ DR R (rAw d q y cs) := by
  unfold idx at hj
  split at hj
  · rename_i h0
    have hlt : j.toNat < xs.length := by
      rcases Nat.lt_or_ge j.toNat xs.length with h | h
      · exact h
      · rw [List.getElem?_eq_none h] at hj; cases hj
    have hne : xs ≠ [] := fun e => by rw [e] at hlt; simp at hlt
    obtain ⟨ok, hall⟩ := still_ok hI
    obtain ⟨ad0, c, rfl, hr, hm⟩ := h w ok hall
    obtain ⟨b, rfl, hok, hcell⟩ := hm hne
    refine ⟨b.add (j.toNat * d.sz), (flat.drop (j.toNat * d.sz)).take d.sz, fun W => ?_, fun W ok' hW => ?_⟩
    · have hlt' : j < (xs.length : Int) := by omega
      simp [Instr.indexAt, asIntOf, Sem.run_bind, run_underlying ht, run_size hs, h0, hlt']
    · obtain ⟨ad', c', he, hr', hm'⟩ := h W ok' hW
      obtain ⟨b', hb', hok', hcell'⟩ := hm' hne
      cases he
      cases hb'
      refine ⟨by rw [add_block]; exact hok', hr'.2 _ _ hj, fun i u hu => ?_⟩
      rw [add_add]
      refine hcell' _ u ?_
      rw [List.getElem?_take] at hu
      split at hu
      · rw [List.getElem?_drop] at hu; exact hu
      · cases hu
  · cases hj
theorem dr_at {α : Type} {d : Kd α} {q : Addr} {y : α} {cs : List Value} (h : DR R (rAw d q y cs)) : DR R (rAt d q y) := h.imp rAw_at
end
end Go.Cb
