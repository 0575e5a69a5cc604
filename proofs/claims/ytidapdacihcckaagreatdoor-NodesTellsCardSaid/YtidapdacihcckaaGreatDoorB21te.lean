/- Base 21: stores into elements of rows that are owned. -/
import Derived.Test.YtidapdacihcckaaGreatDoorB20te
set_option linter.unusedVariables false
set_option linter.unusedSimpArgs false
namespace Go.Cb
open Go.RowKit
section
variable {P : Program} {ops : Array Oper} {Q : Exit → Act → World → Prop} {rest : List Oper} {o : Oper} {w : World} {a : Act} {n : Nat} {env : List (Nat × Value)} {os : List Ob} {rs : List Rp}
theorem st_stRow {α : Type} {d : Kd α} (E : Env n a env) (H : Sep w os rs) (F : Flat d) (hw : Region.wanted o (yielded ops a.tmps) = true) (hd : o.dst = none) {x y : Operand} {t : TypeId} {i : Nat} {e : TypeId} {g m c k : Nat} {xs : List α} {j : Int} {z z' : α} {u : Value} (ho : o.op = .store t x y) (hx : opv env x = some (.pointer (some ⟨g, j.toNat * d.sz + k, none⟩))) (hy : opv env y = some u)
    (hu : u.cells = [u].toArray) (h1 : u.oneCell' = true) (hi : os[i]? = some (Row e d (.slice (some ⟨g, 0, none⟩) m c) xs)) (hj : idx xs j = some z) (he : F.enc z' = (F.enc z).set k u) (hk : Nat.ble (k + 1) d.sz = true) (hs : (P.info? t).map (·.size) = some 1)
    (K : ∀ w', Sep w' (os.set i (Row e d (.slice (some ⟨g, 0, none⟩) m c) (xs.set j.toNat z'))) rs → wpList P ops Q rest a w') : wpList P ops Q (o :: rest) a w := by
  have hk' : k < d.sz := Nat.le_of_ble_eq_true hk
  have hkl : k < (F.enc z).length := by rw [F.len]; exact hk'
  obtain ⟨v0, hv0⟩ : ∃ v0, (F.enc z)[k]? = some v0 := ⟨_, List.getElem?_eq_getElem hkl⟩
  have hcell := row_cells H F hi hj hv0
  have hfr : w.frozen? ⟨g, j.toNat * d.sz + k, none⟩ = false := by
    obtain ⟨_, _, flat, ⟨_, h⟩, _⟩ := H.ob i hi
    rcases h with ⟨h, _⟩ | ⟨g', cap, cur, hv, _, hh, _⟩
    · cases h
    · cases hv
      simp [World.frozen?, hh]
  have H' := H.rowSet F hi (idx_some hj).2.2 he hk'
  refine st_skip E hw hd (w' := w.setCell ⟨g, j.toNat * d.sz + k, none⟩ u) ?_ (K _ H')
  have hrun : (storeCells ⟨g, j.toNat * d.sz + k, none⟩ [u] 0).run P w = .ok () (w.setCell ⟨g, j.toNat * d.sz + k, none⟩ u) := by
    have hadd : (⟨g, j.toNat * d.sz + k, none⟩ : Addr).add 0 = ⟨g, j.toNat * d.sz + k, none⟩ := add_lit g _ 0
    simp only [storeCells, Sem.run_bind, hadd]
    rw [run_store P w _ u _ h1, hcell]
    simp only [hfr]
    simp [Result.andThen]
  simp only [execOp, ho, E.eval hx, E.eval hy]
  simp [Sem.run_bind, Instr.storeAt, Instr.sureAddr, storeVar, run_size hs, hu, hrun]
end
end Go.Cb
