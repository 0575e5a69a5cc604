/- Base 14: slices that are cut in regions that draw their order. -/
import Derived.Test.YtbjpjbopfhbkmaaB13
set_option linter.unusedVariables false
set_option linter.unusedSimpArgs false
namespace Go.Cb
open Go.RowKit
section
variable {P : Program} {os : List Ob} {R : List Rp} {w : World}
theorem dr_cut {t e : TypeId} {α : Type} {d : Kd α} {v : Value} {xs : List α} {i : Int} (hI : Still os R w) (h : DR R (rSl d v xs)) (ht : P.underlying t = some (.slice e)) (hs : (P.info? e).map (·.size) = some d.sz) (h0 : 0 ≤ i ∧ i ≤ xs.length) :
    ∃ v', (∀ {W : World} {o : Oper} {a : Act} {n : Nat} {env : List (Nat × Value)} (_ : Env n a env) {x l : Operand} {k1 : IntKind} (_ : o.op = .slice t x (some l) none none) (_ : opv env x = some v) (_ : opv env l = some (.int k1 i)), (execOp a.eval o).run P W = .ok (.value v') W) ∧ DR R (rSl d v' (xs.drop i.toNat)) := by
  obtain ⟨ok, hall⟩ := still_ok hI
  obtain ⟨b, c, rfl, hc⟩ := Sl.form (h w ok hall)
  refine ⟨.slice (if c = i.toNat then b else b.map (·.add (i.toNat * d.sz))) (xs.length - i.toNat) (c - i.toNat), ?_, h.imp fun w ok h => Sl.cut h i.toNat (by omega)⟩
  intro W o a n env E x l k1 ho hx hl
  simp only [execOp, ho]
  have h2 : i ≤ (xs.length : Int) := h0.2
  simp [Sem.run_bind, E.eval hx, E.eval hl, Instr.sliceAt, run_underlying ht, Instr.slice, Instr.sliceBounds, Instr.sliceBound, asIntOf, h0.1, h2, run_size hs]
theorem dr_take {t e : TypeId} {α : Type} {d : Kd α} {v : Value} {xs : List α} {i : Int} (hI : Still os R w) (h : DR R (rSl d v xs)) (ht : P.underlying t = some (.slice e)) (hs : (P.info? e).map (·.size) = some d.sz) (h0 : 0 ≤ i ∧ i ≤ xs.length) :
    ∃ v', (∀ {W : World} {o : Oper} {a : Act} {n : Nat} {env : List (Nat × Value)} (_ : Env n a env) {x l : Operand} {k1 : IntKind} (_ : o.op = .slice t x none (some l) none) (_ : opv env x = some v) (_ : opv env l = some (.int k1 i)), (execOp a.eval o).run P W = .ok (.value v') W) ∧ DR R (rSl d v' (xs.take i.toNat)) := by
  obtain ⟨ok, hall⟩ := still_ok hI
  obtain ⟨b, c, rfl, hc⟩ := Sl.form (h w ok hall)
  refine ⟨.slice b i.toNat c, ?_, h.imp fun w ok h => Sl.take h i.toNat (by omega)⟩
  intro W o a n env E x l k1 ho hx hl
  simp only [execOp, ho]
  have h2 : i ≤ (c : Int) := by omega
  have h3 : ∀ b : Option Addr, Option.map (fun x => x.add 0) b = b := fun b => by cases b <;> simp [Addr.add]
  simp [Sem.run_bind, E.eval hx, E.eval hl, Instr.sliceAt, run_underlying ht, Instr.slice, Instr.sliceBounds, Instr.sliceBound, asIntOf, h0.1, h2, run_size hs, h3]
end
end Go.Cb
