/- Base 23: copy, clear, append in place and cap, on blocks. -/
import Derived.Test.YtidapdacihcckaaGreatDoorB22te
set_option linter.unusedVariables false
set_option linter.unusedSimpArgs false
namespace Go.Cb
open Go.RowKit
section
variable {P : Program} {ops : Array Oper} {Q : Exit → Act → World → Prop} {rest : List Oper} {o : Oper} {w : World} {a : Act} {n : Nat} {env : List (Nat × Value)} {os : List Ob} {rs : List Rp}
theorem st_copy (E : Env n a env) (H : Sep w os rs) (hw : Region.wanted o (yielded ops a.tmps) = true) {dd : Nat} (hd : o.dst = some dd) (hdn : Nat.ble (dd + 1) n = true) {x y : Operand} {t e T : TypeId} {g off dl dc sl sc sz m i : Nat} {q : Addr} {cs us : List Value}
    (ho : o.op = .call { callee := .builtin .copy, args := #[x, y], argTypes := #[t, t] }) (hx : opv env x = some (.slice (some ⟨g, off, none⟩) dl dc)) (hy : opv env y = some (.slice (some q) sl sc)) (ht : P.underlying t = some (.slice e)) (hs : (P.info? e).map (·.size) = some sz)
    (hi : os[i]? = some (Blk g T cs)) (hn : min sl dl = m) (hl : us.length = m * sz) (hu : ∀ j u, us[j]? = some u → w.cell? (q.add j) = some u) (hf : off + us.length ≤ cs.length) (h1 : ∀ u ∈ us, u.oneCell' = true)
    (K : ∀ w' a', Sep w' (os.set i (Blk g T (splice cs off us))) rs → Env n a' ((dd, .int .i64 (m : Int)) :: env) → wpList P ops Q rest a' w') : wpList P ops Q (o :: rest) a w := by
  obtain ⟨w', hr, H'⟩ := Sep.store P us H hi off 0 (by omega) h1
  refine st_val E hw hd hdn (v := .int .i64 (m : Int)) (w' := w') ?_ fun a' E' => K w' a' H' E'
  have hld := run_loadCells_list (P := P) w q us hu
  rw [hl] at hld
  have hn' : Nat.min sl dl = m := hn
  simp only [execOp, ho]
  simp [Sem.run_bind, resolve, invoke, builtin, E.eval hx, E.eval hy, Builtin.copy_, run_underlying ht, run_size hs, Builtin.lenOf, Builtin.firstCells, hn', hld, hr, goInt]
theorem st_clear0 (E : Env n a env) (H : Sep w os rs) (hw : Region.wanted o (yielded ops a.tmps) = true) (hd : o.dst = none) {x : Operand} {t e T : TypeId} {g off m dc i : Nat} {z : Value} {cs us : List Value}
    (ho : o.op = .call { callee := .builtin .clear, args := #[x], argTypes := #[t] }) (hx : opv env x = some (.slice (some ⟨g, off, none⟩) m dc)) (hm : m ≠ 0) (ht : P.underlying t = some (.slice e)) (hz : (P.info? e).bind (·.zero) = some z)
    (hi : os[i]? = some (Blk g T cs)) (hu : (Builtin.zeroCells z.cells m).toList = us) (hf : off + us.length ≤ cs.length) (h1 : ∀ u ∈ us, u.oneCell' = true)
    (K : ∀ w', Sep w' (os.set i (Blk g T (splice cs off us))) rs → wpList P ops Q rest a w') : wpList P ops Q (o :: rest) a w := by
  obtain ⟨w', hr, H'⟩ := Sep.store P us H hi off 0 (by omega) h1
  refine wpList_wanted hw ?_
  unfold Oper.wp
  have hrun : (execOp a.eval o).run P w = .ok (.value (.tuple #[])) w' := by
    have hzr := zero_run (P := P) hz w
    obtain ⟨m, rfl⟩ : ∃ k, m = k + 1 := ⟨m - 1, by omega⟩
    simp only [execOp, ho]
    simp [Sem.run_bind, resolve, invoke, builtin, E.eval hx, Builtin.clear_, run_underlying ht, hzr, hu, hr]
  rw [hrun]
  show wpList P ops Q rest (a.put o.dst _) w'
  rw [hd]
  exact K w' H'
theorem st_appIn (E : Env n a env) (H : Sep w os rs) (hw : Region.wanted o (yielded ops a.tmps) = true) {dd : Nat} (hd : o.dst = some dd) (hdn : Nat.ble (dd + 1) n = true) {x y : Operand} {t e T : TypeId} {g sl sc yl yc sz i : Nat} {q : Addr} {cs us : List Value}
    (ho : o.op = .call { callee := .builtin .append, args := #[x, y], argTypes := #[t, t] }) (hx : opv env x = some (.slice (some ⟨g, 0, none⟩) sl sc)) (hy : opv env y = some (.slice (some q) yl yc)) (ht : P.underlying t = some (.slice e)) (hs : (P.info? e).map (·.size) = some sz)
    (hi : os[i]? = some (Blk g T cs)) (hc : sl + yl ≤ sc) (hl : us.length = yl * sz) (hu : ∀ j u, us[j]? = some u → w.cell? (q.add j) = some u) (hf : sl * sz + us.length ≤ cs.length) (h1 : ∀ u ∈ us, u.oneCell' = true)
    (K : ∀ w' a', Sep w' (os.set i (Blk g T (splice cs (sl * sz) us))) rs → Env n a' ((dd, .slice (some ⟨g, 0, none⟩) (sl + yl) sc) :: env) → wpList P ops Q rest a' w') : wpList P ops Q (o :: rest) a w := by
  obtain ⟨w', hr, H'⟩ := Sep.store P us H hi (sl * sz) 0 (by omega) h1
  refine st_val E hw hd hdn (v := .slice (some ⟨g, 0, none⟩) (sl + yl) sc) (w' := w') ?_ fun a' E' => K w' a' H' E'
  have hld := run_loadCells_list (P := P) w q us hu
  rw [hl] at hld
  have hadd : (⟨g, 0, none⟩ : Addr).add (sl * sz) = ⟨g, sl * sz, none⟩ := by rw [add_lit]; simp
  simp only [execOp, ho]
  simp [Sem.run_bind, resolve, invoke, builtin, E.eval hx, E.eval hy, Builtin.append_, run_underlying ht, run_size hs, Builtin.lenOf, Builtin.firstCells, hc, hld, hadd, hr]
theorem x_cap (E : Env n a env) {t e : TypeId} {x : Operand} {b : Option Addr} {m c : Nat} (ho : o.op = .call { callee := .builtin .cap, args := #[x], argTypes := #[t] }) (hx : opv env x = some (.slice b m c)) (ht : P.underlying t = some (.slice e)) : (execOp a.eval o).run P w = .ok (.value (.int .i64 (c : Int))) w := by
  simp only [execOp, ho]
  simp [Sem.run_bind, resolve, invoke, builtin, E.eval hx, Builtin.cap_, run_underlying ht, goInt]
/-- a slice of a slice, its bounds told. -/
theorem x_slLo (E : Env n a env) {t e : TypeId} {x l : Operand} {b : Option Addr} {m c sz i : Nat} {k : IntKind} (ho : o.op = .slice t x (some l) none none) (hx : opv env x = some (.slice b m c)) (hl : opv env l = some (.int k (i : Int))) (ht : P.underlying t = some (.slice e)) (hs : (P.info? e).map (·.size) = some sz) (hi : i ≤ m) :
    (execOp a.eval o).run P w = .ok (.value (.slice (if c = i then b else b.map (·.add (i * sz))) (m - i) (c - i))) w := by
  simp only [execOp, ho]
  simp [Sem.run_bind, E.eval hx, E.eval hl, Instr.sliceAt, run_underlying ht, Instr.slice, Instr.sliceBounds, Instr.sliceBound, asIntOf, hi, run_size hs]
theorem x_slHi (E : Env n a env) {t e : TypeId} {x l : Operand} {b : Option Addr} {m c sz i : Nat} {k : IntKind} (ho : o.op = .slice t x none (some l) none) (hx : opv env x = some (.slice b m c)) (hl : opv env l = some (.int k (i : Int))) (ht : P.underlying t = some (.slice e)) (hs : (P.info? e).map (·.size) = some sz) (hi : i ≤ c) :
    (execOp a.eval o).run P w = .ok (.value (.slice b i c)) w := by
  simp only [execOp, ho]
  have h3 : ∀ b : Option Addr, Option.map (fun x => x.add 0) b = b := fun b => by cases b <;> simp [Addr.add]
  simp [Sem.run_bind, E.eval hx, E.eval hl, Instr.sliceAt, run_underlying ht, Instr.slice, Instr.sliceBounds, Instr.sliceBound, asIntOf, hi, run_size hs, h3]
theorem x_slLH (E : Env n a env) {t e : TypeId} {x l h : Operand} {b : Option Addr} {m c sz i j : Nat} {k k' : IntKind} (ho : o.op = .slice t x (some l) (some h) none) (hx : opv env x = some (.slice b m c)) (hl : opv env l = some (.int k (i : Int))) (hh : opv env h = some (.int k' (j : Int))) (ht : P.underlying t = some (.slice e)) (hs : (P.info? e).map (·.size) = some sz) (hi : i ≤ j) (hj : j ≤ c) :
    (execOp a.eval o).run P w = .ok (.value (.slice (if c = i then b else b.map (·.add (i * sz))) (j - i) (c - i))) w := by
  simp only [execOp, ho]
  simp [Sem.run_bind, E.eval hx, E.eval hl, E.eval hh, Instr.sliceAt, run_underlying ht, Instr.slice, Instr.sliceBounds, Instr.sliceBound, asIntOf, hi, hj, run_size hs]
theorem x_slLHM (E : Env n a env) {t e : TypeId} {x l h mm : Operand} {b : Option Addr} {m c sz i j q : Nat} {k k' k'' : IntKind} (ho : o.op = .slice t x (some l) (some h) (some mm)) (hx : opv env x = some (.slice b m c)) (hl : opv env l = some (.int k (i : Int))) (hh : opv env h = some (.int k' (j : Int))) (hm : opv env mm = some (.int k'' (q : Int))) (ht : P.underlying t = some (.slice e)) (hs : (P.info? e).map (·.size) = some sz) (hi : i ≤ j) (hj : j ≤ q) (hq : q ≤ c) :
    (execOp a.eval o).run P w = .ok (.value (.slice (if q = i then b else b.map (·.add (i * sz))) (j - i) (q - i))) w := by
  simp only [execOp, ho]
  simp [Sem.run_bind, E.eval hx, E.eval hl, E.eval hh, E.eval hm, Instr.sliceAt, run_underlying ht, Instr.slice, Instr.sliceBounds, Instr.sliceBound, asIntOf, hi, hj, hq, run_size hs]
end
end Go.Cb
