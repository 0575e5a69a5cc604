/- Base 5: operations on memory. -/
import Derived.Test.YtidapdacihcckaaGreatDoorB4te
set_option linter.unusedVariables false
set_option linter.unusedSimpArgs false
namespace Go.Cb
open Go.RowKit

def plainDesc : TypeDesc → Bool
  | .struct _ | .array _ _ => false
  | _ => true
def splice (cs : List Value) : Nat → List Value → List Value
  | _, [] => cs
  | j, u :: us => splice (cs.set j u) (j + 1) us

section
variable {P : Program} {w w' : World} {os : List Ob} {rs : List Rp}
theorem isAgg_plain {t : TypeId} {d : TypeDesc} (hu : P.underlying t = some d) (hp : plainDesc d = true) (w : World) : (isAgg t).run P w = .ok false w := by
  unfold isAgg
  rw [Sem.run_bind, run_underlying hu w]
  cases d <;> simp_all [plainDesc]
theorem isAgg_agg {t : TypeId} {d : TypeDesc} (hu : P.underlying t = some d) (hp : plainDesc d = false) (w : World) : (isAgg t).run P w = .ok true w := by
  unfold isAgg
  rw [Sem.run_bind, run_underlying hu w]
  cases d <;> simp_all [plainDesc]
theorem run_size {t : TypeId} {m : Nat} (h : (P.info? t).map (·.size) = some m) (w : World) : (sizeOf t).run P w = .ok m w := by
  cases hq : P.info? t with
  | none => simp [hq] at h
  | some i =>
    have : i.size = m := by simpa [hq] using h
    simp [sizeOf, typeInfo, Sem.run_bind, hq, this]
theorem run_ld1 {t : TypeId} {d : TypeDesc} (hu : P.underlying t = some d) (hp : plainDesc d = true) {q : Addr} {v : Value} (hc : w.cell? q = some v) : (Instr.loadAt t (.pointer (some q))).run P w = .ok v w := by
  simp [Instr.loadAt, Instr.sureAddr, loadVar, Sem.run_bind, isAgg_plain hu hp, load, Sem.run, hc]
theorem run_ldN {t : TypeId} {d : TypeDesc} (hu : P.underlying t = some d) (hp : plainDesc d = false) {q : Addr} {cs : List Value} (hs : (P.info? t).map (·.size) = some cs.length) (hc : ∀ j u, cs[j]? = some u → w.cell? (q.add j) = some u) : (Instr.loadAt t (.pointer (some q))).run P w = .ok (.agg cs.toArray) w := by
  simp [Instr.loadAt, Instr.sureAddr, loadVar, Sem.run_bind, isAgg_agg hu hp, run_size hs, run_loadCells_list (P := P) w q cs hc]

theorem Sep.blk (H : Sep w os rs) {i p : Nat} {T : TypeId} {cs : List Value} (hi : os[i]? = some (Blk p T cs)) : w.heap[p]? = some (.cells cs.toArray T (0, 0)) := by
  obtain ⟨_, _, h⟩ := H.ob i hi
  exact h.2
theorem Sep.blk_cell (H : Sep w os rs) {i p : Nat} {T : TypeId} {cs : List Value} (hi : os[i]? = some (Blk p T cs)) {j : Nat} {v : Value} (hj : cs[j]? = some v) : w.cell? ⟨p, j, none⟩ = some v := by
  rw [cell_of_row w p j _ T _ (H.blk hi)]; simpa using hj
/-- a store of some cells into a block. -/
theorem Sep.store (P : Program) : ∀ (us : List Value) {w : World} {os : List Ob} {rs : List Rp} (H : Sep w os rs) {i p : Nat} {T : TypeId} {cs : List Value} (hi : os[i]? = some (Blk p T cs)) (j k : Nat) (_ : j + k + us.length ≤ cs.length) (_ : ∀ u ∈ us, u.oneCell' = true),
    ∃ w', (storeCells ⟨p, j, none⟩ us k).run P w = .ok () w' ∧ Sep w' (os.set i (Blk p T (splice cs (j + k) us))) rs
  | [], w, os, rs, H, i, p, T, cs, hi, j, k, _, _ => by
    refine ⟨w, rfl, ?_⟩
    have : os.set i (Blk p T (splice cs (j + k) [])) = os := by
      apply List.ext_getElem?
      intro q
      by_cases e : i = q
      · subst e
        rw [List.getElem?_set_self (by rcases Nat.lt_or_ge i os.length with h | h; exact h; rw [List.getElem?_eq_none h] at hi; cases hi), hi]
        rfl
      · rw [List.getElem?_set_ne e]
    rw [this]; exact H
  | u :: us, w, os, rs, H, i, p, T, cs, hi, j, k, hl, h1 => by
    have hil : i < os.length := by
      rcases Nat.lt_or_ge i os.length with h | h
      · exact h
      · rw [List.getElem?_eq_none h] at hi; cases hi
    simp at hl
    have hb := H.blk hi
    have hpl : p < w.heap.size := (Array.getElem?_eq_some_iff.1 hb).1
    have hcell : w.cell? ⟨p, j + k, none⟩ = some (cs[j + k]'(by omega)) := H.blk_cell hi (List.getElem?_eq_getElem (by omega))
    have hfr : w.frozen? ⟨p, j + k, none⟩ = false := by simp [World.frozen?, hb]
    have H1 : Sep (w.setCell ⟨p, j + k, none⟩ u) (os.set i (Blk p T (cs.set (j + k) u))) rs := by
      refine H.upd i hi fun own ok _ ho => ⟨(Kp.setCell w ⟨p, j + k, none⟩ u).mono fun b _ hb e => hb (by rw [e]; exact ho.1), .inl ho.1, ?_⟩
      have := ho.2
      simp only [World.setCell, Array.getElem?_modify, if_pos rfl, this, Option.map_some]
      simp
    obtain ⟨w', hr, H2⟩ := Sep.store P us H1 (i := i) (p := p) (T := T) (cs := cs.set (j + k) u) (by rw [List.getElem?_set_self hil]) j (k + 1) (by simp; omega) (fun x hx => h1 x (.tail _ hx))
    refine ⟨w', ?_, ?_⟩
    · have hadd : (⟨p, j, none⟩ : Addr).add k = ⟨p, j + k, none⟩ := add_lit p j k
      simp only [storeCells, Sem.run_bind, hadd]
      rw [run_store P w _ u _ (h1 u (.head _)), hcell]
      simp only [hfr]
      simpa [Result.andThen] using hr
    · rw [List.set_set] at H2
      exact H2
end

section
variable {P : Program} {ops : Array Oper} {Q : Exit → Act → World → Prop} {rest : List Oper} {o : Oper} {w : World} {a : Act} {n : Nat} {env : List (Nat × Value)} {os : List Ob} {rs : List Rp}

/-! ### loads -/
theorem x_ld (E : Env n a env) {x : Operand} {t : TypeId} {u v : Value} (ho : o.op = .load t x) (hx : opv env x = some u) (hr : (Instr.loadAt t u).run P w = .ok v w) : (execOp a.eval o).run P w = .ok (.value v) w := by
  simp only [execOp, ho, E.eval hx]
  simp [Sem.run_bind, hr]
theorem x_ldB (E : Env n a env) (H : Sep w os rs) {x : Operand} {t : TypeId} {i p j : Nat} {T : TypeId} {cs : List Value} {v : Value} {d : TypeDesc} (ho : o.op = .load t x) (hx : opv env x = some (.pointer (some ⟨p, j, none⟩)))
    (hi : os[i]? = some (Blk p T cs)) (hj : cs[j]? = some v) (hu : P.underlying t = some d) (hp : plainDesc d = true) : (execOp a.eval o).run P w = .ok (.value v) w :=
  x_ld E ho hx (run_ld1 hu hp (H.blk_cell hi hj))
theorem x_ldBN (E : Env n a env) (H : Sep w os rs) {x : Operand} {t : TypeId} {i p j : Nat} {T : TypeId} {cs us : List Value} {d : TypeDesc} (ho : o.op = .load t x) (hx : opv env x = some (.pointer (some ⟨p, j, none⟩)))
    (hi : os[i]? = some (Blk p T cs)) (hj : (cs.drop j).take us.length = us) (hu : P.underlying t = some d) (hp : plainDesc d = false) (hs : (P.info? t).map (·.size) = some us.length) : (execOp a.eval o).run P w = .ok (.value (.agg us.toArray)) w := by
  refine x_ld E ho hx (run_ldN hu hp hs fun k u hk => ?_)
  rw [add_lit]
  refine H.blk_cell hi ?_
  rw [← hj, List.getElem?_take] at hk
  split at hk
  · rw [List.getElem?_drop] at hk; exact hk
  · cases hk
theorem x_ldA (E : Env n a env) (H : Sep w os rs) {α : Type} {f : α → Value} {h : ∀ x, (f x).oneCell' = true} {x : Operand} {t : TypeId} {q : Addr} {y : α} {d : TypeDesc} (ho : o.op = .load t x) (hx : opv env x = some (.pointer (some q)))
    (hm : rAt (Kd.scalar f h) q y ∈ rs) (hu : P.underlying t = some d) (hp : plainDesc d = true) : (execOp a.eval o).run P w = .ok (.value (f y)) w := by
  obtain ⟨ok, _, cs, hcs, hc⟩ := H.rd hm
  have hcs' : cs = [f y] := hcs
  subst hcs'
  exact x_ld E ho hx (run_ld1 hu hp (by have := hc 0 (f y) rfl; rwa [show q.add 0 = q from by simp [Addr.add]] at this))
theorem st_ldN (E : Env n a env) (H : Sep w os rs) (hw : Region.wanted o (yielded ops a.tmps) = true) {dd : Nat} (hd : o.dst = some dd) (hdn : Nat.ble (dd + 1) n = true) {α : Type} {d : Kd α} {x : Operand} {t : TypeId} {q : Addr} {y : α} {ds : TypeDesc} (ho : o.op = .load t x) (hx : opv env x = some (.pointer (some q)))
    (hm : rAt d q y ∈ rs) (hu : P.underlying t = some ds) (hp : plainDesc ds = false) (hs : (P.info? t).map (·.size) = some d.sz)
    (k : ∀ cs a', Sep w os (rCs d cs y :: rs) → Env n a' ((dd, .agg cs.toArray) :: env) → wpList P ops Q rest a' w) : wpList P ops Q (o :: rest) a w := by
  obtain ⟨col, h1, h2⟩ := H
  obtain ⟨_, cs, hcs, hc⟩ := h2 _ hm
  refine st_val E hw hd hdn (x_ld E ho hx (run_ldN hu hp (by rw [hs, d.len hcs]) hc)) fun a' E' => k cs a' ⟨col, h1, fun r hr => ?_⟩ E'
  cases hr with
  | head => exact hcs
  | tail _ hr => exact h2 r hr

/-! ### an element's address -/
theorem run_ixS {t e : TypeId} {α : Type} {d : Kd α} {ok : Nat → Prop} {v : Value} {xs : List α} {k : IntKind} {j : Int} {y : α} (h : Sl d w ok v xs) (ht : P.underlying t = some (.slice e)) (hs : (P.info? e).map (·.size) = some d.sz) (hj : idx xs j = some y) :
    ∃ q, (Instr.indexAt t v (.int k j)).run P w = .ok (.pointer (some q)) w ∧ ok q.block ∧ ∃ cs, d.R w ok y cs ∧ ∀ i u, cs[i]? = some u → w.cell? (q.add i) = some u := by
  obtain ⟨ad, c, flat, rfl, hc, hr, hm⟩ := h
  unfold idx at hj
  split at hj
  · rename_i h0
    have hlt : j.toNat < xs.length := by
      rcases Nat.lt_or_ge j.toNat xs.length with h | h
      · exact h
      · rw [List.getElem?_eq_none h] at hj; cases hj
    obtain ⟨b, rfl, hok, hcell⟩ := hm (fun e => by rw [e] at hlt; simp at hlt)
    obtain ⟨cs, hcs, hcc⟩ := hr.cell hj
    refine ⟨b.add (j.toNat * d.sz), ?_, by rw [add_block]; exact hok, cs, hcs, fun i u hu => by rw [add_add]; exact hcell _ u (hcc i u hu)⟩
    have hlt' : j < (xs.length : Int) := by omega
    simp [Instr.indexAt, asIntOf, Sem.run_bind, run_underlying ht, run_size hs, h0, hlt']
  · cases hj
theorem st_ixS (E : Env n a env) (H : Sep w os rs) (hw : Region.wanted o (yielded ops a.tmps) = true) {dd : Nat} (hd : o.dst = some dd) (hdn : Nat.ble (dd + 1) n = true) {α : Type} {d : Kd α} {x i : Operand} {t e : TypeId} {v : Value} {xs : List α} {kk : IntKind} {j : Int} {y : α} (ho : o.op = .indexAddr t x i) (hx : opv env x = some v) (hi : opv env i = some (.int kk j))
    (hm : rSl d v xs ∈ rs) (ht : P.underlying t = some (.slice e)) (hs : (P.info? e).map (·.size) = some d.sz) (hj : idx xs j = some y)
    (k : ∀ q a', Sep w os (rAt d q y :: rs) → Env n a' ((dd, .pointer (some q)) :: env) → wpList P ops Q rest a' w) : wpList P ops Q (o :: rest) a w := by
  obtain ⟨col, h1, h2⟩ := H
  obtain ⟨q, hr, hq⟩ := run_ixS (P := P) (k := kk) (h2 _ hm) ht hs hj
  refine st_val E hw hd hdn (v := .pointer (some q)) ?_ fun a' E' => k q a' ⟨col, h1, fun r hr => ?_⟩ E'
  · simp only [execOp, ho, E.eval hx, E.eval hi]
    simp [Sem.run_bind, hr]
  · cases hr with
    | head => exact hq
    | tail _ hr => exact h2 r hr

/-! ### lengths -/
theorem x_lenV (E : Env n a env) {t e : TypeId} {x : Operand} {b : Option Addr} {m c : Nat} (ho : o.op = .call { callee := .builtin .len, args := #[x], argTypes := #[t] }) (hx : opv env x = some (.slice b m c)) (ht : P.underlying t = some (.slice e)) : (execOp a.eval o).run P w = .ok (.value (.int .i64 (m : Int))) w := by
  simp only [execOp, ho]
  simp [Sem.run_bind, resolve, invoke, builtin, E.eval hx, Builtin.len_, run_underlying ht, goInt]
theorem x_lenS (E : Env n a env) (H : Sep w os rs) {α : Type} {d : Kd α} {t e : TypeId} {x : Operand} {v : Value} {xs : List α} (ho : o.op = .call { callee := .builtin .len, args := #[x], argTypes := #[t] }) (hx : opv env x = some v) (hm : rSl d v xs ∈ rs) (ht : P.underlying t = some (.slice e)) : (execOp a.eval o).run P w = .ok (.value (.int .i64 (xs.length : Int))) w := by
  obtain ⟨ok, h⟩ := H.rd hm
  obtain ⟨b, c, rfl, _⟩ := Sl.form h
  exact x_lenV E ho hx ht
theorem row_form {e : TypeId} {s : Nat} {base : Nat} {v : Value} {m : Nat} {f : List Value} (h : w.ownsRow base e s v m f) : ∃ b c, v = .slice b m c := by
  rcases h.2 with ⟨rfl, rfl⟩ | ⟨g, cap, cur, rfl, _⟩
  · exact ⟨none, 0, rfl⟩
  · exact ⟨_, cap, rfl⟩
theorem x_lenR (E : Env n a env) (H : Sep w os rs) {α : Type} {d : Kd α} {i : Nat} {t e e' : TypeId} {x : Operand} {v : Value} {xs : List α} (ho : o.op = .call { callee := .builtin .len, args := #[x], argTypes := #[t] }) (hx : opv env x = some v) (hi : os[i]? = some (Row e' d v xs)) (ht : P.underlying t = some (.slice e)) : (execOp a.eval o).run P w = .ok (.value (.int .i64 (xs.length : Int))) w := by
  obtain ⟨_, _, flat, h, _⟩ := H.ob i hi
  obtain ⟨b, c, rfl⟩ := row_form h
  exact x_lenV E ho hx ht

/-! ### new blocks -/
theorem Sep.newBlk (H : Sep w os rs) (T : TypeId) (cs : List Value) : Sep (w.alloc (.cells cs.toArray T)) (Blk w.heap.size T cs :: os) rs :=
  H.new (Kp.alloc _ w _) fun ok _ => ⟨Nat.le_refl _, heap_alloc_new w _⟩
theorem st_box (E : Env n a env) (H : Sep w os rs) (hw : Region.wanted o (yielded ops a.tmps) = true) {dd : Nat} (hd : o.dst = some dd) (hdn : Nat.ble (dd + 1) n = true) {x : Operand} {T : TypeId} {v : Value} {cs : List Value} (ho : o.op = .box T x) (hx : opv env x = some v) (hv : v.cells = cs.toArray)
    (k : ∀ p w' a', Sep w' (Blk p T cs :: os) rs → Env n a' ((dd, .pointer (some ⟨p, 0, none⟩)) :: env) → wpList P ops Q rest a' w') : wpList P ops Q (o :: rest) a w := by
  refine st_val E hw hd hdn (v := .pointer (some ⟨w.heap.size, 0, none⟩)) (w' := w.alloc (.cells cs.toArray T)) ?_ fun a' E' => k _ _ a' (H.newBlk T cs) E'
  simp only [execOp, ho, E.eval hx]
  simp [Sem.run_bind, Instr.box, newVar, newRow, newObj, Sem.run, hv, Result.andThen]
theorem st_alloc (E : Env n a env) (H : Sep w os rs) (hw : Region.wanted o (yielded ops a.tmps) = true) {dd : Nat} (hd : o.dst = some dd) (hdn : Nat.ble (dd + 1) n = true) {T : TypeId} {z : Value} {cs : List Value} (ho : o.op = .alloc T) (hz : (P.info? T).bind (·.zero) = some z) (hv : z.cells = cs.toArray)
    (k : ∀ p w' a', Sep w' (Blk p T cs :: os) rs → Env n a' ((dd, .pointer (some ⟨p, 0, none⟩)) :: env) → wpList P ops Q rest a' w') : wpList P ops Q (o :: rest) a w := by
  refine st_val E hw hd hdn (v := .pointer (some ⟨w.heap.size, 0, none⟩)) (w' := w.alloc (.cells cs.toArray T)) ?_ fun a' E' => k _ _ a' (H.newBlk T cs) E'
  obtain ⟨i, hi, hzz⟩ := Option.bind_eq_some_iff.1 hz
  have hzv : (zeroValue T).run P w = .ok z w := by simp [zeroValue, typeInfo, Sem.run_bind, hi, hzz]
  simp only [execOp, ho]
  simp [Sem.run_bind, Instr.alloc, hzv, newVar, newRow, newObj, Sem.run, hv, Result.andThen]

/-! ### stores -/
theorem st_st (E : Env n a env) (H : Sep w os rs) (hw : Region.wanted o (yielded ops a.tmps) = true) (hd : o.dst = none) {x y : Operand} {t : TypeId} {i p j : Nat} {T : TypeId} {cs us : List Value} {v : Value} (ho : o.op = .store t x y) (hx : opv env x = some (.pointer (some ⟨p, j, none⟩))) (hy : opv env y = some v) (hv : v.cells = us.toArray)
    (hi : os[i]? = some (Blk p T cs)) (hs : (P.info? t).map (·.size) = some us.length) (hl : Nat.ble (j + us.length) cs.length = true) (h1 : us.all (·.oneCell') = true)
    (k : ∀ w', Sep w' (os.set i (Blk p T (splice cs j us))) rs → wpList P ops Q rest a w') : wpList P ops Q (o :: rest) a w := by
  obtain ⟨w', hr, H'⟩ := Sep.store P us H hi j 0 (by have := Nat.le_of_ble_eq_true hl; omega) (by simpa using h1)
  refine st_skip E hw hd (w' := w') ?_ (k w' H')
  simp only [execOp, ho, E.eval hx, E.eval hy]
  simp [Sem.run_bind, Instr.storeAt, Instr.sureAddr, storeVar, run_size hs, hv, hr]
end
end Go.Cb
