/- Base 25: whole elements of owned rows stored; owned rows cleared from a place on, and cut; elements of arrays by address. -/
import Derived.Test.YtidapdacihcckaaGreatDoorB24te
set_option linter.unusedVariables false
set_option linter.unusedSimpArgs false
namespace Go.Cb
open Go.RowKit
section
variable {P : Program} {ops : Array Oper} {Q : Exit → Act → World → Prop} {rest : List Oper} {o : Oper} {w : World} {a : Act} {n : Nat} {env : List (Nat × Value)} {os : List Ob} {rs : List Rp}
theorem x_ixP (E : Env n a env) {t e : TypeId} {x ix : Operand} {p off len sz j : Nat} {kk : IntKind} {z : Int} (ho : o.op = .indexAddr t x ix) (hx : opv env x = some (.pointer (some ⟨p, off, none⟩))) (hi : opv env ix = some (.int kk z)) (hz : (z == (j : Int)) = true) (hj : Nat.ble (j + 1) len = true)
    (ht : P.underlying t = some (.array len e)) (hs : (P.info? e).map (·.size) = some sz) : (execOp a.eval o).run P w = .ok (.value (.pointer (some ⟨p, off + j * sz, none⟩))) w := by
  have hz : z = (j : Int) := by simpa using hz
  subst hz
  have hj' : j < len := Nat.le_of_ble_eq_true hj
  simp only [execOp, ho, E.eval hx, E.eval hi]
  simp [Sem.run_bind, Instr.indexAt, asIntOf, run_underlying ht, run_size hs, hj', Addr.add, Instr.sureAddr]
def subV (sz i : Nat) : Value → Value
  | .slice b n c => .slice (if c = i then b else b.map (·.add (i * sz))) (n - i) (c - i)
  | v => v
theorem row_v {α : Type} {d : Kd α} (H : Sep w os rs) {i : Nat} {e : TypeId} {v : Value} {xs : List α} (hi : os[i]? = some (Row e d v xs)) : (v = .slice none 0 0 ∧ xs = []) ∨ ∃ g c, v = .slice (some ⟨g, 0, none⟩) xs.length c ∧ xs.length ≤ c := by
  obtain ⟨_, _, flat, ⟨_, h⟩, _⟩ := H.ob i hi
  rcases h with ⟨h, h0⟩ | ⟨g, cap, cur, rfl, _, _, hn, _⟩
  · exact .inl ⟨h, List.length_eq_zero_iff.1 h0⟩
  · exact .inr ⟨g, cap, rfl, hn⟩
theorem x_subRow {α : Type} {d : Kd α} (E : Env n a env) (H : Sep w os rs) {t e : TypeId} {x l : Operand} {v : Value} {xs : List α} {k1 : IntKind} {z : Int} {i : Nat}
    (ho : o.op = .slice t x (some l) none none) (hx : opv env x = some v) (hl : opv env l = some (.int k1 z)) (hi : os[i]? = some (Row e d v xs)) (ht : P.underlying t = some (.slice e)) (hs : (P.info? e).map (·.size) = some d.sz) (h0 : 0 ≤ z ∧ z ≤ xs.length) :
    (execOp a.eval o).run P w = .ok (.value (subV d.sz z.toNat v)) w := by
  have h2 : z ≤ (xs.length : Int) := h0.2
  rcases row_v H hi with ⟨rfl, rfl⟩ | ⟨g, c, rfl, _⟩
  · simp only [execOp, ho]
    simp at h2
    have : z = 0 := by omega
    subst this
    simp [Sem.run_bind, E.eval hx, E.eval hl, Instr.sliceAt, run_underlying ht, Instr.slice, Instr.sliceBounds, Instr.sliceBound, asIntOf, run_size hs, subV]
  · simp only [execOp, ho]
    simp [Sem.run_bind, E.eval hx, E.eval hl, Instr.sliceAt, run_underlying ht, Instr.slice, Instr.sliceBounds, Instr.sliceBound, asIntOf, h0.1, h2, run_size hs, subV]
theorem encs_rep {α : Type} {d : Kd α} (F : Flat d) (z0 : α) : ∀ (m k : Nat), k < m * d.sz → (F.encs (List.replicate m z0))[k]? = (F.enc z0)[k % d.sz]?
  | 0, k, h => by omega
  | m + 1, k, h => by
    show (F.encs (z0 :: List.replicate m z0))[k]? = _
    rw [show z0 :: List.replicate m z0 = [z0] ++ List.replicate m z0 from rfl, F.encs_app, F.encs_one]
    have hl := F.len z0
    rw [Nat.add_mul, Nat.one_mul] at h
    by_cases hk : k < d.sz
    · rw [List.getElem?_append_left (by omega), Nat.mod_eq_of_lt hk]
    · rw [List.getElem?_append_right (by omega), hl, encs_rep F z0 m (k - d.sz) (by omega)]
      congr 1
      rw [Nat.mod_eq_sub_mod (a := k) (by omega)]
theorem zc_eq {α : Type} {d : Kd α} (F : Flat d) (z0 : α) {cs : Array Value} (hcs : cs.toList = F.enc z0) (m : Nat) : (Builtin.zeroCells cs m).toList = F.encs (List.replicate m z0) := by
  have hsz : cs.size = d.sz := by rw [← F.len z0, ← hcs]; simp
  apply List.ext_getElem?
  intro k
  by_cases hk : k < m * d.sz
  · rw [encs_rep F z0 m k hk]
    have hp := d.pos
    have hm : k % d.sz < cs.size := by rw [hsz]; exact Nat.mod_lt _ (by omega)
    unfold Builtin.zeroCells
    rw [← hcs]
    simp [hsz, hk, hm]
    rw [hsz] at hm
    rw [getElem!_pos cs (k % d.sz) (by omega)]
    exact (Array.getElem?_eq_getElem _).symm
  · rw [List.getElem?_eq_none (by unfold Builtin.zeroCells; simp [hsz]; omega), List.getElem?_eq_none (by rw [F.encs_len]; simp; omega)]
theorem st_clearRow {α : Type} {d : Kd α} (E : Env n a env) (H : Sep w os rs) (F : Flat d) (hw : Region.wanted o (yielded ops a.tmps) = true) (hd : o.dst = none) {x : Operand} {t e : TypeId} {i : Nat} {v zv : Value} {xs : List α} {z : Int} {z0 : α}
    (ho : o.op = .call { callee := .builtin .clear, args := #[x], argTypes := #[t] }) (hx : opv env x = some (subV d.sz z.toNat v)) (ht : P.underlying t = some (.slice e)) (hz : (P.info? e).bind (·.zero) = some zv) (hz0 : zv.cells.toList = F.enc z0) (h1 : (F.enc z0).all (·.oneCell') = true)
    (hi : os[i]? = some (Row e d v xs)) (h0 : 0 ≤ z ∧ z ≤ xs.length)
    (K : ∀ w', Sep w' (os.set i (Row e d v (xs.take z.toNat ++ List.replicate (xs.length - z.toNat) z0))) rs → wpList P ops Q rest a w') : wpList P ops Q (o :: rest) a w := by
  have hil := (List.getElem?_eq_some_iff.1 hi).1
  obtain ⟨j, hj⟩ : ∃ j : Nat, z = (j : Int) := ⟨z.toNat, by omega⟩
  subst hj
  have hjl : j ≤ xs.length := by omega
  have hjt : ((j : Int)).toNat = j := rfl
  rw [hjt] at hx K
  obtain ⟨w', hr, H'⟩ : ∃ w', (execOp a.eval o).run P w = .ok (.value (.tuple #[])) w' ∧ Sep w' (os.set i (Row e d v (xs.take j ++ List.replicate (xs.length - j) z0))) rs := by
    by_cases hm : xs.length - j = 0
    · refine ⟨w, ?_, ?_⟩
      · simp only [execOp, ho]
        rcases row_v H hi with ⟨rfl, rfl⟩ | ⟨g, c, rfl, _⟩
        · simp [subV] at hx
          simp [Sem.run_bind, resolve, invoke, builtin, E.eval hx, Builtin.clear_, run_underlying ht]
        · simp only [subV, hm] at hx
          by_cases hc : c = j
          · rw [if_pos hc] at hx
            simp [Sem.run_bind, resolve, invoke, builtin, E.eval hx, Builtin.clear_, run_underlying ht]
          · rw [if_neg hc] at hx
            simp [Sem.run_bind, resolve, invoke, builtin, E.eval hx, Builtin.clear_, run_underlying ht]
      · have e1 : xs.take j ++ List.replicate (xs.length - j) z0 = xs := by rw [hm, List.replicate_zero, List.append_nil, List.take_of_length_le (by omega)]
        rw [e1]
        have e2 : os.set i (Row e d v xs) = os := by
          apply List.ext_getElem?
          intro q
          by_cases h : i = q
          · subst h; rw [List.getElem?_set_self hil, hi]
          · rw [List.getElem?_set_ne h]
        rw [e2]; exact H
    · rcases row_v H hi with ⟨_, rfl⟩ | ⟨g, c, rfl, hnc⟩
      · simp at hm
      obtain ⟨cs, H1, hn, _, hcm, hcl, hct⟩ := H.rowBlk F hi
      have hb : (os.set i (Blk g e cs))[i]? = some (Blk g e cs) := List.getElem?_set_self hil
      have hul : (F.encs (List.replicate (xs.length - j) z0)).length = (xs.length - j) * d.sz := by rw [F.encs_len, List.length_replicate]
      have hmul : j * d.sz + (xs.length - j) * d.sz = xs.length * d.sz := by rw [← Nat.add_mul]; congr 1; omega
      have hmul2 : xs.length * d.sz ≤ c * d.sz := Nat.mul_le_mul_right _ hnc
      have h1' : ∀ u ∈ F.encs (List.replicate (xs.length - j) z0), u.oneCell' = true := by
        intro u hu
        obtain ⟨y, hy, hu⟩ := List.mem_flatMap.1 hu
        rw [List.eq_of_mem_replicate hy] at hu
        exact List.all_eq_true.1 h1 u hu
      obtain ⟨w', hr, H'⟩ := Sep.store P (F.encs (List.replicate (xs.length - j) z0)) H1 hb (j * d.sz) 0 (by rw [hul]; omega) h1'
      refine ⟨w', ?_, ?_⟩
      · have hzr := zero_run (P := P) hz w
        have hcj : c ≠ j := by omega
        simp only [subV, if_neg hcj] at hx
        have hx : opv env x = some (.slice (some ⟨g, j * d.sz, none⟩) (xs.length - j) (c - j)) := by
          rw [hx]
          show some (Value.slice (some ((⟨g, 0, none⟩ : Addr).add _)) _ _) = _
          rw [add_lit]; simp
        obtain ⟨m, hm'⟩ : ∃ k, xs.length - j = k + 1 := ⟨xs.length - j - 1, by omega⟩
        rw [hm'] at hx hr
        simp only [execOp, ho]
        simp [Sem.run_bind, resolve, invoke, builtin, E.eval hx, Builtin.clear_, run_underlying ht, hzr, zc_eq F z0 hz0, hr]
      · rw [List.set_set, splice_eq _ _ _ (by rw [hul]; omega)] at H'
        simp only [Nat.add_zero] at H'
        have hb3 := List.getElem?_set_self (l := os) (i := i) (a := Blk g e (cs.take (j * d.sz) ++ F.encs (List.replicate (xs.length - j) z0) ++ cs.drop (j * d.sz + (F.encs (List.replicate (xs.length - j) z0)).length))) hil
        have e0 : cs.take (j * d.sz) = F.encs (xs.take j) := by
          rw [← F.encs_take xs j hjl, ← hct, List.take_take, Nat.min_eq_left (Nat.mul_le_mul_right _ hjl)]
        have H2 := H'.blkRow (xs := xs.take j ++ List.replicate (xs.length - j) z0) (n := xs.length) (c := c) F hb3 (by rw [List.length_append, List.length_take, List.length_replicate]; omega) hnc hcm (by rw [List.length_append, List.length_append, List.length_take, List.length_drop, hul, hcl]; omega)
          (by
            rw [e0, ← F.encs_app, show xs.length * d.sz = (F.encs (xs.take j ++ List.replicate (xs.length - j) z0)).length from by rw [F.encs_len, List.length_append, List.length_take, List.length_replicate]; congr 1; omega]
            exact List.take_left)
        rw [List.set_set] at H2
        exact H2
  refine wpList_wanted hw ?_
  unfold Oper.wp
  rw [hr]
  show wpList P ops Q rest (a.put o.dst _) w'
  rw [hd]
  exact K w' H'
theorem st_cutRow {α : Type} {d : Kd α} (E : Env n a env) (H : Sep w os rs) (F : Flat d) (hw : Region.wanted o (yielded ops a.tmps) = true) {dd : Nat} (hd : o.dst = some dd) (hdn : Nat.ble (dd + 1) n = true) {t e : TypeId} {x l : Operand} {v : Value} {xs : List α} {k1 : IntKind} {z : Int} {i : Nat}
    (ho : o.op = .slice t x none (some l) none) (hx : opv env x = some v) (hl : opv env l = some (.int k1 z)) (hi : os[i]? = some (Row e d v xs)) (ht : P.underlying t = some (.slice e)) (hs : (P.info? e).map (·.size) = some d.sz) (h0 : 0 ≤ z ∧ z ≤ xs.length)
    (K : ∀ v' a', Sep w (os.set i (Row e d v' (xs.take z.toNat))) rs → Env n a' ((dd, v') :: env) → wpList P ops Q rest a' w) : wpList P ops Q (o :: rest) a w := by
  have hil := (List.getElem?_eq_some_iff.1 hi).1
  have h2 : z ≤ (xs.length : Int) := h0.2
  have h3 : ∀ b : Option Addr, Option.map (fun x => x.add 0) b = b := fun b => by cases b <;> simp [Addr.add]
  rcases row_v H hi with ⟨rfl, rfl⟩ | ⟨g, c, rfl, hnc⟩
  · simp at h2
    have : z = 0 := by omega
    subst this
    refine st_val E hw hd hdn (v := .slice none 0 0) (w' := w) ?_ fun a' E' => K _ a' ?_ E'
    · simp only [execOp, ho]
      simp [Sem.run_bind, E.eval hx, E.eval hl, Instr.sliceAt, run_underlying ht, Instr.slice, Instr.sliceBounds, Instr.sliceBound, asIntOf, run_size hs]
    · have e2 : os.set i (Row e d (.slice none 0 0) (([] : List α).take ((0 : Int)).toNat)) = os := by
        apply List.ext_getElem?
        intro q
        by_cases h : i = q
        · subst h; rw [List.getElem?_set_self hil, hi]; rfl
        · rw [List.getElem?_set_ne h]
      rw [e2]; exact H
  · refine st_val E hw hd hdn (v := .slice (some ⟨g, 0, none⟩) z.toNat c) (w' := w) ?_ fun a' E' => K _ a' ?_ E'
    · have h4 : z ≤ (c : Int) := by omega
      simp only [execOp, ho]
      simp [Sem.run_bind, E.eval hx, E.eval hl, Instr.sliceAt, run_underlying ht, Instr.slice, Instr.sliceBounds, Instr.sliceBound, asIntOf, h0.1, h4, run_size hs, Addr.add]
    · obtain ⟨cs, H1, hn, _, hcm, hcl, hct⟩ := H.rowBlk F hi
      have hb : (os.set i (Blk g e cs))[i]? = some (Blk g e cs) := List.getElem?_set_self hil
      have H2 := H1.blkRow (xs := xs.take z.toNat) (n := z.toNat) (c := c) F hb (by rw [List.length_take]; omega) (by omega) hcm hcl (by
        rw [← F.encs_take xs z.toNat (by omega), ← hct, List.take_take, Nat.min_eq_left (Nat.mul_le_mul_right _ (by omega))])
      rw [List.set_set] at H2
      exact H2
theorem st_stRowN {α : Type} {d : Kd α} (E : Env n a env) (H : Sep w os rs) (F : Flat d) (hw : Region.wanted o (yielded ops a.tmps) = true) (hd : o.dst = none) {x y : Operand} {t : TypeId} {i : Nat} {e : TypeId} {g m c : Nat} {xs : List α} {j : Int} {z z' : α} {v : Value} {us : List Value}
    (ho : o.op = .store t x y) (hx : opv env x = some (.pointer (some ⟨g, j.toNat * d.sz, none⟩))) (hy : opv env y = some v) (hv : v.cells = us.toArray) (hu : F.enc z' = us) (h1 : us.all (·.oneCell') = true) (hi : os[i]? = some (Row e d (.slice (some ⟨g, 0, none⟩) m c) xs)) (hj : idx xs j = some z) (hs : (P.info? t).map (·.size) = some us.length)
    (K : ∀ w', Sep w' (os.set i (Row e d (.slice (some ⟨g, 0, none⟩) m c) (xs.set j.toNat z'))) rs → wpList P ops Q rest a w') : wpList P ops Q (o :: rest) a w := by
  subst hu
  have hil := (List.getElem?_eq_some_iff.1 hi).1
  obtain ⟨_, hjl, _⟩ := idx_some hj
  obtain ⟨cs, H1, hn, hnc, hcm, hcl, hct⟩ := H.rowBlk F hi
  have hb : (os.set i (Blk g e cs))[i]? = some (Blk g e cs) := List.getElem?_set_self hil
  have hul := F.len z'
  have m1 : (j.toNat + 1) * d.sz ≤ m * d.sz := Nat.mul_le_mul_right _ (by omega)
  have m2 : m * d.sz ≤ c * d.sz := Nat.mul_le_mul_right _ hnc
  rw [Nat.add_mul, Nat.one_mul] at m1
  obtain ⟨w', hr, H'⟩ := Sep.store P (F.enc z') H1 hb (j.toNat * d.sz) 0 (by rw [hul]; omega) (by simpa using h1)
  simp only [Nat.add_zero] at H'
  rw [List.set_set, splice_eq _ _ _ (by rw [hul]; omega)] at H'
  have hb3 := List.getElem?_set_self (l := os) (i := i) (a := Blk g e (cs.take (j.toNat * d.sz) ++ F.enc z' ++ cs.drop (j.toNat * d.sz + (F.enc z').length))) hil
  have e0 : cs.take (j.toNat * d.sz) = F.encs (xs.take j.toNat) := by
    rw [← F.encs_take xs j.toNat (by omega), ← hct, List.take_take, Nat.min_eq_left (by omega)]
  have e1 : cs.drop (j.toNat * d.sz + d.sz) = F.encs (xs.drop (j.toNat + 1)) ++ cs.drop (m * d.sz) := by
    have h3 : cs = F.encs xs ++ cs.drop (m * d.sz) := by rw [← hct, List.take_append_drop]
    have h4 : j.toNat * d.sz + d.sz = (j.toNat + 1) * d.sz := by rw [Nat.add_mul, Nat.one_mul]
    conv => lhs; rw [h3]
    rw [List.drop_append_of_le_length (by rw [F.encs_len, hn]; omega), h4, F.encs_drop _ _ (by omega)]
  have e2 : xs.set j.toNat z' = xs.take j.toNat ++ [z'] ++ xs.drop (j.toNat + 1) := by
    rw [List.set_eq_take_append_cons_drop, if_pos hjl]; simp
  have H2 := H'.blkRow (xs := xs.set j.toNat z') (n := m) (c := c) F hb3 (by rw [List.length_set, hn]) hnc hcm (by rw [List.length_append, List.length_append, List.length_take, List.length_drop, hul, hcl]; omega)
    (by
      rw [hul, e0, e1, ← F.encs_one, ← F.encs_app, ← List.append_assoc, ← F.encs_app, ← e2, show m * d.sz = (F.encs (xs.set j.toNat z')).length from by rw [F.encs_len, List.length_set, hn]]
      exact List.take_left)
  rw [List.set_set] at H2
  refine st_skip E hw hd (w' := w') ?_ (K w' H2)
  simp only [execOp, ho, E.eval hx, E.eval hy]
  simp [Sem.run_bind, Instr.storeAt, Instr.sureAddr, storeVar, run_size hs, hv, hr]
/-! the same, the row's value told by an equation -/
theorem x_ixRowV {α : Type} {d : Kd α} (E : Env n a env) {t e : TypeId} {x ix : Operand} {v : Value} {g m c : Nat} {kk : IntKind} {j : Int} {xs : List α} {y : α} (hv : v = .slice (some ⟨g, 0, none⟩) m c) (ho : o.op = .indexAddr t x ix) (hx : opv env x = some v) (hi : opv env ix = some (.int kk j)) (hm : xs.length = m)
    (ht : P.underlying t = some (.slice e)) (hs : (P.info? e).map (·.size) = some d.sz) (hj : idx xs j = some y) : (execOp a.eval o).run P w = .ok (.value (.pointer (some ⟨g, j.toNat * d.sz, none⟩))) w := by
  subst hv
  exact x_ixRow E ho hx hi hm ht hs hj
theorem x_ldRowV {α : Type} {d : Kd α} (E : Env n a env) (H : Sep w os rs) (F : Flat d) {x : Operand} {t : TypeId} {i : Nat} {e : TypeId} {v : Value} {g m c k : Nat} {xs : List α} {j : Int} {y : α} {u : Value} {ds : TypeDesc} (hv : v = .slice (some ⟨g, 0, none⟩) m c) (ho : o.op = .load t x) (hx : opv env x = some (.pointer (some ⟨g, j.toNat * d.sz + k, none⟩)))
    (hi : os[i]? = some (Row e d v xs)) (hj : idx xs j = some y) (hk : (F.enc y)[k]? = some u) (hu : P.underlying t = some ds) (hp : plainDesc ds = true) : (execOp a.eval o).run P w = .ok (.value u) w := by
  subst hv
  exact x_ldRow E H F ho hx hi hj hk hu hp
theorem x_ldRowNV {α : Type} {d : Kd α} (E : Env n a env) (H : Sep w os rs) (F : Flat d) {x : Operand} {t : TypeId} {i : Nat} {e : TypeId} {v : Value} {g m c : Nat} {xs : List α} {j : Int} {y : α} {us : List Value} {ds : TypeDesc} (hv : v = .slice (some ⟨g, 0, none⟩) m c) (ho : o.op = .load t x) (hx : opv env x = some (.pointer (some ⟨g, j.toNat * d.sz, none⟩)))
    (hi : os[i]? = some (Row e d v xs)) (hj : idx xs j = some y) (hk : F.enc y = us) (hu : P.underlying t = some ds) (hp : plainDesc ds = false) (hs : (P.info? t).map (·.size) = some us.length) : (execOp a.eval o).run P w = .ok (.value (.agg us.toArray)) w := by
  subst hv
  exact x_ldRowN E H F ho hx hi hj hk hu hp hs
theorem st_stRowV {α : Type} {d : Kd α} (E : Env n a env) (H : Sep w os rs) (F : Flat d) (hw : Region.wanted o (yielded ops a.tmps) = true) (hd : o.dst = none) {x y : Operand} {t : TypeId} {i : Nat} {e : TypeId} {v : Value} {g m c k : Nat} {xs : List α} {j : Int} {z z' : α} {u : Value} (hv : v = .slice (some ⟨g, 0, none⟩) m c) (ho : o.op = .store t x y) (hx : opv env x = some (.pointer (some ⟨g, j.toNat * d.sz + k, none⟩))) (hy : opv env y = some u)
    (hu : u.cells = [u].toArray) (h1 : u.oneCell' = true) (hi : os[i]? = some (Row e d v xs)) (hj : idx xs j = some z) (he : F.enc z' = (F.enc z).set k u) (hk : Nat.ble (k + 1) d.sz = true) (hs : (P.info? t).map (·.size) = some 1)
    (K : ∀ w', Sep w' (os.set i (Row e d v (xs.set j.toNat z'))) rs → wpList P ops Q rest a w') : wpList P ops Q (o :: rest) a w := by
  subst hv
  exact st_stRow E H F hw hd ho hx hy hu h1 hi hj he hk hs K
theorem st_stRowNV {α : Type} {d : Kd α} (E : Env n a env) (H : Sep w os rs) (F : Flat d) (hw : Region.wanted o (yielded ops a.tmps) = true) (hd : o.dst = none) {x y : Operand} {t : TypeId} {i : Nat} {e : TypeId} {vr : Value} {g m c : Nat} {xs : List α} {j : Int} {z z' : α} {v : Value} {us : List Value} (hvr : vr = .slice (some ⟨g, 0, none⟩) m c)
    (ho : o.op = .store t x y) (hx : opv env x = some (.pointer (some ⟨g, j.toNat * d.sz, none⟩))) (hy : opv env y = some v) (hv : v.cells = us.toArray) (hu : F.enc z' = us) (h1 : us.all (·.oneCell') = true) (hi : os[i]? = some (Row e d vr xs)) (hj : idx xs j = some z) (hs : (P.info? t).map (·.size) = some us.length)
    (K : ∀ w', Sep w' (os.set i (Row e d vr (xs.set j.toNat z'))) rs → wpList P ops Q rest a w') : wpList P ops Q (o :: rest) a w := by
  subst hvr
  exact st_stRowN E H F hw hd ho hx hy hv hu h1 hi hj hs K
end
end Go.Cb
