/- Base 6: slices: append, literals, cuts, conversions. -/
import Derived.Test.YtidapdacihcckaaGreatDoorB5te
import Derived.Lib.AppendStr
import Derived.Lib.SliceRun
set_option linter.unusedVariables false
set_option linter.unusedSimpArgs false
namespace Go.Cb
open Go.RowKit Go.Lib

/-- no list that is made is longer. -/
def LIM : Nat := 274877906944

section
variable {P : Program} {w w' : World} {os : List Ob} {rs : List Rp}
end

section
variable {P : Program} {ops : Array Oper} {Q : Exit → Act → World → Prop} {rest : List Oper} {o : Oper} {w : World} {a : Act} {n : Nat} {env : List (Nat × Value)} {os : List Ob} {rs : List Rp}

theorem Sep.nilRow (H : Sep w os rs) {α : Type} (e : TypeId) (d : Kd α) : Sep w (Row e d (.slice none 0 0) [] :: os) rs :=
  H.new (Kp.refl _ w) fun ok _ => ⟨[], World.ownsRow_nil _ _ _ _, Rows.nil _ _ _, fun g hg => by simp [Value.ownBlock] at hg⟩
theorem Sep.nilSl (H : Sep w os rs) {α : Type} (d : Kd α) : Sep w os (rSl d (.slice none 0 0) ([] : List α) :: rs) :=
  H.derive _ fun ok _ => Sl.nil d w ok
theorem own_sl {α : Type} {d : Kd α} {e : TypeId} {v : Value} {xs : List α} {flat : List Value} {ok : Nat → Prop} (h : w.ownsRow 0 e d.sz v xs.length flat) (hr : Rows d w ok xs flat) (hk : ∀ g, v.ownBlock = some g → ok g) : Sl d w ok v xs := by
  rcases h.2 with ⟨rfl, h0⟩ | ⟨g, cap, cur, rfl, hb, hh, hc, _⟩
  · have : xs = [] := List.eq_nil_of_length_eq_zero h0
    subst this
    exact Sl.nil d w ok
  · exact ⟨_, cap, flat, rfl, hc, hr, fun _ => ⟨_, rfl, hk g rfl, h.cells (g := g) rfl⟩⟩
theorem Sep.thaw (H : Sep w os rs) {α : Type} {i : Nat} {e : TypeId} {d : Kd α} {v : Value} {xs : List α} (hi : os[i]? = some (Row e d v xs)) : Sep w (os.eraseIdx i) (rSl d v xs :: rs) :=
  H.freeze i hi (rSl d v xs) fun own ok ⟨flat, h1, h2, h3⟩ => own_sl h1 (h2.keep (Kp.refl _ _) fun b _ hb => .inr hb) fun g hg => .inl (h3 g hg)

theorem Sep.slform (H : Sep w os rs) {α : Type} {d : Kd α} {v : Value} {xs : List α} (hm : rSl d v xs ∈ rs) : ∃ b c, v = .slice b xs.length c := by
  obtain ⟨ok, h⟩ := H.rd hm
  obtain ⟨b, c, e, _⟩ := Sl.form h
  exact ⟨b, c, e⟩
theorem Sep.rowform (H : Sep w os rs) {α : Type} {i : Nat} {e : TypeId} {d : Kd α} {v : Value} {xs : List α} (hi : os[i]? = some (Row e d v xs)) : ∃ b c, v = .slice b xs.length c := by
  obtain ⟨_, _, flat, h, _⟩ := H.ob i hi
  exact row_form h
/-- where what is appended comes from: a slice that is read, or another row that is owned. -/
def Src {α : Type} (w : World) (os : List Ob) (rs : List Rp) (d : Kd α) (u : Value) (ys : List α) : Prop :=
  ∀ col : Nat → Nat, (∀ (i : Nat) (o : Ob), os[i]? = some o → o.p w (fun b => col b = i + 1) (fun b => col b = 0)) → (∀ r : Rp, r ∈ rs → r.p w (fun b => col b = 0)) →
    ∃ b c fl, u = .slice b ys.length c ∧ Rows d w (fun b => col b = 0) ys fl ∧ ((b = none ∧ ys = []) ∨ ∃ ad, b = some ad ∧ ∀ j u, fl[j]? = some u → w.cell? (ad.add j) = some u)
theorem src_rd {α : Type} {d : Kd α} {u : Value} {ys : List α} (hm : rSl d u ys ∈ rs) : Src w os rs d u ys := fun col h1 h2 => Sl.flat (h2 _ hm)
theorem src_row {α : Type} {i : Nat} {e : TypeId} {d : Kd α} {u : Value} {ys : List α} (hi : os[i]? = some (Row e d u ys)) : Src w os rs d u ys := fun col h1 h2 => by
  obtain ⟨flat, hown, hrows, _⟩ := h1 i _ hi
  rcases hown.2 with ⟨rfl, h0⟩ | ⟨g, cap, cur, rfl, _⟩
  · have : ys = [] := List.eq_nil_of_length_eq_zero h0
    subst this
    exact ⟨none, 0, flat, rfl, hrows, .inl ⟨rfl, rfl⟩⟩
  · exact ⟨_, cap, flat, rfl, hrows, .inr ⟨_, rfl, hown.cells (g := g) rfl⟩⟩
/-- append(v, ys...): v owned. -/
theorem append_core {α : Type} (H : Sep w os rs) {i : Nat} {t ty e : TypeId} {d : Kd α} {z : Value} {bytes : Nat} {v u : Value} {xs ys : List α} (hi : os[i]? = some (Row e d v xs)) (hm : Src w os rs d u ys)
    (ht : P.underlying t = some (.slice e)) (hinfo : (P.info? e).map (fun i => (i.zero, i.size, i.bytes)) = some (some z, d.sz, bytes)) (hz : z.cells.size = d.sz) (hlim : xs.length + ys.length ≤ LIM) (hby : Nat.ble bytes 512 = true) :
    ∃ v' w', (Builtin.append_ #[t, t] ty #[v, u]).run P w = .ok v' w' ∧ Sep w' (os.set i (Row e d v' (xs ++ ys))) rs := by
  obtain ⟨i0, hi0, hzz⟩ := Option.map_eq_some_iff.1 hinfo
  simp only [Prod.mk.injEq] at hzz
  obtain ⟨hz0, hz1, hz2⟩ := hzz
  have hby' : bytes ≤ 512 := Nat.le_of_ble_eq_true hby
  have hl1 : xs.length + ys.length ≤ 274877906944 := hlim
  have hlim2 : (xs.length + ys.length) * bytes ≤ 140737488355328 := Nat.le_trans (Nat.mul_le_mul hl1 hby') (by decide)
  obtain ⟨col, h1, h2⟩ := H
  obtain ⟨flat, hown, hrows, hblk⟩ := h1 i _ hi
  obtain ⟨b, c, fl2, rfl, hrows2, hsrc⟩ := hm col h1 h2
  have H : Sep w os rs := ⟨col, h1, h2⟩
  rcases hsrc with ⟨rfl, rfl⟩ | ⟨ad, rfl, hcell⟩
  · -- nothing is appended
    have hrun : (Builtin.append_ #[t, t] ty #[v, .slice none ([] : List α).length c]).run P w = .ok v w := by
      rcases hown.2 with ⟨rfl, hn⟩ | ⟨g, cap, cur, rfl, _, _, hnc, _⟩
      · simp [Builtin.append_, run_underlying ht, sizeOf, typeInfo, hi0, Builtin.lenOf, Builtin.firstCells]
      · simp [Builtin.append_, run_underlying ht, sizeOf, typeInfo, hi0, Builtin.lenOf, Builtin.firstCells, hnc, storeCells]
    refine ⟨v, w, hrun, ?_⟩
    rw [List.append_nil]
    have : os.set i (Row e d v xs) = os := by
      apply List.ext_getElem?
      intro q
      by_cases hq : i = q
      · subst hq
        rw [List.getElem?_set_self (by rcases Nat.lt_or_ge i os.length with h | h; exact h; rw [List.getElem?_eq_none h] at hi; cases hi), hi]
      · rw [List.getElem?_set_ne hq]
    rw [this]; exact H
  · obtain ⟨v', w', hr, hown', hg, _, hat⟩ := run_append_own_at (P := P) w 0 t ty e i0 z d.sz bytes ht hi0 hz0 hz1 hz2 hz d.pos v xs.length flat hown ad ys.length c fl2 hrows2.1 hcell hrows2.one (by simp only [maxLen]; omega) hlim2 (Nat.zero_le _)
    have hkk : Kp (fun b => col b = 0) w w' := (Kp.grown hg).mono fun b _ hb e => by
      have := hblk b e.symm
      omega
    refine ⟨v', w', hr, Sep.upd_col h1 h2 i hi ((Kp.grown hg).mono fun b _ hb e => hb (hblk b e.symm)) ⟨flat ++ fl2, by rw [List.length_append]; exact hown', ?_, fun g hg' => ?_⟩⟩
    · exact Rows.append (hrows.keep hkk fun b hb h => ⟨h, hb⟩) (hrows2.keep hkk fun b hb h => ⟨h, hb⟩)
    · rcases hat with hat | hat
      · exact .inl (hblk g (by rw [← hat]; exact hg'))
      · rw [hat] at hg'; cases hg'; exact .inr (Nat.le_refl _)
theorem st_append (E : Env n a env) (H : Sep w os rs) (hw : Region.wanted o (yielded ops a.tmps) = true) {dd : Nat} (hd : o.dst = some dd) (hdn : Nat.ble (dd + 1) n = true) {α : Type} {i : Nat} {t e : TypeId} {d : Kd α} {z : Value} {bytes : Nat} {x y : Operand} {v u : Value} {xs ys : List α}
    (ho : o.op = .call { callee := .builtin .append, args := #[x, y], argTypes := #[t, t] }) (hx : opv env x = some v) (hy : opv env y = some u) (hi : os[i]? = some (Row e d v xs)) (hm : Src w os rs d u ys)
    (ht : P.underlying t = some (.slice e)) (hinfo : (P.info? e).map (fun i => (i.zero, i.size, i.bytes)) = some (some z, d.sz, bytes)) (hz : z.cells.size = d.sz) (hlim : xs.length + ys.length ≤ LIM) (hby : Nat.ble bytes 512 = true)
    (k : ∀ v' w' a', Sep w' (os.set i (Row e d v' (xs ++ ys))) rs → Env n a' ((dd, v') :: env) → wpList P ops Q rest a' w') : wpList P ops Q (o :: rest) a w := by
  obtain ⟨v', w', hr, H'⟩ := append_core (P := P) (ty := o.type) H hi hm ht hinfo hz hlim hby
  refine st_val E hw hd hdn (v := v') (w' := w') ?_ fun a' E' => k v' w' a' H' E'
  simp only [execOp, ho]
  simp [Sem.run_bind, resolve, invoke, builtin, E.eval hx, E.eval hy, hr]
/-! ### literals of slices -/
theorem run_bs {t e : TypeId} {m : Nat} {parts : List (Nat × Value)} {v : Value} {cs : List Value} (hr : (Instr.buildSlice t m parts.toArray).run P w = .ok v (w.alloc (.cells cs.toArray e))) (E : Env n a env) {ps : List (Nat × Operand)} (ho : o.op = .buildSlice t m ps.toArray) (hx : ps.map (fun p => (p.1, a.eval p.2)) = parts) :
    (execOp a.eval o).run P w = .ok (.value v) (w.alloc (.cells cs.toArray e)) := by
  have : (ps.toArray.map fun p => (p.1, a.eval p.2)) = parts.toArray := by rw [List.map_toArray, hx]
  simp only [execOp, ho]
  simp [Sem.run_bind]
  simp at this
  rw [this, hr]
  rfl
/-- a literal that is only read. -/
theorem st_bsR (E : Env n a env) (H : Sep w os rs) (hw : Region.wanted o (yielded ops a.tmps) = true) {dd : Nat} (hd : o.dst = some dd) (hdn : Nat.ble (dd + 1) n = true) {α : Type} {d : Kd α} {t e : TypeId} {m : Nat} {ps : List (Nat × Operand)} {parts : List (Nat × Value)} {cs : List Value} {xs : List α}
    (ho : o.op = .buildSlice t m ps.toArray) (hx : ps.map (fun p => (p.1, a.eval p.2)) = parts) (hr : (Instr.buildSlice t m parts.toArray).run P w = .ok (.slice (some ⟨w.heap.size, 0, none⟩) m m) (w.alloc (.cells cs.toArray e)))
    (hl : xs.length = m) (hR : ∀ ok, (∀ r : Rp, r ∈ rs → r.p w ok) → Rows d w ok xs cs)
    (k : ∀ v w' a', Sep w' os (rSl d v xs :: rs) → Env n a' ((dd, v) :: env) → wpList P ops Q rest a' w') : wpList P ops Q (o :: rest) a w := by
  refine st_val E hw hd hdn (run_bs hr E ho hx) fun a' E' => k _ _ a' (H.newR (Kp.alloc _ w _) fun ok hok => ?_) E'
  refine ⟨_, m, cs, by rw [hl], by omega, (hR ok hok).keep (Kp.alloc ok w _) fun b _ hb => .inr hb, fun hne => ⟨_, rfl, .inl (Nat.le_refl _), fun j u hu => ?_⟩⟩
  rw [add_lit, cell_of_row _ _ _ cs.toArray e (0, 0) (heap_alloc_new w _)]
  simpa using hu
/-- a literal that is owned. -/
theorem st_bsO (E : Env n a env) (H : Sep w os rs) (hw : Region.wanted o (yielded ops a.tmps) = true) {dd : Nat} (hd : o.dst = some dd) (hdn : Nat.ble (dd + 1) n = true) {α : Type} {d : Kd α} {t e : TypeId} {m : Nat} {ps : List (Nat × Operand)} {parts : List (Nat × Value)} {cs : List Value} {xs : List α}
    (ho : o.op = .buildSlice t m ps.toArray) (hx : ps.map (fun p => (p.1, a.eval p.2)) = parts) (hr : (Instr.buildSlice t m parts.toArray).run P w = .ok (.slice (some ⟨w.heap.size, 0, none⟩) m m) (w.alloc (.cells cs.toArray e)))
    (hl : xs.length = m) (hm : Nat.ble m 4096 = true) (hR : ∀ ok, (∀ r : Rp, r ∈ rs → r.p w ok) → Rows d w ok xs cs)
    (k : ∀ v w' a', Sep w' (Row e d v xs :: os) rs → Env n a' ((dd, v) :: env) → wpList P ops Q rest a' w') : wpList P ops Q (o :: rest) a w := by
  refine st_val E hw hd hdn (run_bs hr E ho hx) fun a' E' => k _ _ a' (H.new (Kp.alloc _ w _) fun ok hok => ?_) E'
  have hR' := hR ok hok
  have hm' := Nat.le_of_ble_eq_true hm
  refine ⟨cs, ?_, hR'.keep (Kp.alloc ok w _) fun b hb h => ⟨h, hb⟩, fun g hg => by simp [Value.ownBlock] at hg; omega⟩
  have := World.ownsRow_lit (base := 0) (e := e) (size := d.sz) w cs.toArray m (Nat.zero_le _) (by simp only [maxLen]; omega) (by have := hR'.1; rw [hl] at this; simpa using this)
  simpa [hl] using this

/-! ### cuts -/
theorem st_take (E : Env n a env) (H : Sep w os rs) (hw : Region.wanted o (yielded ops a.tmps) = true) {dd : Nat} (hd : o.dst = some dd) (hdn : Nat.ble (dd + 1) n = true) {α : Type} {d : Kd α} {t e : TypeId} {x l : Operand} {v : Value} {xs : List α} {k1 : IntKind} {i : Int}
    (ho : o.op = .slice t x none (some l) none) (hx : opv env x = some v) (hl : opv env l = some (.int k1 i)) (hm : rSl d v xs ∈ rs) (ht : P.underlying t = some (.slice e)) (hs : (P.info? e).map (·.size) = some d.sz) (h0 : 0 ≤ i ∧ i ≤ xs.length)
    (k : ∀ v' a', Sep w os (rSl d v' (xs.take i.toNat) :: rs) → Env n a' ((dd, v') :: env) → wpList P ops Q rest a' w) : wpList P ops Q (o :: rest) a w := by
  obtain ⟨ok, h⟩ := H.rd hm
  obtain ⟨b, c, rfl, hc⟩ := Sl.form h
  refine st_val E hw hd hdn (v := .slice b i.toNat c) (w' := w) ?_ fun a' E' => k _ a' (H.derive1 hm _ fun ok h => Sl.take h i.toNat (by omega)) E'
  simp only [execOp, ho]
  have h2 : i ≤ (c : Int) := by omega
  have h3 : ∀ b : Option Addr, Option.map (fun x => x.add 0) b = b := fun b => by cases b <;> simp [Addr.add]
  simp [Sem.run_bind, E.eval hx, E.eval hl, Instr.sliceAt, run_underlying ht, Instr.slice, Instr.sliceBounds, Instr.sliceBound, asIntOf, h0.1, h2, run_size hs, h3]
theorem x_sub (E : Env n a env) {t : TypeId} {x l h : Operand} {s : ByteArray} {k1 k2 : IntKind} {i j : Int} (ho : o.op = .slice t x (some l) (some h) none) (hx : opv env x = some (.string s)) (hl : opv env l = some (.int k1 i)) (hh : opv env h = some (.int k2 j)) (ht : P.underlying t = some .string) (h0 : 0 ≤ i ∧ i ≤ j ∧ j ≤ s.size) :
    (execOp a.eval o).run P w = .ok (.value (.string (s.extract i.toNat j.toNat))) w := by
  simp only [execOp, ho]
  have h1 : 0 ≤ j := by omega
  have e1 : (j.toNat : Int) = j := Int.toNat_of_nonneg h1
  simp [Sem.run_bind, E.eval hx, E.eval hl, E.eval hh, Instr.sliceAt, run_underlying ht, Instr.slice, Instr.sliceBounds, Instr.sliceBound, asIntOf, h0.1, h0.2.1, h0.2.2, h1, e1]
theorem x_subL (E : Env n a env) {t : TypeId} {x l : Operand} {s : ByteArray} {k1 : IntKind} {i : Int} (ho : o.op = .slice t x (some l) none none) (hx : opv env x = some (.string s)) (hl : opv env l = some (.int k1 i)) (ht : P.underlying t = some .string) (h0 : 0 ≤ i ∧ i ≤ s.size) :
    (execOp a.eval o).run P w = .ok (.value (.string (s.extract i.toNat s.size))) w := by
  simp only [execOp, ho]
  simp [Sem.run_bind, E.eval hx, E.eval hl, Instr.sliceAt, run_underlying ht, Instr.slice, Instr.sliceBounds, Instr.sliceBound, asIntOf, h0.1, h0.2]
theorem x_subH (E : Env n a env) {t : TypeId} {x h : Operand} {s : ByteArray} {k2 : IntKind} {j : Int} (ho : o.op = .slice t x none (some h) none) (hx : opv env x = some (.string s)) (hh : opv env h = some (.int k2 j)) (ht : P.underlying t = some .string) (h0 : 0 ≤ j ∧ j ≤ s.size) :
    (execOp a.eval o).run P w = .ok (.value (.string (s.extract 0 j.toNat))) w := by
  simp only [execOp, ho]
  simp [Sem.run_bind, E.eval hx, E.eval hh, Instr.sliceAt, run_underlying ht, Instr.slice, Instr.sliceBounds, Instr.sliceBound, asIntOf, h0.1, h0.2]

theorem x_slnil (E : Env n a env) {t t' e : TypeId} {x y : Operand} {b : Option Addr} {m c : Nat} (ho : o.op = .binOp .eql t x y t') (hx : opv env x = some (.slice b m c)) (hy : opv env y = some (.slice none 0 0)) (ht : P.underlying t = some (.slice e)) : (execOp a.eval o).run P w = .ok (.value (.bool b.isNone)) w := by
  simp only [execOp, ho, E.eval hx, E.eval hy]
  simp [eqGuard, Sem.run_bind, run_eql_slice_nil w t e b m c 0 0 ht]
theorem Sep.sl_none (H : Sep w os rs) {α : Type} {d : Kd α} {xs : List α} {m c : Nat} (hm : rSl d (.slice none m c) xs ∈ rs) : xs = [] := by
  obtain ⟨ok, b, c', flat, he, _, _, h⟩ := H.rd hm
  cases he
  by_cases hx : xs = []
  · exact hx
  · obtain ⟨ad, h', _⟩ := h hx
    cases h'
/-! ### string(b) -/
theorem run_b2s {src dst e : TypeId} {v : Value} {xs : List Int} {ok : Nat → Prop} (h : Sl (kI .u8) w ok v xs) (hs : P.underlying src = some (.slice e)) (he : P.underlying e = some (.int .u8)) (hd : P.underlying dst = some .string) : (convert src dst v).run P w = .ok (.string (strOf xs)) w := by
  obtain ⟨b, c, flat, rfl, hc, hr, hm⟩ := h
  by_cases hx : xs = []
  · subst hx
    cases b with
    | none => exact run_convert_bytes_nil w src e hs he 0 c dst hd
    | some ad =>
      rw [run_convert_bytes_string w src dst e _ _ c hs he hd]
      have hl : (loadCells ad 0).run P w = .ok #[] w := rfl
      simp [Conv.bytesToString, Sem.run_bind, loadCells, loadCellsFrom]
      rfl
  · obtain ⟨ad, rfl, _, hcell⟩ := hm hx
    obtain ⟨u, hu⟩ := hr.ne_nil hx
    have hsp : ad.spot = none := by
      have := hcell 0 u hu
      rw [show ad.add 0 = ad from by simp [Addr.add]] at this
      unfold World.cell? at this
      split at this
      · cases hq : ad.spot with
        | none => rfl
        | some _ => simp [hq] at this
      · cases this
    obtain ⟨bl, off, sp⟩ := ad
    simp at hsp
    subst hsp
    refine run_convert_bytes_arg w src e hs he bl off xs.length c xs rfl (fun i hi => ?_) dst hd
    obtain ⟨cs, hcs, hcc⟩ := hr.cell (List.getElem?_eq_getElem hi)
    have hcs' : cs = [.int .u8 xs[i]] := hcs
    subst hcs'
    have := hcell _ _ (hcc 0 _ rfl)
    rw [add_lit] at this
    simpa [kI, Kd.scalar, List.getD_eq_getElem?_getD, List.getElem?_eq_getElem hi] using this
theorem x_b2s (E : Env n a env) (H : Sep w os rs) {x : Operand} {src dst e : TypeId} {v : Value} {xs : List Int} (ho : o.op = .convert src dst x) (hx : opv env x = some v) (hm : rSl (kI .u8) v xs ∈ rs) (hs : P.underlying src = some (.slice e)) (he : P.underlying e = some (.int .u8)) (hd : P.underlying dst = some .string) :
    (execOp a.eval o).run P w = .ok (.value (.string (strOf xs))) w := by
  obtain ⟨ok, h⟩ := H.rd hm
  exact x_conv E ho hx (run_b2s h hs he hd)
end
end Go.Cb
