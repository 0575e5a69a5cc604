/- Base 17: elements of rows that are owned: their addresses, loads and stores; rows that are cut. -/
import Derived.Test.YtidapdacihcckaaGreatDoorB16te
set_option linter.unusedVariables false
set_option linter.unusedSimpArgs false
namespace Go.Cb
open Go.RowKit
/-- a kind of data that lies in its own cells alone. -/
structure Flat {α : Type} (d : Kd α) where
  enc : α → List Value
  open' : ∀ {w : World} {ok : Nat → Prop} {x : α} {cs : List Value}, d.R w ok x cs → cs = enc x
  mk' : ∀ {w : World} {ok : Nat → Prop} {x : α}, d.R w ok x (enc x)
section
variable {α : Type} {d : Kd α} {w : World} {os : List Ob} {rs : List Rp}
theorem Flat.len (F : Flat d) (x : α) : (F.enc x).length = d.sz := d.len (F.mk' (w := default) (ok := fun _ => True))
theorem idx_some {xs : List α} {j : Int} {y : α} (h : idx xs j = some y) : 0 ≤ j ∧ j.toNat < xs.length ∧ xs[j.toNat]? = some y := by
  unfold idx at h
  split at h
  · rename_i h0
    exact ⟨h0, (List.getElem?_eq_some_iff.1 h).1, h⟩
  · cases h
theorem Sep.rowformNE (H : Sep w os rs) {i : Nat} {e : TypeId} {v : Value} {xs : List α} (hi : os[i]? = some (Row e d v xs)) {j : Int} {y : α} (hj : idx xs j = some y) : ∃ g c, v = .slice (some ⟨g, 0, none⟩) xs.length c := by
  obtain ⟨_, _, flat, ⟨_, h⟩, _⟩ := H.ob i hi
  rcases h with ⟨_, h0⟩ | ⟨g, cap, cur, rfl, _⟩
  · have := (idx_some hj).2.1; omega
  · exact ⟨g, cap, rfl⟩
theorem row_cells (H : Sep w os rs) (F : Flat d) {i : Nat} {e : TypeId} {g n c : Nat} {xs : List α} (hi : os[i]? = some (Row e d (.slice (some ⟨g, 0, none⟩) n c) xs)) {j : Int} {y : α} (hj : idx xs j = some y) {k : Nat} {u : Value} (hk : (F.enc y)[k]? = some u) : w.cell? ⟨g, j.toNat * d.sz + k, none⟩ = some u := by
  obtain ⟨_, _, flat, ⟨hl, h⟩, hr, _⟩ := H.ob i hi
  obtain ⟨_, hlt, hy⟩ := idx_some hj
  rcases h with ⟨h, _⟩ | ⟨g', cap, cur, hv, _, hh, hn, _, hs, ht⟩
  · cases h
  cases hv
  have h1 := F.open' (hr.2 _ _ hy)
  have hke : k < d.sz := by rw [← F.len y]; exact (List.getElem?_eq_some_iff.1 hk).1
  rw [cell_of_row w g (j.toNat * d.sz + k) cur e _ hh]
  rw [← h1, List.getElem?_take, if_pos hke, List.getElem?_drop, ← ht, List.getElem?_take] at hk
  split at hk
  · simpa using hk
  · cases hk
variable {P : Program} {ops : Array Oper} {Q : Exit → Act → World → Prop} {rest : List Oper} {o : Oper} {a : Act} {n : Nat} {env : List (Nat × Value)}
theorem x_ixRow (E : Env n a env) {t e : TypeId} {x ix : Operand} {g m c : Nat} {kk : IntKind} {j : Int} {xs : List α} {y : α} (ho : o.op = .indexAddr t x ix) (hx : opv env x = some (.slice (some ⟨g, 0, none⟩) m c)) (hi : opv env ix = some (.int kk j)) (hm : xs.length = m)
    (ht : P.underlying t = some (.slice e)) (hs : (P.info? e).map (·.size) = some d.sz) (hj : idx xs j = some y) : (execOp a.eval o).run P w = .ok (.value (.pointer (some ⟨g, j.toNat * d.sz, none⟩))) w := by
  obtain ⟨h0, hlt, _⟩ := idx_some hj
  have hlt' : j < (m : Int) := by omega
  simp only [execOp, ho, E.eval hx, E.eval hi]
  simp [Sem.run_bind, Instr.indexAt, asIntOf, run_underlying ht, run_size hs, h0, hlt', Addr.add]
  intro h; exact h.symm
theorem x_ldRow (E : Env n a env) (H : Sep w os rs) (F : Flat d) {x : Operand} {t : TypeId} {i : Nat} {e : TypeId} {g m c k : Nat} {xs : List α} {j : Int} {y : α} {u : Value} {ds : TypeDesc} (ho : o.op = .load t x) (hx : opv env x = some (.pointer (some ⟨g, j.toNat * d.sz + k, none⟩)))
    (hi : os[i]? = some (Row e d (.slice (some ⟨g, 0, none⟩) m c) xs)) (hj : idx xs j = some y) (hk : (F.enc y)[k]? = some u) (hu : P.underlying t = some ds) (hp : plainDesc ds = true) : (execOp a.eval o).run P w = .ok (.value u) w :=
  x_ld E ho hx (run_ld1 hu hp (row_cells H F hi hj hk))
theorem x_ldRowN (E : Env n a env) (H : Sep w os rs) (F : Flat d) {x : Operand} {t : TypeId} {i : Nat} {e : TypeId} {g m c : Nat} {xs : List α} {j : Int} {y : α} {us : List Value} {ds : TypeDesc} (ho : o.op = .load t x) (hx : opv env x = some (.pointer (some ⟨g, j.toNat * d.sz, none⟩)))
    (hi : os[i]? = some (Row e d (.slice (some ⟨g, 0, none⟩) m c) xs)) (hj : idx xs j = some y) (hk : F.enc y = us) (hu : P.underlying t = some ds) (hp : plainDesc ds = false) (hs : (P.info? t).map (·.size) = some us.length) : (execOp a.eval o).run P w = .ok (.value (.agg us.toArray)) w := by
  refine x_ld E ho hx (run_ldN hu hp hs fun q u hq => ?_)
  subst hk
  rw [add_lit]
  exact row_cells H F hi hj hq
end
section
variable {α : Type} {d : Kd α} {os : List Ob} {rs : List Rp}
theorem rows_set (F : Flat d) {w : World} {ok : Nat → Prop} {xs : List α} {flat : List Value} (h : Rows d w ok xs flat) {i : Nat} {y y' : α} (hi : xs[i]? = some y) {k : Nat} {u : Value} (he : F.enc y' = (F.enc y).set k u) (hk : k < d.sz) : Rows d w ok (xs.set i y') (flat.set (i * d.sz + k) u) := by
  have hil := (List.getElem?_eq_some_iff.1 hi).1
  refine ⟨by rw [List.length_set, List.length_set]; exact h.1, fun q x hq => ?_⟩
  by_cases e : i = q
  · subst e
    rw [List.getElem?_set_self hil] at hq
    cases hq
    have h1 := F.open' (h.2 _ _ hi)
    have : ((flat.set (i * d.sz + k) u).drop (i * d.sz)).take d.sz = F.enc y' := by
      rw [he, ← h1]
      apply List.ext_getElem?
      intro z
      by_cases hz : z < d.sz
      · rw [List.getElem?_take, if_pos hz, List.getElem?_drop]
        by_cases e : k = z
        · subst e
          have hlen : i * d.sz + k < flat.length := by
            rw [h.1]
            calc i * d.sz + k < i * d.sz + d.sz := by omega
              _ = (i + 1) * d.sz := by rw [Nat.add_mul, Nat.one_mul]
              _ ≤ xs.length * d.sz := Nat.mul_le_mul_right _ hil
          rw [List.getElem?_set_self hlen, List.getElem?_set_self (by rw [List.length_take, List.length_drop]; omega)]
        · rw [List.getElem?_set_ne (by omega), List.getElem?_set_ne e, List.getElem?_take, if_pos hz, List.getElem?_drop]
      · rw [List.getElem?_eq_none (by rw [List.length_take]; omega), List.getElem?_eq_none (by rw [List.length_set, List.length_take]; omega)]
    rw [this]
    exact F.mk'
  · rw [List.getElem?_set_ne e] at hq
    have := h.2 _ _ hq
    have e2 : ((flat.set (i * d.sz + k) u).drop (q * d.sz)).take d.sz = (flat.drop (q * d.sz)).take d.sz := by
      apply List.ext_getElem?
      intro z
      rw [List.getElem?_take, List.getElem?_take]
      split
      · rename_i hz
        rw [List.getElem?_drop, List.getElem?_drop, List.getElem?_set_ne]
        intro e3
        rcases Nat.lt_or_ge i q with h4 | h4
        · have : (i + 1) * d.sz ≤ q * d.sz := Nat.mul_le_mul_right _ h4
          rw [Nat.add_mul, Nat.one_mul] at this
          omega
        · have : (q + 1) * d.sz ≤ i * d.sz := Nat.mul_le_mul_right _ (by omega)
          rw [Nat.add_mul, Nat.one_mul] at this
          omega
      · rfl
    rw [e2]
    exact this
theorem Rows.flat (F : Flat d) {w w' : World} {ok ok' : Nat → Prop} {xs : List α} {f : List Value} (h : Rows d w ok xs f) : Rows d w' ok' xs f :=
  ⟨h.1, fun i x hx => by rw [F.open' (h.2 i x hx)]; exact F.mk'⟩
theorem Sep.rowSet (F : Flat d) {w : World} (H : Sep w os rs) {i : Nat} {e : TypeId} {g n c : Nat} {xs : List α} (hi : os[i]? = some (Row e d (.slice (some ⟨g, 0, none⟩) n c) xs)) {j : Nat} {y y' : α} (hj : xs[j]? = some y) {k : Nat} {u : Value} (he : F.enc y' = (F.enc y).set k u) (hk : k < d.sz) :
    Sep (w.setCell ⟨g, j * d.sz + k, none⟩ u) (os.set i (Row e d (.slice (some ⟨g, 0, none⟩) n c) (xs.set j y'))) rs := by
  refine H.upd i hi fun own ok _ ⟨flat, ⟨hl, h⟩, hr, ho⟩ => ⟨(Kp.setCell w ⟨g, j * d.sz + k, none⟩ u).mono fun b _ hb e => hb (by rw [e]; exact ho g rfl), ?_⟩
  rcases h with ⟨h, _⟩ | ⟨g', cap, cur, hv, hb, hh, hn, hcap, hs, ht⟩
  · cases h
  cases hv
  have hjl := (List.getElem?_eq_some_iff.1 hj).1
  refine ⟨flat.set (j * d.sz + k) u, ?_, (rows_set F hr hj he hk).flat F, fun g hg => .inl (ho g hg)⟩
  show World.ownsRow _ 0 e d.sz _ (xs.set j y').length _
  rw [List.length_set]
  refine ⟨by rw [List.length_set]; exact hl, .inr ⟨g, c, cur.setIfInBounds (j * d.sz + k) u, rfl, hb, ?_, hn, hcap, by simp [hs], ?_⟩⟩
  · simp [World.setCell, Array.getElem?_modify, hh]
  · rw [← ht]
    simp [List.take_set]
end
end Go.Cb
