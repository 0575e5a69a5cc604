/- Base 22: rows of flat data as blocks; copies, clearings, cuts. -/
import Derived.Test.YtidapdacihcckaaGreatDoorB21te
set_option linter.unusedVariables false
set_option linter.unusedSimpArgs false
namespace Go.Cb
open Go.RowKit
section
variable {α : Type} {d : Kd α}
def Flat.encs (F : Flat d) (xs : List α) : List Value := xs.flatMap F.enc
theorem Flat.encs_len (F : Flat d) : ∀ xs : List α, (F.encs xs).length = xs.length * d.sz
  | [] => by simp [Flat.encs]
  | x :: xs => by
    have := F.encs_len xs
    unfold Flat.encs at *
    rw [List.flatMap_cons, List.length_append, F.len, this, List.length_cons, Nat.add_mul, Nat.one_mul]; omega
theorem Flat.encs_app (F : Flat d) (xs ys : List α) : F.encs (xs ++ ys) = F.encs xs ++ F.encs ys := by simp [Flat.encs]
theorem Flat.encs_one (F : Flat d) (x : α) : F.encs [x] = F.enc x := by simp [Flat.encs]
theorem Flat.encs_take (F : Flat d) (xs : List α) (i : Nat) (hi : i ≤ xs.length) : (F.encs xs).take (i * d.sz) = F.encs (xs.take i) := by
  conv => lhs; rw [← List.take_append_drop i xs, F.encs_app]
  rw [List.take_append_of_le_length (by rw [F.encs_len, List.length_take]; simp [hi])]
  exact List.take_of_length_le (by rw [F.encs_len, List.length_take]; simp [hi])
theorem Flat.encs_drop (F : Flat d) (xs : List α) (i : Nat) (hi : i ≤ xs.length) : (F.encs xs).drop (i * d.sz) = F.encs (xs.drop i) := by
  conv => lhs; rw [← List.take_append_drop i xs, F.encs_app]
  rw [List.drop_append_of_le_length (by rw [F.encs_len, List.length_take]; simp [hi]), List.drop_eq_nil_of_le (by rw [F.encs_len, List.length_take]; simp [hi]), List.nil_append]
theorem rows_encs (F : Flat d) {w : World} {ok : Nat → Prop} (xs : List α) : Rows d w ok xs (F.encs xs) := by
  refine ⟨F.encs_len xs, fun i x hx => ?_⟩
  have hi := (List.getElem?_eq_some_iff.1 hx).1
  rw [F.encs_drop xs i (by omega), List.drop_eq_getElem_cons hi]
  have e : xs[i] = x := (List.getElem?_eq_some_iff.1 hx).2
  unfold Flat.encs
  rw [List.flatMap_cons, e, List.take_append_of_le_length (by rw [F.len]; exact Nat.le_refl _), List.take_of_length_le (by rw [F.len]; exact Nat.le_refl _)]
  exact F.mk'
theorem rows_flat (F : Flat d) {w : World} {ok : Nat → Prop} {xs : List α} {f : List Value} (h : Rows d w ok xs f) : f = F.encs xs := by
  have h2 : Rows d w ok xs (F.encs xs) := rows_encs F xs
  apply List.ext_getElem?
  intro j
  by_cases hj : j < xs.length * d.sz
  · have hp := d.pos
    have hq : j / d.sz < xs.length := by rw [Nat.div_lt_iff_lt_mul hp]; exact hj
    have e1 := F.open' (h.2 _ _ (List.getElem?_eq_getElem hq))
    have e2 := F.open' (h2.2 _ _ (List.getElem?_eq_getElem hq))
    have hr : j % d.sz < d.sz := Nat.mod_lt _ hp
    have hjj : j / d.sz * d.sz + j % d.sz = j := by rw [Nat.mul_comm]; exact Nat.div_add_mod _ _
    have a1 := congrArg (fun l : List Value => l[j % d.sz]?) (e1.trans e2.symm)
    simp only [List.getElem?_take, if_pos hr, List.getElem?_drop, hjj] at a1
    exact a1
  · rw [List.getElem?_eq_none (by rw [h.1]; omega), List.getElem?_eq_none (by rw [F.encs_len]; omega)]
end
section
variable {α : Type} {d : Kd α} {w : World} {os : List Ob} {rs : List Rp} {i g n c : Nat} {e : TypeId} {xs : List α}
theorem Sep.rowBlk (F : Flat d) (H : Sep w os rs) (hi : os[i]? = some (Row e d (.slice (some ⟨g, 0, none⟩) n c) xs)) :
    ∃ cs : List Value, Sep w (os.set i (Blk g e cs)) rs ∧ xs.length = n ∧ n ≤ c ∧ c ≤ maxLen ∧ cs.length = c * d.sz ∧ cs.take (n * d.sz) = F.encs xs := by
  obtain ⟨_, _, flat, ⟨hl, h⟩, hr, _⟩ := H.ob i hi
  rcases h with ⟨h, _⟩ | ⟨g', cap, cur, hv, _, hh, hn, hcap, hs, ht⟩
  · cases h
  cases hv
  refine ⟨cur.toList, ?_, rfl, hn, hcap, by simpa using hs, by rw [ht]; exact rows_flat F hr⟩
  refine H.upd i hi fun own ok _ ⟨_, _, _, ho⟩ => ⟨Kp.refl _ _, .inl (ho g rfl), ?_⟩
  simpa using hh
theorem Sep.blkRow (F : Flat d) (H : Sep w os rs) {cs : List Value} (hi : os[i]? = some (Blk g e cs)) (hx : xs.length = n) (hn : n ≤ c) (hc : c ≤ maxLen) (hl : cs.length = c * d.sz) (ht : cs.take (n * d.sz) = F.encs xs) :
    Sep w (os.set i (Row e d (.slice (some ⟨g, 0, none⟩) n c) xs)) rs := by
  subst hx
  refine H.upd i hi fun own ok _ ho => ⟨Kp.refl _ _, F.encs xs, ⟨F.encs_len xs, .inr ⟨g, c, cs.toArray, rfl, Nat.zero_le _, ho.2, hn, hc, by simpa using hl, by simpa using ht⟩⟩, rows_encs F xs, fun g' hg => ?_⟩
  cases hg
  exact .inl ho.1
theorem splice_eq : ∀ (us cs : List Value) (j : Nat), j + us.length ≤ cs.length → splice cs j us = cs.take j ++ us ++ cs.drop (j + us.length)
  | [], cs, j, h => by simp [splice]
  | u :: us, cs, j, h => by
    simp at h
    rw [splice, splice_eq us (cs.set j u) (j + 1) (by simp; omega)]
    have e1 : (cs.set j u).take (j + 1) = cs.take j ++ [u] := by
      rw [List.set_eq_take_append_cons_drop, if_pos (by omega), List.take_append, List.take_of_length_le (by rw [List.length_take]; omega), List.length_take, show j + 1 - min j cs.length = 1 from by omega]
      rfl
    have e2 : (cs.set j u).drop (j + 1 + us.length) = cs.drop (j + 1 + us.length) := List.drop_set_of_lt (by omega)
    rw [e1, e2, show j + (u :: us).length = j + 1 + us.length from by simp; omega]
    simp
end
end Go.Cb
