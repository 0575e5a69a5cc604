/- Base 30: rows that slices.SortFunc sorts. -/
import Derived.Test.YtgdfoajophpblaaGreatDoorApx1
import Derived.Shelf.SlSortCmp.InsertionK
set_option linter.unusedVariables false
set_option linter.unusedSimpArgs false
set_option linter.unusedSectionVars false
namespace Go.Cb
open Go.RowKit Go.Proofs
section
variable {α : Type} [Inhabited α] {d : Kd α} {w : World} {os : List Ob} {rs : List Rp}
theorem row_own (H : Sep w os rs) {i : Nat} {e : TypeId} {g c : Nat} {xs : List α} (hi : os[i]? = some (Row e d (.slice (some ⟨g, 0, none⟩) xs.length c) xs)) : g < w.heap.size ∧ ∀ j, w.frozen? ⟨g, j, none⟩ = false := by
  obtain ⟨_, _, flat, ⟨hl, h⟩, hr, _⟩ := H.ob i hi
  rcases h with ⟨h, _⟩ | ⟨g', cap, cur, hv, _, hh, hn, _, hs, ht⟩
  · cases h
  cases hv
  exact ⟨(Array.getElem?_eq_some_iff.1 hh).1, fun j => by simp [World.frozen?, hh]⟩
theorem holds_row (H : Sep w os rs) (F : Flat d) {i : Nat} {e : TypeId} {g c : Nat} {xs : List α} (hi : os[i]? = some (Row e d (.slice (some ⟨g, 0, none⟩) xs.length c) xs)) : Sort.HoldsK F.enc d.sz w g 0 xs.toArray := by
  intro j hj
  rw [Sort.size_flatK] at hj
  have hpos := d.pos
  have hj' : j < d.sz * xs.length := by rw [Nat.mul_comm]; simpa using hj
  have hq : j / d.sz < xs.length := Nat.div_lt_of_lt_mul hj'
  have hm := Nat.mod_lt j hpos
  refine ⟨?_, (row_own H hi).2 _⟩
  rw [Sort.get_flatK _ _ _ _ hj]
  have e1 : xs.toArray[j / d.sz]! = xs[j / d.sz] := by simp [hq]
  have hl : j % d.sz < (F.enc xs[j / d.sz]).length := by rw [F.len]; exact hm
  have h5 := row_cells H F hi (j := ((j / d.sz : Nat) : Int)) (y := xs[j / d.sz]) (by unfold idx; rw [if_pos (Int.natCast_nonneg _), Int.toNat_natCast, List.getElem?_eq_getElem hq]) (k := j % d.sz) (List.getElem?_eq_getElem hl)
  have e2 : j / d.sz * d.sz + j % d.sz = 0 + j := by rw [Nat.zero_add, Nat.mul_comm]; exact Nat.div_add_mod j d.sz
  rw [Int.toNat_natCast, e2] at h5
  rw [h5, e1, getElem!_pos (F.enc xs[j / d.sz]) (j % d.sz) hl]
  rfl
theorem flat_take (F : Flat d) (ys : List α) (i : Nat) {x : α} (hx : ys[i]? = some x) : ((Sort.flatK F.enc d.sz ys.toArray).toList.drop (i * d.sz)).take d.sz = F.enc x := by
  obtain ⟨hi, rfl⟩ := List.getElem?_eq_some_iff.1 hx
  have hpos := d.pos
  have hle : i * d.sz + d.sz ≤ ys.length * d.sz := by
    have := Nat.mul_le_mul_right d.sz (show i + 1 ≤ ys.length from hi)
    rwa [Nat.add_mul, Nat.one_mul] at this
  have hsz : (Sort.flatK F.enc d.sz ys.toArray).size = ys.length * d.sz := by rw [Sort.size_flatK]; simp
  apply List.ext_getElem
  · rw [List.length_take, List.length_drop, Array.length_toList, hsz, F.len]; omega
  · intro j h1 h2
    rw [F.len] at h2
    rw [List.getElem_take, List.getElem_drop, Array.getElem_toList]
    have hj : i * d.sz + j < ys.toArray.size * d.sz := by simp; omega
    have := Sort.get_flatK F.enc d.sz ys.toArray (i * d.sz + j) hj
    rw [getElem!_pos (Sort.flatK F.enc d.sz ys.toArray) _ (by rw [hsz]; omega)] at this
    rw [this]
    have q : (i * d.sz + j) / d.sz = i := by rw [Nat.add_comm, Nat.add_mul_div_right _ _ hpos, Nat.div_eq_of_lt h2, Nat.zero_add]
    have r : (i * d.sz + j) % d.sz = j := by rw [Nat.add_comm, Nat.add_mul_mod_self_right, Nat.mod_eq_of_lt h2]
    rw [q, r]
    have e1 : ys.toArray[i]! = ys[i] := by simp [hi]
    rw [e1, getElem!_pos (F.enc ys[i]) j (by rw [F.len]; exact h2)]
theorem Sep.sorted (H : Sep w os rs) (F : Flat d) {i : Nat} {e : TypeId} {g c : Nat} {xs : List α} (hi : os[i]? = some (Row e d (.slice (some ⟨g, 0, none⟩) xs.length c) xs)) (m : Nat) (ys : List α) (hs : ys.length = xs.length) (os' : Array Obj) :
    Sep (sortWorldK F.enc d.sz w g 0 m ys.toArray os') (os.set i (Row e d (.slice (some ⟨g, 0, none⟩) xs.length c) ys)) rs := by
  obtain ⟨col, h1, h2⟩ := H
  obtain ⟨flat, ⟨hl, hv⟩, hr, ho⟩ := h1 i _ hi
  rcases hv with ⟨h, _⟩ | ⟨g', cap, cur, hv, hb, hh, hn, hc, hcs, ht⟩
  · cases h
  cases hv
  have hg : col g = i + 1 := ho g rfl
  have hgl : g < w.heap.size := (Array.getElem?_eq_some_iff.1 hh).1
  have hfl : (Sort.flatK F.enc d.sz ys.toArray).size = xs.length * d.sz := by rw [Sort.size_flatK]; simp [hs]
  have heap : ∀ b, b < w.heap.size → (sortWorldK F.enc d.sz w g 0 m ys.toArray os').heap[b]? = if g = b then (w.heap[b]?).map (Sort.onCells (Sort.putCells id 0 (Sort.flatK F.enc d.sz ys.toArray))) else w.heap[b]? := fun b hb => by
    unfold sortWorldK Sort.grow Sort.putRowK Sort.putRow Sort.mapBlock Sort.ahead
    simp only
    rw [Array.getElem?_append_left (by simpa using hb), Array.getElem?_modify]
  have hsize : w.heap.size ≤ (sortWorldK F.enc d.sz w g 0 m ys.toArray os').heap.size := by
    unfold sortWorldK Sort.grow Sort.putRowK Sort.putRow Sort.mapBlock Sort.ahead
    simp
  refine Sep.upd_col h1 h2 i hi ⟨rfl, rfl, rfl, hsize, fun b hb hk => ?_⟩ ⟨(Sort.flatK F.enc d.sz ys.toArray).toList, ⟨?_, .inr ⟨g, c, Sort.putCells id 0 (Sort.flatK F.enc d.sz ys.toArray) cur, ?_, hb, ?_, ?_, hc, ?_, ?_⟩⟩, ⟨?_, fun j x hx => ?_⟩, fun g' hg' => ?_⟩
  · rw [heap b hb, if_neg (fun h => hk (by subst h; exact hg))]
  · rw [Array.length_toList, hfl, hs]
  · rw [hs]
  · rw [heap g hgl, if_pos rfl, hh]; rfl
  · omega
  · simp [Sort.putCells, hcs]
  · apply List.ext_getElem?
    intro j
    have hle : xs.length * d.sz ≤ cur.size := by rw [hcs]; exact Nat.mul_le_mul_right _ hn
    rw [hs, List.getElem?_take, Array.getElem?_toList, Array.getElem?_toList]
    split
    · rename_i hj
      have hjc : j < cur.size := Nat.lt_of_lt_of_le hj hle
      have hjf : j < (Sort.flatK F.enc d.sz ys.toArray).size := by rw [hfl]; exact hj
      unfold Sort.putCells
      rw [Array.getElem?_mapIdx, Array.getElem?_eq_getElem hjc, Option.map_some, if_pos ⟨Nat.zero_le _, by rw [Nat.zero_add]; exact hjf⟩, Nat.sub_zero, getElem!_pos (Sort.flatK F.enc d.sz ys.toArray) j hjf, Array.getElem?_eq_getElem hjf]
      rfl
    · rename_i hj
      rw [Array.getElem?_eq_none (by rw [hfl]; exact Nat.le_of_not_lt hj)]
  · rw [Array.length_toList, hfl, hs]
  · rw [flat_take F ys j hx]
    exact F.mk'
  · cases hg'
    exact .inl hg
end
end Go.Cb
