/- Pieces, plainly: a tree's store; the parts of an operation make of it what the operation makes of the tree. -/
import Derived.Test.YtgdfoajophpblaaGreatDoorU5mp
import Derived.Test.YtgdfoajophpblaaGreatDoorKmp3
set_option linter.unusedVariables false
set_option linter.unusedSimpArgs false
namespace Go.Cb
open Go.Proofs Go.RowKit

def kn (x : Nd) : Nd := { x with Turn := 0 }
def ktn (x : Nd) : Tn := ⟨x.Path, x.Turn⟩
def keepS (l : List Nd) : Sto := ⟨l.map kn, (l.filter fun x => x.Turn != 0).map ktn⟩
theorem Keep_l1 (l : List Nd) (hl : l.length ≤ 1000000) : ∀ (k i : Nat) (a : List Nd) (b : List Tn), i ≤ l.length → l.length + 1 ≤ i + k → a.length ≤ i → b.length ≤ i → m_part_Keep_l1 l k (i : Int) a b = some ⟨a ++ (l.drop i).map kn, b ++ ((l.drop i).filter fun x => x.Turn != 0).map ktn⟩
  | 0, i, a, b, _, h, _, _ => by omega
  | k + 1, i, a, b, h0, h, ha, hb => by
    unfold m_part_Keep_l1 m_part_Keep_j1
    by_cases hi : i < l.length
    · rw [if_pos (by simpa using hi), idx_lt hi, List.drop_eq_getElem_cons hi, List.filter_cons, inc1 (by omega)]
      simp only [Option.bind_some]
      cases hc : ((l[i]).Turn != 0) with
      | true =>
        rw [if_pos rfl, if_pos rfl, ck_b (by simp [LIM]; omega), ck_b (by simp [LIM]; omega), Keep_l1 l hl k (i + 1) _ _ (by omega) (by omega) (by simp; omega) (by simp; omega)]
        rw [List.map_cons, List.map_cons, List.append_assoc, List.append_assoc]; rfl
      | false =>
        rw [if_neg (by simp), if_neg (by simp), ck_b (by simp [LIM]; omega), Keep_l1 l hl k (i + 1) _ _ (by omega) (by omega) (by simp; omega) (by omega)]
        rw [List.map_cons, List.append_assoc]; rfl
    · rw [if_neg (by simpa using hi), List.drop_eq_nil_of_le (by omega)]
      simp
theorem Keep_eq (l : List Nd) (hl : l.length ≤ 1000000) : m_part_Keep l = some (keepS l) := by
  refine (Keep_l1 l hl (((l.length : Int) - 0 : Int).toNat + 1) 0 [] [] (by omega) (by omega) (by simp) (by simp)).trans ?_
  simp [keepS]
/-! ### lists that rise and have the same are the same -/
theorem sorted_ext {α : Type} (κ : α → List UInt8) : ∀ {a b : List α}, a.Pairwise (κ · < κ ·) → b.Pairwise (κ · < κ ·) → (∀ x, x ∈ a ↔ x ∈ b) → a = b
  | [], [], _, _, _ => rfl
  | [], y :: b, _, _, h => by have := (h y).2 (by simp); simp at this
  | x :: a, [], _, _, h => by have := (h x).1 (by simp); simp at this
  | x :: a, y :: b, ha, hb, h => by
    obtain ⟨a1, a2⟩ := List.pairwise_cons.1 ha
    obtain ⟨b1, b2⟩ := List.pairwise_cons.1 hb
    have e : x = y := by
      rcases List.mem_cons.1 ((h x).1 (by simp)) with e | e
      · exact e
      · rcases List.mem_cons.1 ((h y).2 (by simp)) with f | f
        · exact f.symm
        · exact absurd (b1 x e) (kl_asymm (a1 y f))
    subst e
    congr 1
    refine sorted_ext κ a2 b2 fun z => ⟨fun hz => ?_, fun hz => ?_⟩
    · rcases List.mem_cons.1 ((h z).1 (List.mem_cons_of_mem _ hz)) with e | e
      · exact absurd (a1 z hz) (e ▸ kl_irrefl _)
      · exact e
    · rcases List.mem_cons.1 ((h z).2 (List.mem_cons_of_mem _ hz)) with e | e
      · exact absurd (b1 z hz) (e ▸ kl_irrefl _)
      · exact e
theorem setTurn_iff {l : List Tn} {d : List UInt8} {n : Int} {t : Tn} : t ∈ setTurn l d n ↔ (t ∈ l ∧ tkey t ≠ d) ∨ (t = ⟨mk d, n⟩ ∧ n ≠ 0) := by
  have hlt : ∀ y : Tn, (gLt tkey d y = true ∨ gGt tkey d y = true) ↔ tkey y ≠ d := fun y => by
    simp only [gGt, gLt, gEq, Bool.and_eq_true, Bool.not_eq_true', decide_eq_false_iff_not, decide_eq_true_eq]
    constructor
    · rintro (h | h)
      · exact kl_ne h
      · exact h.2
    · intro h
      rcases Decidable.em (tkey y < d) with h' | h'
      · exact .inl h'
      · exact .inr ⟨h', h⟩
  unfold setTurn
  split
  · rename_i h0
    rw [List.mem_filter]
    simp only [gEq, Bool.not_eq_true', decide_eq_false_iff_not]
    exact ⟨fun h => .inl h, fun h => h.resolve_right fun h => h.2 h0⟩
  · rename_i h0
    rw [List.mem_append, List.mem_cons, List.mem_filter, List.mem_filter]
    constructor
    · rintro (h | h | h)
      · exact .inl ⟨h.1, (hlt t).1 (.inl h.2)⟩
      · exact .inr ⟨h, h0⟩
      · exact .inl ⟨h.1, (hlt t).1 (.inr h.2)⟩
    · rintro (h | h)
      · rcases (hlt t).2 h.2 with h' | h'
        · exact .inl ⟨h.1, h'⟩
        · exact .inr (.inr ⟨h.1, h'⟩)
      · exact .inr (.inl h.1)
/-! ### the store of a tree -/
theorem keep_iff {l : List Nd} {t : Tn} : t ∈ (keepS l).Turns ↔ ∃ x ∈ l, x.Turn ≠ 0 ∧ t = ktn x := by
  unfold keepS
  simp only [List.mem_map, List.mem_filter, bne_iff_ne, ne_eq]
  constructor
  · rintro ⟨x, ⟨h1, h2⟩, rfl⟩; exact ⟨x, h1, h2, rfl⟩
  · rintro ⟨x, h1, h2, rfl⟩; exact ⟨x, ⟨h1, h2⟩, rfl⟩
theorem keep_tsorted {l : List Nd} (hs : l.Pairwise (key · < key ·)) : (keepS l).Turns.Pairwise (tkey · < tkey ·) := by
  unfold keepS
  rw [List.pairwise_map]
  exact hs.filter _
theorem keep_nsorted {l : List Nd} (hs : l.Pairwise (key · < key ·)) : (keepS l).Nodes.Pairwise (key · < key ·) := by
  unfold keepS
  rw [List.pairwise_map]
  exact hs
theorem keep_find (l : List Nd) (p : List UInt8) : (keepS l).Nodes.find? (isK p) = (l.find? (isK p)).map kn := by
  unfold keepS
  rw [List.find?_map]
  rfl
theorem keep_filter (l : List Nd) (f : Nd → Bool) (hf : ∀ x, f (kn x) = f x) : (keepS l).Nodes.filter f = (l.filter f).map kn := by
  unfold keepS
  rw [List.filter_map]
  congr 1
  exact List.filter_congr fun x _ => hf x
theorem keep_turn {l : List Nd} (hs : l.Pairwise (key · < key ·)) (q : List UInt8) : turnOf (keepS l).Turns q = match l.find? (isK q) with | none => 0 | some x => x.Turn := by
  unfold turnOf
  rcases opt2 ((keepS l).Turns.find? (gEq tkey q)) with h | ⟨t, h⟩
  · rw [h]
    rw [List.find?_eq_none] at h
    rcases opt2 (l.find? (isK q)) with g | ⟨x, g⟩
    · rw [g]
    · rw [g]
      simp only
      obtain ⟨g1, g2⟩ := find_key g
      rcases Decidable.em (x.Turn = 0) with c | c
      · exact c.symm
      · have := h (ktn x) (keep_iff.2 ⟨x, g1, c, rfl⟩)
        exact absurd (show gEq tkey q (ktn x) = true from by simp only [gEq, decide_eq_true_eq]; exact g2) this
  · rw [h]
    have h1 := List.mem_of_find?_eq_some h
    have h2 := List.find?_some h
    obtain ⟨x, g1, g2, rfl⟩ := keep_iff.1 h1
    have e : key x = q := by simp only [gEq, decide_eq_true_eq] at h2; exact h2
    have := find_mem hs g1
    rw [e] at this
    rw [this]
    rfl
theorem tree_path {l : List Nd} (T : Tree l) {x : Nd} (hx : x ∈ l) : pathOk (key x) = true := by
  unfold pathOk
  by_cases h : key x = [47]
  · rw [h, parts_root]; rfl
  · obtain ⟨q, hq, _⟩ := T.up x hx h
    obtain ⟨ps, t, hp, _⟩ := parts_q hq
    rw [hp]; rfl
theorem keep_ok {l : List Nd} (T : Tree l) : StoreOk (keepS l) := by
  refine ⟨List.all_eq_true.2 fun y hy => ?_, keep_nsorted T.sorted, List.all_eq_true.2 fun t ht => ?_, keep_tsorted T.sorted⟩
  · obtain ⟨x, hx, rfl⟩ := List.mem_map.1 hy
    have h1 := T.ok x hx
    unfold NodeOk at h1
    have h2 : pathOk (bl x.Path) = true := tree_path T hx
    unfold pnB fieldsB kn
    simp only [h2]
    simp
    omega
  · obtain ⟨x, hx, h0, rfl⟩ := keep_iff.1 ht
    have h1 := T.ok x hx
    unfold NodeOk at h1
    have h2 : pathOk (tkey (ktn x)) = true := tree_path T hx
    unfold ptB
    rw [h2, Bool.true_and, decide_eq_true_eq]
    show 1 ≤ x.Turn ∧ x.Turn ≤ 10000
    omega
end Go.Cb
