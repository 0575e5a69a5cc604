/- Nodes, plainly: what a tree is, to the program and to the document. -/
import Derived.Test.YtgdfoajophpblaaGreatDoorQ4mn
set_option linter.unusedVariables false
set_option linter.unusedSimpArgs false
namespace Go.Cb
open Go.Proofs Go.RowKit

def NodeOk (x : Nd) : Prop := (bl x.Data).length ≤ 256 ∧ 0 ≤ x.Version ∧ x.Version ≤ 281474976710656 ∧ 0 ≤ x.Turn ∧ x.Turn ≤ 10000 ∧ 0 ≤ x.Owner ∧ x.Owner ≤ 1099511627776 ∧ (x.Owner ≠ 0 → x.Turn = 0)
structure Tree (l : List Nd) : Prop where
  root : ∃ r t, l = r :: t ∧ key r = [47] ∧ r.Owner = 0
  len : l.length ≤ 512
  ok : ∀ x ∈ l, NodeOk x
  sorted : l.Pairwise (key · < key ·)
  up : ∀ x ∈ l, key x ≠ [47] → ∃ q, parentS (key x) = some q ∧ ∃ u ∈ l, key u = q ∧ u.Owner = 0
def Sm (l : List Nd) : Prop := ∀ x ∈ l, (key x).length ≤ 100000000
theorem sorted_inj {l : List Nd} (h : l.Pairwise (key · < key ·)) {x y : Nd} (hx : x ∈ l) (hy : y ∈ l) (e : key x = key y) : x = y := by
  obtain ⟨i, hi, rfl⟩ := List.mem_iff_getElem.1 hx
  obtain ⟨j, hj, rfl⟩ := List.mem_iff_getElem.1 hy
  have h := List.pairwise_iff_getElem.1 h
  rcases Nat.lt_trichotomy i j with c | c | c
  · exact absurd e (kl_ne (h i j hi hj c))
  · subst c; rfl
  · exact absurd e.symm (kl_ne (h j i hj hi c))
theorem find_key {l : List Nd} {p : List UInt8} {x : Nd} (h : l.find? (isK p) = some x) : x ∈ l ∧ key x = p :=
  ⟨List.mem_of_find?_eq_some h, by have := List.find?_some h; simpa [isK] using this⟩
theorem find_mem {l : List Nd} (h : l.Pairwise (key · < key ·)) {x : Nd} (hx : x ∈ l) : l.find? (isK (key x)) = some x := by
  cases hf : l.find? (isK (key x)) with
  | none =>
    have := List.find?_eq_none.1 hf x hx
    simp [isK] at this
  | some y =>
    have := find_key hf
    rw [sorted_inj h this.1 hx this.2]
theorem find_no {l : List Nd} {p : List UInt8} : l.find? (isK p) = none ↔ ∀ x ∈ l, key x ≠ p := by
  rw [List.find?_eq_none]; simp [isK]
theorem adj_sorted {l : List Nd} (h : ∀ i (hi : i + 1 < l.length), key l[i] < key l[i + 1]) : l.Pairwise (key · < key ·) := by
  rw [List.pairwise_iff_getElem]
  intro i j hi hj hij
  obtain ⟨d, rfl⟩ : ∃ d, j = i + 1 + d := ⟨j - i - 1, by omega⟩
  induction d with
  | zero => exact h i hj
  | succ d ih => exact kl_trans (ih (by omega) (by omega)) (h (i + 1 + d) hj)
theorem parent_lt {p q : List UInt8} (h : parentS p = some q) : q < p := by
  unfold parentS at h
  cases hp : parts p with
  | none => rw [hp] at h; cases h
  | some ps =>
    rw [hp] at h
    simp only at h
    split at h
    · cases h
    · rename_i hne
      cases h
      obtain ⟨h0, h1, h2⟩ := (parts_iff _ ps).1 hp
      rcases List.eq_nil_or_concat ps with e | ⟨qs, t, rfl⟩
      · exact absurd e hne
      · rw [List.concat_eq_append] at *
        have ht : partOk t = true := by simp at h1; exact h1.2
        have hb : p = catP qs ++ 47 :: t := by rw [h0]; unfold joinP; rw [if_neg (by simp), cat_app]; simp [catP]
        rw [List.dropLast_concat, hb]
        unfold joinP
        split
        · rename_i e; subst e
          exact kl_pre [47] (part_ne ht)
        · exact kl_pre _ (by simp)
theorem parent_parts {p q : List UInt8} (h : parentS p = some q) : ∃ ps t, parts p = some (ps ++ [t]) ∧ q = joinP ps ∧ parts q = some ps := by
  unfold parentS at h
  cases hp : parts p with
  | none => rw [hp] at h; cases h
  | some ps =>
    rw [hp] at h
    simp only at h
    split at h
    · cases h
    · rename_i hne
      cases h
      obtain ⟨h0, h1, h2⟩ := (parts_iff _ ps).1 hp
      rcases List.eq_nil_or_concat ps with e | ⟨qs, t, rfl⟩
      · exact absurd e hne
      · rw [List.concat_eq_append] at *
        refine ⟨qs, t, rfl, by rw [List.dropLast_concat], ?_⟩
        rw [List.dropLast_concat]
        exact (parts_iff _ _).2 ⟨rfl, by simp at h1 ⊢; exact h1.1, by simp at h2; omega⟩
theorem Tree.sm {l : List Nd} (T : Tree l) : Sm l := fun x hx => by
  by_cases h : key x = [47]
  · rw [h]; decide
  · obtain ⟨q, hq, _⟩ := T.up x hx h
    obtain ⟨ps, t, h1, _⟩ := parent_parts hq
    have := parts_len h1; omega
/-- what each place must bear. -/
def GOk (l : List Nd) (j : Nat) (h : j < l.length) : Prop := NodeOk l[j] ∧ (j ≠ 0 → key (l[j - 1]'(by omega)) < key l[j] ∧ ∃ q, parentS (key l[j]) = some q ∧ ∃ u, l.find? (isK q) = some u ∧ u.Owner = 0)
theorem tree_iff (l : List Nd) (h0 : l ≠ []) (h5 : l.length ≤ 512) (hr : ∀ h : 0 < l.length, key l[0] = [47] ∧ l[0].Owner = 0) : (∀ j (h : j < l.length), GOk l j h) ↔ Tree l := by
  have hpos : 0 < l.length := List.length_pos_iff.2 h0
  constructor
  · intro h
    have hs : l.Pairwise (key · < key ·) := adj_sorted fun i hi => ((h (i + 1) hi).2 (by omega)).1
    refine ⟨?_, h5, fun x hx => ?_, hs, fun x hx hne => ?_⟩
    · cases l with
      | nil => exact absurd rfl h0
      | cons r t => exact ⟨r, t, rfl, (hr hpos).1, (hr hpos).2⟩
    · obtain ⟨i, hi, rfl⟩ := List.mem_iff_getElem.1 hx
      exact (h i hi).1
    · obtain ⟨i, hi, rfl⟩ := List.mem_iff_getElem.1 hx
      have hi0 : i ≠ 0 := by rintro rfl; exact hne (hr hpos).1
      obtain ⟨_, q, hq, u, hu, ho⟩ := (h i hi).2 hi0
      exact ⟨q, hq, u, (find_key hu).1, (find_key hu).2, ho⟩
  · intro T j hj
    refine ⟨T.ok _ (List.getElem_mem _), fun hj0 => ?_⟩
    have hs := List.pairwise_iff_getElem.1 T.sorted
    refine ⟨hs (j - 1) j (by omega) hj (by omega), ?_⟩
    have hne : key l[j] ≠ [47] := by
      have := hs 0 j hpos hj (by omega)
      rw [(hr hpos).1] at this
      exact (kl_ne this).symm
    obtain ⟨q, hq, u, hu, hk, ho⟩ := T.up _ (List.getElem_mem _) hne
    exact ⟨q, hq, u, by rw [← hk]; exact find_mem T.sorted hu, ho⟩
theorem all_step {l : List Nd} {P : ∀ j, j < l.length → Prop} {i : Nat} (hi : i < l.length) : (∀ j (h : j < l.length), i ≤ j → P j h) ↔ (P i hi ∧ ∀ j (h : j < l.length), i + 1 ≤ j → P j h) := by
  constructor
  · exact fun h => ⟨h i hi (Nat.le_refl _), fun j hj hij => h j hj (by omega)⟩
  · rintro ⟨h1, h2⟩ j hj hij
    by_cases e : i = j
    · subst e; exact h1
    · exact h2 j hj (by omega)
end Go.Cb
