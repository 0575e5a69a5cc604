/- Nodes, plainly: what a tree is, to the program and to the document. -/
import Derived.Test.YtgdfoajophpblaaGreatDoorQ4pp
set_option linter.unusedVariables false
set_option linter.unusedSimpArgs false
namespace Go.Cb
open Go.Proofs Go.RowKit

def NodeOk (x : Nd) : Prop := (bl x.Data).length ≤ 256 ∧ 0 ≤ x.Version ∧ x.Version ≤ 281474976710656 ∧ 0 ≤ x.Turn ∧ x.Turn ≤ 10000 ∧ 0 ≤ x.Owner ∧ x.Owner ≤ 1099511627776 ∧ (x.Owner ≠ 0 → x.Turn = 0)
structure Tree (l : List Nd) : Prop where
  root : ∃ r t, l = r :: t ∧ key r = [47] ∧ r.Owner = 0
  len : l.length ≤ 512
  ok : ∀ x ∈ l, NodeOk x
  sorted : l.Pairwise (key · < key ·)
  up : ∀ x ∈ l, key x ≠ [47] → ∃ q, parentS (key x) = some q ∧ ∃ u ∈ l, key u = q ∧ u.Owner = 0
def Sm (l : List Nd) : Prop := ∀ x ∈ l, (key x).length ≤ 100000000
theorem sorted_inj {l : List Nd} (h : l.Pairwise (key · < key ·)) {x y : Nd} (hx : x ∈ l) (hy : y ∈ l) (e : key x = key y) : x = y := by
  obtain ⟨i, hi, rfl⟩ := List.mem_iff_getElem.1 hx
  obtain ⟨j, hj, rfl⟩ := List.mem_iff_getElem.1 hy
  have h := List.pairwise_iff_getElem.1 h
  rcases Nat.lt_trichotomy i j with c | c | c
  · exact absurd e (kl_ne (h i j hi hj c))
  · subst c; rfl
  · exact absurd e.symm (kl_ne (h j i hj hi c))
theorem find_key {l : List Nd} {p : List UInt8} {x : Nd} (h : l.find? (isK p) = some x) : x ∈ l ∧ key x = p :=
  ⟨List.mem_of_find?_eq_some h, by have := List.find?_some h; simpa [isK] using this⟩
theorem find_mem {l : List Nd} (h : l.Pairwise (key · < key ·)) {x : Nd} (hx : x ∈ l) : l.find? (isK (key x)) = some x := by
  cases hf : l.find? (isK (key x)) with
  | none =>
    have := List.find?_eq_none.1 hf x hx
    simp [isK] at this
  | some y =>
    have := find_key hf
    rw [sorted_inj h this.1 hx this.2]
theorem find_no {l : List Nd} {p : List UInt8} : l.find? (isK p) = none ↔ ∀ x ∈ l, key x ≠ p := by
  rw [List.find?_eq_none]; simp [isK]
theorem parent_parts {p q : List UInt8} (h : parentS p = some q) : ∃ ps t, parts p = some (ps ++ [t]) ∧ q = joinP ps ∧ parts q = some ps := by
  unfold parentS at h
  cases hp : parts p with
  | none => rw [hp] at h; cases h
  | some ps =>
    rw [hp] at h
    simp only at h
    split at h
    · cases h
    · rename_i hne
      cases h
      obtain ⟨h0, h1, h2⟩ := (parts_iff _ ps).1 hp
      rcases List.eq_nil_or_concat ps with e | ⟨qs, t, rfl⟩
      · exact absurd e hne
      · rw [List.concat_eq_append] at *
        refine ⟨qs, t, rfl, by rw [List.dropLast_concat], ?_⟩
        rw [List.dropLast_concat]
        exact (parts_iff _ _).2 ⟨rfl, by simp at h1 ⊢; exact h1.1, by simp at h2; omega⟩
theorem Tree.sm {l : List Nd} (T : Tree l) : Sm l := fun x hx => by
  by_cases h : key x = [47]
  · rw [h]; decide
  · obtain ⟨q, hq, _⟩ := T.up x hx h
    obtain ⟨ps, t, h1, _⟩ := parent_parts hq
    have := parts_len h1; omega
end Go.Cb
