/- Nodes, plainly: what an operation makes of a tree is a tree. -/
import Derived.Test.YtgdfoajophpblaaGreatDoorQ8pp
set_option linter.unusedVariables false
set_option linter.unusedSimpArgs false
namespace Go.Cb
open Go.Proofs Go.RowKit

theorem mem_ins {x y : Nd} {l : List Nd} : y ∈ insS x l ↔ y = x ∨ y ∈ l := by
  unfold insS
  rw [List.mem_append, List.mem_cons, List.mem_filter, List.mem_filter]
  constructor
  · rintro (h | h | h)
    · exact .inr h.1
    · exact .inl h
    · exact .inr h.1
  · rintro (h | h)
    · exact .inr (.inl h)
    · cases hc : ltB (key x) y with
      | true => exact .inl ⟨h, rfl⟩
      | false => exact .inr (.inr ⟨h, rfl⟩)
theorem len_split {α : Type} (l : List α) (f : α → Bool) : (l.filter f).length + (l.filter (fun y => !f y)).length = l.length := by
  induction l with
  | nil => rfl
  | cons x l ih =>
    rw [List.filter_cons, List.filter_cons]
    cases f x <;> simp <;> omega
theorem ins_len (x : Nd) (l : List Nd) : (insS x l).length = l.length + 1 := by
  unfold insS
  have := len_split l (ltB (key x))
  rw [List.length_append, List.length_cons]; omega
theorem mem_upd {l : List Nd} {p : List UInt8} {f : Nd → Nd} {y : Nd} : y ∈ upd l p f ↔ ∃ z ∈ l, y = if isK p z then f z else z := by
  unfold upd
  rw [List.mem_map]
  exact ⟨fun ⟨z, h1, h2⟩ => ⟨z, h1, h2.symm⟩, fun ⟨z, h1, h2⟩ => ⟨z, h1, h2.symm⟩⟩
/-! ### what may be, of an operation -/
theorem parts_q {p q : List UInt8} (h : parentS p = some q) : ∃ ps t, parts p = some (ps ++ [t]) ∧ q = joinP ps ∧ parts q = some ps ∧ lastS p = t ∧ partOk t = true ∧ ps.all partOk = true ∧ ps.length ≤ 5 := by
  obtain ⟨ps, t, h1, h2, h3⟩ := parent_parts h
  obtain ⟨_, h5, h6⟩ := (parts_iff _ _).1 h1
  refine ⟨ps, t, h1, h2, h3, ?_, ?_, ?_, ?_⟩
  · unfold lastS; rw [h1]; simp
  · simp at h5; exact h5.2
  · simp at h5 ⊢; exact h5.1
  · simp at h6; omega
theorem join_parent {q : List UInt8} {ps : List (List UInt8)} (hq : parts q = some ps) (h5 : ps.length ≤ 5) {t : List UInt8} (ht : partOk t = true) : joinS q t = some (joinP (ps ++ [t])) ∧ parentS (joinP (ps ++ [t])) = some q ∧ lastS (joinP (ps ++ [t])) = t ∧ parts (joinP (ps ++ [t])) = some (ps ++ [t]) := by
  obtain ⟨h1, h2, h3⟩ := (parts_iff _ _).1 hq
  have hp : parts (joinP (ps ++ [t])) = some (ps ++ [t]) := (parts_iff _ _).2 ⟨rfl, by simp at h2 ⊢; exact ⟨h2, ht⟩, by simp; omega⟩
  refine ⟨?_, ?_, ?_, hp⟩
  · unfold joinS; rw [hq]; simp only; rw [if_pos ⟨ht, by omega⟩]
  · unfold parentS; rw [hp]; simp only; rw [if_neg (by simp), List.dropLast_concat, h1]
  · unfold lastS; rw [hp]; simp
/-- the path of what is created lies in the parent. -/
theorem name_parent {o : Op1} {q p : List UInt8} (hq : parentS (bl o.Path) = some q) {t : Int} (hn : nameS o q t = some p) : parentS p = some q ∧ (o.Turns = true → 0 ≤ t ∧ t ≤ 9999 ∧ ∃ ps, parts q = some ps ∧ p = joinP (ps ++ [lastS (bl o.Path) ++ digits t.toNat])) := by
  unfold nameS at hn
  cases hT : o.Turns with
  | false =>
    rw [hT] at hn
    simp only [Bool.false_eq_true, if_false, Option.some.injEq] at hn
    subst hn
    exact ⟨hq, fun h => by cases h⟩
  | true =>
    rw [hT] at hn
    simp only [if_true] at hn
    obtain ⟨s, hs, rfl⟩ := Option.map_eq_some_iff.1 hn
    obtain ⟨h1, h2, h3, h4⟩ := numS_ok hs
    obtain ⟨ps, t', _, _, h5, _, _, _, h6⟩ := parts_q hq
    obtain ⟨j1, j2, _, _⟩ := join_parent h5 h6 h1
    rw [j1]
    exact ⟨j2, fun _ => ⟨h3, h4, ps, h5, by rw [h2]; rfl⟩⟩
end Go.Cb
