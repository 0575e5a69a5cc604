/- Parts, plainly: the document's Do; what is made is right. -/
import Derived.Test.YtgdfoajophpblaaGreatDoorV5px
set_option linter.unusedVariables false
set_option linter.unusedSimpArgs false
namespace Go.Cb
open Go.Proofs Go.RowKit

/-! ### Empty, Names, Clear -/
/-! ### what is made is right -/
theorem gins_sorted {α : Type} (κ : α → List UInt8) (l : List α) (d : List UInt8) (x : α) (hx : κ x = d) (hs : l.Pairwise (κ · < κ ·)) : (l.filter (gLt κ d) ++ x :: l.filter (gGt κ d)).Pairwise (κ · < κ ·) := by
  have g : ∀ y ∈ l.filter (gGt κ d), d < κ y := fun y hy => by
    have h1 := (List.mem_filter.1 hy).2
    simp only [gGt, gLt, gEq, Bool.and_eq_true, Bool.not_eq_true', decide_eq_false_iff_not] at h1
    exact kl_not h1.1 h1.2
  have f : ∀ y ∈ l.filter (gLt κ d), κ y < d := fun y hy => by
    have h1 := (List.mem_filter.1 hy).2
    simpa [gLt] using h1
  refine List.pairwise_append.2 ⟨hs.filter _, List.pairwise_cons.2 ⟨fun y hy => hx ▸ g y hy, hs.filter _⟩, fun a ha b hb => ?_⟩
  rcases List.mem_cons.1 hb with rfl | hb
  · exact hx ▸ f a ha
  · exact kl_trans (f a ha) (g b hb)
theorem ins_sorted {l : List Nd} {x : Nd} (hs : l.Pairwise (key · < key ·)) (hn : l.find? (isK (key x)) = none) : (insS x l).Pairwise (key · < key ·) := by
  rw [← ins_split hs hn]
  exact gins_sorted key l _ x rfl hs
theorem StoreOk.mk' {s : Sto} {l : List Nd} (S : StoreOk s) (h1 : ∀ x ∈ l, pnB x = true) (h2 : l.Pairwise (key · < key ·)) : StoreOk ⟨l, s.Turns⟩ := ⟨List.all_eq_true.2 h1, h2, S.turns, S.tsort⟩
theorem pathOk_len {p : List UInt8} (h : pathOk p = true) : p.length ≤ 78 := by
  unfold pathOk at h
  obtain ⟨ps, hp⟩ := Option.isSome_iff_exists.1 h
  exact parts_len hp
theorem StoreOk.sms {s : Sto} (S : StoreOk s) (h1 : s.Nodes.length ≤ 90000) (h2 : s.Turns.length ≤ 90000) : SmS s := by
  refine ⟨fun x hx => ?_, fun t ht => ?_, h1, h2⟩
  · have := List.all_eq_true.1 S.nodes x hx
    unfold pnB fieldsB at this
    simp only [Bool.and_eq_true] at this
    have := pathOk_len this.2.1.1.1
    have e : (bl x.Path).length = (key x).length := rfl
    omega
  · have := List.all_eq_true.1 S.turns t ht
    unfold ptB at this
    simp only [Bool.and_eq_true] at this
    have := pathOk_len this.1
    omega
end Go.Cb
