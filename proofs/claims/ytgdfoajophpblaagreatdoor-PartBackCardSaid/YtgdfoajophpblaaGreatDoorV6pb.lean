/- Parts, plainly: the document's Do; what is made is right. -/
import Derived.Test.YtgdfoajophpblaaGreatDoorV5pb
set_option linter.unusedVariables false
set_option linter.unusedSimpArgs false
namespace Go.Cb
open Go.Proofs Go.RowKit

/-! ### Empty, Names, Clear -/
/-! ### what is made is right -/
theorem StoreOk.mk' {s : Sto} {l : List Nd} (S : StoreOk s) (h1 : ∀ x ∈ l, pnB x = true) (h2 : l.Pairwise (key · < key ·)) : StoreOk ⟨l, s.Turns⟩ := ⟨List.all_eq_true.2 h1, h2, S.turns, S.tsort⟩
theorem pathOk_len {p : List UInt8} (h : pathOk p = true) : p.length ≤ 78 := by
  unfold pathOk at h
  obtain ⟨ps, hp⟩ := Option.isSome_iff_exists.1 h
  exact parts_len hp
theorem StoreOk.sms {s : Sto} (S : StoreOk s) (h1 : s.Nodes.length ≤ 90000) (h2 : s.Turns.length ≤ 90000) : SmS s := by
  refine ⟨fun x hx => ?_, fun t ht => ?_, h1, h2⟩
  · have := List.all_eq_true.1 S.nodes x hx
    unfold pnB fieldsB at this
    simp only [Bool.and_eq_true] at this
    have := pathOk_len this.2.1.1.1
    have e : (bl x.Path).length = (key x).length := rfl
    omega
  · have := List.all_eq_true.1 S.turns t ht
    unfold ptB at this
    simp only [Bool.and_eq_true] at this
    have := pathOk_len this.1
    omega
end Go.Cb
