/- Nodes, plainly: keys in order, the search for one, what a tree is, to the program and to the document. -/
import Derived.Test.YtgdfoajophpblaaGreatDoorQ3px
import Derived.Test.YtgdfoajophpblaaGreatDoorApx1
import Derived.Test.YtgdfoajophpblaaGreatDoorKpx1
set_option linter.unusedVariables false
set_option linter.unusedSimpArgs false
namespace Go.Cb
open Go.Proofs Go.RowKit

abbrev Nd := S_api_Node
def key (x : Nd) : List UInt8 := bl x.Path
theorem kl_irrefl (a : List UInt8) : ¬ a < a := List.lt_irrefl a
theorem kl_trans {a b c : List UInt8} (h : a < b) (k : b < c) : a < c := List.lt_trans h k
theorem kl_tri (a b : List UInt8) : a < b ∨ a = b ∨ b < a := by
  rcases Decidable.em (a < b) with h | h
  · exact .inl h
  · rcases Decidable.em (b < a) with k | k
    · exact .inr (.inr k)
    · exact .inr (.inl (List.le_antisymm (List.not_lt.1 k) (List.not_lt.1 h)))
theorem kl_asymm {a b : List UInt8} (h : a < b) : ¬ b < a := fun k => kl_irrefl _ (kl_trans h k)
theorem kl_ne {a b : List UInt8} (h : a < b) : a ≠ b := fun e => kl_irrefl b (e ▸ h)
theorem kl_app (a : List UInt8) {b c : List UInt8} (h : b < c) : a ++ b < a ++ c := by
  induction a with
  | nil => exact h
  | cons x a ih => exact List.Lex.cons ih
theorem kl_pre (a : List UInt8) {b : List UInt8} (h : b ≠ []) : a < a ++ b := by
  have := kl_app a (b := []) (c := b) (by cases b with | nil => exact absurd rfl h | cons x b => exact List.Lex.nil)
  simpa using this
/-! ### a node by its key -/
def zNd : Nd := ⟨mk [], mk [], 0, 0, 0⟩
def isK (p : List UInt8) (x : Nd) : Bool := decide (key x = p)
def fnd (l : List Nd) (p : List UInt8) : Nd × Bool := match l.find? (isK p) with
  | some x => (x, true)
  | none => (zNd, false)
theorem fnd_none {l : List Nd} {p : List UInt8} (h : l.find? (isK p) = none) : fnd l p = (zNd, false) := by unfold fnd; rw [h]
theorem fnd_some {l : List Nd} {p : List UInt8} {x : Nd} (h : l.find? (isK p) = some x) : fnd l p = (x, true) := by unfold fnd; rw [h]
theorem opt2 {α : Type} (o : Option α) : o = none ∨ ∃ x, o = some x := by cases o with | none => exact .inl rfl | some x => exact .inr ⟨x, rfl⟩
theorem find_drop {l : List Nd} {i : Nat} (hi : i < l.length) (p : Nd → Bool) : (l.drop i).find? p = if p l[i] then some l[i] else (l.drop (i + 1)).find? p := by
  rw [List.drop_eq_getElem_cons hi, List.find?_cons]
  cases p l[i] <;> rfl
theorem rFind_l1 (l : List Nd) (s : ByteArray) (hlen : l.length ≤ 1000000) : ∀ (k i : Nat), i ≤ l.length → l.length + 1 ≤ i + k → m_cantonref06_Find_l1 l s k (i : Int) = some (match (l.drop i).find? (isK (bl s)) with
    | some x => (x, true)
    | none => (zNd, false))
  | 0, i, _, h => by omega
  | k + 1, i, h0, h => by
    unfold m_cantonref06_Find_l1
    by_cases hi : i < l.length
    · rw [if_pos (by simpa using hi), idx_lt hi, find_drop hi]
      simp only [Option.bind_some]
      rw [sEq_bl]
      by_cases e : key l[i] = bl s
      · rw [if_pos (by simpa [key] using e), if_pos (by simpa [isK] using e)]
      · rw [if_neg (by simpa [key] using e), if_neg (by simpa [isK] using e), show IntKind.i64.wrap ((i : Int) + 1) = ((i + 1 : Nat) : Int) from by rw [w64 (by omega) (by omega)]; omega]
        exact rFind_l1 l s hlen k (i + 1) (by omega) (by omega)
    · rw [if_neg (by simpa using hi), List.drop_eq_nil_of_le (by omega)]
      rfl
theorem rFind_eq (l : List Nd) (s : ByteArray) (hlen : l.length ≤ 1000000) : m_cantonref06_Find l s = some (fnd l (bl s)) := by
  unfold m_cantonref06_Find fnd
  exact rFind_l1 l s hlen _ 0 (by omega) (by omega)
end Go.Cb
