/- Pieces, plainly: a tree's store; the parts of an operation make of it what the operation makes of the tree. -/
import Derived.Test.YtgdfoajophpblaaGreatDoorU5px
import Derived.Test.YtgdfoajophpblaaGreatDoorKpx2
set_option linter.unusedVariables false
set_option linter.unusedSimpArgs false
namespace Go.Cb
open Go.Proofs Go.RowKit

def kn (x : Nd) : Nd := { x with Turn := 0 }
def ktn (x : Nd) : Tn := ⟨x.Path, x.Turn⟩
def keepS (l : List Nd) : Sto := ⟨l.map kn, (l.filter fun x => x.Turn != 0).map ktn⟩
theorem Keep_l1 (l : List Nd) (hl : l.length ≤ 1000000) : ∀ (k i : Nat) (a : List Nd) (b : List Tn), i ≤ l.length → l.length + 1 ≤ i + k → a.length ≤ i → b.length ≤ i → m_part_Keep_l1 l k (i : Int) a b = some ⟨a ++ (l.drop i).map kn, b ++ ((l.drop i).filter fun x => x.Turn != 0).map ktn⟩
  | 0, i, a, b, _, h, _, _ => by omega
  | k + 1, i, a, b, h0, h, ha, hb => by
    unfold m_part_Keep_l1 m_part_Keep_j1
    by_cases hi : i < l.length
    · rw [if_pos (by simpa using hi), idx_lt hi, List.drop_eq_getElem_cons hi, List.filter_cons, inc1 (by omega)]
      simp only [Option.bind_some]
      cases hc : ((l[i]).Turn != 0) with
      | true =>
        rw [if_pos rfl, if_pos rfl, ck_b (by simp [LIM]; omega), ck_b (by simp [LIM]; omega), Keep_l1 l hl k (i + 1) _ _ (by omega) (by omega) (by simp; omega) (by simp; omega)]
        rw [List.map_cons, List.map_cons, List.append_assoc, List.append_assoc]; rfl
      | false =>
        rw [if_neg (by simp), if_neg (by simp), ck_b (by simp [LIM]; omega), Keep_l1 l hl k (i + 1) _ _ (by omega) (by omega) (by simp; omega) (by omega)]
        rw [List.map_cons, List.append_assoc]; rfl
    · rw [if_neg (by simpa using hi), List.drop_eq_nil_of_le (by omega)]
      simp
theorem Keep_eq (l : List Nd) (hl : l.length ≤ 1000000) : m_part_Keep l = some (keepS l) := by
  refine (Keep_l1 l hl (((l.length : Int) - 0 : Int).toNat + 1) 0 [] [] (by omega) (by omega) (by simp) (by simp)).trans ?_
  simp [keepS]
/-! ### lists that rise and have the same are the same -/
theorem sorted_ext {α : Type} (κ : α → List UInt8) : ∀ {a b : List α}, a.Pairwise (κ · < κ ·) → b.Pairwise (κ · < κ ·) → (∀ x, x ∈ a ↔ x ∈ b) → a = b
  | [], [], _, _, _ => rfl
  | [], y :: b, _, _, h => by have := (h y).2 (by simp); simp at this
  | x :: a, [], _, _, h => by have := (h x).1 (by simp); simp at this
  | x :: a, y :: b, ha, hb, h => by
    obtain ⟨a1, a2⟩ := List.pairwise_cons.1 ha
    obtain ⟨b1, b2⟩ := List.pairwise_cons.1 hb
    have e : x = y := by
      rcases List.mem_cons.1 ((h x).1 (by simp)) with e | e
      · exact e
      · rcases List.mem_cons.1 ((h y).2 (by simp)) with f | f
        · exact f.symm
        · exact absurd (b1 x e) (kl_asymm (a1 y f))
    subst e
    congr 1
    refine sorted_ext κ a2 b2 fun z => ⟨fun hz => ?_, fun hz => ?_⟩
    · rcases List.mem_cons.1 ((h z).1 (List.mem_cons_of_mem _ hz)) with e | e
      · exact absurd (a1 z hz) (e ▸ kl_irrefl _)
      · exact e
    · rcases List.mem_cons.1 ((h z).2 (List.mem_cons_of_mem _ hz)) with e | e
      · exact absurd (b1 z hz) (e ▸ kl_irrefl _)
      · exact e
/-! ### the store of a tree -/
end Go.Cb
