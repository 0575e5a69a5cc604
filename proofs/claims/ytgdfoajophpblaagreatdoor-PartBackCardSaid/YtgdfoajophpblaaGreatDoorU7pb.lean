/- Pieces, plainly: a tree's store; the parts of an operation make of it what the operation makes of the tree. -/
import Derived.Test.YtgdfoajophpblaaGreatDoorU5pb
import Derived.Test.YtgdfoajophpblaaGreatDoorKpb2
set_option linter.unusedVariables false
set_option linter.unusedSimpArgs false
namespace Go.Cb
open Go.Proofs Go.RowKit

def kn (x : Nd) : Nd := { x with Turn := 0 }
def ktn (x : Nd) : Tn := ⟨x.Path, x.Turn⟩
def keepS (l : List Nd) : Sto := ⟨l.map kn, (l.filter fun x => x.Turn != 0).map ktn⟩
theorem Keep_l1 (l : List Nd) (hl : l.length ≤ 1000000) : ∀ (k i : Nat) (a : List Nd) (b : List Tn), i ≤ l.length → l.length + 1 ≤ i + k → a.length ≤ i → b.length ≤ i → m_part_Keep_l1 l k (i : Int) a b = some ⟨a ++ (l.drop i).map kn, b ++ ((l.drop i).filter fun x => x.Turn != 0).map ktn⟩
  | 0, i, a, b, _, h, _, _ => by omega
  | k + 1, i, a, b, h0, h, ha, hb => by
    unfold m_part_Keep_l1 m_part_Keep_j1
    by_cases hi : i < l.length
    · rw [if_pos (by simpa using hi), idx_lt hi, List.drop_eq_getElem_cons hi, List.filter_cons, inc1 (by omega)]
      simp only [Option.bind_some]
      cases hc : ((l[i]).Turn != 0) with
      | true =>
        rw [if_pos rfl, if_pos rfl, ck_b (by simp [LIM]; omega), ck_b (by simp [LIM]; omega), Keep_l1 l hl k (i + 1) _ _ (by omega) (by omega) (by simp; omega) (by simp; omega)]
        rw [List.map_cons, List.map_cons, List.append_assoc, List.append_assoc]; rfl
      | false =>
        rw [if_neg (by simp), if_neg (by simp), ck_b (by simp [LIM]; omega), Keep_l1 l hl k (i + 1) _ _ (by omega) (by omega) (by simp; omega) (by omega)]
        rw [List.map_cons, List.append_assoc]; rfl
    · rw [if_neg (by simpa using hi), List.drop_eq_nil_of_le (by omega)]
      simp
theorem Keep_eq (l : List Nd) (hl : l.length ≤ 1000000) : m_part_Keep l = some (keepS l) := by
  refine (Keep_l1 l hl (((l.length : Int) - 0 : Int).toNat + 1) 0 [] [] (by omega) (by omega) (by simp) (by simp)).trans ?_
  simp [keepS]
/-! ### lists that rise and have the same are the same -/
theorem sorted_ext {α : Type} (κ : α → List UInt8) : ∀ {a b : List α}, a.Pairwise (κ · < κ ·) → b.Pairwise (κ · < κ ·) → (∀ x, x ∈ a ↔ x ∈ b) → a = b
  | [], [], _, _, _ => rfl
  | [], y :: b, _, _, h => by have := (h y).2 (by simp); simp at this
  | x :: a, [], _, _, h => by have := (h x).1 (by simp); simp at this
  | x :: a, y :: b, ha, hb, h => by
    obtain ⟨a1, a2⟩ := List.pairwise_cons.1 ha
    obtain ⟨b1, b2⟩ := List.pairwise_cons.1 hb
    have e : x = y := by
      rcases List.mem_cons.1 ((h x).1 (by simp)) with e | e
      · exact e
      · rcases List.mem_cons.1 ((h y).2 (by simp)) with f | f
        · exact f.symm
        · exact absurd (b1 x e) (kl_asymm (a1 y f))
    subst e
    congr 1
    refine sorted_ext κ a2 b2 fun z => ⟨fun hz => ?_, fun hz => ?_⟩
    · rcases List.mem_cons.1 ((h z).1 (List.mem_cons_of_mem _ hz)) with e | e
      · exact absurd (a1 z hz) (e ▸ kl_irrefl _)
      · exact e
    · rcases List.mem_cons.1 ((h z).2 (List.mem_cons_of_mem _ hz)) with e | e
      · exact absurd (b1 z hz) (e ▸ kl_irrefl _)
      · exact e
/-! ### the store of a tree -/
theorem keep_iff {l : List Nd} {t : Tn} : t ∈ (keepS l).Turns ↔ ∃ x ∈ l, x.Turn ≠ 0 ∧ t = ktn x := by
  unfold keepS
  simp only [List.mem_map, List.mem_filter, bne_iff_ne, ne_eq]
  constructor
  · rintro ⟨x, ⟨h1, h2⟩, rfl⟩; exact ⟨x, h1, h2, rfl⟩
  · rintro ⟨x, h1, h2, rfl⟩; exact ⟨x, ⟨h1, h2⟩, rfl⟩
theorem keep_tsorted {l : List Nd} (hs : l.Pairwise (key · < key ·)) : (keepS l).Turns.Pairwise (tkey · < tkey ·) := by
  unfold keepS
  rw [List.pairwise_map]
  exact hs.filter _
theorem keep_nsorted {l : List Nd} (hs : l.Pairwise (key · < key ·)) : (keepS l).Nodes.Pairwise (key · < key ·) := by
  unfold keepS
  rw [List.pairwise_map]
  exact hs
theorem tree_path {l : List Nd} (T : Tree l) {x : Nd} (hx : x ∈ l) : pathOk (key x) = true := by
  unfold pathOk
  by_cases h : key x = [47]
  · rw [h, parts_root]; rfl
  · obtain ⟨q, hq, _⟩ := T.up x hx h
    obtain ⟨ps, t, hp, _⟩ := parts_q hq
    rw [hp]; rfl
theorem keep_ok {l : List Nd} (T : Tree l) : StoreOk (keepS l) := by
  refine ⟨List.all_eq_true.2 fun y hy => ?_, keep_nsorted T.sorted, List.all_eq_true.2 fun t ht => ?_, keep_tsorted T.sorted⟩
  · obtain ⟨x, hx, rfl⟩ := List.mem_map.1 hy
    have h1 := T.ok x hx
    unfold NodeOk at h1
    have h2 : pathOk (bl x.Path) = true := tree_path T hx
    unfold pnB fieldsB kn
    simp only [h2]
    simp
    omega
  · obtain ⟨x, hx, h0, rfl⟩ := keep_iff.1 ht
    have h1 := T.ok x hx
    unfold NodeOk at h1
    have h2 : pathOk (tkey (ktn x)) = true := tree_path T hx
    unfold ptB
    rw [h2, Bool.true_and, decide_eq_true_eq]
    show 1 ≤ x.Turn ∧ x.Turn ≤ 10000
    omega
end Go.Cb
