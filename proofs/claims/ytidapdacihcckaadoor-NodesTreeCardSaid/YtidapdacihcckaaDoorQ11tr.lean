/- Nodes, plainly: NodesTree, NodesVersions. -/
import Derived.Test.YtidapdacihcckaaDoorQ10tr
import Derived.Test.YtidapdacihcckaaDoorKtr3
set_option linter.unusedVariables false
set_option linter.unusedSimpArgs false
namespace Go.Cb
open Go.Proofs Go.RowKit

/-- the guards that all laws begin with. -/
theorem guard (l : List Nd) (hlen : l.length ≤ 140737488351232) (f : Bool → Option Bool) (g : Option Bool) (ht : f true = some true) (hg : l.length ≤ 1666 → Sm l → g = some true) : ((m_cantonlaw06_Great l).bind fun u => if u = true then f true else g) = some true := by
  obtain ⟨b, h1, h2⟩ := Great_eq l hlen
  rw [h1]
  cases b with
  | true => exact ht
  | false => obtain ⟨h3, h4⟩ := h2 rfl; exact hg h3 h4
theorem guardOp (o : Op1) (f : Bool → Option Bool) (g : Option Bool) (ht : f true = some true) (hg : (bl o.Path).length ≤ 3000 → g = some true) : ((m_cantonlaw06_GreatOp o).bind fun u => if u = true then f true else g) = some true := by
  obtain ⟨b, h1, h2⟩ := GreatOp_eq o
  rw [h1]
  cases b with
  | true => exact ht
  | false => exact hg (h2 rfl).1
theorem guardR (l : List Nd) (hlen : l.length ≤ 1666) (sm : Sm l) (f : Bool → Option Bool) (ht : f true = some true) (hg : Tree l → f false = some true) : ((m_cantonref06_Right l).bind fun u => f (!u)) = some true := by
  obtain ⟨b, h1, h2⟩ := rRight_eq l (by omega) sm
  rw [h1]
  cases b with
  | false => exact ht
  | true => exact hg (h2.1 rfl)
/-! ### NodesTree -/
theorem inS_self {p : List UInt8} {ps : List (List UInt8)} (h : parts p = some ps) : inS p p = true := by
  unfold inS; rw [h]; simp
theorem inS_child {p q : List UInt8} (h : parentS p = some q) : inS p q = true := by
  obtain ⟨ps, t, h1, h2, h3⟩ := parent_parts h
  unfold inS; rw [h1, h3]
  exact List.isPrefixOf_iff_prefix.2 ⟨[t], rfl⟩
theorem apply_keep {l : List Nd} {o : Op1} (hm : MayB o = true) {x : Nd} (hx : x ∈ l) (h1 : inS (key x) (bl o.Path) = false) (h2 : ∀ q, parentS (bl o.Path) = some q → key x ≠ q) : x ∈ (applyS l o).1 := by
  obtain ⟨hk, ⟨ps, hps⟩, _⟩ := may_iff hm
  have hne : key x ≠ bl o.Path := by
    intro e
    rw [e, inS_self hps] at h1
    cases h1
  unfold applyS
  split
  · cases hq : parentS (bl o.Path) with
    | none => exact hx
    | some q =>
      simp only
      unfold createS
      have hxq := h2 q hq
      split
      · exact hx
      · split
        · exact hx
        · split
          · exact hx
          · split
            · exact hx
            · split
              · exact hx
              · refine mem_ins.2 (.inr ?_)
                split
                · exact mem_upd.2 ⟨x, hx, by rw [if_neg (by simpa [isK] using hxq)]⟩
                · exact hx
  · split
    · exact hx
    · rename_i u hu
      have hku := (find_key hu).2
      split
      · exact hx
      · unfold doS
        split
        · split
          · exact hx
          · exact List.mem_filter.2 ⟨hx, by simp [isK, hku, hne]⟩
        · split
          · split
            · exact hx
            · exact mem_upd.2 ⟨x, hx, by rw [if_neg (by simp [isK, hku, hne])]⟩
          · split
            · exact hx
            · split
              · exact hx
              · split
                · exact hx
                · refine List.mem_filter.2 ⟨hx, ?_⟩
                  have : childB (key u) x = false := by
                    cases hc : childB (key u) x with
                    | false => rfl
                    | true =>
                      have := inS_child (show parentS (key x) = some (key u) by simpa [childB] using hc)
                      rw [hku, h1] at this; cases this
                  simp [ownB, this]
theorem tree_l1 (l a : List Nd) (o : Op1) (r : Res) (T : Tree l) (Ta : Tree a) (hp : (bl o.Path).length ≤ 3000) (hk : ∀ x ∈ l, inS (key x) (bl o.Path) = false → key x ≠ bl (os2 (parentS (bl o.Path))).1 → x ∈ a) : ∀ (k i : Nat), i ≤ l.length → l.length + 1 ≤ i + k → m_cantonlaw06_NodesTree_l1 l o (os2 (parentS (bl o.Path))) (a, r) true k (i : Int) = some true
  | 0, i, _, h => by omega
  | k + 1, i, h0, h => by
    have hl := T.len
    have hal := Ta.len
    unfold m_cantonlaw06_NodesTree_l1 m_cantonlaw06_NodesTree_j2 m_cantonlaw06_NodesTree_j3 m_cantonlaw06_NodesTree_j2
    by_cases hi : i < l.length
    · have hx : l[i] ∈ l := List.getElem_mem hi
      have hkx := T.sm _ hx
      have e1 : IntKind.i64.wrap ((i : Int) + 1) = ((i + 1 : Nat) : Int) := by rw [w64 (by omega) (by omega)]; omega
      rw [if_pos (by simpa using hi), idx_lt hi, e1]
      simp only [Option.bind_some]
      rw [In_eq _ _ hkx (by omega), show bl (l[i]).Path = key l[i] from rfl]
      simp only [Option.bind_some]
      have ih := tree_l1 l a o r T Ta hp hk k (i + 1) (by omega) (by omega)
      cases hin : inS (key l[i]) (bl o.Path) with
      | true => rw [if_pos rfl]; exact ih
      | false =>
        rw [if_neg (by simp), sEq_bl, show bl (l[i]).Path = key l[i] from rfl]
        by_cases hq : key l[i] = bl (os2 (parentS (bl o.Path))).1
        · rw [if_pos (by simpa using hq)]; exact ih
        · rw [if_neg (by simpa using hq), rFind_eq a _ (by omega), show bl (l[i]).Path = key l[i] from rfl, fnd_some (find_mem Ta.sorted (hk _ hx hin hq))]
          simp only [Option.bind_some]
          rw [if_neg (by simp), nd_eq, if_neg (by simp)]
          exact ih
    · rw [if_neg (by simpa using hi)]
theorem pure_tree (l : List Nd) (o : Op1) (hlen : l.length ≤ 140737488351232) : m_cantonlaw06_NodesTree l o = some true := by
  unfold m_cantonlaw06_NodesTree
  rw [head_t]
  have jt : m_cantonlaw06_NodesTree_j1 l o true true = some true := by unfold m_cantonlaw06_NodesTree_j1; simp
  refine guard l hlen (m_cantonlaw06_NodesTree_j1 l o true) _ jt fun h3 h4 => ?_
  refine guardOp o (m_cantonlaw06_NodesTree_j1 l o true) _ jt fun hp => ?_
  refine guardR l h3 h4 _ jt fun T => ?_
  unfold m_cantonlaw06_NodesTree_j1
  have hl := T.len
  rw [if_neg (by simp), ck_b (by simp [LIM]; omega), List.nil_append]
  by_cases hm : MayB o = true
  · rw [show m_nodes_Apply l (⟨o.Kind, o.Path, o.Data, o.Version, o.Owner, o.Turns⟩ : Op1) = _ from Apply_eq l o T hm]
    simp only [Option.bind_some]
    rw [Same_eq _ _ (by omega)]
    simp only [Option.bind_some, decide_true, Bool.not_true, Bool.false_eq_true, if_false]
    have hne : (applyS l o).2.Err ≠ 1 := by
      rcases apply_err l o with ⟨_, _, h, _⟩ | h
      · exact h
      · rw [h]; decide
    have Ta := Tree_apply T hm
    rw [if_neg (by simpa using hne)]
    obtain ⟨b, h5, h6⟩ := rRight_eq (applyS l o).1 (by have := Ta.len; omega) Ta.sm
    rw [h5, h6.2 Ta]
    simp only [Option.bind_some]
    rw [if_neg (by simp), rParent_eq _ (by omega)]
    simp only [Option.bind_some]
    have := tree_l1 l (applyS l o).1 o (applyS l o).2 T Ta hp (fun x hx h1 h2 => apply_keep hm hx h1 fun q hq => by
      rw [hq] at h2
      exact h2) (((l.length : Int) - 0 : Int).toNat + 1) 0 (by omega) (by omega)
    exact this
  · rw [show m_nodes_Apply l (⟨o.Kind, o.Path, o.Data, o.Version, o.Owner, o.Turns⟩ : Op1) = _ from Apply_bad l o (by omega) T.sm fun h => hm h.2]
    simp only [Option.bind_some]
    rw [Same_eq _ _ (by omega)]
    simp [res]
/-! ### NodesVersions -/
end Go.Cb
