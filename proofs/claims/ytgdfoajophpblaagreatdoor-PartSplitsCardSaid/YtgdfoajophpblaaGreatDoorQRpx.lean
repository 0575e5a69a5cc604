/- Nodes, plainly: the document's answer: paths' names, Put, Children, Named, create, Apply, May. -/
import Derived.Test.YtgdfoajophpblaaGreatDoorQ9px
import Derived.Test.YtgdfoajophpblaaGreatDoorApx1
set_option linter.unusedVariables false
set_option linter.unusedSimpArgs false
namespace Go.Cb
open Go.Proofs Go.RowKit

theorem inc1 {i : Nat} (h : i ≤ 1000000000) : IntKind.i64.wrap ((i : Int) + 1) = ((i + 1 : Nat) : Int) := by rw [w64 (by omega) (by omega)]; omega
/-! ### Put, without, Children -/
def putS (x : Nd) (l : List Nd) : List Nd := l.filter (ltB (key x)) ++ x :: l.filter (fun y => !ltB (key x) y && !isK (key x) y)
theorem sLt_key (x y : Nd) : sLt y.Path x.Path = ltB (key x) y := sLt_bl _ _
theorem sEq_key (x : Nd) (s : ByteArray) : sEq x.Path s = isK (bl s) x := sEq_bl _ _
theorem nd_eta (x : Nd) : (⟨x.Path, x.Data, x.Version, x.Turn, x.Owner⟩ : Nd) = x := rfl
theorem Put_done (l : List Nd) (x : Nd) (hl : l.length ≤ 1000000) : ∀ (k i : Nat) (acc : List Nd), i ≤ l.length → l.length + 1 ≤ i + k → acc.length ≤ i + 1 → m_cantonref06_Put_l1 l x k acc true (i : Int) = some (acc ++ (l.drop i).filter (fun y => !isK (key x) y))
  | 0, i, acc, _, h, _ => by omega
  | k + 1, i, acc, h0, hk, ha => by
    unfold m_cantonref06_Put_l1 m_cantonref06_Put_j4 m_cantonref06_Put_j3 m_cantonref06_Put_j2 m_cantonref06_Put_j1
    by_cases hi : i < l.length
    · rw [if_pos (by simpa using hi), if_neg (by simp), if_neg (by simp), idx_lt hi]
      simp only [Option.bind_some]
      rw [sEq_key, show bl x.Path = key x from rfl, List.drop_eq_getElem_cons hi, List.filter_cons, inc1 (by omega)]
      cases hc : isK (key x) l[i] with
      | true => rw [if_neg (by simp), if_neg (by simp)]; exact Put_done l x hl k (i + 1) acc (by omega) (by omega) (by omega)
      | false =>
        rw [if_pos (by rfl), if_pos (by rfl), ck_b (by simp [LIM]; omega), Put_done l x hl k (i + 1) _ (by omega) (by omega) (by simp; omega)]
        simp
    · rw [if_neg (by simpa using hi), if_neg (by simp), List.drop_eq_nil_of_le (by omega)]
      simp
theorem Put_l1 (l : List Nd) (x : Nd) (hl : l.length ≤ 1000000) (hs : l.Pairwise (key · < key ·)) : ∀ (k i : Nat) (acc : List Nd), i ≤ l.length → l.length + 1 ≤ i + k → acc.length ≤ i → m_cantonref06_Put_l1 l x k acc false (i : Int) = some (acc ++ putS x (l.drop i))
  | 0, i, acc, _, h, _ => by omega
  | k + 1, i, acc, h0, hk, ha => by
    unfold m_cantonref06_Put_l1 m_cantonref06_Put_j4 m_cantonref06_Put_j3 m_cantonref06_Put_j2 m_cantonref06_Put_j1
    by_cases hi : i < l.length
    · rw [if_pos (by simpa using hi), if_pos (by rfl), idx_lt hi]
      simp only [Option.bind_some]
      rw [sLt_key, sEq_key, show bl x.Path = key x from rfl, List.drop_eq_getElem_cons hi, inc1 (by omega)]
      cases hc : ltB (key x) l[i] with
      | true =>
        have hne : isK (key x) l[i] = false := by
          have := kl_ne (show key l[i] < key x by simpa [ltB] using hc)
          simpa [isK] using this
        rw [if_neg (by simp), hne, if_pos (by rfl), ck_b (by simp [LIM]; omega), Put_l1 l x hl hs k (i + 1) _ (by omega) (by omega) (by simp; omega)]
        unfold putS
        rw [List.filter_cons, if_pos hc, List.filter_cons, if_neg (by simp [hc])]
        simp
      | false =>
        have hlt : ∀ y ∈ l[i] :: l.drop (i + 1), ltB (key x) y = false := fun y hy => by
          have c0 : ¬ key l[i] < key x := by simpa [ltB] using hc
          rcases List.mem_cons.1 hy with rfl | hy
          · exact hc
          · obtain ⟨j, hj, rfl⟩ := List.mem_drop_iff_getElem.1 hy
            have := List.pairwise_iff_getElem.1 hs i (i + 1 + j) hi (by omega) (by omega)
            simp only [ltB, decide_eq_false_iff_not]
            exact fun h => c0 (kl_trans this h)
        have e1 : putS x (l[i] :: l.drop (i + 1)) = x :: (l[i] :: l.drop (i + 1)).filter (fun y => !isK (key x) y) := by
          unfold putS
          have e2 : (l[i] :: l.drop (i + 1)).filter (fun y => !ltB (key x) y && !isK (key x) y) = (l[i] :: l.drop (i + 1)).filter (fun y => !isK (key x) y) := List.filter_congr fun y hy => by rw [hlt y hy]; simp
          rw [List.filter_eq_nil_iff.2 fun y hy => by rw [hlt y hy]; simp, e2]
          rfl
        rw [e1, if_pos (by rfl), ck_b (by simp [LIM]; omega), List.filter_cons]
        cases hk2 : isK (key x) l[i] with
        | true => rw [if_neg (by simp), if_neg (by simp), Put_done l x hl k (i + 1) _ (by omega) (by omega) (by simp; omega)]; simp
        | false => rw [if_pos (by rfl), if_pos (by rfl), ck_b (by simp [LIM]; omega), Put_done l x hl k (i + 1) _ (by omega) (by omega) (by simp; omega)]; simp
    · rw [if_neg (by simpa using hi), if_pos (by rfl), List.drop_eq_nil_of_le (by omega), ck_b (by simp [LIM]; omega)]
      simp [putS, nd_eta]
theorem Put_eq (l : List Nd) (x : Nd) (hl : l.length ≤ 1000000) (hs : l.Pairwise (key · < key ·)) : m_cantonref06_Put l x = some (putS x l) := by
  unfold m_cantonref06_Put
  refine (Put_l1 l x hl hs (((l.length : Int) - 0 : Int).toNat + 1) 0 [] (by omega) (by omega) (by simp)).trans ?_
  simp
theorem put_new {l : List Nd} {x : Nd} (h : ∀ y ∈ l, key y ≠ key x) : putS x l = insS x l := by
  unfold putS insS
  congr 2
  refine List.filter_congr fun y hy => ?_
  have : isK (key x) y = false := by simpa [isK] using h y hy
  rw [this]; simp
end Go.Cb
