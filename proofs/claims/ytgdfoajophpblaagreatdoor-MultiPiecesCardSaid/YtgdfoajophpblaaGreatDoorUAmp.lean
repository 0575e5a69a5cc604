/- MultiPieces, plainly: the law. -/
import Derived.Test.YtgdfoajophpblaaGreatDoorU9mp
import Derived.Test.YtgdfoajophpblaaGreatDoorU3mp
set_option linter.unusedVariables false
set_option linter.unusedSimpArgs false
namespace Go.Cb
open Go.Proofs Go.RowKit

theorem apply_grow (l : List Nd) (o : Op1) : (applyS l o).1.length ≤ l.length + 1 := by
  have f : ∀ g : Nd → Bool, (l.filter g).length ≤ l.length + 1 := fun g => Nat.le_succ_of_le (List.length_filter_le _ _)
  unfold applyS
  split
  · split
    · simp
    · unfold createS
      split
      · simp
      · split
        · simp
        · split
          · simp
          · split
            · simp
            · split
              · simp
              · simp only [ins_len]
                split <;> simp [upd_len]
  · split
    · simp
    · split
      · simp
      · unfold doS
        repeat' split
        all_goals first | exact f _ | simp [upd_len]
theorem pieces_run (t : List Nd) (s0 : Sto) : ∀ (l : List Op1) (now : List Nd) (i j : Nat) (acc : List Res), Tree now → l.all MayB = true → now.length + l.length ≤ 512 →
    ((runS t now i l acc).2.Err = 0 → runQ s0 (keepS now) j (piecesS i l) = (keepS (runS t now i l acc).1, 0, 0)) ∧
    ((runS t now i l acc).2.Err ≠ 0 → ∃ (m : Nat) (x : Pie), (piecesS i l)[m]? = some x ∧ x.Op = (runS t now i l acc).2.At ∧ runQ s0 (keepS now) j (piecesS i l) = (s0, (runS t now i l acc).2.Err, ((j + m : Nat) : Int)))
  | [], now, i, j, acc, T, hm, h5 => by
    simp only [runS, piecesS, runQ]
    exact ⟨fun _ => trivial, fun h => absurd rfl h⟩
  | o :: l, now, i, j, acc, T, hm, h5 => by
    simp only [List.all_cons, Bool.and_eq_true] at hm
    simp only [List.length_cons] at h5
    obtain ⟨g1, g2⟩ := sim s0 now o j (i : Int) (piecesS (i + 1) l) T hm.1 (by omega)
    have hp : piecesS i (o :: l) = (partsOf o).map (fun p => (⟨(i : Int), p⟩ : Pie)) ++ piecesS (i + 1) l := by
      rw [piecesS]; unfold ofS; rw [if_pos hm.1]
    rw [hp]
    simp only [runS]
    by_cases e : (applyS now o).2.Err = 0
    · rw [if_neg (by simpa using e), g1 e]
      have hl := apply_grow now o
      obtain ⟨k1, k2⟩ := pieces_run t s0 l (applyS now o).1 (i + 1) (j + (partsOf o).length) (acc ++ [(applyS now o).2]) (Tree_apply T hm.1) hm.2 (by omega)
      refine ⟨k1, fun h => ?_⟩
      obtain ⟨m, x, h1, h2, h3⟩ := k2 h
      refine ⟨(partsOf o).length + m, x, ?_, h2, ?_⟩
      · rw [List.getElem?_append_right (by simp)]
        simpa using h1
      · rw [h3, Nat.add_assoc]
    · rw [if_pos e]
      refine ⟨fun h => absurd h e, fun _ => ?_⟩
      obtain ⟨m, h1, h2⟩ := g2 e
      refine ⟨m, ⟨(i : Int), (partsOf o)[m]⟩, ?_, rfl, h2⟩
      rw [List.getElem?_append_left (by simpa using h1)]
      simp [h1]
theorem pieces_mem : ∀ (l : List Op1) (i : Nat), l.all MayB = true → ∀ x ∈ piecesS i l, (i : Int) ≤ x.Op ∧ x.Op < (i : Int) + (l.length : Int) ∧ mayP x.Part = true
  | [], i, _, x, hx => by simp [piecesS] at hx
  | o :: l, i, hm, x, hx => by
    simp only [List.all_cons, Bool.and_eq_true] at hm
    rw [piecesS] at hx
    unfold ofS at hx
    rw [if_pos hm.1] at hx
    simp only [List.length_cons]
    rcases List.mem_append.1 hx with hx | hx
    · obtain ⟨p, hp, rfl⟩ := List.mem_map.1 hx
      exact ⟨Int.le_refl _, by simp only; omega, part_may o hm.1 p hp⟩
    · obtain ⟨h1, h2, h3⟩ := pieces_mem l (i + 1) hm.2 x hx
      exact ⟨by omega, by omega, h3⟩
theorem pieces_rise : ∀ (l : List Op1) (i : Nat), l.all MayB = true → (piecesS i l).Pairwise (fun x y => x.Op ≤ y.Op)
  | [], i, _ => by simp [piecesS]
  | o :: l, i, hm => by
    simp only [List.all_cons, Bool.and_eq_true] at hm
    rw [piecesS]
    refine List.pairwise_append.2 ⟨?_, pieces_rise l (i + 1) hm.2, fun a ha b hb => ?_⟩
    · rw [List.pairwise_map]
      exact List.pairwise_of_forall (fun _ _ => Int.le_refl _)
    · obtain ⟨p, hp, rfl⟩ := List.mem_map.1 ha
      have := (pieces_mem l (i + 1) hm.2 b hb).1
      show (i : Int) ≤ b.Op
      omega
theorem mp_l1 (u : Bool) (ps : List Pie) (l : List Op1) (t : List Nd) (hl : l.length ≤ 1000) : ∀ (k i n : Nat), n ≤ 2 * i → i ≤ l.length → l.length + 1 ≤ i + k → m_cantonlaw08_MultiPieces_l1 u ps l t k (n : Int) (i : Int) = m_cantonlaw08_MultiPieces_l2 u ps l t ((n + (piecesS i (l.drop i)).length : Nat) : Int) (((ps.length : Int) - 0 : Int).toNat + 1) 0
  | 0, i, n, _, _, h => by omega
  | k + 1, i, n, hn, h0, h => by
    rw [m_cantonlaw08_MultiPieces_l1]
    by_cases hi : i < l.length
    · have h2 := ofS_len l[i]
      rw [if_pos (by simpa using hi), idx_lt hi, List.drop_eq_getElem_cons hi]
      simp only [Option.bind_some]
      rw [partOf_eq]
      simp only [Option.bind_some]
      rw [w64 (by omega) (by omega), inc1 (by omega), show (n : Int) + ((ofS l[i]).length : Int) = ((n + (ofS l[i]).length : Nat) : Int) from by omega, mp_l1 u ps l t hl k (i + 1) _ (by omega) (by omega) (by omega), piecesS]
      simp only [List.length_append, List.length_map]
      rw [Nat.add_assoc]
    · rw [if_neg (by simpa using hi), List.drop_eq_nil_of_le (by omega), piecesS]
      rfl
def mpRest (u : Bool) (ps : List Pie) (l : List Op1) (t : List Nd) (n : Int) : Option Bool :=
  (m_multi_Apply t l).bind fun u82 => (m_part_Keep t).bind fun u89 => (m_multi_All u89 ps).bind fun u93 => if ((ps.length : Int) != n) = true then (m_cantonlaw08_MultiPieces_j3 u u93 ps u82 true) else (if (u93.2.2.1 != u82.2.Err) = true then (m_cantonlaw08_MultiPieces_j3 u u93 ps u82 true) else ((m_part_Keep u82.1).bind fun u135 => (m_cantonref07_Same u93.1 u135).bind fun u139 => m_cantonlaw08_MultiPieces_j3 u u93 ps u82 (!u139)))
theorem mp_l2 (u : Bool) (ps : List Pie) (l : List Op1) (t : List Nd) (n : Int) (hl : l.length ≤ 1000) (hp : ps.length ≤ 10000) (h1 : ∀ x ∈ ps, (0 : Int) ≤ x.Op ∧ x.Op < (l.length : Int) ∧ mayP x.Part = true) (h2 : ps.Pairwise (fun x y => x.Op ≤ y.Op)) : ∀ (k i : Nat), i ≤ ps.length → ps.length + 1 ≤ i + k → m_cantonlaw08_MultiPieces_l2 u ps l t n k (i : Int) = mpRest u ps l t n
  | 0, i, _, h => by omega
  | k + 1, i, h0, h => by
    rw [m_cantonlaw08_MultiPieces_l2]
    by_cases hi : i < ps.length
    · obtain ⟨a, b, c⟩ := h1 _ (List.getElem_mem hi)
      rw [if_pos (by simpa using hi), idx_lt hi]
      simp only [Option.bind_some]
      rw [if_neg (by rw [decide_eq_false (by omega)]; simp), if_neg (by rw [decide_eq_false (by omega)]; simp), partMay_eq, c]
      simp only [Option.bind_some]
      have nx : m_cantonlaw08_MultiPieces_j2 (m_cantonlaw08_MultiPieces_l2 u ps l t n k) (i : Int) (!true) = mpRest u ps l t n := by
        unfold m_cantonlaw08_MultiPieces_j2
        rw [if_neg (by simp), inc1 (by omega)]
        exact mp_l2 u ps l t n hl hp h1 h2 k (i + 1) (by omega) (by omega)
      by_cases z : i = 0
      · subst z
        rw [if_neg (by simp)]
        exact nx
      · rw [if_pos (decide_eq_true (by omega)), show IntKind.i64.wrap ((i : Int) - 1) = ((i - 1 : Nat) : Int) from by rw [w64 (by omega) (by omega)]; omega, idx_lt (show i - 1 < ps.length by omega)]
        simp only [Option.bind_some]
        have r := List.pairwise_iff_getElem.1 h2 (i - 1) i (by omega) hi (by omega)
        rw [if_neg (by rw [decide_eq_false (by omega)]; simp)]
        exact nx
    · rw [if_neg (by simpa using hi)]
      rfl
theorem mp_rest (t : List Nd) (l : List Op1) (T : Tree t) (hm : mayL l = true) (h5 : t.length + l.length ≤ 512) : mpRest true (piecesS 0 l) l t ((piecesS 0 l).length : Int) = some true := by
  have hm' := hm
  unfold mayL at hm'
  simp only [Bool.and_eq_true, decide_eq_true_eq] at hm'
  have hl := T.len
  unfold mpRest
  rw [multiApply_eq t l T hm, Keep_eq t (by omega)]
  simp only [Option.bind_some]
  obtain ⟨k1, k2⟩ := pieces_run t (keepS t) l t 0 0 [] T hm'.2 h5
  have pm := pieces_mem l 0 hm'.2
  have pl := pieces_len l 0
  have tl : (keepS t).Turns.length ≤ t.length := by
    unfold keepS; simp only [List.length_map]; exact List.length_filter_le _ _
  have nl : (keepS t).Nodes.length = t.length := by unfold keepS; simp
  obtain ⟨rs, h1⟩ := all_run (keepS t) (piecesS 0 l) (by omega) (fun x hx => (pm x hx).2.2) (((piecesS 0 l).length - 0 : Int).toNat + 1) 0 (keepS t) [] (keep_ok T) (by omega) (by omega) (by omega) (by omega) (by simp)
  unfold m_multi_All
  rw [show m_multi_All_l1 (piecesS 0 l) (keepS t) ((((piecesS 0 l).length : Int) - 0 : Int).toNat + 1) [] 0 (keepS t).Nodes (keepS t).Turns = _ from h1]
  simp only [Option.bind_some, List.drop_zero]
  have T1 := (runS_ok t T l t 0 [] T hm'.2 (by simp)).1
  have hl1 := T1.len
  rw [if_neg (by simp)]
  have kl : ∀ x : List Nd, x.length ≤ 512 → (keepS x).Nodes.length ≤ 1000000 ∧ (keepS x).Turns.length ≤ 1000000 := fun x hx => by
    have : (keepS x).Turns.length ≤ x.length := by unfold keepS; simp only [List.length_map]; exact List.length_filter_le _ _
    have : (keepS x).Nodes.length = x.length := by unfold keepS; simp
    omega
  by_cases e : (runS t t 0 l []).2.Err = 0
  · rw [k1 e]
    simp only
    rw [if_neg (by simp [e]), Keep_eq _ (by omega)]
    simp only [Option.bind_some]
    rw [sameS_eq _ _ (kl _ hl1).1 (kl _ hl1).2]
    simp only [Option.bind_some, decide_true, Bool.not_true]
    rfl
  · obtain ⟨m, x, g1, g2, g3⟩ := k2 e
    obtain ⟨j, q1, q2, q3, q4, q5⟩ := runS_at t l t 0 [] e
    obtain ⟨hmm, rfl⟩ := List.getElem?_eq_some_iff.1 g1
    rw [g3]
    simp only
    rw [if_neg (by simp), q4, Keep_eq _ (by omega)]
    simp only [Option.bind_some]
    rw [sameS_eq _ _ (kl t hl).1 (kl t hl).2]
    simp only [Option.bind_some, decide_true, Bool.not_true]
    unfold m_cantonlaw08_MultiPieces_j3
    rw [if_neg (by simp), if_pos rfl]
    simp only
    rw [if_neg (by simpa using e), if_pos (by simpa using e), if_pos (decide_eq_true (by omega)), if_pos (decide_eq_true (by omega)), Nat.zero_add, idx_lt hmm]
    simp only [Option.bind_some]
    rw [g2]
    simp
theorem pure_mpieces (t : List Nd) (l : List Op1) (hlen : t.length ≤ 140737488351232) : m_cantonlaw08_MultiPieces t l = some true := by
  have up : m_cantonlaw08_MultiPieces_j1 true l t true = some true := rfl
  unfold m_cantonlaw08_MultiPieces
  rw [head8_t]
  obtain ⟨b, h1, h2⟩ := Great_eq t hlen
  simp only [Option.bind_some]
  rw [h1]
  simp only [Option.bind_some]
  cases b with
  | true => rw [if_pos rfl]; exact up
  | false =>
    obtain ⟨hl, sm⟩ := h2 rfl
    rw [if_neg (by simp)]
    obtain ⟨c, h3, h4⟩ := GreatOps_eq l
    rw [h3]
    simp only [Option.bind_some]
    cases c with
    | true => rw [if_pos rfl]; exact up
    | false =>
      obtain ⟨ll, so⟩ := h4 rfl
      rw [if_neg (by simp)]
      obtain ⟨d, h5, h6⟩ := rRight_eq t (by omega) sm
      rw [h5]
      simp only [Option.bind_some]
      cases d with
      | false => rw [if_pos (by rfl)]; exact up
      | true =>
        have T := h6.1 rfl
        rw [if_neg (by simp), rmultiMay_eq l (by omega) so]
        simp only [Option.bind_some]
        cases hm : mayL l with
        | false => rw [if_pos (by rfl)]; exact up
        | true =>
          rw [if_neg (by simp), w64 (by omega) (by omega)]
          by_cases g : (t.length : Int) + (l.length : Int) > 512
          · rw [decide_eq_true g]; exact up
          · rw [decide_eq_false g]
            unfold m_cantonlaw08_MultiPieces_j1
            rw [if_neg (by simp), multiOf_eq l (by omega)]
            simp only [Option.bind_some]
            unfold piecesL
            rw [if_pos hm]
            have hm' := hm
            unfold mayL at hm'
            simp only [Bool.and_eq_true, decide_eq_true_eq] at hm'
            have pl := pieces_len l 0
            refine (mp_l1 true (piecesS 0 l) l t (by omega) (((l.length : Int) - 0 : Int).toNat + 1) 0 0 (by omega) (by omega) (by omega)).trans ?_
            rw [List.drop_zero, Nat.zero_add]
            refine (mp_l2 true (piecesS 0 l) l t _ (by omega) (by omega) (fun x hx => ?_) (pieces_rise l 0 hm'.2) _ 0 (by omega) (by omega)).trans (mp_rest t l T hm (by omega))
            have := pieces_mem l 0 hm'.2 x hx
            exact ⟨by omega, by omega, this.2.2⟩
end Go.Cb
