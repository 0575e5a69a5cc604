/- Nodes, plainly: NodesSweeps, NodesNames. -/
import Derived.Test.YtidapdacihcckaaDoorQ11na
import Derived.Test.YtidapdacihcckaaDoorKna3
set_option linter.unusedVariables false
set_option linter.unusedSimpArgs false
namespace Go.Cb
open Go.Proofs Go.RowKit

theorem Children_l1 (l : List Nd) (s : ByteArray) (hl : l.length ≤ 1000000) (sm : Sm l) : ∀ (k i : Nat) (acc : List Nd), i ≤ l.length → l.length + 1 ≤ i + k → acc.length ≤ i → m_cantonref06_Children_l1 l s k acc (i : Int) = some (acc ++ (l.drop i).filter (childB (bl s)))
  | 0, i, acc, _, h, _ => by omega
  | k + 1, i, acc, h0, h, ha => by
    unfold m_cantonref06_Children_l1 m_cantonref06_Children_j2 m_cantonref06_Children_j1
    by_cases hi : i < l.length
    · have hkx := sm _ (List.getElem_mem hi)
      have e1 : IntKind.i64.wrap ((i : Int) + 1) = ((i + 1 : Nat) : Int) := by rw [w64 (by omega) (by omega)]; omega
      rw [if_pos (by simpa using hi), idx_lt hi, e1]
      simp only [Option.bind_some]
      rw [rParent_eq _ hkx, show bl (l[i]).Path = key l[i] from rfl, List.drop_eq_getElem_cons hi, List.filter_cons]
      simp only [Option.bind_some]
      have ec : childB (bl s) l[i] = ((os2 (parentS (key l[i]))).2 && sEq (os2 (parentS (key l[i]))).1 s) := by
        unfold childB
        cases h : parentS (key l[i]) with
        | none => simp [os2]
        | some q => simp [os2, sEq_bl, bl_mk]; rfl
      cases h2 : (os2 (parentS (key l[i]))).2 with
      | false =>
        rw [ec, h2]
        simp only [Bool.false_and, Bool.false_eq_true, if_false]
        exact Children_l1 l s hl sm k (i + 1) acc (by omega) (by omega) (by omega)
      | true =>
        rw [ec, h2]
        simp only [Bool.true_and, if_true]
        cases h3 : sEq (os2 (parentS (key l[i]))).1 s with
        | false =>
          simp only [Bool.false_eq_true, if_false]
          exact Children_l1 l s hl sm k (i + 1) acc (by omega) (by omega) (by omega)
        | true =>
          simp only [if_true]
          rw [ck_b (by simp [LIM]; omega), Children_l1 l s hl sm k (i + 1) _ (by omega) (by omega) (by simp; omega)]
          simp
    · rw [if_neg (by simpa using hi), List.drop_eq_nil_of_le (by omega)]
      simp
theorem Children_eq (l : List Nd) (s : ByteArray) (hl : l.length ≤ 1000000) (sm : Sm l) : m_cantonref06_Children l s = some (l.filter (childB (bl s))) := by
  unfold m_cantonref06_Children
  refine (Children_l1 l s hl sm (((l.length : Int) - 0 : Int).toNat + 1) 0 [] (by omega) (by omega) (by simp)).trans ?_
  simp
/-! ### NodesSweeps -/
/-! ### NodesNames -/
theorem kl_cancel (a : List UInt8) {b c : List UInt8} (h : a ++ b < a ++ c) : b < c := by
  rcases kl_tri b c with k | k | k
  · exact k
  · subst k; exact absurd h (kl_irrefl _)
  · exact absurd h (kl_asymm (kl_app a k))
theorem joinP_app (ps : List (List UInt8)) (t : List UInt8) : joinP (ps ++ [t]) = catP ps ++ 47 :: t := by
  unfold joinP; rw [if_neg (by simp), cat_app]; simp [catP]
/-- of a child: its path is the parent's and its last part. -/
theorem child_join {q p : List UInt8} {ps : List (List UInt8)} (hq : parts q = some ps) (h : parentS p = some q) : p = joinP (ps ++ [lastS p]) ∧ joinS q (lastS p) = some p ∧ partOk (lastS p) = true := by
  obtain ⟨ps', t, h1, h2, h3, h4, h5, h6, h7⟩ := parts_q h
  rw [h3] at hq; cases hq
  obtain ⟨j1, _, _, _⟩ := join_parent h3 h7 h5
  have hp := ((parts_iff _ _).1 h1).1
  rw [h4]
  exact ⟨hp, by rw [j1, hp], h5⟩
theorem names_l1 (l : List Nd) (s : ByteArray) (ps : List (List UInt8)) (r : Res) (u : Nd) (a : List Nd) (T : Tree l) (hps : parts (bl s) = some ps) (hr : r.Names = (l.filter (childB (bl s))).map lastN) (hsl : (bl s).length ≤ 1000) : ∀ (k i : Nat), i ≤ r.Names.length → r.Names.length + 1 ≤ i + k → m_cantonlaw06_NodesNames_l1 (a, r) s l true (u, true) k (i : Int) = some true
  | 0, i, _, h => by omega
  | k + 1, i, h0, h => by
    have hl := T.len
    have hnl : r.Names.length ≤ 512 := by rw [hr, List.length_map]; exact Nat.le_trans (List.length_filter_le _ _) hl
    unfold m_cantonlaw06_NodesNames_l1 m_cantonlaw06_NodesNames_j2
    by_cases hi : i < r.Names.length
    · have hcl : (l.filter (childB (bl s))).length = r.Names.length := by rw [hr, List.length_map]
      have hi' : i < (l.filter (childB (bl s))).length := by omega
      have hn : r.Names[i] = lastN (l.filter (childB (bl s)))[i] := by simp only [hr, List.getElem_map]
      have hmem : (l.filter (childB (bl s)))[i] ∈ l.filter (childB (bl s)) := List.getElem_mem hi'
      obtain ⟨hml, hch⟩ := List.mem_filter.1 hmem
      have hch : parentS (key (l.filter (childB (bl s)))[i]) = some (bl s) := by simpa [childB] using hch
      obtain ⟨c1, c2, c3⟩ := child_join hps hch
      have e1 : IntKind.i64.wrap ((i : Int) + 1) = ((i + 1 : Nat) : Int) := by rw [w64 (by omega) (by omega)]; omega
      have ih := names_l1 l s ps r u a T hps hr hsl k (i + 1) (by omega) (by omega)
      rw [if_pos (by simpa using hi), idx_lt hi, e1, hn]
      simp only [Option.bind_some]
      have hlast := part12 c3
      rw [rJoin_eq _ _ (by omega) (by unfold lastN; rw [bl_mk]; omega), show bl (lastN (l.filter (childB (bl s)))[i]) = lastS (key (l.filter (childB (bl s)))[i]) from rfl, c2]
      simp only [Option.bind_some, os2]
      rw [Find_eq l _ (by omega), bl_mk, fnd_some (find_mem T.sorted hml)]
      simp only [Option.bind_some]
      rw [if_neg (by simp), if_neg (by simp)]
      by_cases hi0 : i = 0
      · rw [if_neg (by simp; omega)]
        simp only [Bool.false_eq_true, if_false]
        exact ih
      · have hi1 : i - 1 < r.Names.length := by omega
        have hi1' : i - 1 < (l.filter (childB (bl s))).length := by omega
        have hn1 : r.Names[i - 1] = lastN (l.filter (childB (bl s)))[i - 1] := by simp only [hr, List.getElem_map]
        obtain ⟨_, hch1⟩ := List.mem_filter.1 (List.getElem_mem hi1')
        have hch1 : parentS (key (l.filter (childB (bl s)))[i - 1]) = some (bl s) := by simpa [childB] using hch1
        obtain ⟨d1, _, _⟩ := child_join hps hch1
        have hlt := List.pairwise_iff_getElem.1 (T.sorted.filter (childB (bl s))) (i - 1) i hi1' hi' (by omega)
        rw [c1, d1, joinP_app, joinP_app] at hlt
        have hlt2 := kl_cancel [47] (b := lastS (key (l.filter (childB (bl s)))[i - 1])) (c := lastS (key (l.filter (childB (bl s)))[i])) (kl_cancel (catP ps) hlt)
        rw [if_pos (by simp; omega), show IntKind.i64.wrap ((i : Int) - 1) = ((i - 1 : Nat) : Int) from by rw [w64 (by omega) (by omega)]; omega, idx_lt hi1]
        simp only [Option.bind_some]
        rw [hn1, sLt_bl, show bl (lastN (l.filter (childB (bl s)))[i - 1]) = lastS (key (l.filter (childB (bl s)))[i - 1]) from rfl, show bl (lastN (l.filter (childB (bl s)))[i]) = lastS (key (l.filter (childB (bl s)))[i]) from rfl, decide_eq_true hlt2]
        simp only [Bool.not_true, Bool.false_eq_true, if_false]
        exact ih
    · rw [if_neg (by simpa using hi)]
      simp only [if_true]
      rw [Children_eq l s (by omega) T.sm]
      simp only [Option.bind_some]
      rw [hr, List.length_map]
      simp
theorem pure_names (l : List Nd) (s : ByteArray) (hlen : l.length ≤ 140737488351232) : m_cantonlaw06_NodesNames l s = some true := by
  unfold m_cantonlaw06_NodesNames
  rw [head_t]
  have jt : m_cantonlaw06_NodesNames_j1 s l true true = some true := by unfold m_cantonlaw06_NodesNames_j1; simp
  refine guard l hlen (m_cantonlaw06_NodesNames_j1 s l true) _ jt fun h3 h4 => ?_
  by_cases h5 : (s.size : Int) > 1000
  · rw [if_pos (by simpa using h5)]; exact jt
  rw [if_neg (by simpa using h5)]
  have hsl : (bl s).length ≤ 1000 := by rw [← bl_size]; omega
  refine guardR l h3 h4 _ jt fun T => ?_
  unfold m_cantonlaw06_NodesNames_j1
  rw [if_neg (by simp), Find_eq l s (by omega)]
  rcases opt2 (parts (bl s)) with hp | ⟨ps, hp⟩
  · have hm : ¬ MayB (⟨6, s, ByteArray.mk #[], 0, 0, false⟩ : Op1) = true := fun h => by
      obtain ⟨_, ⟨ps, hps⟩, _⟩ := may_iff h
      rw [show parts (bl s) = some ps from hps] at hp; cases hp
    rw [Apply_bad l _ (by omega) T.sm fun h => hm h.2]
    simp only [Option.bind_some]
    rw [if_pos (by simp [res])]
    simp only [if_true]
    rw [if_pos (by simp [res])]
    unfold m_cantonref01_Right
    rw [rSplit_eq s (by omega)]
    simp only [Option.bind_some]
    have : (spl s).2 = false := by unfold spl; rw [hp]
    rw [this]
    cases (fnd l (bl s)).2 <;> rfl
  · have hm := mayV hp (k := 6) (.inr (.inr (.inr rfl))) (d := ByteArray.mk #[]) (by decide) (fun _ => rfl) (v := 0) (by decide) (fun _ => rfl)
    rw [Apply_eq l _ T hm]
    simp only [Option.bind_some]
    have ha : applyS l (⟨6, s, ByteArray.mk #[], 0, 0, false⟩ : Op1) = match l.find? (isK (bl s)) with
        | none => (l, res 62)
        | some x => (l, { res 0 with Names := (l.filter (childB (key x))).map lastN }) := by
      unfold applyS doS
      simp only [Int.reduceEq, if_false, if_true]
      cases l.find? (isK (bl s)) with
      | none => rfl
      | some x => simp only []; rw [if_neg (by omega)]
    rw [ha]
    rcases opt2 (l.find? (isK (bl s))) with hf | ⟨x, hf⟩
    · rw [fnd_none hf, hf]
      rfl
    · rw [fnd_some hf, hf]
      simp only
      rw [if_neg (by simp [res])]
      have hkx := (find_key hf).2
      rw [hkx]
      have key : ∀ R : Res, R.Names = (l.filter (childB (bl s))).map lastN → m_cantonlaw06_NodesNames_l1 (l, R) s l true (x, true) (((R.Names.length : Int) - 0 : Int).toNat + 1) 0 = some true := fun R hR => names_l1 l s ps R x l T hp hR hsl _ 0 (by omega) (by omega)
      exact key _ rfl
end Go.Cb
