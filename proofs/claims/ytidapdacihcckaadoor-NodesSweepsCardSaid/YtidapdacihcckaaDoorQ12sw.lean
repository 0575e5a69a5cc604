/- Nodes, plainly: NodesSweeps, NodesNames. -/
import Derived.Test.YtidapdacihcckaaDoorQ11sw
import Derived.Test.YtidapdacihcckaaDoorKsw3
set_option linter.unusedVariables false
set_option linter.unusedSimpArgs false
namespace Go.Cb
open Go.Proofs Go.RowKit

theorem os2_child (x : Nd) {s : ByteArray} (hs : bl s ≠ []) : sEq (os2 (parentS (key x))).1 s = childB (bl s) x := by
  rw [sEq_bl]
  unfold childB
  cases h : parentS (key x) with
  | none => simp [os2, bl_mk, hs, Ne.symm hs]
  | some q => simp [os2, bl_mk]; rfl
theorem Children_l1 (l : List Nd) (s : ByteArray) (hl : l.length ≤ 1000000) (sm : Sm l) : ∀ (k i : Nat) (acc : List Nd), i ≤ l.length → l.length + 1 ≤ i + k → acc.length ≤ i → m_cantonref06_Children_l1 l s k acc (i : Int) = some (acc ++ (l.drop i).filter (childB (bl s)))
  | 0, i, acc, _, h, _ => by omega
  | k + 1, i, acc, h0, h, ha => by
    unfold m_cantonref06_Children_l1 m_cantonref06_Children_j2 m_cantonref06_Children_j1
    by_cases hi : i < l.length
    · have hkx := sm _ (List.getElem_mem hi)
      have e1 : IntKind.i64.wrap ((i : Int) + 1) = ((i + 1 : Nat) : Int) := by rw [w64 (by omega) (by omega)]; omega
      rw [if_pos (by simpa using hi), idx_lt hi, e1]
      simp only [Option.bind_some]
      rw [rParent_eq _ hkx, show bl (l[i]).Path = key l[i] from rfl, List.drop_eq_getElem_cons hi, List.filter_cons]
      simp only [Option.bind_some]
      have ec : childB (bl s) l[i] = ((os2 (parentS (key l[i]))).2 && sEq (os2 (parentS (key l[i]))).1 s) := by
        unfold childB
        cases h : parentS (key l[i]) with
        | none => simp [os2]
        | some q => simp [os2, sEq_bl, bl_mk]; rfl
      cases h2 : (os2 (parentS (key l[i]))).2 with
      | false =>
        rw [ec, h2]
        simp only [Bool.false_and, Bool.false_eq_true, if_false]
        exact Children_l1 l s hl sm k (i + 1) acc (by omega) (by omega) (by omega)
      | true =>
        rw [ec, h2]
        simp only [Bool.true_and, if_true]
        cases h3 : sEq (os2 (parentS (key l[i]))).1 s with
        | false =>
          simp only [Bool.false_eq_true, if_false]
          exact Children_l1 l s hl sm k (i + 1) acc (by omega) (by omega) (by omega)
        | true =>
          simp only [if_true]
          rw [ck_b (by simp [LIM]; omega), Children_l1 l s hl sm k (i + 1) _ (by omega) (by omega) (by simp; omega)]
          simp
    · rw [if_neg (by simpa using hi), List.drop_eq_nil_of_le (by omega)]
      simp
theorem Children_eq (l : List Nd) (s : ByteArray) (hl : l.length ≤ 1000000) (sm : Sm l) : m_cantonref06_Children l s = some (l.filter (childB (bl s))) := by
  unfold m_cantonref06_Children
  refine (Children_l1 l s hl sm (((l.length : Int) - 0 : Int).toNat + 1) 0 [] (by omega) (by omega) (by simp)).trans ?_
  simp
theorem path_ne {s : ByteArray} {ps : List (List UInt8)} (h : parts (bl s) = some ps) : bl s ≠ [] := by
  intro e; rw [e] at h; cases h
theorem no_kids {l : List Nd} (T : Tree l) {u : Nd} (hu : u ∈ l) (ho : u.Owner ≠ 0) : l.filter (childB (key u)) = [] := by
  rw [List.filter_eq_nil_iff]
  intro y hy hc
  have hc : parentS (key y) = some (key u) := by simpa [childB] using hc
  by_cases h47 : key y = [47]
  · rw [h47] at hc; cases hc
  · obtain ⟨q, hq, u', hu', hk, ho'⟩ := T.up y hy h47
    rw [hc] at hq
    cases hq
    rw [sorted_inj T.sorted hu' hu hk] at ho'
    exact ho ho'
/-! ### NodesSweeps -/
theorem sweeps_l1 (l a : List Nd) (r : Res) (s : ByteArray) (w : Int) (T : Tree l) (Ta : Tree a) (hs : bl s ≠ []) (ha : ∀ x ∈ l, (x ∈ a ↔ ownB (bl s) w x = false)) (hsub : ∀ x ∈ a, x ∈ l)
    (hend : m_nodes_Apply a (⟨7, s, ByteArray.mk #[], 0, w, false⟩ : Op1) = some (a, res 0)) (hr : r.Names.length = (l.filter (ownB (bl s) w)).length) : ∀ (k i : Nat), i ≤ l.length → l.length + 1 ≤ i + k → m_cantonlaw06_NodesSweeps_l1 l (a, r) s w true k (((l.take i).filter (ownB (bl s) w)).length : Int) (i : Int) = some true
  | 0, i, _, h => by omega
  | k + 1, i, h0, h => by
    have hl := T.len
    have hal := Ta.len
    unfold m_cantonlaw06_NodesSweeps_l1
    by_cases hi : i < l.length
    · have hx : l[i] ∈ l := List.getElem_mem hi
      have hkx := T.sm _ hx
      have e1 : IntKind.i64.wrap ((i : Int) + 1) = ((i + 1 : Nat) : Int) := by rw [w64 (by omega) (by omega)]; omega
      rw [if_pos (by simpa using hi), idx_lt hi]
      simp only [Option.bind_some]
      rw [rParent_eq _ hkx, show bl (l[i]).Path = key l[i] from rfl]
      simp only [Option.bind_some]
      rw [os2_child _ hs]
      have ih := sweeps_l1 l a r s w T Ta hs ha hsub hend hr k (i + 1) (by omega) (by omega)
      have hcnt : ((l.take i).filter (ownB (bl s) w)).length ≤ 512 := Nat.le_trans (List.length_filter_le _ _) (by rw [List.length_take]; omega)
      have J3 : ∀ c : Int, c = (((l.take (i + 1)).filter (ownB (bl s) w)).length : Int) → m_cantonlaw06_NodesSweeps_j3 (m_cantonlaw06_NodesSweeps_l1 l (a, r) s w true k) (i : Int) l c = some true := by
        rintro c rfl
        unfold m_cantonlaw06_NodesSweeps_j3 m_cantonlaw06_NodesSweeps_j4
        rw [idx_lt hi]
        simp only [Option.bind_some]
        by_cases ho : (l[i]).Owner = 0
        · rw [if_neg (by simpa using ho), if_neg (by simp), e1]; exact ih
        · rw [if_pos (by simpa using ho), Children_eq l _ (by omega) T.sm, show bl (l[i]).Path = key l[i] from rfl, no_kids T hx ho]
          simp only [Option.bind_some]
          rw [if_neg (by simp), e1]; exact ih
      have J2 : m_cantonlaw06_NodesSweeps_j2 (m_cantonlaw06_NodesSweeps_l1 l (a, r) s w true k) (i : Int) l (a, r) (((l.take i).filter (ownB (bl s) w)).length : Int) (ownB (bl s) w l[i]) = some true := by
        unfold m_cantonlaw06_NodesSweeps_j2
        rw [idx_lt hi]
        simp only [Option.bind_some]
        rw [rFind_eq a _ (by omega), show bl (l[i]).Path = key l[i] from rfl]
        simp only [Option.bind_some]
        cases ho : ownB (bl s) w l[i] with
        | false =>
          rw [fnd_some (find_mem Ta.sorted ((ha _ hx).2 ho)), if_neg (by simp), if_neg (by simp)]
          exact J3 _ (by rw [filt_split hi, ho]; simp)
        | true =>
          have hno : a.find? (isK (key l[i])) = none := find_no.2 fun y hy e => by
            have hyl := hsub y hy
            have : y = l[i] := sorted_inj T.sorted hyl hx e
            subst this
            rw [(ha _ hx).1 hy] at ho; cases ho
          rw [fnd_none hno, if_neg (by simp), if_pos rfl]
          refine J3 _ ?_
          rw [filt_split hi, ho, w64 (by omega) (by omega)]
          simp
      cases hc : childB (bl s) l[i] with
      | false =>
        simp only [Bool.false_eq_true, if_false]
        have : ownB (bl s) w l[i] = false := by simp [ownB, hc]
        rw [this] at J2
        exact J2
      | true =>
        simp only [if_true]
        have hne : key l[i] ≠ [47] := by
          intro e
          have : parentS (key l[i]) = some (bl s) := by simpa [childB] using hc
          rw [e] at this; cases this
        rw [sEq_bl, sl47, show bl (l[i]).Path = key l[i] from rfl, if_pos (by simp [hne])]
        have : ownB (bl s) w l[i] = ((l[i]).Owner == w) := by simp [ownB, hc]
        rw [this] at J2
        exact J2
    · have : i = l.length := by omega
      subst this
      rw [if_neg (by simp), hend]
      simp only [Option.bind_some, if_true]
      rw [List.take_length, if_pos (by rw [hr]; simp)]
      rfl
theorem pure_sweeps (l : List Nd) (s : ByteArray) (w : Int) (hlen : l.length ≤ 140737488351232) : m_cantonlaw06_NodesSweeps l s w = some true := by
  unfold m_cantonlaw06_NodesSweeps
  rw [head_t]
  have jt : m_cantonlaw06_NodesSweeps_j1 l s w true true = some true := by unfold m_cantonlaw06_NodesSweeps_j1; simp
  refine guard l hlen (m_cantonlaw06_NodesSweeps_j1 l s w true) _ jt fun h3 h4 => ?_
  by_cases h5 : (s.size : Int) > 1000
  · rw [if_pos (by simpa using h5)]; exact jt
  rw [if_neg (by simpa using h5)]
  refine guardR l h3 h4 _ jt fun T => ?_
  unfold m_cantonlaw06_NodesSweeps_j1
  rw [if_neg (by simp)]
  by_cases hm : MayB (⟨7, s, ByteArray.mk #[], 0, w, false⟩ : Op1) = true
  · rw [Apply_eq l _ T hm]
    simp only [Option.bind_some]
    have ha : ∀ z, applyS z (⟨7, s, ByteArray.mk #[], 0, w, false⟩ : Op1) = match z.find? (isK (bl s)) with
        | none => (z, res 62)
        | some x => (z.filter (fun y => !ownB (key x) w y), { res 0 with Names := (z.filter (ownB (key x) w)).map lastN }) := by
      intro z
      unfold applyS doS
      simp only [Int.reduceEq, if_false]
      cases z.find? (isK (bl s)) with
      | none => rfl
      | some x => simp only []; rw [if_neg (by omega)]
    rw [ha l]
    cases hf : l.find? (isK (bl s)) with
    | none => rfl
    | some x =>
      obtain ⟨hx, hkx⟩ := find_key hf
      obtain ⟨_, ⟨ps, hps⟩, _⟩ := may_iff hm
      simp only [hkx]
      rw [if_neg (by simp [res])]
      have Ta : Tree (l.filter (fun y => !ownB (bl s) w y)) := by
        have := Tree_apply T hm
        rw [ha l, hf] at this
        simp only [hkx] at this
        exact this
      have hxa : x ∈ l.filter (fun y => !ownB (bl s) w y) := by
        refine List.mem_filter.2 ⟨hx, ?_⟩
        have : childB (bl s) x = false := by
          cases hc : childB (bl s) x with
          | false => rfl
          | true =>
            have := parent_lt (show parentS (key x) = some (bl s) by simpa [childB] using hc)
            rw [hkx] at this
            exact absurd this (kl_irrefl _)
        simp [ownB, this]
      have hend : m_nodes_Apply (l.filter (fun y => !ownB (bl s) w y)) (⟨7, s, ByteArray.mk #[], 0, w, false⟩ : Op1) = some (l.filter (fun y => !ownB (bl s) w y), res 0) := by
        rw [Apply_eq _ _ Ta hm, ha]
        have hf2 := find_mem Ta.sorted hxa
        rw [hkx] at hf2
        rw [hf2]
        simp only [hkx]
        have f1 : (l.filter (fun y => !ownB (bl s) w y)).filter (fun y => !ownB (bl s) w y) = l.filter (fun y => !ownB (bl s) w y) := List.filter_eq_self.2 fun y hy => (List.mem_filter.1 hy).2
        have f2 : (l.filter (fun y => !ownB (bl s) w y)).filter (ownB (bl s) w) = [] := List.filter_eq_nil_iff.2 fun y hy => by
          have := (List.mem_filter.1 hy).2
          simp at this
          simp [this]
        rw [f1, f2]
        rfl
      have := sweeps_l1 l (l.filter (fun y => !ownB (bl s) w y)) ({ res 0 with Names := (l.filter (ownB (bl s) w)).map lastN }) s w T Ta (path_ne hps) (fun y hy => by
        rw [List.mem_filter]
        constructor
        · rintro ⟨_, h⟩; simpa using h
        · intro h; exact ⟨hy, by simp [h]⟩) (fun y hy => (List.mem_filter.1 hy).1) hend (by simp) (((l.length : Int) - 0 : Int).toNat + 1) 0 (by omega) (by omega)
      exact this
  · rw [Apply_bad l _ (by omega) T.sm fun h => hm h.2]
    rfl
/-! ### NodesNames -/
end Go.Cb
