/- Nodes, plainly: what a tree, and an operation, is to the program. -/
import Derived.Test.YtgdfoajophpblaaGreatDoorQ5pb
import Derived.Test.YtgdfoajophpblaaGreatDoorKpb1
set_option linter.unusedVariables false
set_option linter.unusedSimpArgs false
namespace Go.Cb
open Go.Proofs Go.RowKit

theorem within_eq (x m : Int) : m_nodes_within x m = some (decide (0 ≤ x ∧ x ≤ m)) := by
  unfold m_nodes_within
  by_cases h : 0 ≤ x
  · rw [if_pos (by simpa using h)]; simp [h]
  · rw [if_neg (by simpa using h)]; simp [h]
theorem node_eq (x : Nd) : ∃ b, m_nodes_node x = some b ∧ (b = true ↔ NodeOk x) := by
  unfold m_nodes_node NodeOk
  have hsz := bl_size x.Data
  rw [within_eq, within_eq, within_eq]
  simp only [Option.bind_some]
  by_cases a1 : (bl x.Data).length ≤ 256
  · rw [if_pos (by simp only [decide_eq_true_eq]; omega)]
    by_cases a2 : 0 ≤ x.Version ∧ x.Version ≤ 281474976710656
    · rw [if_pos (by simpa using a2)]
      by_cases a3 : 0 ≤ x.Turn ∧ x.Turn ≤ 10000
      · rw [if_pos (by simpa using a3)]
        by_cases a4 : 0 ≤ x.Owner ∧ x.Owner ≤ 1099511627776
        · rw [if_pos (by simpa using a4)]
          by_cases a5 : x.Owner = 0
          · rw [if_pos (by simpa using a5)]
            exact ⟨true, rfl, by simp [a1, a2, a3, a4, a5]⟩
          · rw [if_neg (by simpa using a5)]
            refine ⟨_, rfl, ?_⟩
            simp only [beq_iff_eq]
            exact ⟨fun h => ⟨a1, a2.1, a2.2, a3.1, a3.2, a4.1, a4.2, fun _ => h⟩, fun h => h.2.2.2.2.2.2.2 a5⟩
        · rw [if_neg (by simpa using a4)]
          exact ⟨false, rfl, (fun h => by cases h), fun h => absurd ⟨h.2.2.2.2.2.1, h.2.2.2.2.2.2.1⟩ a4⟩
      · rw [if_neg (by simpa using a3)]
        exact ⟨false, rfl, (fun h => by cases h), fun h => absurd ⟨h.2.2.2.1, h.2.2.2.2.1⟩ a3⟩
    · rw [if_neg (by simpa using a2)]
      exact ⟨false, rfl, (fun h => by cases h), fun h => absurd ⟨h.2.1, h.2.2.1⟩ a2⟩
  · rw [if_neg (by simp only [decide_eq_true_eq]; omega)]
    exact ⟨false, rfl, (fun h => by cases h), fun h => absurd h.1 a1⟩
/-- what each place must bear, to the program. -/
def HOk (l : List Nd) (j : Nat) (h : j < l.length) : Prop := NodeOk l[j] ∧ (j ≠ 0 → key (l[j - 1]'(by omega)) < key l[j] ∧ ∃ q, parentS (key l[j]) = some q ∧ ∃ m, ∃ hm : m < j, key (l[m]'(by omega)) = q ∧ (l[m]'(by omega)).Owner = 0)
theorem hok_tree (l : List Nd) (h0 : l ≠ []) (h5 : l.length ≤ 512) (hr : ∀ h : 0 < l.length, key l[0] = [47] ∧ l[0].Owner = 0) : (∀ j (h : j < l.length), HOk l j h) ↔ Tree l := by
  rw [← tree_iff l h0 h5 hr]
  constructor
  · intro h
    have hs : l.Pairwise (key · < key ·) := adj_sorted fun i hi => ((h (i + 1) hi).2 (by omega)).1
    intro j hj
    refine ⟨(h j hj).1, fun hj0 => ⟨((h j hj).2 hj0).1, ?_⟩⟩
    obtain ⟨q, hq, m, hm, hk, ho⟩ := ((h j hj).2 hj0).2
    exact ⟨q, hq, l[m], by rw [← hk]; exact find_mem hs (List.getElem_mem _), ho⟩
  · intro h
    have T := (tree_iff l h0 h5 hr).1 h
    have hs := List.pairwise_iff_getElem.1 T.sorted
    intro j hj
    refine ⟨(h j hj).1, fun hj0 => ⟨((h j hj).2 hj0).1, ?_⟩⟩
    obtain ⟨q, hq, u, hu, ho⟩ := ((h j hj).2 hj0).2
    obtain ⟨m, hm, rfl⟩ := List.mem_iff_getElem.1 (find_key hu).1
    have hk := (find_key hu).2
    refine ⟨q, hq, m, ?_, hk, ho⟩
    have := parent_lt hq
    rw [← hk] at this
    rcases Nat.lt_trichotomy m j with c | c | c
    · exact c
    · subst c; exact absurd this (kl_irrefl _)
    · exact absurd (hs j m hj hm c) (kl_asymm this)
theorem pRight_l1 (l : List Nd) (hlen : l.length ≤ 512) (sm : Sm l) : ∀ (k i n : Nat) (f : List UInt8 → Int), i ≤ l.length → l.length + 1 ≤ i + k → n ≤ i → (∀ s, 0 ≤ f s ∧ f s ≤ i) → (∀ s, f s ≠ 0 ↔ ∃ m, ∃ hm : m < i, ∃ hl : m < l.length, key l[m] = s ∧ l[m].Owner = 0) →
    ∃ b, m_nodes_Right_l1 l k (i : Int) n f = some b ∧ (b = true ↔ ∀ j (h : j < l.length), i ≤ j → HOk l j h)
  | 0, i, n, f, _, h, _, _, _ => by omega
  | k + 1, i, n, f, h0, h, hn, hf1, hf2 => by
    unfold m_nodes_Right_l1
    by_cases hi : i < l.length
    · rw [if_pos (by simpa using hi), idx_lt hi]
      simp only [Option.bind_some]
      have e1 : IntKind.i64.wrap ((i : Int) + 1) = ((i + 1 : Nat) : Int) := by rw [w64 (by omega) (by omega)]; omega
      have hkx := sm _ (List.getElem_mem hi)
      have hgo : HOk l i hi ↔ NodeOk l[i] ∧ (i ≠ 0 → key (l[i - 1]'(by omega)) < key l[i] ∧ ∃ q, parentS (key l[i]) = some q ∧ ∃ m, ∃ hm : m < i, key (l[m]'(by omega)) = q ∧ (l[m]'(by omega)).Owner = 0) := Iff.rfl
      rw [all_step hi]
      obtain ⟨bn, hb1, hb2⟩ := node_eq l[i]
      rw [Parent_eq, show bl (l[i]).Path = key l[i] from rfl]
      simp only [Option.bind_some]
      rw [show m_nodes_node (⟨(l[i]).Path, (l[i]).Data, (l[i]).Version, (l[i]).Turn, (l[i]).Owner⟩ : Nd) = some bn from hb1]
      simp only [Option.bind_some]
      have J3t : m_nodes_Right_j3 (m_nodes_Right_l1 l k) (i : Int) l[i] f n true = some false := rfl
      obtain ⟨b', J3f, ih2⟩ : ∃ b, m_nodes_Right_j3 (m_nodes_Right_l1 l k) (i : Int) l[i] f n false = some b ∧ (b = true ↔ ∀ j (h : j < l.length), i + 1 ≤ j → HOk l j h) := by
        unfold m_nodes_Right_j3 m_nodes_Right_j2
        rw [if_neg (by simp), e1]
        by_cases ho : (l[i]).Owner = 0
        · have hz : (l[i]).Path.size ≤ maxLen := by rw [bl_size]; show (key l[i]).length ≤ _; simp only [maxLen]; omega
          have hw : IntKind.i64.wrap (f (l[i]).Path.data.toList + 1) = f (l[i]).Path.data.toList + 1 := w64 (by have := hf1 (l[i]).Path.data.toList; omega) (by have := hf1 (l[i]).Path.data.toList; omega)
          rw [if_pos (by simpa using ho), ck_b hz, hw, ck_b ⟨hz, by
            have := hf1 (l[i]).Path.data.toList
            simp [Lit.wf, IntKind.min, IntKind.max, IntKind.bits, IntKind.signed]; omega, by simp only [maxLen]; omega⟩]
          refine pRight_l1 l hlen sm k (i + 1) (n + 1) _ (by omega) (by omega) (by omega) (fun s => ?_) (fun s => ?_)
          · unfold mput
            have := hf1 s
            have := hf1 (l[i]).Path.data.toList
            split <;> omega
          · unfold mput
            split
            · rename_i e
              have := hf1 (l[i]).Path.data.toList
              constructor
              · intro _
                exact ⟨i, by omega, hi, e.symm, ho⟩
              · intro _; omega
            · rename_i e
              rw [hf2 s]
              constructor
              · rintro ⟨m, hm, hl, h1, h2⟩
                exact ⟨m, by omega, hl, h1, h2⟩
              · rintro ⟨m, hm, hl, h1, h2⟩
                by_cases c : m = i
                · subst c; exact absurd h1.symm e
                · exact ⟨m, by omega, hl, h1, h2⟩
        · rw [if_neg (by simpa using ho)]
          refine pRight_l1 l hlen sm k (i + 1) n f (by omega) (by omega) (by omega) (fun s => ?_) (fun s => ?_)
          · have := hf1 s; omega
          · rw [hf2 s]
            constructor
            · rintro ⟨m, hm, hl, h1, h2⟩
              exact ⟨m, by omega, hl, h1, h2⟩
            · rintro ⟨m, hm, hl, h1, h2⟩
              by_cases c : m = i
              · subst c; exact absurd h2 ho
              · exact ⟨m, by omega, hl, h1, h2⟩
      cases bn with
      | false =>
        rw [if_pos (by rfl), J3t]
        exact ⟨false, rfl, (fun h => by cases h), fun h => by have := hb2.2 (hgo.1 h.1).1; cases this⟩
      | true =>
        have hno : NodeOk l[i] := hb2.1 rfl
        rw [if_neg (by simp)]
        by_cases hi0 : i = 0
        · rw [if_neg (by simp; omega), J3f]
          exact ⟨b', rfl, by rw [ih2, hgo]; exact ⟨fun h => ⟨⟨hno, fun h' => absurd hi0 h'⟩, h⟩, fun h => h.2⟩⟩
        · rw [if_pos (by simp; omega)]
          rcases opt2 (parentS (key l[i])) with hq | ⟨q, hq⟩
          · rw [hq, if_pos (by rfl), J3t]
            refine ⟨false, rfl, (fun h => by cases h), fun h => ?_⟩
            obtain ⟨_, q, hq', _⟩ := (hgo.1 h.1).2 hi0
            cases hq.symm.trans hq'
          · have hql : q.length ≤ 78 := by
              obtain ⟨ps, t, _, _, h3⟩ := parent_parts hq
              exact parts_len h3
            rw [hq, if_neg (by simp [os2]), show (os2 (some q)).1 = mk q from rfl, ck_b (by rw [bl_size, bl_mk]; simp only [maxLen]; omega), show (mk q).data.toList = q from rfl]
            by_cases hz : f q = 0
            · rw [if_pos (by simpa using hz), J3t]
              refine ⟨false, rfl, (fun h => by cases h), fun h => ?_⟩
              obtain ⟨_, q', hq', m, hm, hk, ho⟩ := (hgo.1 h.1).2 hi0
              cases hq.symm.trans hq'
              exact absurd hz ((hf2 q).2 ⟨m, hm, by omega, hk, ho⟩)
            · rw [if_neg (by simpa using hz), show IntKind.i64.wrap ((i : Int) - 1) = ((i - 1 : Nat) : Int) from by rw [w64 (by omega) (by omega)]; omega, idx_lt (show i - 1 < l.length by omega)]
              simp only [Option.bind_some]
              rw [sLt_bl, show bl (l[i]).Path = key l[i] from rfl, show bl (l[i - 1]).Path = key l[i - 1] from rfl]
              by_cases c1 : key l[i - 1] < key l[i]
              · rw [show (!decide (key l[i - 1] < key l[i])) = false from by simp [c1], J3f]
                obtain ⟨m, hm, hl, hk, ho⟩ := (hf2 q).1 hz
                exact ⟨b', rfl, by rw [ih2, hgo]; exact ⟨fun h => ⟨⟨hno, fun _ => ⟨c1, q, hq, m, hm, hk, ho⟩⟩, h⟩, fun h => h.2⟩⟩
              · rw [show (!decide (key l[i - 1] < key l[i])) = true from by simp [c1], J3t]
                exact ⟨false, rfl, (fun h => by cases h), fun h => absurd ((hgo.1 h.1).2 hi0).1 c1⟩
    · rw [if_neg (by simpa using hi)]
      exact ⟨true, rfl, by simp; intro j hj hij; omega⟩
theorem pRight_eq (l : List Nd) (hlen : l.length ≤ 4611686018427387904) (sm : Sm l) : ∃ b, m_nodes_Right l = some b ∧ (b = true ↔ Tree l) := by
  unfold m_nodes_Right m_nodes_Right_j1
  cases l with
  | nil => exact ⟨false, rfl, (fun h => by cases h), fun h => by obtain ⟨_, _, h, _⟩ := h.root; cases h⟩
  | cons r t =>
    rw [if_neg (by simp; omega)]
    by_cases h5 : (r :: t).length > 512
    · rw [if_pos (by simp only [decide_eq_true_eq]; omega), if_pos rfl]
      exact ⟨false, rfl, (fun h => by cases h), fun h => by have := h.len; omega⟩
    · rw [if_neg (by simp only [decide_eq_true_eq]; omega), show (idx (r :: t) 0) = some r from rfl]
      simp only [Option.bind_some]
      rw [sEq_bl, sl47, show bl r.Path = key r from rfl]
      by_cases c1 : key r = [47]
      · rw [if_neg (by simp [c1])]
        by_cases c2 : r.Owner = 0
        · rw [if_neg (by simp [c2])]
          obtain ⟨b, h1, h2⟩ := pRight_l1 (r :: t) (by omega) sm ((((r :: t).length : Int) - 0 : Int).toNat + 1) 0 0 (fun _ => 0) (by omega) (by omega) (by omega) (fun s => by simp) (fun s => by
            constructor
            · intro h; exact absurd rfl h
            · rintro ⟨m, hm, _⟩; omega)
          refine ⟨b, h1, ?_⟩
          rw [h2, ← hok_tree (r :: t) (by simp) (by omega) fun _ => ⟨c1, c2⟩]
          simp
        · rw [if_pos (by simpa using c2)]
          refine ⟨false, rfl, (fun h => by cases h), fun h => ?_⟩
          obtain ⟨_, _, e, _, ho⟩ := h.root
          cases e; exact absurd ho c2
      · rw [if_pos (by simp [c1]), if_pos trivial]
        refine ⟨false, rfl, (fun h => by cases h), fun h => ?_⟩
        obtain ⟨_, _, e, hk, _⟩ := h.root
        cases e; exact absurd hk c1

/-! ### operations -/
def pathOk (p : List UInt8) : Bool := (parts p).isSome
end Go.Cb
