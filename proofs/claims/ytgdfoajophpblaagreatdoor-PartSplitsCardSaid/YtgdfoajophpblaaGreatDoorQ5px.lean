/- Nodes, plainly: what a tree is, to the program and to the document. -/
import Derived.Test.YtgdfoajophpblaaGreatDoorQ4px
set_option linter.unusedVariables false
set_option linter.unusedSimpArgs false
namespace Go.Cb
open Go.Proofs Go.RowKit

def NodeOk (x : Nd) : Prop := (bl x.Data).length ≤ 256 ∧ 0 ≤ x.Version ∧ x.Version ≤ 281474976710656 ∧ 0 ≤ x.Turn ∧ x.Turn ≤ 10000 ∧ 0 ≤ x.Owner ∧ x.Owner ≤ 1099511627776 ∧ (x.Owner ≠ 0 → x.Turn = 0)
structure Tree (l : List Nd) : Prop where
  root : ∃ r t, l = r :: t ∧ key r = [47] ∧ r.Owner = 0
  len : l.length ≤ 512
  ok : ∀ x ∈ l, NodeOk x
  sorted : l.Pairwise (key · < key ·)
  up : ∀ x ∈ l, key x ≠ [47] → ∃ q, parentS (key x) = some q ∧ ∃ u ∈ l, key u = q ∧ u.Owner = 0
def Sm (l : List Nd) : Prop := ∀ x ∈ l, (key x).length ≤ 100000000
theorem sorted_inj {l : List Nd} (h : l.Pairwise (key · < key ·)) {x y : Nd} (hx : x ∈ l) (hy : y ∈ l) (e : key x = key y) : x = y := by
  obtain ⟨i, hi, rfl⟩ := List.mem_iff_getElem.1 hx
  obtain ⟨j, hj, rfl⟩ := List.mem_iff_getElem.1 hy
  have h := List.pairwise_iff_getElem.1 h
  rcases Nat.lt_trichotomy i j with c | c | c
  · exact absurd e (kl_ne (h i j hi hj c))
  · subst c; rfl
  · exact absurd e.symm (kl_ne (h j i hj hi c))
theorem find_key {l : List Nd} {p : List UInt8} {x : Nd} (h : l.find? (isK p) = some x) : x ∈ l ∧ key x = p :=
  ⟨List.mem_of_find?_eq_some h, by have := List.find?_some h; simpa [isK] using this⟩
theorem find_mem {l : List Nd} (h : l.Pairwise (key · < key ·)) {x : Nd} (hx : x ∈ l) : l.find? (isK (key x)) = some x := by
  cases hf : l.find? (isK (key x)) with
  | none =>
    have := List.find?_eq_none.1 hf x hx
    simp [isK] at this
  | some y =>
    have := find_key hf
    rw [sorted_inj h this.1 hx this.2]
theorem find_no {l : List Nd} {p : List UInt8} : l.find? (isK p) = none ↔ ∀ x ∈ l, key x ≠ p := by
  rw [List.find?_eq_none]; simp [isK]
theorem adj_sorted {l : List Nd} (h : ∀ i (hi : i + 1 < l.length), key l[i] < key l[i + 1]) : l.Pairwise (key · < key ·) := by
  rw [List.pairwise_iff_getElem]
  intro i j hi hj hij
  obtain ⟨d, rfl⟩ : ∃ d, j = i + 1 + d := ⟨j - i - 1, by omega⟩
  induction d with
  | zero => exact h i hj
  | succ d ih => exact kl_trans (ih (by omega) (by omega)) (h (i + 1 + d) hj)
theorem parent_lt {p q : List UInt8} (h : parentS p = some q) : q < p := by
  unfold parentS at h
  cases hp : parts p with
  | none => rw [hp] at h; cases h
  | some ps =>
    rw [hp] at h
    simp only at h
    split at h
    · cases h
    · rename_i hne
      cases h
      obtain ⟨h0, h1, h2⟩ := (parts_iff _ ps).1 hp
      rcases List.eq_nil_or_concat ps with e | ⟨qs, t, rfl⟩
      · exact absurd e hne
      · rw [List.concat_eq_append] at *
        have ht : partOk t = true := by simp at h1; exact h1.2
        have hb : p = catP qs ++ 47 :: t := by rw [h0]; unfold joinP; rw [if_neg (by simp), cat_app]; simp [catP]
        rw [List.dropLast_concat, hb]
        unfold joinP
        split
        · rename_i e; subst e
          exact kl_pre [47] (part_ne ht)
        · exact kl_pre _ (by simp)
theorem parent_parts {p q : List UInt8} (h : parentS p = some q) : ∃ ps t, parts p = some (ps ++ [t]) ∧ q = joinP ps ∧ parts q = some ps := by
  unfold parentS at h
  cases hp : parts p with
  | none => rw [hp] at h; cases h
  | some ps =>
    rw [hp] at h
    simp only at h
    split at h
    · cases h
    · rename_i hne
      cases h
      obtain ⟨h0, h1, h2⟩ := (parts_iff _ ps).1 hp
      rcases List.eq_nil_or_concat ps with e | ⟨qs, t, rfl⟩
      · exact absurd e hne
      · rw [List.concat_eq_append] at *
        refine ⟨qs, t, rfl, by rw [List.dropLast_concat], ?_⟩
        rw [List.dropLast_concat]
        exact (parts_iff _ _).2 ⟨rfl, by simp at h1 ⊢; exact h1.1, by simp at h2; omega⟩
theorem Tree.sm {l : List Nd} (T : Tree l) : Sm l := fun x hx => by
  by_cases h : key x = [47]
  · rw [h]; decide
  · obtain ⟨q, hq, _⟩ := T.up x hx h
    obtain ⟨ps, t, h1, _⟩ := parent_parts hq
    have := parts_len h1; omega
/-- what each place must bear. -/
def GOk (l : List Nd) (j : Nat) (h : j < l.length) : Prop := NodeOk l[j] ∧ (j ≠ 0 → key (l[j - 1]'(by omega)) < key l[j] ∧ ∃ q, parentS (key l[j]) = some q ∧ ∃ u, l.find? (isK q) = some u ∧ u.Owner = 0)
theorem tree_iff (l : List Nd) (h0 : l ≠ []) (h5 : l.length ≤ 512) (hr : ∀ h : 0 < l.length, key l[0] = [47] ∧ l[0].Owner = 0) : (∀ j (h : j < l.length), GOk l j h) ↔ Tree l := by
  have hpos : 0 < l.length := List.length_pos_iff.2 h0
  constructor
  · intro h
    have hs : l.Pairwise (key · < key ·) := adj_sorted fun i hi => ((h (i + 1) hi).2 (by omega)).1
    refine ⟨?_, h5, fun x hx => ?_, hs, fun x hx hne => ?_⟩
    · cases l with
      | nil => exact absurd rfl h0
      | cons r t => exact ⟨r, t, rfl, (hr hpos).1, (hr hpos).2⟩
    · obtain ⟨i, hi, rfl⟩ := List.mem_iff_getElem.1 hx
      exact (h i hi).1
    · obtain ⟨i, hi, rfl⟩ := List.mem_iff_getElem.1 hx
      have hi0 : i ≠ 0 := by rintro rfl; exact hne (hr hpos).1
      obtain ⟨_, q, hq, u, hu, ho⟩ := (h i hi).2 hi0
      exact ⟨q, hq, u, (find_key hu).1, (find_key hu).2, ho⟩
  · intro T j hj
    refine ⟨T.ok _ (List.getElem_mem _), fun hj0 => ?_⟩
    have hs := List.pairwise_iff_getElem.1 T.sorted
    refine ⟨hs (j - 1) j (by omega) hj (by omega), ?_⟩
    have hne : key l[j] ≠ [47] := by
      have := hs 0 j hpos hj (by omega)
      rw [(hr hpos).1] at this
      exact (kl_ne this).symm
    obtain ⟨q, hq, u, hu, hk, ho⟩ := T.up _ (List.getElem_mem _) hne
    exact ⟨q, hq, u, by rw [← hk]; exact find_mem T.sorted hu, ho⟩
theorem all_step {l : List Nd} {P : ∀ j, j < l.length → Prop} {i : Nat} (hi : i < l.length) : (∀ j (h : j < l.length), i ≤ j → P j h) ↔ (P i hi ∧ ∀ j (h : j < l.length), i + 1 ≤ j → P j h) := by
  constructor
  · exact fun h => ⟨h i hi (Nat.le_refl _), fun j hj hij => h j hj (by omega)⟩
  · rintro ⟨h1, h2⟩ j hj hij
    by_cases e : i = j
    · subst e; exact h1
    · exact h2 j hj (by omega)
theorem rRight_l1 (l : List Nd) (hlen : l.length ≤ 1000000) (sm : Sm l) : ∀ (k i : Nat), i ≤ l.length → l.length + 1 ≤ i + k → ∃ b, m_cantonref06_Right_l1 l k (i : Int) = some b ∧ (b = true ↔ ∀ j (h : j < l.length), i ≤ j → GOk l j h)
  | 0, i, _, h => by omega
  | k + 1, i, h0, h => by
    unfold m_cantonref06_Right_l1
    by_cases hi : i < l.length
    · rw [if_pos (by simpa using hi), idx_lt hi]
      simp only [Option.bind_some]
      obtain ⟨b', ih1, ih2⟩ := rRight_l1 l hlen sm k (i + 1) (by omega) (by omega)
      have e1 : IntKind.i64.wrap ((i : Int) + 1) = ((i + 1 : Nat) : Int) := by rw [w64 (by omega) (by omega)]; omega
      have hx : l[i] ∈ l := List.getElem_mem _
      have hkx := sm _ hx
      have hgo : GOk l i hi ↔ NodeOk l[i] ∧ (i ≠ 0 → key (l[i - 1]'(by omega)) < key l[i] ∧ ∃ q, parentS (key l[i]) = some q ∧ ∃ u, l.find? (isK q) = some u ∧ u.Owner = 0) := Iff.rfl
      rw [all_step hi]
      generalize hX : l[i] = x at *
      have hsz := bl_size x.Data
      have fal : ∀ z : Option Bool, z = some false → ¬ NodeOk x → ∃ b, z = some b ∧ (b = true ↔ GOk l i hi ∧ ∀ j (h : j < l.length), i + 1 ≤ j → GOk l j h) := fun z hz hn => ⟨false, hz, by
        constructor
        · intro h; cases h
        · rintro ⟨h, _⟩; exact absurd (hgo.1 h).1 hn⟩
      have tru : ∃ b, m_cantonref06_Right_j3 (m_cantonref06_Right_l1 l k) (i : Int) x l false = some b ∧ (b = true ↔ (i ≠ 0 → key (l[i - 1]'(by omega)) < key x ∧ ∃ q, parentS (key x) = some q ∧ ∃ u, l.find? (isK q) = some u ∧ u.Owner = 0) ∧ ∀ j (h : j < l.length), i + 1 ≤ j → GOk l j h) := by
        unfold m_cantonref06_Right_j3 m_cantonref06_Right_j4 m_cantonref06_Right_j2
        rw [if_neg (by simp), e1, ih1]
        by_cases hi0 : i = 0
        · rw [if_pos (by simp; omega)]
          exact ⟨b', rfl, by rw [ih2]; exact ⟨fun h => ⟨fun h' => absurd hi0 h', h⟩, fun h => h.2⟩⟩
        · rw [if_neg (by simp; omega), rParent_eq _ hkx]
          simp only [Option.bind_some]
          rw [rFind_eq l _ hlen, show IntKind.i64.wrap ((i : Int) - 1) = ((i - 1 : Nat) : Int) from by rw [w64 (by omega) (by omega)]; omega, idx_lt (show i - 1 < l.length by omega)]
          simp only [Option.bind_some]
          rw [sLt_bl, show bl x.Path = key x from rfl, show bl (l[i - 1]).Path = key l[i - 1] from rfl]
          by_cases c1 : key l[i - 1] < key x
          · rw [if_neg (by simp [c1])]
            cases hq : parentS (key x) with
            | none =>
              rw [if_pos (by rfl), if_pos trivial]
              exact ⟨false, rfl, ⟨(fun h => by cases h), fun h => by obtain ⟨_, q, hq', _⟩ := h.1 hi0; cases hq'⟩⟩
            | some q =>
              rw [if_neg (by simp [os2])]
              rcases opt2 (l.find? (isK q)) with hu | ⟨u, hu⟩
              · have hz : fnd l (bl (os2 (some q)).1) = (zNd, false) := fnd_none hu
                rw [hz, if_pos (by rfl), if_pos trivial]
                refine ⟨false, rfl, ⟨(fun h => by cases h), fun h => ?_⟩⟩
                obtain ⟨_, q', hq', u, hu', _⟩ := h.1 hi0
                cases hq'
                rw [hu] at hu'; cases hu'
              · have hz : fnd l (bl (os2 (some q)).1) = (u, true) := fnd_some hu
                rw [hz, if_neg (by simp)]
                by_cases ho : u.Owner = 0
                · rw [if_neg (by simp [ho])]
                  exact ⟨b', rfl, by rw [ih2]; exact ⟨fun h => ⟨fun _ => ⟨c1, q, rfl, u, hu, ho⟩, h⟩, fun h => h.2⟩⟩
                · rw [if_pos (by simpa using ho)]
                  refine ⟨false, rfl, ⟨(fun h => by cases h), fun h => ?_⟩⟩
                  obtain ⟨_, q', hq', u', hu', ho'⟩ := h.1 hi0
                  cases hq'
                  rw [hu] at hu'; cases hu'
                  exact absurd ho' ho
          · rw [if_pos (by simp [c1]), if_pos trivial]
            exact ⟨false, rfl, ⟨(fun h => by cases h), fun h => absurd (h.1 hi0).1 c1⟩⟩
      have tru' : NodeOk x → ∃ b, m_cantonref06_Right_j3 (m_cantonref06_Right_l1 l k) (i : Int) x l false = some b ∧ (b = true ↔ GOk l i hi ∧ ∀ j (h : j < l.length), i + 1 ≤ j → GOk l j h) := fun hn => by
        obtain ⟨b, h1, h2⟩ := tru
        exact ⟨b, h1, by rw [h2, hgo]; exact ⟨fun h => ⟨⟨hn, h.1⟩, h.2⟩, fun h => ⟨h.1.2, h.2⟩⟩⟩
      by_cases a1 : (bl x.Data).length > 256
      · rw [if_pos (by simp only [decide_eq_true_eq]; omega)]; exact fal _ rfl fun h => by unfold NodeOk at h; omega
      rw [if_neg (by simp only [decide_eq_true_eq]; omega)]
      by_cases a2 : x.Version < 0
      · rw [if_pos (by simpa using a2)]; exact fal _ rfl fun h => by unfold NodeOk at h; omega
      rw [if_neg (by simpa using a2)]
      by_cases a3 : x.Version > 281474976710656
      · rw [if_pos (by simpa using a3)]; exact fal _ rfl fun h => by unfold NodeOk at h; omega
      rw [if_neg (by simpa using a3)]
      by_cases a4 : x.Turn < 0
      · rw [if_pos (by simpa using a4)]; exact fal _ rfl fun h => by unfold NodeOk at h; omega
      rw [if_neg (by simpa using a4)]
      by_cases a5 : x.Turn > 10000
      · rw [if_pos (by simpa using a5)]; exact fal _ rfl fun h => by unfold NodeOk at h; omega
      rw [if_neg (by simpa using a5)]
      by_cases a6 : x.Owner < 0
      · rw [if_pos (by simpa using a6)]; exact fal _ rfl fun h => by unfold NodeOk at h; omega
      rw [if_neg (by simpa using a6)]
      by_cases a7 : x.Owner > 1099511627776
      · rw [if_pos (by simpa using a7)]; exact fal _ rfl fun h => by unfold NodeOk at h; omega
      rw [if_neg (by simpa using a7)]
      by_cases a8 : x.Owner = 0
      · rw [if_neg (by simp [a8])]; exact tru' ⟨by omega, by omega, by omega, by omega, by omega, by omega, by omega, fun h => absurd a8 h⟩
      · rw [if_pos (by simpa using a8)]
        by_cases a9 : x.Turn = 0
        · rw [show (x.Turn != 0) = false from by simp [a9]]; exact tru' ⟨by omega, by omega, by omega, by omega, by omega, by omega, by omega, fun _ => a9⟩
        · rw [show (x.Turn != 0) = true from by simp [a9]]; exact fal _ rfl fun h => a9 (h.2.2.2.2.2.2.2 a8)
    · rw [if_neg (by simpa using hi)]
      exact ⟨true, rfl, by simp; intro j hj hij; omega⟩
theorem rRight_eq (l : List Nd) (hlen : l.length ≤ 1000000) (sm : Sm l) : ∃ b, m_cantonref06_Right l = some b ∧ (b = true ↔ Tree l) := by
  unfold m_cantonref06_Right m_cantonref06_Right_j1
  cases l with
  | nil => exact ⟨false, rfl, ⟨(fun h => by cases h), fun h => by obtain ⟨_, _, h, _⟩ := h.root; cases h⟩⟩
  | cons r t =>
    rw [if_neg (by simp; omega)]
    by_cases h5 : (r :: t).length > 512
    · rw [if_pos (by simp only [decide_eq_true_eq]; omega), if_pos rfl]
      exact ⟨false, rfl, ⟨(fun h => by cases h), fun h => by have := h.len; omega⟩⟩
    · rw [if_neg (by simp only [decide_eq_true_eq]; omega), show (idx (r :: t) 0) = some r from rfl]
      simp only [Option.bind_some]
      rw [sEq_bl, sl47, show bl r.Path = key r from rfl]
      by_cases c1 : key r = [47]
      · rw [if_neg (by simp [c1])]
        by_cases c2 : r.Owner = 0
        · rw [if_neg (by simp [c2])]
          obtain ⟨b, h1, h2⟩ := rRight_l1 (r :: t) hlen sm ((((r :: t).length : Int) - 0 : Int).toNat + 1) 0 (by omega) (by omega)
          refine ⟨b, h1, ?_⟩
          rw [h2, ← tree_iff (r :: t) (by simp) (by omega) fun _ => ⟨c1, c2⟩]
          simp
        · rw [if_pos (by simpa using c2)]
          refine ⟨false, rfl, ⟨(fun h => by cases h), fun h => ?_⟩⟩
          obtain ⟨_, _, e, _, ho⟩ := h.root
          cases e; exact absurd ho c2
      · rw [if_pos (by simp [c1]), if_pos trivial]
        refine ⟨false, rfl, ⟨(fun h => by cases h), fun h => ?_⟩⟩
        obtain ⟨_, _, e, hk, _⟩ := h.root
        cases e; exact absurd hk c1
end Go.Cb
