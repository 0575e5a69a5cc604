/- Nodes, plainly: what a tree, and an operation, is to the program. -/
import Derived.Test.YtgdfoajophpblaaGreatDoorQ5px
import Derived.Test.YtgdfoajophpblaaGreatDoorKpx1
set_option linter.unusedVariables false
set_option linter.unusedSimpArgs false
namespace Go.Cb
open Go.Proofs Go.RowKit

theorem within_eq (x m : Int) : m_nodes_within x m = some (decide (0 ≤ x ∧ x ≤ m)) := by
  unfold m_nodes_within
  by_cases h : 0 ≤ x
  · rw [if_pos (by simpa using h)]; simp [h]
  · rw [if_neg (by simpa using h)]; simp [h]
theorem node_eq (x : Nd) : ∃ b, m_nodes_node x = some b ∧ (b = true ↔ NodeOk x) := by
  unfold m_nodes_node NodeOk
  have hsz := bl_size x.Data
  rw [within_eq, within_eq, within_eq]
  simp only [Option.bind_some]
  by_cases a1 : (bl x.Data).length ≤ 256
  · rw [if_pos (by simp only [decide_eq_true_eq]; omega)]
    by_cases a2 : 0 ≤ x.Version ∧ x.Version ≤ 281474976710656
    · rw [if_pos (by simpa using a2)]
      by_cases a3 : 0 ≤ x.Turn ∧ x.Turn ≤ 10000
      · rw [if_pos (by simpa using a3)]
        by_cases a4 : 0 ≤ x.Owner ∧ x.Owner ≤ 1099511627776
        · rw [if_pos (by simpa using a4)]
          by_cases a5 : x.Owner = 0
          · rw [if_pos (by simpa using a5)]
            exact ⟨true, rfl, by simp [a1, a2, a3, a4, a5]⟩
          · rw [if_neg (by simpa using a5)]
            refine ⟨_, rfl, ?_⟩
            simp only [beq_iff_eq]
            exact ⟨fun h => ⟨a1, a2.1, a2.2, a3.1, a3.2, a4.1, a4.2, fun _ => h⟩, fun h => h.2.2.2.2.2.2.2 a5⟩
        · rw [if_neg (by simpa using a4)]
          exact ⟨false, rfl, (fun h => by cases h), fun h => absurd ⟨h.2.2.2.2.2.1, h.2.2.2.2.2.2.1⟩ a4⟩
      · rw [if_neg (by simpa using a3)]
        exact ⟨false, rfl, (fun h => by cases h), fun h => absurd ⟨h.2.2.2.1, h.2.2.2.2.1⟩ a3⟩
    · rw [if_neg (by simpa using a2)]
      exact ⟨false, rfl, (fun h => by cases h), fun h => absurd ⟨h.2.1, h.2.2.1⟩ a2⟩
  · rw [if_neg (by simp only [decide_eq_true_eq]; omega)]
    exact ⟨false, rfl, (fun h => by cases h), fun h => absurd h.1 a1⟩
/-- what each place must bear, to the program. -/
def HOk (l : List Nd) (j : Nat) (h : j < l.length) : Prop := NodeOk l[j] ∧ (j ≠ 0 → key (l[j - 1]'(by omega)) < key l[j] ∧ ∃ q, parentS (key l[j]) = some q ∧ ∃ m, ∃ hm : m < j, key (l[m]'(by omega)) = q ∧ (l[m]'(by omega)).Owner = 0)
theorem hok_tree (l : List Nd) (h0 : l ≠ []) (h5 : l.length ≤ 512) (hr : ∀ h : 0 < l.length, key l[0] = [47] ∧ l[0].Owner = 0) : (∀ j (h : j < l.length), HOk l j h) ↔ Tree l := by
  rw [← tree_iff l h0 h5 hr]
  constructor
  · intro h
    have hs : l.Pairwise (key · < key ·) := adj_sorted fun i hi => ((h (i + 1) hi).2 (by omega)).1
    intro j hj
    refine ⟨(h j hj).1, fun hj0 => ⟨((h j hj).2 hj0).1, ?_⟩⟩
    obtain ⟨q, hq, m, hm, hk, ho⟩ := ((h j hj).2 hj0).2
    exact ⟨q, hq, l[m], by rw [← hk]; exact find_mem hs (List.getElem_mem _), ho⟩
  · intro h
    have T := (tree_iff l h0 h5 hr).1 h
    have hs := List.pairwise_iff_getElem.1 T.sorted
    intro j hj
    refine ⟨(h j hj).1, fun hj0 => ⟨((h j hj).2 hj0).1, ?_⟩⟩
    obtain ⟨q, hq, u, hu, ho⟩ := ((h j hj).2 hj0).2
    obtain ⟨m, hm, rfl⟩ := List.mem_iff_getElem.1 (find_key hu).1
    have hk := (find_key hu).2
    refine ⟨q, hq, m, ?_, hk, ho⟩
    have := parent_lt hq
    rw [← hk] at this
    rcases Nat.lt_trichotomy m j with c | c | c
    · exact c
    · subst c; exact absurd this (kl_irrefl _)
    · exact absurd (hs j m hj hm c) (kl_asymm this)
theorem pRight_l1 (l : List Nd) (hlen : l.length ≤ 512) (sm : Sm l) : ∀ (k i n : Nat) (f : List UInt8 → Int), i ≤ l.length → l.length + 1 ≤ i + k → n ≤ i → (∀ s, 0 ≤ f s ∧ f s ≤ i) → (∀ s, f s ≠ 0 ↔ ∃ m, ∃ hm : m < i, ∃ hl : m < l.length, key l[m] = s ∧ l[m].Owner = 0) →
    ∃ b, m_nodes_Right_l1 l k (i : Int) n f = some b ∧ (b = true ↔ ∀ j (h : j < l.length), i ≤ j → HOk l j h)
  | 0, i, n, f, _, h, _, _, _ => by omega
  | k + 1, i, n, f, h0, h, hn, hf1, hf2 => by
    unfold m_nodes_Right_l1
    by_cases hi : i < l.length
    · rw [if_pos (by simpa using hi), idx_lt hi]
      simp only [Option.bind_some]
      have e1 : IntKind.i64.wrap ((i : Int) + 1) = ((i + 1 : Nat) : Int) := by rw [w64 (by omega) (by omega)]; omega
      have hkx := sm _ (List.getElem_mem hi)
      have hgo : HOk l i hi ↔ NodeOk l[i] ∧ (i ≠ 0 → key (l[i - 1]'(by omega)) < key l[i] ∧ ∃ q, parentS (key l[i]) = some q ∧ ∃ m, ∃ hm : m < i, key (l[m]'(by omega)) = q ∧ (l[m]'(by omega)).Owner = 0) := Iff.rfl
      rw [all_step hi]
      obtain ⟨bn, hb1, hb2⟩ := node_eq l[i]
      rw [Parent_eq, show bl (l[i]).Path = key l[i] from rfl]
      simp only [Option.bind_some]
      rw [show m_nodes_node (⟨(l[i]).Path, (l[i]).Data, (l[i]).Version, (l[i]).Turn, (l[i]).Owner⟩ : Nd) = some bn from hb1]
      simp only [Option.bind_some]
      have J3t : m_nodes_Right_j3 (m_nodes_Right_l1 l k) (i : Int) l[i] f n true = some false := rfl
      obtain ⟨b', J3f, ih2⟩ : ∃ b, m_nodes_Right_j3 (m_nodes_Right_l1 l k) (i : Int) l[i] f n false = some b ∧ (b = true ↔ ∀ j (h : j < l.length), i + 1 ≤ j → HOk l j h) := by
        unfold m_nodes_Right_j3 m_nodes_Right_j2
        rw [if_neg (by simp), e1]
        by_cases ho : (l[i]).Owner = 0
        · have hz : (l[i]).Path.size ≤ maxLen := by rw [bl_size]; show (key l[i]).length ≤ _; simp only [maxLen]; omega
          have hw : IntKind.i64.wrap (f (l[i]).Path.data.toList + 1) = f (l[i]).Path.data.toList + 1 := w64 (by have := hf1 (l[i]).Path.data.toList; omega) (by have := hf1 (l[i]).Path.data.toList; omega)
          rw [if_pos (by simpa using ho), ck_b hz, hw, ck_b ⟨hz, by
            have := hf1 (l[i]).Path.data.toList
            simp [Lit.wf, IntKind.min, IntKind.max, IntKind.bits, IntKind.signed]; omega, by simp only [maxLen]; omega⟩]
          refine pRight_l1 l hlen sm k (i + 1) (n + 1) _ (by omega) (by omega) (by omega) (fun s => ?_) (fun s => ?_)
          · unfold mput
            have := hf1 s
            have := hf1 (l[i]).Path.data.toList
            split <;> omega
          · unfold mput
            split
            · rename_i e
              have := hf1 (l[i]).Path.data.toList
              constructor
              · intro _
                exact ⟨i, by omega, hi, e.symm, ho⟩
              · intro _; omega
            · rename_i e
              rw [hf2 s]
              constructor
              · rintro ⟨m, hm, hl, h1, h2⟩
                exact ⟨m, by omega, hl, h1, h2⟩
              · rintro ⟨m, hm, hl, h1, h2⟩
                by_cases c : m = i
                · subst c; exact absurd h1.symm e
                · exact ⟨m, by omega, hl, h1, h2⟩
        · rw [if_neg (by simpa using ho)]
          refine pRight_l1 l hlen sm k (i + 1) n f (by omega) (by omega) (by omega) (fun s => ?_) (fun s => ?_)
          · have := hf1 s; omega
          · rw [hf2 s]
            constructor
            · rintro ⟨m, hm, hl, h1, h2⟩
              exact ⟨m, by omega, hl, h1, h2⟩
            · rintro ⟨m, hm, hl, h1, h2⟩
              by_cases c : m = i
              · subst c; exact absurd h2 ho
              · exact ⟨m, by omega, hl, h1, h2⟩
      cases bn with
      | false =>
        rw [if_pos (by rfl), J3t]
        exact ⟨false, rfl, (fun h => by cases h), fun h => by have := hb2.2 (hgo.1 h.1).1; cases this⟩
      | true =>
        have hno : NodeOk l[i] := hb2.1 rfl
        rw [if_neg (by simp)]
        by_cases hi0 : i = 0
        · rw [if_neg (by simp; omega), J3f]
          exact ⟨b', rfl, by rw [ih2, hgo]; exact ⟨fun h => ⟨⟨hno, fun h' => absurd hi0 h'⟩, h⟩, fun h => h.2⟩⟩
        · rw [if_pos (by simp; omega)]
          rcases opt2 (parentS (key l[i])) with hq | ⟨q, hq⟩
          · rw [hq, if_pos (by rfl), J3t]
            refine ⟨false, rfl, (fun h => by cases h), fun h => ?_⟩
            obtain ⟨_, q, hq', _⟩ := (hgo.1 h.1).2 hi0
            cases hq.symm.trans hq'
          · have hql : q.length ≤ 78 := by
              obtain ⟨ps, t, _, _, h3⟩ := parent_parts hq
              exact parts_len h3
            rw [hq, if_neg (by simp [os2]), show (os2 (some q)).1 = mk q from rfl, ck_b (by rw [bl_size, bl_mk]; simp only [maxLen]; omega), show (mk q).data.toList = q from rfl]
            by_cases hz : f q = 0
            · rw [if_pos (by simpa using hz), J3t]
              refine ⟨false, rfl, (fun h => by cases h), fun h => ?_⟩
              obtain ⟨_, q', hq', m, hm, hk, ho⟩ := (hgo.1 h.1).2 hi0
              cases hq.symm.trans hq'
              exact absurd hz ((hf2 q).2 ⟨m, hm, by omega, hk, ho⟩)
            · rw [if_neg (by simpa using hz), show IntKind.i64.wrap ((i : Int) - 1) = ((i - 1 : Nat) : Int) from by rw [w64 (by omega) (by omega)]; omega, idx_lt (show i - 1 < l.length by omega)]
              simp only [Option.bind_some]
              rw [sLt_bl, show bl (l[i]).Path = key l[i] from rfl, show bl (l[i - 1]).Path = key l[i - 1] from rfl]
              by_cases c1 : key l[i - 1] < key l[i]
              · rw [show (!decide (key l[i - 1] < key l[i])) = false from by simp [c1], J3f]
                obtain ⟨m, hm, hl, hk, ho⟩ := (hf2 q).1 hz
                exact ⟨b', rfl, by rw [ih2, hgo]; exact ⟨fun h => ⟨⟨hno, fun _ => ⟨c1, q, hq, m, hm, hk, ho⟩⟩, h⟩, fun h => h.2⟩⟩
              · rw [show (!decide (key l[i - 1] < key l[i])) = true from by simp [c1], J3t]
                exact ⟨false, rfl, (fun h => by cases h), fun h => absurd ((hgo.1 h.1).2 hi0).1 c1⟩
    · rw [if_neg (by simpa using hi)]
      exact ⟨true, rfl, by simp; intro j hj hij; omega⟩
theorem pRight_eq (l : List Nd) (hlen : l.length ≤ 4611686018427387904) (sm : Sm l) : ∃ b, m_nodes_Right l = some b ∧ (b = true ↔ Tree l) := by
  unfold m_nodes_Right m_nodes_Right_j1
  cases l with
  | nil => exact ⟨false, rfl, (fun h => by cases h), fun h => by obtain ⟨_, _, h, _⟩ := h.root; cases h⟩
  | cons r t =>
    rw [if_neg (by simp; omega)]
    by_cases h5 : (r :: t).length > 512
    · rw [if_pos (by simp only [decide_eq_true_eq]; omega), if_pos rfl]
      exact ⟨false, rfl, (fun h => by cases h), fun h => by have := h.len; omega⟩
    · rw [if_neg (by simp only [decide_eq_true_eq]; omega), show (idx (r :: t) 0) = some r from rfl]
      simp only [Option.bind_some]
      rw [sEq_bl, sl47, show bl r.Path = key r from rfl]
      by_cases c1 : key r = [47]
      · rw [if_neg (by simp [c1])]
        by_cases c2 : r.Owner = 0
        · rw [if_neg (by simp [c2])]
          obtain ⟨b, h1, h2⟩ := pRight_l1 (r :: t) (by omega) sm ((((r :: t).length : Int) - 0 : Int).toNat + 1) 0 0 (fun _ => 0) (by omega) (by omega) (by omega) (fun s => by simp) (fun s => by
            constructor
            · intro h; exact absurd rfl h
            · rintro ⟨m, hm, _⟩; omega)
          refine ⟨b, h1, ?_⟩
          rw [h2, ← hok_tree (r :: t) (by simp) (by omega) fun _ => ⟨c1, c2⟩]
          simp
        · rw [if_pos (by simpa using c2)]
          refine ⟨false, rfl, (fun h => by cases h), fun h => ?_⟩
          obtain ⟨_, _, e, _, ho⟩ := h.root
          cases e; exact absurd ho c2
      · rw [if_pos (by simp [c1]), if_pos trivial]
        refine ⟨false, rfl, (fun h => by cases h), fun h => ?_⟩
        obtain ⟨_, _, e, hk, _⟩ := h.root
        cases e; exact absurd hk c1

/-! ### operations -/
abbrev Op1 := S_api_Op
def pathOk (p : List UInt8) : Bool := (parts p).isSome
def kindOk (k : Int) (root d v w t : Bool) : Bool :=
  if k = 1 then !root && !v else if k = 2 then !root && !d && !w && !t else if k = 3 then !w && !t else if k = 4 then !d && !w && !t
  else if k = 5 ∨ k = 6 then !v && !d && !w && !t else if k = 7 then !v && !d && w && !t else false
def MayB (o : Op1) : Bool := decide (1 ≤ o.Kind ∧ o.Kind ≤ 7) && pathOk (bl o.Path) && decide ((bl o.Data).length ≤ 256) && decide (0 ≤ o.Owner ∧ o.Owner ≤ 1099511627776) && decide (-1 ≤ o.Version ∧ o.Version ≤ 281474976710656) &&
  kindOk o.Kind (decide (bl o.Path = [47])) (!decide (bl o.Data = [])) (!decide (o.Version = 0)) (!decide (o.Owner = 0)) o.Turns
def hasB (d v w t r : Bool) : Int :=
  let a := if d then ior .i64 0 1 else 0
  let a := if v then ior .i64 a 2 else a
  let a := if w then ior .i64 a 4 else a
  let a := if t then ior .i64 a 8 else a
  if r then ior .i64 a 16 else a
theorem has_ok : ∀ (k : Fin 8) (d v w t r : Bool), k.val ≠ 0 → ((iandNot .i64 (hasB d v w t r) ([0, 13, 2, 19, 18, 16, 16, 20][k.val]!) == 0) && (k.val != 7 || w)) = kindOk k.val r d v w t := by decide +kernel
theorem May_eq (o : Op1) : m_nodes_May o = some (MayB o) := by
  unfold m_nodes_May m_nodes_May_j1
  have hd := bl_size o.Data
  by_cases a1 : o.Kind < 1
  · rw [if_pos (by simpa using a1), if_pos rfl]
    unfold MayB; rw [show decide (1 ≤ o.Kind ∧ o.Kind ≤ 7) = false from by simp; omega]; rfl
  rw [if_neg (by simpa using a1)]
  by_cases a2 : o.Kind > 7
  · rw [if_pos (by simpa using a2), if_pos rfl]
    unfold MayB; rw [show decide (1 ≤ o.Kind ∧ o.Kind ≤ 7) = false from by simp; omega]; rfl
  rw [if_neg (by simpa using a2)]
  unfold m_path_Right
  rw [Split_eq]
  simp only [Option.bind_some]
  have e3 : (spl o.Path).2 = pathOk (bl o.Path) := by unfold spl pathOk; cases parts (bl o.Path) <;> rfl
  rw [e3]
  cases a3 : pathOk (bl o.Path) with
  | false => rw [if_pos (by rfl), if_pos trivial]; unfold MayB; rw [a3]; simp
  | true =>
  rw [if_neg (by simp)]
  by_cases a4 : (bl o.Data).length > 256
  · rw [if_pos (by simp only [decide_eq_true_eq]; omega), if_pos trivial]
    unfold MayB; rw [show decide ((bl o.Data).length ≤ 256) = false from by simp; omega]; simp
  rw [if_neg (by simp only [decide_eq_true_eq]; omega), within_eq]
  simp only [Option.bind_some]
  by_cases a5 : ¬ (0 ≤ o.Owner ∧ o.Owner ≤ 1099511627776)
  · rw [decide_eq_false a5, if_pos (by rfl)]
    unfold MayB; rw [decide_eq_false a5]; simp
  have a5 : 0 ≤ o.Owner ∧ o.Owner ≤ 1099511627776 := Decidable.not_not.1 a5
  rw [decide_eq_true a5, if_neg (by simp)]
  -- the fields
  have tail : ∀ x18 : Int, x18 = hasB (!decide (bl o.Data = [])) (!decide (o.Version = 0)) (!decide (o.Owner = 0)) o.Turns (decide (bl o.Path = [47])) → m_nodes_May_j6 o x18 = some (MayB o) := by
    rintro x18 rfl
    unfold m_nodes_May_j6 m_nodes_May_j7 m_nodes_named
    obtain ⟨k, hk⟩ : ∃ k : Fin 8, o.Kind = (k.val : Int) := ⟨⟨o.Kind.toNat, by omega⟩, by show o.Kind = (o.Kind.toNat : Int); omega⟩
    have hk0 : k.val ≠ 0 := by omega
    have key := has_ok k (!decide (bl o.Data = [])) (!decide (o.Version = 0)) (!decide (o.Owner = 0)) o.Turns (decide (bl o.Path = [47])) hk0
    have hkl := k.isLt
    have hix : idx ([0, 13, 2, 19, 18, 16, 16, 20] : List Int) o.Kind = some ([0, 13, 2, 19, 18, 16, 16, 20][k.val]!) := by
      rw [hk]; unfold idx; rw [if_pos (by omega), Int.toNat_natCast, List.getElem!_eq_getElem?_getD, List.getElem?_eq_getElem (by simp)]; rfl
    generalize hX : hasB (!decide (bl o.Data = [])) (!decide (o.Version = 0)) (!decide (o.Owner = 0)) o.Turns (decide (bl o.Path = [47])) = X at *
    unfold MayB
    rw [a3, show decide (1 ≤ o.Kind ∧ o.Kind ≤ 7) = true from by simp; omega, show decide ((bl o.Data).length ≤ 256) = true from by simp; omega, decide_eq_true a5, hk, ← key]
    simp only [Bool.true_and]
    by_cases b1 : o.Version ≥ -1
    · rw [if_pos (by simpa using b1)]
      by_cases b2 : o.Version ≤ 281474976710656
      · rw [decide_eq_true b2, if_pos rfl, ← hk, hix, hk]
        simp only [Option.bind_some]
        rw [show decide (-1 ≤ o.Version ∧ o.Version ≤ 281474976710656) = true from by simp; omega]
        by_cases b3 : iandNot .i64 X ([0, 13, 2, 19, 18, 16, 16, 20][k.val]!) = 0
        · rw [if_pos (by simpa using b3), b3]
          by_cases b4 : k.val = 7
          · rw [if_neg (by simp; omega), show (k.val != 7) = false from by simp [b4]]
            simp only [beq_self_eq_true, Bool.true_and, Bool.false_or]
            congr 1
            rw [Bool.eq_iff_iff]
            simp only [decide_eq_true_eq, Bool.not_eq_true', decide_eq_false_iff_not]
            omega
          · rw [if_pos (by simp; omega), show (k.val != 7) = true from by simp [b4]]
            simp
        · rw [if_neg (fun h => b3 (eq_of_beq h)), beq_eq_false_iff_ne.2 b3]
          rfl
      · rw [decide_eq_false b2, if_neg (by simp)]
        rw [show decide (-1 ≤ o.Version ∧ o.Version ≤ 281474976710656) = false from by simp; omega]
        rfl
    · rw [if_neg (by simpa using b1), if_neg (by simp)]
      rw [show decide (-1 ≤ o.Version ∧ o.Version ≤ 281474976710656) = false from by simp; omega]
      rfl
  have t5 : ∀ x, (x = if o.Turns then ior .i64 (if (!decide (o.Owner = 0)) then ior .i64 (if (!decide (o.Version = 0)) then ior .i64 (if (!decide (bl o.Data = [])) then ior .i64 0 1 else 0) 2 else (if (!decide (bl o.Data = [])) then ior .i64 0 1 else 0)) 4 else (if (!decide (o.Version = 0)) then ior .i64 (if (!decide (bl o.Data = [])) then ior .i64 0 1 else 0) 2 else (if (!decide (bl o.Data = [])) then ior .i64 0 1 else 0))) 8 else (if (!decide (o.Owner = 0)) then ior .i64 (if (!decide (o.Version = 0)) then ior .i64 (if (!decide (bl o.Data = [])) then ior .i64 0 1 else 0) 2 else (if (!decide (bl o.Data = [])) then ior .i64 0 1 else 0)) 4 else (if (!decide (o.Version = 0)) then ior .i64 (if (!decide (bl o.Data = [])) then ior .i64 0 1 else 0) 2 else (if (!decide (bl o.Data = [])) then ior .i64 0 1 else 0)))) → m_nodes_May_j5 o x = some (MayB o) := by
    rintro x rfl
    unfold m_nodes_May_j5
    rw [sEq_bl, sl47]
    by_cases c : bl o.Path = [47]
    · rw [if_pos (by simpa using c)]; exact tail _ (by unfold hasB; simp only [c]; rfl)
    · rw [if_neg (by simpa using c)]; exact tail _ (by unfold hasB; simp only [c]; rfl)
  have t4 : ∀ x, (x = if (!decide (o.Owner = 0)) then ior .i64 (if (!decide (o.Version = 0)) then ior .i64 (if (!decide (bl o.Data = [])) then ior .i64 0 1 else 0) 2 else (if (!decide (bl o.Data = [])) then ior .i64 0 1 else 0)) 4 else (if (!decide (o.Version = 0)) then ior .i64 (if (!decide (bl o.Data = [])) then ior .i64 0 1 else 0) 2 else (if (!decide (bl o.Data = [])) then ior .i64 0 1 else 0))) → m_nodes_May_j4 o x = some (MayB o) := by
    rintro x rfl
    unfold m_nodes_May_j4
    cases c : o.Turns with
    | true => rw [if_pos rfl]; exact t5 _ (by rw [c]; rfl)
    | false => rw [if_neg (by simp)]; exact t5 _ (by rw [c]; rfl)
  have t3 : ∀ x, (x = if (!decide (o.Version = 0)) then ior .i64 (if (!decide (bl o.Data = [])) then ior .i64 0 1 else 0) 2 else (if (!decide (bl o.Data = [])) then ior .i64 0 1 else 0)) → m_nodes_May_j3 o x = some (MayB o) := by
    rintro x rfl
    unfold m_nodes_May_j3
    by_cases c : o.Owner = 0
    · rw [if_neg (by simpa using c)]; exact t4 _ (by simp only [c]; rfl)
    · rw [if_pos (by simpa using c)]; exact t4 _ (by simp only [c]; rfl)
  have t2 : ∀ x, (x = if (!decide (bl o.Data = [])) then ior .i64 0 1 else 0) → m_nodes_May_j2 o x = some (MayB o) := by
    rintro x rfl
    unfold m_nodes_May_j2
    by_cases c : o.Version = 0
    · rw [if_neg (by simpa using c)]; exact t3 _ (by simp only [c]; rfl)
    · rw [if_pos (by simpa using c)]; exact t3 _ (by simp only [c]; rfl)
  rw [sEq_bl, emp]
  by_cases c : bl o.Data = []
  · rw [if_neg (by simpa using c)]; exact t2 _ (by simp only [c]; rfl)
  · rw [if_pos (by simpa using c)]; exact t2 _ (by simp only [c]; rfl)
end Go.Cb
