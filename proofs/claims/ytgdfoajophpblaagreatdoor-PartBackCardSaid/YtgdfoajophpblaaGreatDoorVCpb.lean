/- PartBack, plainly. -/
import Derived.Test.YtgdfoajophpblaaGreatDoorV8pb
import Derived.Test.YtgdfoajophpblaaGreatDoorKpb2
set_option linter.unusedVariables false
set_option linter.unusedSimpArgs false
namespace Go.Cb
open Go.Proofs Go.RowKit

theorem tree_bad (s : Sto) (h1 : s.Nodes.length ≤ 90000) (h2 : s.Turns.length ≤ 90000) (S : ¬ StoreOk s) : m_part_Tree [s] = some ([], false) := by
  unfold m_part_Tree
  rw [show (((([s] : List Sto).length : Int) - 0 : Int).toNat + 1) = 2 from rfl, m_part_Tree_l1]
  obtain ⟨b, g1, g2⟩ := partRight_eq s (by omega) (by omega)
  rw [if_pos (by simp), show idx [s] 0 = some s from rfl]
  simp only [Option.bind_some]
  rw [g1, show b = false from by cases b with | false => rfl | true => exact absurd (g2.1 rfl) S]
  rfl
theorem putTs_find (k : List UInt8) : ∀ (ts : List Tn) (f : List UInt8 → Option Int), ts.Pairwise (tkey · < tkey ·) → putTs f ts k = match ts.find? (gEq tkey k) with | some t => some t.Next | none => f k
  | [], f, _ => rfl
  | t :: ts, f, h => by
    obtain ⟨h1, h2⟩ := List.pairwise_cons.1 h
    rw [show putTs f (t :: ts) k = putTs (mputO f (tkey t) t.Next) ts k from rfl, putTs_find k ts _ h2, List.find?_cons]
    by_cases c : tkey t = k
    · have : ts.find? (gEq tkey k) = none := List.find?_eq_none.2 fun y hy => by
        have := kl_ne (h1 y hy)
        rw [c] at this
        simpa [gEq] using this.symm
      rw [this, show gEq tkey k t = true from by simpa [gEq] using c]
      simp [mputO, c]
    · rw [show gEq tkey k t = false from by simpa [gEq] using c]
      simp [mputO, Ne.symm c]
theorem sub_sorted {α : Type} (κ : α → List UInt8) : ∀ {a b : List α}, a.Pairwise (κ · < κ ·) → b.Pairwise (κ · < κ ·) → (∀ x ∈ a, x ∈ b) → a.Sublist b
  | [], b, _, _, _ => List.nil_sublist b
  | x :: a, [], _, _, h => by have := h x (by simp); simp at this
  | x :: a, y :: b, ha, hb, h => by
    obtain ⟨a1, a2⟩ := List.pairwise_cons.1 ha
    obtain ⟨b1, b2⟩ := List.pairwise_cons.1 hb
    rcases List.mem_cons.1 (h x (by simp)) with e | e
    · subst e
      exact (sub_sorted κ a2 b2 fun z hz => by
        rcases List.mem_cons.1 (h z (List.mem_cons_of_mem _ hz)) with f | f
        · subst f; exact absurd (a1 z hz) (kl_irrefl _)
        · exact f).cons_cons x
    · exact (sub_sorted κ ha b2 fun z hz => by
        rcases List.mem_cons.1 (h z hz) with f | f
        · subst f
          rcases List.mem_cons.1 hz with g | g
          · subst g; exact absurd (b1 z e) (kl_irrefl _)
          · exact absurd (a1 z g) (kl_asymm (b1 x e))
        · exact f).cons y
theorem setTs_sm {f : List UInt8 → Option Int} {l : List Nd} (sm : Sm l) : Sm (setTs f l) := fun y hy => by
  obtain ⟨x, hx, rfl⟩ := List.mem_map.1 hy
  exact sm x hx
/-! ### the tree of the store of a tree -/
theorem tree_keep {l : List Nd} (T : Tree l) : m_part_Tree [keepS l] = some (l, true) := by
  have hl := T.len
  have S := keep_ok T
  have ln : (keepS l).Nodes.length = l.length := by simp [keepS]
  have lt : (keepS l).Turns.length ≤ l.length := by simp only [keepS, List.length_map]; exact List.length_filter_le _ _
  have hs := S.sms (by omega) (by omega)
  rw [tree_one _ hs S]
  have key0 : ∀ x ∈ l, putTs (fun _ => none) (keepS l).Turns (key x) = if x.Turn = 0 then none else some x.Turn := fun x hx => by
    rw [putTs_find _ _ _ S.tsort]
    cases hf : (keepS l).Turns.find? (gEq tkey (key x)) with
    | none =>
      simp only
      by_cases c : x.Turn = 0
      · rw [if_pos c]
      · have := List.find?_eq_none.1 hf (ktn x) (keep_iff.2 ⟨x, hx, c, rfl⟩)
        exact absurd (show gEq tkey (key x) (ktn x) = true from by simp only [gEq, decide_eq_true_eq]; rfl) this
    | some t =>
      simp only
      obtain ⟨y, h1, h2, rfl⟩ := keep_iff.1 (List.mem_of_find?_eq_some hf)
      have h3 := List.find?_some hf
      have e : key y = key x := by simp only [gEq, decide_eq_true_eq] at h3; exact h3
      obtain rfl := sorted_inj T.sorted h1 hx e
      rw [if_neg h2]; rfl
  have hset : setTs (putTs (fun _ => none) (keepS l).Turns) (keepS l).Nodes = l := by
    unfold setTs
    rw [show (keepS l).Nodes = l.map kn from rfl, List.map_map]
    refine (List.map_congr_left fun x hx => ?_).trans (List.map_id l)
    show ({ kn x with Turn := (putTs (fun _ => none) (keepS l).Turns (key x)).getD 0 } : Nd) = x
    rw [key0 x hx]
    by_cases c : x.Turn = 0
    · rw [if_pos c]; cases x; simp only [kn, Option.getD_none] at c ⊢; rw [c]
    · rw [if_neg c]; cases x; rfl
  have hcnt : cntTs (putTs (fun _ => none) (keepS l).Turns) (keepS l).Nodes = (keepS l).Turns.length := by
    unfold cntTs
    rw [show (keepS l).Nodes = l.map kn from rfl, List.filter_map, List.length_map, show (keepS l).Turns.length = (l.filter fun x => x.Turn != 0).length from by simp [keepS]]
    congr 1
    refine List.filter_congr fun x hx => ?_
    show (putTs (fun _ => none) (keepS l).Turns (key x)).isSome = (x.Turn != 0)
    rw [key0 x hx]
    by_cases c : x.Turn = 0
    · rw [if_pos c]; simp [c]
    · rw [if_neg c]; simp [c]
  unfold treeEnd
  rw [hset, if_neg (by simp [hcnt])]
  obtain ⟨b, h1, h2⟩ := pRight_eq l (by omega) (fun x hx => by have := pathOk_len (tree_path T hx); omega)
  rw [h1, h2.2 T]
  rfl
/-! ### the store of the tree of a store -/
theorem keep_setTs {s : Sto} (S : StoreOk s) (hc : cntTs (putTs (fun _ => none) s.Turns) s.Nodes = s.Turns.length) : keepS (setTs (putTs (fun _ => none) s.Turns) s.Nodes) = s := by
  have hk : ∀ x : Nd, putTs (fun _ => none) s.Turns (key x) = match s.Turns.find? (gEq tkey (key x)) with | some t => some t.Next | none => none := fun x => putTs_find _ _ _ S.tsort
  have hn : (setTs (putTs (fun _ => none) s.Turns) s.Nodes).map kn = s.Nodes := by
    unfold setTs
    rw [List.map_map]
    refine (List.map_congr_left fun x hx => ?_).trans (List.map_id s.Nodes)
    have := List.all_eq_true.1 S.nodes x hx
    unfold pnB at this
    simp only [Bool.and_eq_true, decide_eq_true_eq] at this
    cases x
    simp only [Function.comp, kn, id] at this ⊢
    rw [this.1]
  have hso : (keepS (setTs (putTs (fun _ => none) s.Turns) s.Nodes)).Turns.Pairwise (tkey · < tkey ·) := by
    refine keep_tsorted ?_
    unfold setTs
    rw [List.pairwise_map]
    exact S.nsort
  have hsub : ∀ t ∈ (keepS (setTs (putTs (fun _ => none) s.Turns) s.Nodes)).Turns, t ∈ s.Turns := fun t ht => by
    obtain ⟨y, h1, h2, rfl⟩ := keep_iff.1 ht
    unfold setTs at h1
    obtain ⟨x, hx, rfl⟩ := List.mem_map.1 h1
    simp only [hk] at h2 ⊢
    cases hf : s.Turns.find? (gEq tkey (key x)) with
    | none => rw [hf] at h2; exact absurd rfl h2
    | some t =>
      have h3 := List.mem_of_find?_eq_some hf
      have h4 := List.find?_some hf
      have e : tkey t = key x := by simpa [gEq] using h4
      have e2 : ktn ({ x with Turn := t.Next } : Nd) = t := by
        have : t.Dir = x.Path := by rw [← mk_bl t.Dir, ← mk_bl x.Path]; exact congrArg mk e
        cases t
        simp only [ktn] at this ⊢
        rw [this]
      rw [show ktn ({ x with Turn := ((some t.Next : Option Int)).getD 0 } : Nd) = t from e2]
      exact h3
  have hlen : (keepS (setTs (putTs (fun _ => none) s.Turns) s.Nodes)).Turns.length = s.Turns.length := by
    rw [← hc]
    unfold keepS cntTs setTs
    simp only [List.length_map]
    rw [List.filter_map, List.length_map]
    congr 1
    refine List.filter_congr fun x hx => ?_
    simp only [Function.comp]
    rw [hk x]
    cases hf : s.Turns.find? (gEq tkey (key x)) with
    | none => rfl
    | some t =>
      have := (store_next S t (List.mem_of_find?_eq_some hf)).1
      simp only [Option.getD_some, Option.isSome_some, bne_iff_ne, ne_eq]
      omega
  have ht := (sub_sorted tkey hso S.tsort hsub).eq_of_length hlen
  cases s
  simp only [keepS] at hn ht ⊢
  rw [hn, ht]
theorem tree_back (s : Sto) (hs : SmS s) : ∃ y, m_part_Tree [s] = some y ∧ (y = ([], false) ∨ (y.2 = true ∧ StoreOk s ∧ y.1.length = s.Nodes.length ∧ keepS y.1 = s)) := by
  by_cases S : StoreOk s
  · rw [tree_one s hs S]
    unfold treeEnd
    by_cases c : cntTs (putTs (fun _ => none) s.Turns) s.Nodes = s.Turns.length
    · rw [if_neg (by simp [c])]
      have hl := hs.len
      have len : (setTs (putTs (fun _ => none) s.Turns) s.Nodes).length = s.Nodes.length := by simp [setTs]
      obtain ⟨b, h1, h2⟩ := pRight_eq (setTs (putTs (fun _ => none) s.Turns) s.Nodes) (by omega) (setTs_sm hs.sm)
      rw [h1]
      cases b with
      | false => exact ⟨_, rfl, .inl rfl⟩
      | true => exact ⟨_, rfl, .inr ⟨rfl, S, len, keep_setTs S c⟩⟩
    · rw [if_pos c]
      exact ⟨_, rfl, .inl rfl⟩
  · have := hs.len
    have := hs.lent
    exact ⟨_, tree_bad s (by omega) (by omega) S, .inl rfl⟩
theorem pback_j2 (s : Sto) (hs : SmS s) (h1 : s.Nodes.length ≤ 1666) : m_cantonlaw07_PartBack_j2 s true false = some true := by
  unfold m_cantonlaw07_PartBack_j2
  obtain ⟨y, g1, g2⟩ := tree_back s hs
  rw [if_neg (by simp), g1]
  simp only [Option.bind_some]
  rcases g2 with rfl | ⟨g2, g3, g4, g5⟩
  · rfl
  · have := hs.lent
    rw [g2, if_neg (by simp), if_pos trivial, Keep_eq _ (by omega), g5]
    simp only [Option.bind_some]
    rw [sameS_eq s s (by omega) (by omega), decide_eq_true rfl]
    simp only [Option.bind_some]
    obtain ⟨b, h5, h6⟩ := rRightS_eq s hs
    rw [if_pos trivial, h5, h6.2 g3]
    rfl
theorem pure_pback (l : List Nd) (s : Sto) (hl : l.length ≤ 140737488351232) (hlen : s.Nodes.length ≤ 140737488351232) : m_cantonlaw07_PartBack l s = some true := by
  have up : m_cantonlaw07_PartBack_j1 s true l true = some true := rfl
  unfold m_cantonlaw07_PartBack
  rw [head7_t]
  obtain ⟨b, h1, h2⟩ := Great_eq l hl
  simp only [Option.bind_some]
  rw [h1]
  simp only [Option.bind_some]
  cases b with
  | true => rw [if_pos rfl]; exact up
  | false =>
    obtain ⟨g1, g2⟩ := h2 rfl
    rw [if_neg (by simp)]
    obtain ⟨c, h3, h4⟩ := great7_eq s hlen
    rw [h3]
    simp only [Option.bind_some]
    cases c with
    | true => exact up
    | false =>
      obtain ⟨k1, k2, k3⟩ := h4 rfl
      have j2 := pback_j2 s k1 k2
      unfold m_cantonlaw07_PartBack_j1
      rw [if_neg (by simp), Keep_eq l (by omega)]
      simp only [Option.bind_some]
      obtain ⟨d, h5, h6⟩ := rRight_eq l (by omega) g2
      have ln : (keepS l).Nodes.length = l.length := by simp [keepS]
      have lt : (keepS l).Turns.length ≤ l.length := by simp only [keepS, List.length_map]; exact List.length_filter_le _ _
      have hsk : SmS (keepS l) := by
        refine ⟨fun x hx => ?_, fun t ht => ?_, by omega, by omega⟩
        · obtain ⟨y, hy, rfl⟩ := List.mem_map.1 hx; exact g2 y hy
        · obtain ⟨y, hy, _, rfl⟩ := keep_iff.1 ht; exact g2 y hy
      cases d with
      | false =>
        obtain ⟨y, f1, _⟩ := tree_back (keepS l) hsk
        rw [f1, h5]
        simp only [Option.bind_some]
        rw [if_neg (by simp)]
        exact j2
      | true =>
        rw [tree_keep (h6.1 rfl), h5]
        simp only [Option.bind_some]
        rw [if_pos trivial, if_neg (by simp), Same_eq _ _ (by omega), decide_eq_true rfl]
        exact j2
end Go.Cb
