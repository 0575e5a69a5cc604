/- Pieces, plainly: the parts of an operation, one behind the other. -/
import Derived.Test.YtgdfoajophpblaaGreatDoorU7mp
set_option linter.unusedVariables false
set_option linter.unusedSimpArgs false
namespace Go.Cb
open Go.Proofs Go.RowKit

theorem parent_ok {p q : List UInt8} (h : parentS p = some q) : pathOk p = true ∧ pathOk q = true ∧ p ≠ [47] := by
  obtain ⟨ps, t, h1, h2, h3, _⟩ := parts_q h
  refine ⟨by unfold pathOk; rw [h1]; rfl, by unfold pathOk; rw [h3]; rfl, fun e => ?_⟩
  rw [e, parts_root] at h1
  simp at h1
theorem upP_ok (p : List UInt8) : pathOk (upP p) = true := by
  unfold upP
  cases h : parentS p with
  | none => rfl
  | some q => exact (parent_ok h).2.1
theorem part_may (o : Op1) (h : MayB o = true) : ∀ p ∈ partsOf o, mayP p = true := by
  obtain ⟨h1, ⟨ps, h2⟩, h3, h4, h5, h6⟩ := may_iff h
  have ok : pathOk (bl o.Path) = true := by unfold pathOk; rw [h2]; rfl
  have key1 : ∀ (k : Int) (d path data : ByteArray) (v w : Int) (t : Bool), pathOk (bl path) = true → (bl data).length ≤ 256 → (-1 ≤ v ∧ v ≤ 281474976710656) → (0 ≤ w ∧ w ≤ 1099511627776) → (1 ≤ k ∧ k ≤ 10) → bl d = (if k = 4 ∨ k = 9 ∨ k = 10 then bl path else upP (bl path)) → (k = 2 → bl path ≠ [47]) → mayP (⟨k, d, path, data, v, w, t⟩ : Pt1) = true := by
    intro k d path data v w t g1 g2 g3 g4 g5 g6 g7
    unfold mayP fieldsB dirOf
    simp only [g1, g2, g3, g4, g5, g6, decide_true, Bool.true_and, Bool.and_true, and_self]
    by_cases c : k = 2
    · have := g7 c
      simp [this]
    · simp [c]
  intro p hp
  unfold partsOf at hp
  have z : (bl (mk [])).length ≤ 256 := by simp [bl_mk]
  have v0 : (-1 : Int) ≤ 0 ∧ (0 : Int) ≤ 281474976710656 := by omega
  have w0 : (0 : Int) ≤ 0 ∧ (0 : Int) ≤ 1099511627776 := by omega
  have hd : bl (mk (upS (bl o.Path))) = upP (bl o.Path) := bl_mk _
  split at hp
  · rename_i c
    obtain ⟨q, hq⟩ := may_parent h c
    rcases List.mem_cons.1 hp with rfl | hp
    · exact key1 _ _ _ _ _ _ _ (by rw [hd]; exact upP_ok _) z v0 w0 (by omega) (by rw [if_neg (by omega)]; rw [bl_mk, hd]; rfl) (by omega)
    · rw [List.mem_singleton.1 hp]
      exact key1 _ _ _ _ _ _ _ ok h3 v0 h4 (by omega) (by rw [if_neg (by omega), hd]) (fun _ => (parent_ok hq).2.2)
  split at hp
  · rcases List.mem_cons.1 hp with rfl | hp
    · exact key1 _ _ _ _ _ _ _ ok z h5 w0 (by omega) (by rw [if_neg (by omega), hd]) (by omega)
    · rw [List.mem_singleton.1 hp]
      exact key1 _ _ _ _ _ _ _ ok z v0 w0 (by omega) (by rw [if_pos (by omega)]) (by omega)
  split at hp
  · rw [List.mem_singleton.1 hp]
    exact key1 _ _ _ _ _ _ _ ok h3 h5 w0 (by omega) (by rw [if_neg (by omega), hd]) (by omega)
  split at hp
  · rw [List.mem_singleton.1 hp]
    exact key1 _ _ _ _ _ _ _ ok z h5 w0 (by omega) (by rw [if_neg (by omega), hd]) (by omega)
  split at hp
  · rw [List.mem_singleton.1 hp]
    exact key1 _ _ _ _ _ _ _ ok z v0 w0 (by omega) (by rw [if_neg (by omega), hd]) (by omega)
  split at hp
  · rcases List.mem_cons.1 hp with rfl | hp
    · exact key1 _ _ _ _ _ _ _ ok z v0 w0 (by omega) (by rw [if_neg (by omega), hd]) (by omega)
    · rw [List.mem_singleton.1 hp]
      exact key1 _ _ _ _ _ _ _ ok z v0 w0 (by omega) (by rw [if_pos (by omega)]) (by omega)
  · rcases List.mem_cons.1 hp with rfl | hp
    · exact key1 _ _ _ _ _ _ _ ok z v0 w0 (by omega) (by rw [if_neg (by omega), hd]) (by omega)
    · rw [List.mem_singleton.1 hp]
      exact key1 _ _ _ _ _ _ _ ok z v0 h4 (by omega) (by rw [if_pos (by omega)]) (by omega)
/-! ### stores of what is made -/
theorem sto_ext {a b : Sto} (h1 : a.Nodes = b.Nodes) (h2 : a.Turns = b.Turns) : a = b := by
  cases a; cases b; simp only at h1 h2; rw [h1, h2]
theorem kn_upd (l : List Nd) (p : List UInt8) (f g : Nd → Nd) (h : ∀ x, kn (f x) = g (kn x)) : (upd l p f).map kn = upd (l.map kn) p g := by
  unfold upd
  rw [List.map_map, List.map_map]
  refine List.map_congr_left fun x _ => ?_
  simp only [Function.comp]
  rw [show isK p (kn x) = isK p x from rfl]
  split
  · exact h x
  · rfl
theorem upd_id (l : List Nd) (p : List UInt8) (g : Nd → Nd) (h : ∀ x, g (kn x) = kn x) : upd (l.map kn) p g = l.map kn := by
  unfold upd
  rw [List.map_map]
  refine List.map_congr_left fun x _ => ?_
  simp only [Function.comp]
  split
  · exact h x
  · rfl
theorem ins_kn (x : Nd) (l : List Nd) : (insS x l).map kn = insS (kn x) (l.map kn) := by
  unfold insS
  rw [List.map_append, List.map_cons, List.filter_map, List.filter_map]
  rfl
theorem keep_ins {l : List Nd} (T : Tree l) {n : Nd} (hn : n.Turn = 0) (hs : (insS n l).Pairwise (key · < key ·)) : keepS (insS n l) = ⟨insS (kn n) (keepS l).Nodes, (keepS l).Turns⟩ := by
  refine sto_ext (ins_kn n l) (sorted_ext tkey (keep_tsorted hs) (keep_tsorted T.sorted) fun t => ?_)
  rw [keep_iff, keep_iff]
  constructor
  · rintro ⟨x, h1, h2, h3⟩
    rcases mem_ins.1 h1 with rfl | h1
    · exact absurd hn h2
    · exact ⟨x, h1, h2, h3⟩
  · rintro ⟨x, h1, h2, h3⟩
    exact ⟨x, mem_ins.2 (.inr h1), h2, h3⟩
theorem keep_turnF {l : List Nd} (T : Tree l) {u : Nd} (hu : u ∈ l) : keepS (upd l (key u) turnF) = ⟨(keepS l).Nodes, setTurn (keepS l).Turns (key u) (u.Turn + 1)⟩ := by
  have ho := T.ok u hu
  unfold NodeOk at ho
  refine sto_ext ?_ (sorted_ext tkey (keep_tsorted (upd_sorted T.sorted _ fun z => rfl)) (setTurn_sorted (keep_tsorted T.sorted) _ _) fun t => ?_)
  · show (upd l (key u) turnF).map kn = l.map kn
    rw [kn_upd l (key u) turnF id (fun x => rfl), upd_id _ _ _ (fun x => rfl)]
  · rw [keep_iff, setTurn_iff, keep_iff]
    constructor
    · rintro ⟨x, h1, h2, h3⟩
      obtain ⟨z, hz, rfl⟩ := mem_upd.1 h1
      by_cases c : isK (key u) z = true
      · rw [if_pos c] at h3
        have : z = u := sorted_inj T.sorted hz hu (by simpa [isK] using c)
        subst this
        refine .inr ⟨?_, by omega⟩
        rw [h3]
        show (⟨z.Path, z.Turn + 1⟩ : Tn) = _
        rw [show mk (key z) = z.Path from mk_bl _]
      · rw [if_neg c] at h2 h3
        refine .inl ⟨⟨z, hz, h2, h3⟩, ?_⟩
        rw [h3]
        have c' : ¬ key z = key u := by simpa [isK] using c
        exact c'
    · rintro (⟨⟨x, h1, h2, h3⟩, h4⟩ | ⟨h1, h2⟩)
      · refine ⟨x, mem_upd.2 ⟨x, h1, ?_⟩, h2, h3⟩
        rw [h3] at h4
        have h5 : ¬ key x = key u := h4
        rw [if_neg (by simpa [isK] using h5)]
      · refine ⟨turnF u, mem_upd.2 ⟨u, hu, by rw [if_pos (by simp [isK])]⟩, by show u.Turn + 1 ≠ 0; omega, ?_⟩
        rw [h1]
        show (⟨mk (key u), u.Turn + 1⟩ : Tn) = ⟨u.Path, u.Turn + 1⟩
        rw [show mk (key u) = u.Path from mk_bl _]
theorem keep_set {l : List Nd} (T : Tree l) (p : List UInt8) (o : Op1) (g : Nd → Nd) (h : ∀ x, kn (setF o x) = g (kn x)) : keepS (upd l p (setF o)) = ⟨upd (keepS l).Nodes p g, (keepS l).Turns⟩ := by
  refine sto_ext (kn_upd l p _ g h) (sorted_ext tkey (keep_tsorted (upd_sorted T.sorted _ fun z => rfl)) (keep_tsorted T.sorted) fun t => ?_)
  rw [keep_iff, keep_iff]
  constructor
  · rintro ⟨x, h1, h2, h3⟩
    obtain ⟨z, hz, rfl⟩ := mem_upd.1 h1
    refine ⟨z, hz, ?_, ?_⟩
    · split at h2
      · exact h2
      · exact h2
    · rw [h3]; split <;> rfl
  · rintro ⟨x, h1, h2, h3⟩
    refine ⟨_, mem_upd.2 ⟨x, h1, rfl⟩, ?_, ?_⟩
    · split
      · exact h2
      · exact h2
    · rw [h3]; split <;> rfl
theorem keep_del {l : List Nd} (T : Tree l) (p : List UInt8) : keepS (l.filter (fun y => !isK p y)) = ⟨(keepS l).Nodes.filter (fun y => !isK p y), setTurn (keepS l).Turns p 0⟩ := by
  refine sto_ext (keep_filter l _ fun x => rfl).symm (sorted_ext tkey (keep_tsorted (T.sorted.filter _)) (setTurn_sorted (keep_tsorted T.sorted) p 0) fun t => ?_)
  rw [keep_iff, setTurn_iff, keep_iff]
  constructor
  · rintro ⟨x, h1, h2, h3⟩
    obtain ⟨g1, g2⟩ := List.mem_filter.1 h1
    refine .inl ⟨⟨x, g1, h2, h3⟩, ?_⟩
    rw [h3]
    have g3 : ¬ key x = p := by simpa [isK] using g2
    exact g3
  · rintro (⟨⟨x, h1, h2, h3⟩, h4⟩ | ⟨h1, h2⟩)
    · refine ⟨x, List.mem_filter.2 ⟨h1, ?_⟩, h2, h3⟩
      rw [h3] at h4
      have h5 : ¬ key x = p := h4
      simpa [isK] using h5
    · exact absurd rfl h2
theorem keep_own {l : List Nd} (T : Tree l) (p : List UInt8) (w : Int) (hw : w ≠ 0) : keepS (l.filter (fun y => !ownB p w y)) = ⟨(keepS l).Nodes.filter (fun y => !ownB p w y), (keepS l).Turns⟩ := by
  refine sto_ext (keep_filter l _ fun x => rfl).symm (sorted_ext tkey (keep_tsorted (T.sorted.filter _)) (keep_tsorted T.sorted) fun t => ?_)
  rw [keep_iff, keep_iff]
  constructor
  · rintro ⟨x, h1, h2, h3⟩
    exact ⟨x, (List.mem_filter.1 h1).1, h2, h3⟩
  · rintro ⟨x, h1, h2, h3⟩
    refine ⟨x, List.mem_filter.2 ⟨h1, ?_⟩, h2, h3⟩
    cases c : ownB p w x with
    | false => rfl
    | true =>
      unfold ownB at c
      simp only [Bool.and_eq_true, beq_iff_eq] at c
      have := T.ok x h1
      unfold NodeOk at this
      exact absurd (this.2.2.2.2.2.2.2 (by omega)) h2
end Go.Cb
