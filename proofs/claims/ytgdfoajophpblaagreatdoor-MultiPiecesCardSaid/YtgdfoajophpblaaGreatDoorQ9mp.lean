/- Nodes, plainly: what an operation makes of a tree is a tree. -/
import Derived.Test.YtgdfoajophpblaaGreatDoorQ8mp
set_option linter.unusedVariables false
set_option linter.unusedSimpArgs false
namespace Go.Cb
open Go.Proofs Go.RowKit

theorem mem_ins {x y : Nd} {l : List Nd} : y ∈ insS x l ↔ y = x ∨ y ∈ l := by
  unfold insS
  rw [List.mem_append, List.mem_cons, List.mem_filter, List.mem_filter]
  constructor
  · rintro (h | h | h)
    · exact .inr h.1
    · exact .inl h
    · exact .inr h.1
  · rintro (h | h)
    · exact .inr (.inl h)
    · cases hc : ltB (key x) y with
      | true => exact .inl ⟨h, rfl⟩
      | false => exact .inr (.inr ⟨h, rfl⟩)
theorem len_split {α : Type} (l : List α) (f : α → Bool) : (l.filter f).length + (l.filter (fun y => !f y)).length = l.length := by
  induction l with
  | nil => rfl
  | cons x l ih =>
    rw [List.filter_cons, List.filter_cons]
    cases f x <;> simp <;> omega
theorem ins_len (x : Nd) (l : List Nd) : (insS x l).length = l.length + 1 := by
  unfold insS
  have := len_split l (ltB (key x))
  rw [List.length_append, List.length_cons]; omega
theorem root_le {l : List Nd} (T : Tree l) {x : Nd} (hx : x ∈ l) : key x = [47] ∨ [47] < key x := by
  obtain ⟨r, t, rfl, hr, _⟩ := T.root
  rcases List.mem_cons.1 hx with rfl | hx
  · exact .inl hr
  · exact .inr (hr ▸ (List.pairwise_cons.1 T.sorted).1 x hx)
theorem below_root {l : List Nd} (T : Tree l) {u : Nd} (hu : u ∈ l) {p : List UInt8} (h : key u < p) : [47] < p := by
  rcases root_le T hu with e | e
  · rw [← e]; exact h
  · exact kl_trans e h
theorem Tree_ins {l : List Nd} (T : Tree l) {x : Nd} (hx : NodeOk x) (hn : ∀ y ∈ l, key y ≠ key x) {q : List UInt8} (hq : parentS (key x) = some q) {u : Nd} (hu : u ∈ l) (hk : key u = q) (ho : u.Owner = 0) (h5 : l.length < 512) : Tree (insS x l) := by
  have hr47 : [47] < key x := below_root T hu (hk ▸ parent_lt hq)
  refine ⟨?_, by rw [ins_len]; omega, ?_, ?_, ?_⟩
  · obtain ⟨r, t, rfl, hr, hro⟩ := T.root
    refine ⟨r, t.filter (ltB (key x)) ++ x :: (r :: t).filter (fun y => !ltB (key x) y), ?_, hr, hro⟩
    unfold insS
    rw [List.filter_cons, if_pos (by simpa [ltB, hr] using hr47)]
    rfl
  · intro y hy
    rcases mem_ins.1 hy with rfl | hy
    · exact hx
    · exact T.ok y hy
  · unfold insS
    rw [List.pairwise_append]
    refine ⟨T.sorted.filter _, ?_, ?_⟩
    · rw [List.pairwise_cons]
      refine ⟨fun y hy => ?_, T.sorted.filter _⟩
      obtain ⟨h1, h2⟩ := List.mem_filter.1 hy
      have h3 : ¬ key y < key x := by simpa [ltB] using h2
      rcases kl_tri (key x) (key y) with c | c | c
      · exact c
      · exact absurd c.symm (hn y h1)
      · exact absurd c h3
    · intro y hy z hz
      have h1 : key y < key x := by simpa [ltB] using (List.mem_filter.1 hy).2
      rcases List.mem_cons.1 hz with rfl | hz
      · exact h1
      · obtain ⟨h2, h3⟩ := List.mem_filter.1 hz
        have h3 : ¬ key z < key x := by simpa [ltB] using h3
        rcases kl_tri (key x) (key z) with c | c | c
        · exact kl_trans h1 c
        · exact c ▸ h1
        · exact absurd c h3
  · intro y hy hne
    rcases mem_ins.1 hy with rfl | hy
    · exact ⟨q, hq, u, mem_ins.2 (.inr hu), hk, ho⟩
    · obtain ⟨q', h1, u', h2, h3, h4⟩ := T.up y hy hne
      exact ⟨q', h1, u', mem_ins.2 (.inr h2), h3, h4⟩
theorem mem_upd {l : List Nd} {p : List UInt8} {f : Nd → Nd} {y : Nd} : y ∈ upd l p f ↔ ∃ z ∈ l, y = if isK p z then f z else z := by
  unfold upd
  rw [List.mem_map]
  exact ⟨fun ⟨z, h1, h2⟩ => ⟨z, h1, h2.symm⟩, fun ⟨z, h1, h2⟩ => ⟨z, h1, h2.symm⟩⟩
theorem Tree_upd {l : List Nd} (T : Tree l) (p : List UInt8) (f : Nd → Nd) (hk : ∀ z, key (f z) = key z) (ho : ∀ z, (f z).Owner = z.Owner) (hok : ∀ z ∈ l, key z = p → NodeOk (f z)) : Tree (upd l p f) := by
  have uo : ∀ z, (if isK p z then f z else z : Nd).Owner = z.Owner := fun z => by split <;> simp [ho]
  refine ⟨?_, by rw [upd_len]; exact T.len, ?_, ?_, ?_⟩
  · obtain ⟨r, t, rfl, hr, hro⟩ := T.root
    exact ⟨_, _, rfl, by rw [upd_key hk, hr], by rw [uo, hro]⟩
  · intro y hy
    obtain ⟨z, hz, rfl⟩ := mem_upd.1 hy
    split
    · rename_i h; exact hok z hz (by simpa [isK] using h)
    · exact T.ok z hz
  · unfold upd
    rw [List.pairwise_map]
    exact T.sorted.imp fun {a b} h => by rw [upd_key hk, upd_key hk]; exact h
  · intro y hy hne
    obtain ⟨z, hz, rfl⟩ := mem_upd.1 hy
    rw [upd_key hk] at hne ⊢
    obtain ⟨q', h1, u', h2, h3, h4⟩ := T.up z hz hne
    exact ⟨q', h1, _, mem_upd.2 ⟨u', h2, rfl⟩, by rw [upd_key hk, h3], by rw [uo, h4]⟩
theorem Tree_filter {l : List Nd} (T : Tree l) (g : Nd → Bool) (h0 : ∀ x ∈ l, key x = [47] → g x = true) (h1 : ∀ x ∈ l, g x = true → ∀ u ∈ l, parentS (key x) = some (key u) → u.Owner = 0 → g u = true) : Tree (l.filter g) := by
  refine ⟨?_, Nat.le_trans (List.length_filter_le _ _) T.len, fun x hx => T.ok x (List.mem_filter.1 hx).1, T.sorted.filter _, fun x hx hne => ?_⟩
  · obtain ⟨r, t, rfl, hr, hro⟩ := T.root
    refine ⟨r, t.filter g, ?_, hr, hro⟩
    rw [List.filter_cons, if_pos (h0 r (by simp) hr)]
  · obtain ⟨hx, hg⟩ := List.mem_filter.1 hx
    obtain ⟨q, hq, u, hu, hk, ho⟩ := T.up x hx hne
    exact ⟨q, hq, u, List.mem_filter.2 ⟨hu, h1 x hx hg u hu (by rw [hk]; exact hq) ho⟩, hk, ho⟩
/-! ### what may be, of an operation -/
theorem may_iff {o : Op1} (h : MayB o = true) : (1 ≤ o.Kind ∧ o.Kind ≤ 7) ∧ (∃ ps, parts (bl o.Path) = some ps) ∧ (bl o.Data).length ≤ 256 ∧ (0 ≤ o.Owner ∧ o.Owner ≤ 1099511627776) ∧ (-1 ≤ o.Version ∧ o.Version ≤ 281474976710656) ∧ kindOk o.Kind (decide (bl o.Path = [47])) (!decide (bl o.Data = [])) (!decide (o.Version = 0)) (!decide (o.Owner = 0)) o.Turns = true := by
  unfold MayB at h
  simp only [Bool.and_eq_true, decide_eq_true_eq] at h
  obtain ⟨⟨⟨⟨⟨a, b⟩, c⟩, d⟩, e⟩, f⟩ := h
  refine ⟨a, ?_, c, d, e, f⟩
  unfold pathOk at b
  exact Option.isSome_iff_exists.1 b
theorem parts_q {p q : List UInt8} (h : parentS p = some q) : ∃ ps t, parts p = some (ps ++ [t]) ∧ q = joinP ps ∧ parts q = some ps ∧ lastS p = t ∧ partOk t = true ∧ ps.all partOk = true ∧ ps.length ≤ 5 := by
  obtain ⟨ps, t, h1, h2, h3⟩ := parent_parts h
  obtain ⟨_, h5, h6⟩ := (parts_iff _ _).1 h1
  refine ⟨ps, t, h1, h2, h3, ?_, ?_, ?_, ?_⟩
  · unfold lastS; rw [h1]; simp
  · simp at h5; exact h5.2
  · simp at h5 ⊢; exact h5.1
  · simp at h6; omega
theorem join_parent {q : List UInt8} {ps : List (List UInt8)} (hq : parts q = some ps) (h5 : ps.length ≤ 5) {t : List UInt8} (ht : partOk t = true) : joinS q t = some (joinP (ps ++ [t])) ∧ parentS (joinP (ps ++ [t])) = some q ∧ lastS (joinP (ps ++ [t])) = t ∧ parts (joinP (ps ++ [t])) = some (ps ++ [t]) := by
  obtain ⟨h1, h2, h3⟩ := (parts_iff _ _).1 hq
  have hp : parts (joinP (ps ++ [t])) = some (ps ++ [t]) := (parts_iff _ _).2 ⟨rfl, by simp at h2 ⊢; exact ⟨h2, ht⟩, by simp; omega⟩
  refine ⟨?_, ?_, ?_, hp⟩
  · unfold joinS; rw [hq]; simp only; rw [if_pos ⟨ht, by omega⟩]
  · unfold parentS; rw [hp]; simp only; rw [if_neg (by simp), List.dropLast_concat, h1]
  · unfold lastS; rw [hp]; simp
/-- the path of what is created lies in the parent. -/
theorem name_parent {o : Op1} {q p : List UInt8} (hq : parentS (bl o.Path) = some q) {t : Int} (hn : nameS o q t = some p) : parentS p = some q ∧ (o.Turns = true → 0 ≤ t ∧ t ≤ 9999 ∧ ∃ ps, parts q = some ps ∧ p = joinP (ps ++ [lastS (bl o.Path) ++ digits t.toNat])) := by
  unfold nameS at hn
  cases hT : o.Turns with
  | false =>
    rw [hT] at hn
    simp only [Bool.false_eq_true, if_false, Option.some.injEq] at hn
    subst hn
    exact ⟨hq, fun h => by cases h⟩
  | true =>
    rw [hT] at hn
    simp only [if_true] at hn
    obtain ⟨s, hs, rfl⟩ := Option.map_eq_some_iff.1 hn
    obtain ⟨h1, h2, h3, h4⟩ := numS_ok hs
    obtain ⟨ps, t', _, _, h5, _, _, _, h6⟩ := parts_q hq
    obtain ⟨j1, j2, _, _⟩ := join_parent h5 h6 h1
    rw [j1]
    exact ⟨j2, fun _ => ⟨h3, h4, ps, h5, by rw [h2]; rfl⟩⟩
theorem Tree_create {l : List Nd} (T : Tree l) {o : Op1} (hm : MayB o = true) (hk : o.Kind = 1) {q : List UInt8} (hq : parentS (bl o.Path) = some q) : Tree (createS l o q).1 := by
  have hmi := may_iff hm
  unfold createS
  cases hf : l.find? (isK q) with
  | none => exact T
  | some u =>
    obtain ⟨hu, hku⟩ := find_key hf
    simp only
    split
    · exact T
    · rename_i ho
      have ho : u.Owner = 0 := by simpa using ho
      cases hn : nameS o q u.Turn with
      | none => exact T
      | some p =>
        simp only
        split
        · exact T
        · rename_i hp
          have hp : l.find? (isK p) = none := by simpa using hp
          split
          · exact T
          · rename_i h5
            obtain ⟨hpq, hturn⟩ := name_parent hq hn
            have hlt : l.length < 512 := by have := T.len; omega
            have T' : Tree (if o.Turns = true then upd l q turnF else l) := by
              split
              · rename_i hT
                refine Tree_upd T q turnF (fun _ => rfl) (fun _ => rfl) fun z hz hkz => ?_
                have hzu : z = u := sorted_inj T.sorted hz hu (by rw [hkz, hku])
                subst hzu
                have hok := T.ok z hz
                obtain ⟨t0, t1, _⟩ := hturn hT
                unfold NodeOk at hok ⊢
                refine ⟨hok.1, hok.2.1, hok.2.2.1, ?_, ?_, hok.2.2.2.2.2.1, hok.2.2.2.2.2.2.1, fun h => absurd ho h⟩
                · show 0 ≤ z.Turn + 1; omega
                · show z.Turn + 1 ≤ 10000; omega
              · exact T
            have hmem : ∃ u' ∈ (if o.Turns = true then upd l q turnF else l), key u' = q ∧ u'.Owner = 0 := by
              split
              · exact ⟨_, mem_upd.2 ⟨u, hu, rfl⟩, by rw [upd_key (f := turnF) (fun _ => rfl), hku], by split <;> exact ho⟩
              · exact ⟨u, hu, hku, ho⟩
            obtain ⟨u', hu', hku', ho'⟩ := hmem
            refine Tree_ins T' ?_ ?_ hpq hu' hku' ho' ?_
            · refine ⟨hmi.2.2.1, (by show (0 : Int) ≤ 0; decide), (by show (0 : Int) ≤ 281474976710656; decide), (by show (0 : Int) ≤ 0; decide), (by show (0 : Int) ≤ 10000; decide), hmi.2.2.2.1.1, hmi.2.2.2.1.2, fun _ => rfl⟩
            · intro y hy
              show key y ≠ p
              split at hy
              · obtain ⟨z, hz, rfl⟩ := mem_upd.1 hy
                rw [upd_key (f := turnF) (fun _ => rfl)]
                exact find_no.1 hp z hz
              · exact find_no.1 hp y hy
            · split
              · rw [upd_len]; exact hlt
              · exact hlt
theorem Tree_do {l : List Nd} (T : Tree l) {o : Op1} (hm : MayB o = true) (hk : o.Kind ≠ 1) {x : Nd} (hx : x ∈ l) (hkx : key x = bl o.Path) : Tree (doS l o x).1 := by
  have hmi := may_iff hm
  unfold doS
  split
  · rename_i k2
    split
    · exact T
    · rename_i hany
      refine Tree_filter T _ (fun y hy hk => ?_) (fun y hy _ u hu hpu ho => ?_)
      · have hne : bl o.Path ≠ [47] := by
          have := hmi.2.2.2.2.2
          rw [k2] at this
          intro e
          simp [kindOk, e] at this
        simp only [isK, hkx, hk, Bool.not_eq_true', decide_eq_false_iff_not]
        exact fun e => hne e.symm
      · simp only [isK, Bool.not_eq_true', decide_eq_false_iff_not]
        intro e
        apply hany
        rw [List.any_eq_true]
        exact ⟨y, hy, by simp [childB, hpu, e]⟩
  · split
    · split
      · exact T
      · rename_i hv
        refine Tree_upd T _ (setF o) (fun _ => rfl) (fun _ => rfl) fun z hz hkz => ?_
        have hzx : z = x := sorted_inj T.sorted hz hx hkz
        subst hzx
        have hok := T.ok z hz
        unfold NodeOk at hok ⊢
        refine ⟨hmi.2.2.1, ?_, ?_, hok.2.2.2.1, hok.2.2.2.2.1, hok.2.2.2.2.2.1, hok.2.2.2.2.2.2.1, hok.2.2.2.2.2.2.2⟩
        · show 0 ≤ z.Version + 1; omega
        · show z.Version + 1 ≤ _; omega
    · split
      · exact T
      · split
        · exact T
        · split
          · exact T
          · rename_i k2 k3 k4 k5 k6
            have k7 : o.Kind = 7 := by have := hmi.1; omega
            have hw : o.Owner ≠ 0 := by
              have := hmi.2.2.2.2.2
              rw [k7] at this
              intro e
              simp [kindOk, e] at this
            refine Tree_filter T _ (fun y hy hk => ?_) (fun y hy _ u hu hpu ho => ?_)
            · simp only [ownB, childB, hk]
              rw [show parentS [47] = none from rfl]; simp
            · simp only [ownB, ho]
              rw [show ((0 : Int) == o.Owner) = false from by simp; exact fun e => hw e.symm]; rfl
theorem Tree_apply {l : List Nd} (T : Tree l) {o : Op1} (hm : MayB o = true) : Tree (applyS l o).1 := by
  unfold applyS
  split
  · rename_i hk
    obtain ⟨q, hq⟩ := may_parent hm hk
    rw [hq]
    exact Tree_create T hm hk hq
  · rename_i hk
    cases hf : l.find? (isK (bl o.Path)) with
    | none => exact T
    | some x =>
      simp only
      split
      · exact T
      · exact Tree_do T hm hk (find_key hf).1 (find_key hf).2
end Go.Cb
