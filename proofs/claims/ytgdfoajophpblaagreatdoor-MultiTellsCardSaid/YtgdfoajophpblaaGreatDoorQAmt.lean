/- Nodes, plainly: the document's Create, May and Apply. -/
import Derived.Test.YtgdfoajophpblaaGreatDoorQRmt
set_option linter.unusedVariables false
set_option linter.unusedSimpArgs false
namespace Go.Cb
open Go.Proofs Go.RowKit

theorem upd_sorted {l : List Nd} (hs : l.Pairwise (key · < key ·)) (p : List UInt8) {f : Nd → Nd} (hf : ∀ z, key (f z) = key z) : (upd l p f).Pairwise (key · < key ·) := by
  unfold upd
  rw [List.pairwise_map]
  exact hs.imp fun {a b} h => by rw [upd_key hf, upd_key hf]; exact h
theorem find_none_ne {l : List Nd} {p : List UInt8} (h : (l.find? (isK p)).isSome = false) : ∀ y ∈ l, key y ≠ p := by
  refine find_no.1 ?_
  cases hf : l.find? (isK p) with
  | none => rfl
  | some x => rw [hf] at h; cases h
theorem rcreate_j1 (l : List Nd) (o : Op1) (p : List UInt8) (b : Bool) (hl : l.length ≤ 1000000) (hs : l.Pairwise (key · < key ·)) (hn : ∀ y ∈ l, key y ≠ p) : m_cantonref06_create_j1 (mk p, b) o l = some (insS ⟨mk p, o.Data, 0, 0, o.Owner⟩ l, { res 0 with Path := mk p }) := by
  unfold m_cantonref06_create_j1
  rw [Put_eq l _ hl hs, put_new (x := ⟨mk p, o.Data, 0, 0, o.Owner⟩) (fun y hy => hn y hy)]
  rfl
theorem rcreate_eq (l : List Nd) (o : Op1) (q : List UInt8) (T : Tree l) (hp : (bl o.Path).length ≤ 100000000) (hq : parentS (bl o.Path) = some q) : m_cantonref06_create l o = some (createS l o q) := by
  unfold m_cantonref06_create createS
  have hl := T.len
  rw [rParent_eq _ hp, hq]
  simp only [Option.bind_some, os2]
  rw [rFind_eq l _ (by omega), bl_mk]
  simp only [Option.bind_some]
  cases hf : l.find? (isK q) with
  | none => rw [fnd_none hf, if_pos (by rfl)]; rfl
  | some u =>
    have ⟨hu, hk⟩ := find_key hf
    have hok := T.ok _ hu
    unfold NodeOk at hok
    rw [fnd_some hf, if_neg (by simp)]
    by_cases ho : u.Owner = 0
    · rw [if_neg (by simpa using ho)]
      simp only [ho, ne_eq, not_true_eq_false, if_false]
      rw [show m_cantonref06_Named (⟨o.Kind, o.Path, o.Data, o.Version, o.Owner, o.Turns⟩ : Op1) u.Turn = _ from rNamed_eq o q u.Turn hp hq]
      simp only [Option.bind_some]
      cases hn : nameS o q u.Turn with
      | none => rw [if_pos (by rfl)]; rfl
      | some p =>
        rw [show os2 (some p) = (mk p, true) from rfl, if_neg (by simp), rFind_eq l _ (by omega), bl_mk]
        simp only [Option.bind_some]
        cases hf2 : (l.find? (isK p)).isSome with
        | true =>
          obtain ⟨x, hx⟩ := Option.isSome_iff_exists.1 hf2
          rw [fnd_some hx, if_pos (by rfl), if_pos rfl]; rfl
        | false =>
          have hno := find_none_ne hf2
          rw [fnd_none (find_no.2 hno)]
          simp only [Bool.false_eq_true, if_false]
          by_cases h5 : l.length = 512
          · rw [if_pos (by simp; omega), if_pos h5]; rfl
          · rw [if_neg (by simp; omega), if_neg h5]
            cases hT : o.Turns with
            | false => rw [if_neg (by simp), if_neg (by simp), rcreate_j1 l o p _ (by omega) T.sorted hno]
            | true =>
              have e : (⟨u.Path, u.Data, u.Version, IntKind.i64.wrap (u.Turn + 1), 0⟩ : Nd) = turnF u := by rw [w64 (by omega) (by omega), ← ho]; rfl
              rw [if_pos rfl, if_pos rfl, e, Put_eq l _ (by omega) T.sorted, put_upd T.sorted hu turnF rfl rfl, hk]
              simp only [Option.bind_some]
              rw [rcreate_j1 _ o p _ (by rw [upd_len]; omega) (upd_sorted T.sorted q (f := turnF) (fun _ => rfl)) fun y hy => by
                obtain ⟨z, hz, rfl⟩ := mem_upd.1 hy
                rw [upd_key (f := turnF) (fun _ => rfl)]
                exact hno z hz]
    · rw [if_pos (by simpa using ho)]
      simp only [ho, ne_eq, not_false_eq_true, if_true]; rfl
/-! ### May -/
theorem rRight1 (s : ByteArray) (hp : (bl s).length ≤ 100000000) : m_cantonref01_Right s = some (pathOk (bl s)) := by
  unfold m_cantonref01_Right
  rw [rSplit_eq s hp]
  simp only [Option.bind_some]
  unfold spl pathOk
  cases parts (bl s) <;> rfl
theorem may_false {o : Op1} (h : ¬ ((pathOk (bl o.Path) = true ∧ (bl o.Data).length ≤ 256) ∧ 0 ≤ o.Owner ∧ o.Owner ≤ 1099511627776)) : MayB o = false := by
  unfold MayB
  rw [Bool.eq_false_iff]
  intro h'
  simp only [Bool.and_eq_true, decide_eq_true_eq] at h'
  exact h ⟨⟨h'.1.1.1.1.2, h'.1.1.1.2⟩, h'.1.1.2⟩
theorem may_kind {o : Op1} (h1 : pathOk (bl o.Path) = true) (h2 : (bl o.Data).length ≤ 256) (h3 : 0 ≤ o.Owner ∧ o.Owner ≤ 1099511627776) : MayB o = (decide (1 ≤ o.Kind ∧ o.Kind ≤ 7) && decide (-1 ≤ o.Version ∧ o.Version ≤ 281474976710656) && kindOk o.Kind (decide (bl o.Path = [47])) (!decide (bl o.Data = [])) (!decide (o.Version = 0)) (!decide (o.Owner = 0)) o.Turns) := by
  unfold MayB
  rw [h1, decide_eq_true h2, decide_eq_true h3]
  simp
theorem sEq_root (s : ByteArray) : sEq s (ByteArray.mk #[47]) = decide (bl s = [47]) := sEq_bl _ _
theorem sEq_emp (s : ByteArray) : sEq s (ByteArray.mk #[]) = decide (bl s = []) := sEq_bl _ _
theorem rMay_j2 (o : Op1) (v : Bool) (hv : v = decide (-1 ≤ o.Version ∧ o.Version ≤ 281474976710656)) (h1 : pathOk (bl o.Path) = true) (h2 : (bl o.Data).length ≤ 256) (h3 : 0 ≤ o.Owner ∧ o.Owner ≤ 1099511627776) : m_cantonref06_May_j2 o v false = some (MayB o) := by
  rw [may_kind h1 h2 h3]
  unfold m_cantonref06_May_j2 m_cantonref06_May_j3
  simp only [sEq_root, sEq_emp]
  have kk : o.Kind = 1 ∨ o.Kind = 2 ∨ o.Kind = 3 ∨ o.Kind = 4 ∨ o.Kind = 5 ∨ o.Kind = 6 ∨ o.Kind = 7 ∨ (o.Kind < 1 ∨ 7 < o.Kind) := by omega
  have ev : (o.Version == 0) = decide (o.Version = 0) := rfl
  have ew : (o.Owner == 0) = decide (o.Owner = 0) := rfl
  rw [ev, ew]
  have v0 : o.Version = 0 → -1 ≤ o.Version ∧ o.Version ≤ 281474976710656 := fun h => by omega
  have w0 : decide (o.Owner > 0) = !decide (o.Owner = 0) := by rw [Bool.eq_iff_iff]; simp; omega
  rw [w0, ← hv]
  rcases kk with c | c | c | c | c | c | c | c
  case inr.inr.inr.inr.inr.inr.inr =>
    have d1 : (o.Kind == 1) = false := by simp; omega
    have d2 : (o.Kind == 2) = false := by simp; omega
    have d3 : (o.Kind == 3) = false := by simp; omega
    have d4 : (o.Kind == 4) = false := by simp; omega
    have d5 : (o.Kind == 5) = false := by simp; omega
    have d6 : (o.Kind == 6) = false := by simp; omega
    have d7 : (o.Kind == 7) = false := by simp; omega
    rw [d1, d2, d3, d4, d5, d6, d7, decide_eq_false (p := 1 ≤ o.Kind ∧ o.Kind ≤ 7) (by omega)]
    simp
  all_goals
    simp only [c, kindOk]
    by_cases c0 : o.Version = 0
    · have hv1 : v = true := by rw [hv]; simpa using v0 c0
      rw [hv1]
      simp only [c0]
      cases o.Turns <;> cases decide (bl o.Path = [47]) <;> cases decide (bl o.Data = []) <;> cases decide (o.Owner = 0) <;> rfl
    · rw [decide_eq_false c0]
      cases v <;> cases o.Turns <;> cases decide (bl o.Path = [47]) <;> cases decide (bl o.Data = []) <;> cases decide (o.Owner = 0) <;> rfl
theorem rMay_eq (o : Op1) (hp : (bl o.Path).length ≤ 100000000) : m_cantonref06_May o = some (MayB o) := by
  have key1 : ∀ v, v = decide (-1 ≤ o.Version ∧ o.Version ≤ 281474976710656) → m_cantonref06_May_j1 o v = some (MayB o) := by
    intro v hv
    unfold m_cantonref06_May_j1
    rw [rRight1 _ hp]
    simp only [Option.bind_some]
    have zd := bl_size o.Data
    cases h1 : pathOk (bl o.Path) with
    | false => rw [if_pos (by rfl), may_false (by simp [h1])]; rfl
    | true =>
      rw [if_neg (by simp)]
      by_cases h2 : (bl o.Data).length ≤ 256
      · rw [if_neg (by simp; omega)]
        by_cases h3 : o.Owner < 0
        · rw [if_pos (by simpa using h3), may_false (by omega)]; rfl
        · rw [if_neg (by simpa using h3)]
          by_cases h4 : o.Owner > 1099511627776
          · rw [decide_eq_true h4, may_false (by omega)]; rfl
          · rw [decide_eq_false h4]
            exact rMay_j2 o v hv h1 h2 (by omega)
      · rw [if_pos (by simp; omega), may_false (by omega)]; rfl
  unfold m_cantonref06_May
  by_cases h : o.Version ≥ -1
  · rw [if_pos (by simpa using h)]
    refine key1 _ ?_
    rw [Bool.eq_iff_iff]
    simp
    omega
  · rw [if_neg (by simpa using h)]
    exact key1 _ (decide_eq_false (by omega)).symm
/-! ### Apply -/
theorem List_l1 (o : Op1) (hk : o.Kind = 6) (l c : List Nd) (hc : c.length ≤ 1000000) (sm : Sm c) : ∀ (k i : Nat) (acc : List ByteArray), i ≤ c.length → c.length + 1 ≤ i + k → acc.length ≤ i → m_cantonref06_Apply_l1 c o k l acc (i : Int) = some (l, { res 0 with Names := acc ++ (c.drop i).map lastN })
  | 0, i, acc, _, h, _ => by omega
  | k + 1, i, acc, h0, h, ha => by
    unfold m_cantonref06_Apply_l1 m_cantonref06_Apply_j4
    by_cases hi : i < c.length
    · rw [if_pos (by simpa using hi), if_pos (by simpa using hk), idx_lt hi]
      simp only [Option.bind_some]
      rw [rLast_eq _ (sm _ (List.getElem_mem hi))]
      simp only [Option.bind_some]
      rw [ck_b (by simp [LIM]; omega), inc1 (by omega), List_l1 o hk l c hc sm k (i + 1) _ (by omega) (by omega) (by simp; omega), List.drop_eq_getElem_cons hi, List.map_cons, show mk (lastS (bl (c[i]).Path)) = lastN c[i] from rfl, List.append_assoc]
      rfl
    · rw [if_neg (by simpa using hi), List.drop_eq_nil_of_le (by omega), List.map_nil, List.append_nil]
      rfl
def hasOwn (w : Int) (c : List Nd) (y : Nd) : Bool := c.any fun z => (z.Owner == w) && isK (key z) y
theorem Sweep_l1 (o : Op1) (hk : o.Kind = 7) (c : List Nd) (hc : c.length ≤ 1000000) (sm : Sm c) : ∀ (k i : Nat) (l : List Nd) (acc : List ByteArray), l.length ≤ 1000000 → i ≤ c.length → c.length + 1 ≤ i + k → acc.length ≤ i → m_cantonref06_Apply_l1 c o k l acc (i : Int) = some (l.filter (fun y => !hasOwn o.Owner (c.drop i) y), { res 0 with Names := acc ++ ((c.drop i).filter (fun z => z.Owner == o.Owner)).map lastN })
  | 0, i, l, acc, _, _, h, _ => by omega
  | k + 1, i, l, acc, hl, h0, h, ha => by
    unfold m_cantonref06_Apply_l1 m_cantonref06_Apply_j4
    by_cases hi : i < c.length
    · rw [if_pos (by simpa using hi), if_neg (by simp [hk]), idx_lt hi]
      simp only [Option.bind_some]
      rw [List.drop_eq_getElem_cons hi, List.filter_cons]
      cases ho : (c[i]).Owner == o.Owner with
      | true =>
        rw [if_pos rfl, if_pos rfl, rLast_eq _ (sm _ (List.getElem_mem hi))]
        simp only [Option.bind_some]
        rw [ck_b (by simp [LIM]; omega), without_eq l _ hl]
        simp only [Option.bind_some]
        rw [inc1 (by omega), Sweep_l1 o hk c hc sm k (i + 1) _ _ (Nat.le_trans (List.length_filter_le _ _) hl) (by omega) (by omega) (by simp; omega), List.filter_filter]
        have e : (fun y : Nd => (!hasOwn o.Owner (c.drop (i + 1)) y) && !isK (bl (c[i]).Path) y) = fun y => !hasOwn o.Owner (c[i] :: c.drop (i + 1)) y := by
          funext y
          unfold hasOwn
          rw [List.any_cons, ho, show bl (c[i]).Path = key c[i] from rfl]
          cases isK (key c[i]) y <;> simp
        rw [e]
        simp [lastN, key]
      | false =>
        rw [if_neg (by simp), if_neg (by simp), inc1 (by omega), Sweep_l1 o hk c hc sm k (i + 1) _ _ hl (by omega) (by omega) (by omega)]
        have e : (fun y : Nd => !hasOwn o.Owner (c.drop (i + 1)) y) = fun y => !hasOwn o.Owner (c[i] :: c.drop (i + 1)) y := by
          funext y
          unfold hasOwn
          rw [List.any_cons, ho]
          rfl
        rw [e]
    · rw [if_neg (by simpa using hi), List.drop_eq_nil_of_le (by omega)]
      rw [List.filter_eq_self.2 fun y hy => by simp [hasOwn]]
      simp [res, mk]
theorem rApply_j3 (l : List Nd) (o : Op1) (x : Nd) (T : Tree l) (hx : x ∈ l) (hkx : key x = bl o.Path) (hk : 2 ≤ o.Kind ∧ o.Kind ≤ 7) : m_cantonref06_Apply_j3 o l (x, true) false = some (doS l o x) := by
  have hl := T.len
  have hok := T.ok _ hx
  unfold NodeOk at hok
  unfold m_cantonref06_Apply_j3 doS
  rw [if_neg (by simp), Children_eq l _ (by omega) T.sm, ← hkx]
  simp only [Option.bind_some]
  have smc : Sm (l.filter (childB (key x))) := fun y hy => T.sm y (List.mem_filter.1 hy).1
  have lc : (l.filter (childB (key x))).length ≤ 512 := Nat.le_trans (List.length_filter_le _ _) hl
  have kk : o.Kind = 2 ∨ o.Kind = 3 ∨ o.Kind = 4 ∨ o.Kind = 5 ∨ o.Kind = 6 ∨ o.Kind = 7 := by omega
  rcases kk with c | c | c | c | c | c
  · simp only [c, Int.reduceBEq, Int.reduceEq, Bool.false_eq_true, if_true, if_false, beq_self_eq_true]
    cases ha : l.any (childB (key x)) with
    | true =>
      obtain ⟨y, hy, hc⟩ := List.any_eq_true.1 ha
      have : 0 < (l.filter (childB (key x))).length := List.length_pos_of_mem (List.mem_filter.2 ⟨hy, hc⟩)
      rw [if_pos (by simpa using ⟨y, hy, hc⟩)]; rfl
    | false =>
      have : l.filter (childB (key x)) = [] := List.filter_eq_nil_iff.2 fun y hy => by
        have := List.any_eq_false.1 ha y hy
        simpa using this
      rw [this, if_neg (by simp), without_eq l _ (by omega), ← hkx]
      rfl
  · simp only [c, Int.reduceBEq, Int.reduceEq, Bool.false_eq_true, if_true, if_false, beq_self_eq_true]
    by_cases h4 : x.Version = 281474976710656
    · rw [if_pos (by simp; omega), if_pos h4]; rfl
    · rw [if_neg (by simp; omega), if_neg h4, w64 (by omega) (by omega), show (⟨x.Path, o.Data, x.Version + 1, x.Turn, x.Owner⟩ : Nd) = setF o x from rfl, Put_eq l _ (by omega) T.sorted, put_upd T.sorted hx (setF o) rfl rfl]
      rfl
  · simp only [c, Int.reduceBEq, Int.reduceEq, Bool.false_eq_true, if_true, if_false, beq_self_eq_true]; rfl
  · simp only [c, Int.reduceBEq, Int.reduceEq, Bool.false_eq_true, if_true, if_false, beq_self_eq_true]; rfl
  · simp only [c, Int.reduceBEq, Int.reduceEq, Bool.false_eq_true, if_true, if_false, beq_self_eq_true]
    refine (List_l1 o c l _ (by omega) smc _ 0 [] (by omega) (by omega) (by simp)).trans ?_
    rfl
  · simp only [c, Int.reduceBEq, Int.reduceEq, Bool.false_eq_true, if_true, if_false, beq_self_eq_true]
    refine (Sweep_l1 o c _ (by omega) smc _ 0 l [] (by omega) (by omega) (by omega) (by simp)).trans ?_
    rw [List.drop_zero, List.filter_filter]
    have e : l.filter (fun y => !hasOwn o.Owner (l.filter (childB (key x))) y) = l.filter (fun y => !ownB (key x) o.Owner y) := by
      refine List.filter_congr fun y hy => ?_
      congr 1
      unfold hasOwn ownB
      rw [Bool.eq_iff_iff]
      simp only [List.any_eq_true, Bool.and_eq_true, List.mem_filter, isK, decide_eq_true_eq]
      constructor
      · rintro ⟨z, ⟨hz, h1⟩, h2, h3⟩
        obtain rfl := sorted_inj T.sorted hz hy h3.symm
        exact ⟨h2, h1⟩
      · rintro ⟨h2, h1⟩
        exact ⟨y, ⟨hy, h1⟩, h2, rfl⟩
    rw [e]
    rfl
theorem rApply_eq (l : List Nd) (o : Op1) (T : Tree l) (hp : (bl o.Path).length ≤ 100000000) (hm : MayB o = true) : m_cantonref06_Apply l o = some (applyS l o) := by
  have hl := T.len
  unfold m_cantonref06_Apply m_cantonref06_Apply_j1 applyS
  obtain ⟨b, h1, h2⟩ := rRight_eq l (by omega) T.sm
  rw [h1, h2.2 T]
  simp only [Option.bind_some]
  rw [if_neg (by simp), show m_cantonref06_May (⟨o.Kind, o.Path, o.Data, o.Version, o.Owner, o.Turns⟩ : Op1) = _ from rMay_eq o hp, hm]
  simp only [Option.bind_some]
  rw [if_neg (by simp)]
  have hk := (may_iff hm).1
  by_cases c1 : o.Kind = 1
  · obtain ⟨q, hq⟩ := may_parent hm c1
    rw [if_pos (by simpa using c1), if_pos c1, hq, show m_cantonref06_create l (⟨o.Kind, o.Path, o.Data, o.Version, o.Owner, o.Turns⟩ : Op1) = _ from rcreate_eq l o q T hp hq]
    rfl
  · rw [if_neg (by simpa using c1), if_neg c1, rFind_eq l _ (by omega)]
    simp only [Option.bind_some]
    cases hf : l.find? (isK (bl o.Path)) with
    | none => rw [fnd_none hf, if_pos (by rfl)]; rfl
    | some x =>
      obtain ⟨hx, hkx⟩ := find_key hf
      rw [fnd_some hf, if_neg (by simp)]
      have j2t : m_cantonref06_Apply_j2 o l (x, true) true = some (if 0 ≤ o.Version ∧ o.Version ≠ x.Version then (l, res 63) else doS l o x) := by
        unfold m_cantonref06_Apply_j2
        rw [if_pos rfl]
        by_cases h0 : o.Version ≥ 0
        · rw [if_pos (by simpa using h0)]
          by_cases hv : o.Version = x.Version
          · rw [show (o.Version != (x, true).1.Version) = false from by simpa using hv, rApply_j3 l o x T hx hkx (by omega), if_neg (by omega)]
          · rw [show (o.Version != (x, true).1.Version) = true from by simpa using hv, if_pos (by omega)]; rfl
        · rw [if_neg (by simpa using h0), rApply_j3 l o x T hx hkx (by omega), if_neg (by omega)]
      have j2f : m_cantonref06_Apply_j2 o l (x, true) false = some (doS l o x) := by
        unfold m_cantonref06_Apply_j2
        rw [if_neg (by simp), rApply_j3 l o x T hx hkx (by omega)]
      by_cases c2 : o.Kind = 2
      · rw [if_pos (by simpa using c2), j2t]
        simp only [show o.Kind ≤ 4 from by omega, true_and]
      · rw [if_neg (by simpa using c2)]
        by_cases c3 : o.Kind = 3
        · rw [if_pos (by simpa using c3), j2t]
          simp only [show o.Kind ≤ 4 from by omega, true_and]
        · rw [if_neg (by simpa using c3)]
          by_cases c4 : o.Kind = 4
          · rw [show (o.Kind == 4) = true from by simpa using c4, j2t]
            simp only [show o.Kind ≤ 4 from by omega, true_and]
          · rw [show (o.Kind == 4) = false from by simpa using c4, j2f]
            simp only [show ¬ o.Kind ≤ 4 from by omega, false_and, if_false]
end Go.Cb
