/- Nodes, plainly: what Apply makes of a tree, and when it refuses. -/
import Derived.Test.YtgdfoajophpblaaGreatDoorQ7mp
set_option linter.unusedVariables false
set_option linter.unusedSimpArgs false
namespace Go.Cb
open Go.Proofs Go.RowKit

def ltB (p : List UInt8) (y : Nd) : Bool := decide (key y < p)
theorem take_filter {l : List Nd} {f : Nd → Bool} {i : Nat} (hi : i ≤ l.length) (h1 : ∀ j (h : j < l.length), j < i → f l[j] = true) (h2 : ∀ j (h : j < l.length), i ≤ j → f l[j] = false) : l.take i = l.filter f ∧ l.drop i = l.filter (fun y => !f y) := by
  have e : ∀ g : Nd → Bool, l.filter g = (l.take i).filter g ++ (l.drop i).filter g := fun g => by rw [← List.filter_append, List.take_append_drop]
  have ht : ∀ y ∈ l.take i, f y = true := fun y hy => by
    obtain ⟨m, hm, rfl⟩ := List.mem_take_iff_getElem.1 hy
    exact h1 m (by omega) (by omega)
  have hd : ∀ y ∈ l.drop i, f y = false := fun y hy => by
    obtain ⟨m, hm, rfl⟩ := List.mem_drop_iff_getElem.1 hy
    exact h2 _ (by omega) (by omega)
  rw [e, e, List.filter_eq_self.2 ht, List.filter_eq_nil_iff.2 fun y hy => by rw [hd y hy]; simp, List.filter_eq_nil_iff.2 fun y hy => by rw [ht y hy]; simp, List.filter_eq_self.2 fun y hy => by rw [hd y hy]; rfl]
  simp
theorem where_find (l : List Nd) (s : ByteArray) (hlen : l.length ≤ 1000000) (hs : l.Pairwise (key · < key ·)) :
    ∃ i : Nat, i ≤ l.length ∧ m_nodes_where l s = some ((i : Int), (l.find? (isK (bl s))).isSome) ∧ (∀ x, l.find? (isK (bl s)) = some x → ∃ hi : i < l.length, l[i] = x) ∧ l.take i = l.filter (ltB (bl s)) ∧ l.drop i = l.filter (fun y => !ltB (bl s) y) := by
  obtain ⟨i, h1, h2, h3, h4⟩ := where_eq l s hlen hs
  have hp := List.pairwise_iff_getElem.1 hs
  refine ⟨i, h1, ?_, ?_, take_filter h1 (fun j h hj => by simpa [ltB] using h3 j h hj) (fun j h hj => by simpa [ltB] using h4 j h hj)⟩
  · rw [h2]
    congr 2
    by_cases hi : i < l.length
    · rw [List.getElem?_eq_getElem hi]
      by_cases hk : key l[i] = bl s
      · have := find_mem hs (List.getElem_mem hi)
        rw [hk] at this
        rw [this]; simp [hk]
      · have : l.find? (isK (bl s)) = none := find_no.2 fun x hx => by
          obtain ⟨j, hj, rfl⟩ := List.mem_iff_getElem.1 hx
          rcases Nat.lt_trichotomy j i with c | c | c
          · exact kl_ne (h3 j hj c)
          · subst c; exact hk
          · intro e
            exact h4 i hi (Nat.le_refl _) (e ▸ hp i j hi hj c)
        rw [this]; simp [hk]
    · have : l.find? (isK (bl s)) = none := find_no.2 fun x hx => by
        obtain ⟨j, hj, rfl⟩ := List.mem_iff_getElem.1 hx
        exact kl_ne (h3 j hj (by omega))
      rw [this, List.getElem?_eq_none (by omega)]; simp
  · intro x hx
    obtain ⟨hm, hk⟩ := find_key hx
    obtain ⟨j, hj, rfl⟩ := List.mem_iff_getElem.1 hm
    have : j = i := by
      rcases Nat.lt_trichotomy j i with c | c | c
      · exact absurd (h3 j hj c) (by rw [hk]; exact kl_irrefl _)
      · exact c
      · have c2 := hp i j (by omega) hj c
        rw [hk] at c2
        exact absurd c2 (h4 i (by omega) (Nat.le_refl _))
    subst this
    exact ⟨hj, rfl⟩
/-! ### Create -/
def insS (x : Nd) (l : List Nd) : List Nd := l.filter (ltB (key x)) ++ x :: l.filter (fun y => !ltB (key x) y)
def turnF (z : Nd) : Nd := { z with Turn := z.Turn + 1 }
theorem upd_take (l : List Nd) (p : List UInt8) (f : Nd → Nd) (i : Nat) : (upd l p f).take i = upd (l.take i) p f := by simp [upd, List.map_take]
theorem upd_drop (l : List Nd) (p : List UInt8) (f : Nd → Nd) (i : Nat) : (upd l p f).drop i = upd (l.drop i) p f := by simp [upd, List.map_drop]
theorem upd_len (l : List Nd) (p : List UInt8) (f : Nd → Nd) : (upd l p f).length = l.length := by simp [upd]
theorem upd_key {p : List UInt8} {f : Nd → Nd} (hf : ∀ z, key (f z) = key z) (z : Nd) : key (if isK p z then f z else z) = key z := by split <;> simp [hf]
theorem upd_filter (l : List Nd) (p : List UInt8) (f : Nd → Nd) (hf : ∀ z, key (f z) = key z) (g : Nd → Bool) (hg : ∀ x y, key x = key y → g x = g y) : (upd l p f).filter g = upd (l.filter g) p f := by
  unfold upd
  rw [List.filter_map]
  congr 1
  apply List.filter_congr
  intro x _
  exact hg _ _ (upd_key hf x)
def nameS (o : Op1) (q : List UInt8) (t : Int) : Option (List UInt8) := if o.Turns = true then (numS (lastS (bl o.Path)) t).map (fun s => (joinS q s).getD []) else some (bl o.Path)
def createS (l : List Nd) (o : Op1) (q : List UInt8) : List Nd × Res := match l.find? (isK q) with
  | none => (l, res 62)
  | some u => if u.Owner ≠ 0 then (l, res 65) else match nameS o q u.Turn with
    | none => (l, res 66)
    | some p => if (l.find? (isK p)).isSome = true then (l, res 61) else if l.length = 512 then (l, res 2) else (insS ⟨mk p, o.Data, 0, 0, o.Owner⟩ (if o.Turns = true then upd l q turnF else l), { res 0 with Path := mk p })
theorem create_j1 (l : List Nd) (o : Op1) (T : Tree l) (i : Nat) (hi : i < l.length) (b : Bool) (s : ByteArray) (ho : (l[i]).Owner = 0) : m_nodes_create_j1 o l ((i : Int), b) s = some (if (l.find? (isK (bl s))).isSome = true then (l, res 61) else if l.length = 512 then (l, res 2) else (insS ⟨s, o.Data, 0, 0, o.Owner⟩ (if o.Turns = true then upd l (key l[i]) turnF else l), { res 0 with Path := s })) := by
  unfold m_nodes_create_j1 m_nodes_create_j2
  have hl := T.len
  obtain ⟨k, hk, hw, _, ht, hd⟩ := where_find l s (by omega) T.sorted
  rw [hw]
  simp only [Option.bind_some]
  cases hf : (l.find? (isK (bl s))).isSome with
  | true => simp only [if_true]; rfl
  | false =>
    simp only [Bool.false_eq_true, if_false]
    by_cases h5 : l.length = 512
    · rw [if_pos (by simp; omega), if_pos h5]; rfl
    · rw [if_neg (by simp; omega), if_neg h5, ck_b (by simp [LIM]; omega)]
      have hkey : key (⟨s, o.Data, 0, 0, o.Owner⟩ : Nd) = bl s := rfl
      cases hT : o.Turns with
      | false =>
        simp only [Bool.false_eq_true, if_false]
        rw [ck_b (by omega), Int.toNat_natCast, ht, hd]
        rfl
      | true =>
        have hok := T.ok _ (List.getElem_mem hi)
        unfold NodeOk at hok
        simp only [if_true]
        rw [idx_lt hi]
        simp only [Option.bind_some, Int.toNat_natCast]
        rw [show IntKind.i64.wrap ((l[i]).Turn + 1) = (l[i]).Turn + 1 from w64 (by omega) (by omega)]
        rw [ck_b (by simp only [List.length_set]; omega), show l.set i ({ l[i] with Turn := (l[i]).Turn + 1 } : Nd) = upd l (key l[i]) turnF from set_upd T.sorted hi turnF]
        rw [upd_take, upd_drop, ht, hd]
        unfold insS
        rw [hkey, upd_filter _ _ turnF (fun z => rfl) (ltB (bl s)) (fun x y e => by simp [ltB, e]), upd_filter _ _ turnF (fun z => rfl) (fun y => !ltB (bl s) y) (fun x y e => by simp [ltB, e])]
        rfl
theorem numS_ok {s : List UInt8} {n : Int} {t : List UInt8} (h : numS s n = some t) : partOk t = true ∧ t = s ++ digits n.toNat ∧ 0 ≤ n ∧ n ≤ 9999 := by
  unfold numS at h
  split at h
  · rename_i h1
    cases h
    exact ⟨h1.2.2, rfl, h1.1, h1.2.1⟩
  · cases h
theorem last_len (p : List UInt8) : (lastS p).length ≤ 12 := by
  unfold lastS
  cases hp : parts p with
  | none => simp
  | some ps =>
    obtain ⟨h0, h1, h2⟩ := (parts_iff _ ps).1 hp
    rcases List.eq_nil_or_concat ps with rfl | ⟨qs, t, rfl⟩
    · simp
    · rw [List.concat_eq_append] at *
      have ht : partOk t = true := by simp at h1; exact h1.2
      simpa using part12 ht
theorem create_eq (l : List Nd) (o : Op1) (q : List UInt8) (T : Tree l) (hq : parentS (bl o.Path) = some q) : m_nodes_create l o = some (createS l o q) := by
  unfold m_nodes_create createS
  rw [Parent_eq, hq]
  have hl := T.len
  simp only [Option.bind_some, os2]
  obtain ⟨i, hi, hw, hx, _, _⟩ := where_find l (mk q) (by omega) T.sorted
  rw [bl_mk] at hw hx
  rw [hw]
  simp only [Option.bind_some]
  cases hf : l.find? (isK q) with
  | none => rw [if_pos (by rfl)]; rfl
  | some u =>
    obtain ⟨hi, rfl⟩ := hx u hf
    have hk := (find_key hf).2
    rw [if_neg (by simp), idx_lt hi]
    simp only [Option.bind_some]
    by_cases ho : (l[i]).Owner = 0
    · have hn : ((l[i]).Owner != 0) = false := by simpa using ho
      simp only [hn, Bool.false_eq_true, if_false]
      simp only [ho, ne_eq, not_true_eq_false, if_false]
      unfold nameS
      cases hT : o.Turns with
      | false =>
        simp only [Bool.false_eq_true, if_false]
        rw [create_j1 l o T i hi _ _ ho, hT, mk_bl]
        simp only [Bool.false_eq_true, if_false]
      | true =>
        simp only [if_true]
        rw [Last_eq]
        simp only [Option.bind_some]
        have := last_len (bl o.Path)
        rw [Numbered_eq _ _ (by rw [bl_mk]; omega), bl_mk]
        simp only [Option.bind_some]
        cases hn : numS (lastS (bl o.Path)) (l[i]).Turn with
        | none => rw [if_pos (by rfl)]; rfl
        | some s =>
          obtain ⟨h1, h2, _, _⟩ := numS_ok hn
          rw [if_neg (by simp [os2])]
          simp only [os2]
          rw [Join_eq _ _ (by rw [bl_mk]; have := part12 h1; omega), bl_mk, bl_mk]
          simp only [Option.bind_some, Option.map_some]
          rw [create_j1 l o T i hi _ _ ho, hT, hk]
          have : (os2 (joinS q s)).1 = mk ((joinS q s).getD []) := by cases joinS q s <;> rfl
          rw [this, bl_mk]
          simp only [if_true]
    · have hn : ((l[i]).Owner != 0) = true := by simpa using ho
      simp only [hn, if_true]
      simp only [ho, ne_eq, not_false_eq_true, if_true]; rfl
/-! ### Apply -/
def doS (l : List Nd) (o : Op1) (x : Nd) : List Nd × Res :=
  if o.Kind = 2 then (if l.any (childB (key x)) = true then (l, res 64) else (l.filter (fun y => !isK (key x) y), res 0))
  else if o.Kind = 3 then (if x.Version = 281474976710656 then (l, res 2) else (upd l (key x) (setF o), { res 0 with Version := x.Version + 1 }))
  else if o.Kind = 4 then (l, { res 0 with Version := x.Version })
  else if o.Kind = 5 then (l, { res 0 with Data := x.Data, Version := x.Version })
  else if o.Kind = 6 then (l, { res 0 with Names := (l.filter (childB (key x))).map lastN })
  else (l.filter (fun y => !ownB (key x) o.Owner y), { res 0 with Names := (l.filter (ownB (key x) o.Owner)).map lastN })
def applyS (l : List Nd) (o : Op1) : List Nd × Res :=
  if o.Kind = 1 then (match parentS (bl o.Path) with
    | none => (l, res 62)
    | some q => createS l o q)
  else match l.find? (isK (bl o.Path)) with
    | none => (l, res 62)
    | some x => if o.Kind ≤ 4 ∧ 0 ≤ o.Version ∧ o.Version ≠ x.Version then (l, res 63) else doS l o x
theorem may_parent {o : Op1} (h : MayB o = true) (hk : o.Kind = 1) : ∃ q, parentS (bl o.Path) = some q := by
  unfold MayB at h
  simp only [Bool.and_eq_true, decide_eq_true_eq] at h
  obtain ⟨⟨⟨⟨⟨_, h1⟩, _⟩, _⟩, _⟩, h2⟩ := h
  rw [hk] at h2
  simp only [kindOk, if_true, Bool.and_eq_true, Bool.not_eq_true', decide_eq_false_iff_not] at h2
  unfold pathOk at h1
  unfold parentS
  cases hp : parts (bl o.Path) with
  | none => rw [hp] at h1; cases h1
  | some ps =>
    refine ⟨_, if_neg ?_⟩
    rintro rfl
    exact h2.1 ((parts_iff _ _).1 hp).1
theorem j2_false (l : List Nd) (o : Op1) (T : Tree l) (hk : 2 ≤ o.Kind ∧ o.Kind ≤ 7) (i : Nat) (hi : i < l.length) (b : Bool) : m_nodes_Apply_j2 l o ((i : Int), b) false = some (doS l o l[i]) := by
  have hl := T.len
  have hok := T.ok _ (List.getElem_mem hi)
  unfold NodeOk at hok
  unfold m_nodes_Apply_j2 doS
  rw [if_neg (by simp)]
  have kk : o.Kind = 2 ∨ o.Kind = 3 ∨ o.Kind = 4 ∨ o.Kind = 5 ∨ o.Kind = 6 ∨ o.Kind = 7 := by omega
  rcases kk with c | c | c | c | c | c
  · simp only [c, Int.reduceBEq, Int.reduceEq, Bool.false_eq_true, if_true, if_false, beq_self_eq_true]
    rw [show m_nodes_remove l (i : Int) _ = _ from remove_eq l _ hi (by omega) T.sorted]; rfl
  · simp only [c, Int.reduceBEq, Int.reduceEq, Bool.false_eq_true, if_true, if_false, beq_self_eq_true]
    rw [show m_nodes_set l (i : Int) _ = _ from set_eq l _ hi (by omega) T.sorted (by omega)]; rfl
  · simp only [c, Int.reduceBEq, Int.reduceEq, Bool.false_eq_true, if_true, if_false, beq_self_eq_true]
    rw [show m_nodes_check l (i : Int) _ = _ from check_eq l _ hi]; rfl
  · simp only [c, Int.reduceBEq, Int.reduceEq, Bool.false_eq_true, if_true, if_false, beq_self_eq_true]
    rw [show m_nodes_get l (i : Int) _ = _ from get_eq l _ hi]; rfl
  · simp only [c, Int.reduceBEq, Int.reduceEq, Bool.false_eq_true, if_true, if_false, beq_self_eq_true]
    rw [show m_nodes_list l (i : Int) _ = _ from list_eq l _ hi (by omega)]; rfl
  · simp only [c, Int.reduceBEq, Int.reduceEq, Bool.false_eq_true, if_true, if_false, beq_self_eq_true]
    rw [show m_nodes_sweep l (i : Int) _ = _ from sweep_eq l _ hi (by omega)]; rfl
theorem Apply_eq (l : List Nd) (o : Op1) (T : Tree l) (hm : MayB o = true) : m_nodes_Apply l o = some (applyS l o) := by
  have hl := T.len
  unfold m_nodes_Apply m_nodes_Apply_j1 applyS
  obtain ⟨b, h1, h2⟩ := pRight_eq l (by omega) T.sm
  rw [h1, h2.2 T]
  simp only [Option.bind_some]
  rw [if_neg (by simp), show m_nodes_May (⟨o.Kind, o.Path, o.Data, o.Version, o.Owner, o.Turns⟩ : Op1) = _ from May_eq o, hm]
  simp only [Option.bind_some]
  rw [if_neg (by simp)]
  have hk : 1 ≤ o.Kind ∧ o.Kind ≤ 7 := by
    unfold MayB at hm
    simp only [Bool.and_eq_true, decide_eq_true_eq] at hm
    exact hm.1.1.1.1.1
  by_cases c1 : o.Kind = 1
  · obtain ⟨q, hq⟩ := may_parent hm c1
    rw [if_pos (by simpa using c1), if_pos c1, hq, show m_nodes_create l (⟨o.Kind, o.Path, o.Data, o.Version, o.Owner, o.Turns⟩ : Op1) = _ from create_eq l o q T hq]
    rfl
  · rw [if_neg (by simpa using c1), if_neg c1]
    obtain ⟨i, hi, hw, hx, _, _⟩ := where_find l o.Path (by omega) T.sorted
    rw [hw]
    simp only [Option.bind_some]
    cases hf : l.find? (isK (bl o.Path)) with
    | none => rw [if_pos (by rfl)]; rfl
    | some x =>
      obtain ⟨hi, rfl⟩ := hx x hf
      rw [if_neg (by simp)]
      simp only
      by_cases c2 : o.Kind ≤ 4
      · rw [if_pos (by simpa using c2)]
        by_cases c3 : 0 ≤ o.Version
        · rw [if_pos (by simpa using c3), idx_lt hi]
          simp only [Option.bind_some]
          by_cases c4 : o.Version = (l[i]).Version
          · rw [show (o.Version != (l[i]).Version) = false from by simp [c4], if_neg (fun h => h.2.2 c4)]
            exact j2_false l o T (by omega) i hi _
          · rw [show (o.Version != (l[i]).Version) = true from by simp [c4], if_pos ⟨c2, c3, c4⟩]
            rfl
        · rw [if_neg (by simpa using c3), if_neg (fun h => c3 h.2.1)]
          exact j2_false l o T (by omega) i hi _
      · rw [if_neg (by simpa using c2), if_neg (fun h => c2 h.1)]
        exact j2_false l o T (by omega) i hi _
end Go.Cb
