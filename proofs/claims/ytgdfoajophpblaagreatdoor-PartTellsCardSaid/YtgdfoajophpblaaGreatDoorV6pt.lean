/- Parts, plainly: the document's Do; what is made is right. -/
import Derived.Test.YtgdfoajophpblaaGreatDoorV5pt
set_option linter.unusedVariables false
set_option linter.unusedSimpArgs false
namespace Go.Cb
open Go.Proofs Go.RowKit

/-! ### Empty, Names, Clear -/
theorem rin_names (p : Pt1) (hk : p.Kind = 9) (c l : List Nd) (t : List Tn) (hc : c.length ≤ 1000000) (sm : Sm c) : ∀ (k i : Nat) (acc : List ByteArray), i ≤ c.length → c.length + 1 ≤ i + k → acc.length ≤ i → m_cantonref07_in_l1 c p k acc (i : Int) l t = some (⟨l, t⟩, { res 0 with Names := acc ++ (c.drop i).map lastN })
  | 0, i, acc, _, h, _ => by omega
  | k + 1, i, acc, h0, h, ha => by
    unfold m_cantonref07_in_l1 m_cantonref07_in_j1
    by_cases hi : i < c.length
    · rw [if_pos (by simpa using hi), if_pos (by simpa using hk), idx_lt hi]
      simp only [Option.bind_some]
      rw [rLast_eq _ (sm _ (List.getElem_mem hi))]
      simp only [Option.bind_some]
      rw [ck_b (by simp [LIM]; omega), inc1 (by omega), rin_names p hk c l t hc sm k (i + 1) _ (by omega) (by omega) (by simp; omega), List.drop_eq_getElem_cons hi, List.map_cons, show mk (lastS (bl (c[i]).Path)) = lastN c[i] from rfl, List.append_assoc]
      rfl
    · rw [if_neg (by simpa using hi), List.drop_eq_nil_of_le (by omega), List.map_nil, List.append_nil]
      rfl
theorem rin_clear (p : Pt1) (hk : p.Kind = 10) (c : List Nd) (t : List Tn) (hc : c.length ≤ 100000) (sm : Sm c) : ∀ (k i : Nat) (l : List Nd) (acc : List ByteArray), l.length ≤ 100000 → i ≤ c.length → c.length + 1 ≤ i + k → acc.length ≤ i → m_cantonref07_in_l1 c p k acc (i : Int) l t = some (⟨l.filter (fun y => !hasOwn p.Owner (c.drop i) y), t⟩, { res 0 with Names := acc ++ ((c.drop i).filter (fun z => z.Owner == p.Owner)).map lastN })
  | 0, i, l, acc, _, _, h, _ => by omega
  | k + 1, i, l, acc, hl, h0, h, ha => by
    unfold m_cantonref07_in_l1 m_cantonref07_in_j1
    by_cases hi : i < c.length
    · rw [if_pos (by simpa using hi), if_neg (by simp [hk]), idx_lt hi]
      simp only [Option.bind_some]
      rw [List.drop_eq_getElem_cons hi, List.filter_cons]
      cases ho : (c[i]).Owner == p.Owner with
      | true =>
        rw [if_pos rfl, if_pos rfl, rLast_eq _ (sm _ (List.getElem_mem hi))]
        simp only [Option.bind_some]
        rw [ck_b (by simp [LIM]; omega), rwithout_eq ⟨l, t⟩ _ hl]
        simp only [Option.bind_some]
        rw [inc1 (by omega), rin_clear p hk c t hc sm k (i + 1) _ _ (Nat.le_trans (List.length_filter_le _ _) hl) (by omega) (by omega) (by simp; omega), List.filter_filter]
        have e : (fun y : Nd => (!hasOwn p.Owner (c.drop (i + 1)) y) && !isK (bl (c[i]).Path) y) = fun y => !hasOwn p.Owner (c[i] :: c.drop (i + 1)) y := by
          funext y
          unfold hasOwn
          rw [List.any_cons, ho, show bl (c[i]).Path = key c[i] from rfl]
          cases isK (key c[i]) y <;> simp
        rw [e]
        simp [lastN, key]
      | false =>
        rw [if_neg (by simp), if_neg (by simp), inc1 (by omega), rin_clear p hk c t hc sm k (i + 1) _ _ hl (by omega) (by omega) (by omega)]
        have e : (fun y : Nd => !hasOwn p.Owner (c.drop (i + 1)) y) = fun y => !hasOwn p.Owner (c[i] :: c.drop (i + 1)) y := by
          funext y
          unfold hasOwn
          rw [List.any_cons, ho]
          rfl
        rw [e]
    · rw [if_neg (by simpa using hi), List.drop_eq_nil_of_le (by omega)]
      rw [List.filter_eq_self.2 fun y hy => by simp [hasOwn]]
      simp [res, mk]
theorem own_filter (l : List Nd) (q : List UInt8) (w : Int) (hs : l.Pairwise (key · < key ·)) : l.filter (fun y => !hasOwn w (l.filter (childB q)) y) = l.filter (fun y => !ownB q w y) := by
  refine List.filter_congr fun y hy => ?_
  congr 1
  unfold hasOwn ownB
  rw [Bool.eq_iff_iff]
  simp only [List.any_eq_true, Bool.and_eq_true, List.mem_filter, isK, decide_eq_true_eq]
  constructor
  · rintro ⟨z, ⟨hz, h1⟩, h2, h3⟩
    obtain rfl := sorted_inj hs hz hy h3.symm
    exact ⟨h2, h1⟩
  · rintro ⟨h2, h1⟩
    exact ⟨y, ⟨hy, h1⟩, h2, rfl⟩
theorem rDo_eq (s : Sto) (p : Pt1) (hs : SmS s) (hp : (bl p.Path).length ≤ 100000000) (S : StoreOk s) (hm : mayP p = true) : m_cantonref07_Do s p = some (doP s p) := by
  unfold m_cantonref07_Do m_cantonref07_Do_j1 m_cantonref07_Do_j2 m_cantonref07_Do_j3 m_cantonref07_Do_j4 m_cantonref07_Do_j5
  obtain ⟨b, h1, h2⟩ := rRightS_eq s hs
  have hn := S.nsort
  have hl := hs.len
  have ht := hs.lent
  rw [h1, h2.2 S]
  simp only [Option.bind_some]
  rw [if_neg (by simp), rmayP_eq p hp, hm]
  simp only [Option.bind_some]
  rw [if_neg (by simp)]
  have hk := (mayP_iff hm).2.2.1
  have smc : Sm (s.Nodes.filter (childB (bl p.Path))) := fun y hy => hs.sm y (List.mem_filter.1 hy).1
  have lc : (s.Nodes.filter (childB (bl p.Path))).length ≤ 90000 := Nat.le_trans (List.length_filter_le _ _) hl
  unfold doP m_cantonref07_in
  rw [rFind_eq _ _ (by omega), Children_eq _ _ (by omega) hs.sm]
  simp only [Option.bind_some]
  have kk : p.Kind = 1 ∨ p.Kind = 2 ∨ p.Kind = 3 ∨ p.Kind = 4 ∨ p.Kind = 5 ∨ p.Kind = 6 ∨ p.Kind = 7 ∨ p.Kind = 8 ∨ p.Kind = 9 ∨ p.Kind = 10 := by omega
  have fin : ∀ (x : Nd), s.Nodes.find? (isK (bl p.Path)) = some x → ((p.Kind = 3 ∨ p.Kind = 5 ∨ p.Kind = 6) → (verB p x = true ↔ (0 ≤ p.Version ∧ p.Version ≠ x.Version))) ∧ ((p.Kind ≠ 3 ∧ p.Kind ≠ 5 ∧ p.Kind ≠ 6) → verB p x = false) := fun x _ => by
    unfold verB
    refine ⟨fun h => ?_, fun h => ?_⟩
    · rcases h with h | h | h <;> simp [h]
    · simp [h.1, h.2.1, h.2.2]
  rcases kk with c | c | c | c | c | c | c | c | c | c
  all_goals simp only [c, Int.reduceBEq, Int.reduceEq, Bool.false_eq_true, if_true, if_false, beq_self_eq_true, Int.reduceNeg]
  · cases hf : s.Nodes.find? (isK (bl p.Path)) with
    | none => rw [fnd_none hf, show ndS s.Nodes p = (zNd, 62) from by unfold ndS; rw [hf]]; rfl
    | some x =>
      rw [fnd_some hf, show ndS s.Nodes p = (x, 0) from by unfold ndS; rw [hf]; simp [(fin x hf).2 (by omega)]]
      by_cases o : x.Owner = 0
      · simp [o]; rfl
      · simp [o]; rfl
  · obtain ⟨q, hq⟩ := mayP_parent hm c
    rw [rput_eq s p q hq hp hl ht S]
    rfl
  · cases hf : s.Nodes.find? (isK (bl p.Path)) with
    | none => rw [fnd_none hf, show ndS s.Nodes p = (zNd, 62) from by unfold ndS; rw [hf]]; rfl
    | some x =>
      have := (fin x hf).1 (by omega)
      rw [fnd_some hf, rwithout_eq s _ (by omega)]
      by_cases v : verB p x = true
      · have v2 := this.1 v
        rw [show ndS s.Nodes p = (x, 63) from by unfold ndS; rw [hf]; simp [v]]
        simp [v2.1, v2.2]; rfl
      · have v2 := fun h => v (this.2 h)
        rw [show ndS s.Nodes p = (x, 0) from by unfold ndS; rw [hf]; simp [v]]
        by_cases a : 0 ≤ p.Version
        · have : p.Version = x.Version := Decidable.byContradiction fun h => v2 ⟨a, h⟩
          simp [a, this]; rfl
        · simp [a]; rfl
  · cases ha : s.Nodes.any (childB (bl p.Path)) with
    | true =>
      obtain ⟨y, hy, hc⟩ := List.any_eq_true.1 ha
      rw [if_pos (by simpa using ⟨y, hy, hc⟩)]; rfl
    | false =>
      have : s.Nodes.filter (childB (bl p.Path)) = [] := List.filter_eq_nil_iff.2 fun y hy => by
        have := List.any_eq_false.1 ha y hy
        simpa using this
      rw [this, if_neg (by simp), turned_eq s _ _ (by omega) S.tsort]
      rfl
  · cases hf : s.Nodes.find? (isK (bl p.Path)) with
    | none => rw [fnd_none hf, show ndS s.Nodes p = (zNd, 62) from by unfold ndS; rw [hf]]; rfl
    | some x =>
      have := (fin x hf).1 (by omega)
      have hx := find_key hf
      have hv := store_ver S x hx.1
      rw [fnd_some hf]
      by_cases v : verB p x = true
      · have v2 := this.1 v
        rw [show ndS s.Nodes p = (x, 63) from by unfold ndS; rw [hf]; simp [v]]
        simp [v2.1, v2.2]; rfl
      · have v2 := fun h => v (this.2 h)
        rw [show ndS s.Nodes p = (x, 0) from by unfold ndS; rw [hf]; simp [v]]
        have e : (if decide (x.Version ≥ 281474976710656) = true then some (s, (⟨2, ByteArray.mk #[], ByteArray.mk #[], 0, []⟩ : Res)) else ((m_cantonref06_Put s.Nodes (⟨x.Path, p.Data, IntKind.i64.wrap (x.Version + 1), x.Turn, x.Owner⟩ : Nd)).bind fun u72 => some ((⟨u72, s.Turns⟩ : Sto), (⟨0, ByteArray.mk #[], ByteArray.mk #[], IntKind.i64.wrap (x.Version + 1), []⟩ : Res)))) = some (if x.Version = 281474976710656 then (s, res 2) else (⟨upd s.Nodes (bl p.Path) (altF p), s.Turns⟩, { res 0 with Version := x.Version + 1 })) := by
          by_cases h4 : x.Version = 281474976710656
          · rw [if_pos (by simp; omega), if_pos h4]; rfl
          · rw [if_neg (by simp; omega), if_neg h4, w64 (by omega) (by omega), show (⟨x.Path, p.Data, x.Version + 1, x.Turn, x.Owner⟩ : Nd) = altF p x from rfl, Put_eq _ _ (by omega) hn, put_upd hn hx.1 (altF p) rfl rfl, hx.2]
            rfl
        by_cases a : 0 ≤ p.Version
        · have hv2 : p.Version = x.Version := Decidable.byContradiction fun h => v2 ⟨a, h⟩
          rw [hv2] at a
          simp only [hv2, a, decide_true, if_true, ge_iff_le, bne_self_eq_false, Bool.not_true, Bool.false_eq_true, if_false, ne_eq, not_true_eq_false]
          exact e
        · have a' : decide (p.Version ≥ 0) = false := decide_eq_false a
          simp only [a', Bool.not_true, Bool.false_eq_true, if_false, ne_eq, not_true_eq_false]
          exact e
  · cases hf : s.Nodes.find? (isK (bl p.Path)) with
    | none => rw [fnd_none hf, show ndS s.Nodes p = (zNd, 62) from by unfold ndS; rw [hf]]; rfl
    | some x =>
      have := (fin x hf).1 (by omega)
      rw [fnd_some hf]
      by_cases v : verB p x = true
      · have v2 := this.1 v
        rw [show ndS s.Nodes p = (x, 63) from by unfold ndS; rw [hf]; simp [v]]
        simp [v2.1, v2.2]; rfl
      · have v2 := fun h => v (this.2 h)
        rw [show ndS s.Nodes p = (x, 0) from by unfold ndS; rw [hf]; simp [v]]
        by_cases a : 0 ≤ p.Version
        · have hv2 : p.Version = x.Version := Decidable.byContradiction fun h => v2 ⟨a, h⟩
          rw [hv2] at a
          simp only [hv2, a, decide_true, if_true, ge_iff_le, bne_self_eq_false, Bool.not_true, Bool.false_eq_true, if_false, ne_eq, not_true_eq_false]
          rfl
        · have a' : decide (p.Version ≥ 0) = false := decide_eq_false a
          simp only [a', Bool.not_true, Bool.false_eq_true, if_false, ne_eq, not_true_eq_false]
          rfl
  · cases hf : s.Nodes.find? (isK (bl p.Path)) with
    | none => rw [fnd_none hf, show ndS s.Nodes p = (zNd, 62) from by unfold ndS; rw [hf]]; rfl
    | some x =>
      rw [fnd_some hf, show ndS s.Nodes p = (x, 0) from by unfold ndS; rw [hf]; simp [(fin x hf).2 (by omega)]]
      rfl
  · cases hf : s.Nodes.find? (isK (bl p.Path)) with
    | none => rw [fnd_none hf, show ndS s.Nodes p = (zNd, 62) from by unfold ndS; rw [hf]]; rfl
    | some x =>
      rw [fnd_some hf, show ndS s.Nodes p = (x, 0) from by unfold ndS; rw [hf]; simp [(fin x hf).2 (by omega)]]
      rfl
  · have := rin_names p c _ s.Nodes s.Turns (by omega) smc (((s.Nodes.filter (childB (bl p.Path))).length : Int) - 0 : Int).toNat.succ 0 [] (by omega) (by omega) (by simp)
    refine (congrArg (fun z : Option (Sto × Res) => z.bind fun u36 => some (u36.1, u36.2)) this).trans ?_
    rfl
  · have := rin_clear p c _ s.Turns (by omega) smc (((s.Nodes.filter (childB (bl p.Path))).length : Int) - 0 : Int).toNat.succ 0 s.Nodes [] (by omega) (by omega) (by omega) (by simp)
    refine (congrArg (fun z : Option (Sto × Res) => z.bind fun u36 => some (u36.1, u36.2)) this).trans ?_
    rw [List.drop_zero, List.filter_filter, own_filter _ _ _ hn]
    rfl
theorem rDo_bad (s : Sto) (p : Pt1) (hs : SmS s) (hp : (bl p.Path).length ≤ 100000000) (h : ¬ (StoreOk s ∧ mayP p = true)) : m_cantonref07_Do s p = some (⟨[], []⟩, res 1) := by
  unfold m_cantonref07_Do m_cantonref07_Do_j1
  obtain ⟨b, h1, h2⟩ := rRightS_eq s hs
  rw [h1]
  simp only [Option.bind_some]
  cases b with
  | false => rw [if_pos (by rfl), if_pos trivial]; rfl
  | true =>
    rw [if_neg (by simp), rmayP_eq p hp, show mayP p = false from by cases hm : mayP p with | false => rfl | true => exact absurd ⟨h2.1 rfl, hm⟩ h]
    rfl
/-! ### what is made is right -/
theorem gins_sorted {α : Type} (κ : α → List UInt8) (l : List α) (d : List UInt8) (x : α) (hx : κ x = d) (hs : l.Pairwise (κ · < κ ·)) : (l.filter (gLt κ d) ++ x :: l.filter (gGt κ d)).Pairwise (κ · < κ ·) := by
  have g : ∀ y ∈ l.filter (gGt κ d), d < κ y := fun y hy => by
    have h1 := (List.mem_filter.1 hy).2
    simp only [gGt, gLt, gEq, Bool.and_eq_true, Bool.not_eq_true', decide_eq_false_iff_not] at h1
    exact kl_not h1.1 h1.2
  have f : ∀ y ∈ l.filter (gLt κ d), κ y < d := fun y hy => by
    have h1 := (List.mem_filter.1 hy).2
    simpa [gLt] using h1
  refine List.pairwise_append.2 ⟨hs.filter _, List.pairwise_cons.2 ⟨fun y hy => hx ▸ g y hy, hs.filter _⟩, fun a ha b hb => ?_⟩
  rcases List.mem_cons.1 hb with rfl | hb
  · exact hx ▸ f a ha
  · exact kl_trans (f a ha) (g b hb)
theorem setTurn_sorted {l : List Tn} (hs : l.Pairwise (tkey · < tkey ·)) (d : List UInt8) (n : Int) : (setTurn l d n).Pairwise (tkey · < tkey ·) := by
  unfold setTurn
  split
  · exact hs.filter _
  · exact gins_sorted tkey l d _ rfl hs
theorem setTurn_mem {l : List Tn} {d : List UInt8} {n : Int} {t : Tn} (h : t ∈ setTurn l d n) : t ∈ l ∨ (t = ⟨mk d, n⟩ ∧ n ≠ 0) := by
  unfold setTurn at h
  split at h
  · exact .inl (List.mem_filter.1 h).1
  · rcases List.mem_append.1 h with h | h
    · exact .inl (List.mem_filter.1 h).1
    · rcases List.mem_cons.1 h with h | h
      · exact .inr ⟨h, by assumption⟩
      · exact .inl (List.mem_filter.1 h).1
theorem gsplit_len {α : Type} (κ : α → List UInt8) (l : List α) (d : List UInt8) : (l.filter (gLt κ d)).length + (l.filter (gGt κ d)).length ≤ l.length := by
  induction l with
  | nil => simp
  | cons x l ih =>
    rw [List.filter_cons, List.filter_cons]
    by_cases a : κ x < d
    · rw [if_pos (by simpa [gLt] using a), if_neg (by simp [gGt, gLt, a])]; simp; omega
    · rw [if_neg (by simpa [gLt] using a)]
      split <;> simp <;> omega
theorem setTurn_len (l : List Tn) (d : List UInt8) (n : Int) : (setTurn l d n).length ≤ l.length + 1 := by
  unfold setTurn
  split
  · have := List.length_filter_le (fun t => !gEq tkey d t) l; omega
  · have := gsplit_len tkey l d
    simp; omega
theorem ins_sorted {l : List Nd} {x : Nd} (hs : l.Pairwise (key · < key ·)) (hn : l.find? (isK (key x)) = none) : (insS x l).Pairwise (key · < key ·) := by
  rw [← ins_split hs hn]
  exact gins_sorted key l _ x rfl hs
theorem StoreOk.mk' {s : Sto} {l : List Nd} (S : StoreOk s) (h1 : ∀ x ∈ l, pnB x = true) (h2 : l.Pairwise (key · < key ·)) : StoreOk ⟨l, s.Turns⟩ := ⟨List.all_eq_true.2 h1, h2, S.turns, S.tsort⟩
theorem doP_ok (s : Sto) (p : Pt1) (S : StoreOk s) (hm : mayP p = true) : StoreOk (doP s p).1 ∧ (doP s p).1.Nodes.length ≤ s.Nodes.length + 1 ∧ (doP s p).1.Turns.length ≤ s.Turns.length + 1 ∧ (doP s p).2.Names.length ≤ s.Nodes.length := by
  have hS : StoreOk s ∧ s.Nodes.length ≤ s.Nodes.length + 1 ∧ s.Turns.length ≤ s.Turns.length + 1 ∧ ([] : List ByteArray).length ≤ s.Nodes.length := ⟨S, by omega, by omega, by simp⟩
  have hN := fun x hx => List.all_eq_true.1 S.nodes x hx
  have hfl : ∀ f : Nd → Bool, StoreOk ⟨s.Nodes.filter f, s.Turns⟩ := fun f => S.mk' (fun x hx => hN x (List.mem_filter.1 hx).1) (S.nsort.filter _)
  have hf := (mayP_iff hm).1
  unfold fieldsB at hf
  simp only [Bool.and_eq_true, decide_eq_true_eq] at hf
  unfold doP
  split
  · rename_i c
    obtain ⟨q, hq⟩ := mayP_parent hm c
    have hu : upP (bl p.Path) = q := by unfold upP; rw [hq]; rfl
    unfold putP
    rw [hu]
    cases hn : nameS (pop p) q (turnOf s.Turns q) with
    | none => exact hS
    | some t =>
      obtain ⟨n1, n2⟩ := name_parent (o := pop p) hq hn
      simp only
      split
      · exact hS
      · rename_i hne
        have hfn : s.Nodes.find? (isK t) = none := by
          rcases opt2 (s.Nodes.find? (isK t)) with h | ⟨x, h⟩
          · exact h
          · rw [h] at hne; exact absurd rfl hne
        obtain ⟨ps, a, hp1, _⟩ := parts_q n1
        have tok : pathOk t = true := by unfold pathOk; rw [hp1]; rfl
        obtain ⟨_, _, _, _, hp2, _⟩ := parts_q hq
        have qok : pathOk q = true := by unfold pathOk; rw [hp2]; rfl
        have hns : StoreOk ⟨insS ⟨mk t, p.Data, 0, 0, p.Owner⟩ s.Nodes, s.Turns⟩ := S.mk' (fun x hx => by
            rcases mem_ins.1 hx with rfl | hx
            · unfold pnB fieldsB
              simp only [bl_mk, tok]
              simp
              exact ⟨hf.1.1.2, hf.2⟩
            · exact hN x hx) (ins_sorted (x := (⟨mk t, p.Data, 0, 0, p.Owner⟩ : Nd)) S.nsort hfn)
        have hil := ins_len (⟨mk t, p.Data, 0, 0, p.Owner⟩ : Nd) s.Nodes
        cases hT : p.Turns with
        | false => exact ⟨hns, by simp only; omega, by simp, by simp [res]⟩
        | true =>
          have n3 := n2 hT
          refine ⟨⟨hns.nodes, hns.nsort, List.all_eq_true.2 fun y hy => ?_, setTurn_sorted S.tsort _ _⟩, by simp only; omega, setTurn_len _ _ _, by simp [res]⟩
          rcases setTurn_mem hy with hy | ⟨rfl, _⟩
          · exact List.all_eq_true.1 S.turns y hy
          · unfold ptB
            simp only [tkey, bl_mk, qok, Bool.true_and, decide_eq_true_eq]
            omega
  split
  · split
    · exact hS
    · refine ⟨⟨S.nodes, S.nsort, List.all_eq_true.2 fun y hy => ?_, setTurn_sorted S.tsort (bl p.Path) 0⟩, by simp, setTurn_len s.Turns (bl p.Path) 0, by simp [res]⟩
      rcases setTurn_mem (show y ∈ setTurn s.Turns (bl p.Path) 0 from hy) with hy | ⟨rfl, h⟩
      · exact List.all_eq_true.1 S.turns y hy
      · exact absurd rfl h
  split
  · exact ⟨S, by simp, by simp, by simp only [List.length_map]; exact List.length_filter_le _ _⟩
  split
  · exact ⟨hfl _, Nat.le_succ_of_le (List.length_filter_le _ _), by simp, by simp only [List.length_map]; exact List.length_filter_le _ _⟩
  split
  · exact hS
  rename_i e0
  split
  · exact hS
  split
  · exact ⟨hfl _, Nat.le_succ_of_le (List.length_filter_le _ _), by simp, by simp [res]⟩
  split
  · split
    · exact hS
    · rename_i hv
      refine ⟨S.mk' (fun x hx => ?_) (upd_sorted S.nsort _ (fun z => rfl)), by simp only [upd_len]; omega, by simp, by simp [res]⟩
      obtain ⟨z, hz, rfl⟩ := mem_upd.1 hx
      have hzb := hN z hz
      split
      · rename_i hk
        have hkz : key z = bl p.Path := by simpa [isK] using hk
        have hnd : ndS s.Nodes p = (z, 0) := by
          have h1 := find_mem S.nsort hz
          rw [hkz] at h1
          unfold ndS at e0 ⊢
          rw [h1] at e0 ⊢
          simp only at e0 ⊢
          split at e0
          · exact absurd (show (63 : Int) ≠ 0 by decide) e0
          · rw [if_neg (by assumption)]
        rw [hnd] at hv
        have h2 := store_ver S z hz
        simp only at hv
        have he : pnB (altF p z) = (decide (z.Turn = 0) && fieldsB z.Path p.Data (z.Version + 1) 0 z.Owner) := rfl
        rw [he]
        unfold pnB at hzb
        unfold fieldsB at hzb ⊢
        simp only [Bool.and_eq_true, decide_eq_true_eq] at hzb ⊢
        exact ⟨hzb.1, ⟨⟨hzb.2.1.1.1, by omega⟩, by omega⟩, hzb.2.2⟩
      · exact hzb
  split
  · exact hS
  split
  · exact hS
  · exact hS
theorem pathOk_len {p : List UInt8} (h : pathOk p = true) : p.length ≤ 78 := by
  unfold pathOk at h
  obtain ⟨ps, hp⟩ := Option.isSome_iff_exists.1 h
  exact parts_len hp
theorem StoreOk.sms {s : Sto} (S : StoreOk s) (h1 : s.Nodes.length ≤ 90000) (h2 : s.Turns.length ≤ 90000) : SmS s := by
  refine ⟨fun x hx => ?_, fun t ht => ?_, h1, h2⟩
  · have := List.all_eq_true.1 S.nodes x hx
    unfold pnB fieldsB at this
    simp only [Bool.and_eq_true] at this
    have := pathOk_len this.2.1.1.1
    have e : (bl x.Path).length = (key x).length := rfl
    omega
  · have := List.all_eq_true.1 S.turns t ht
    unfold ptB at this
    simp only [Bool.and_eq_true] at this
    have := pathOk_len this.1
    omega
end Go.Cb
