/- PartSplits, plainly: the two trees are one. -/
import Derived.Test.YtgdfoajophpblaaGreatDoorVDpx
set_option linter.unusedVariables false
set_option linter.unusedSimpArgs false
namespace Go.Cb
open Go.Proofs Go.RowKit

def nomt (L : List Sto) (x : Nd) : Nat := (mtL (key x) L).length
def sumN (f : Nd → Nat) (l : List Nd) : Nat := (l.map f).sum
theorem addAll_none (L : List Sto) : ∀ (l : List Nd) (z : List Nd × Nat), ((∃ x ∈ l, 2 ≤ nomt L x) ∨ (∃ x ∈ l, ∃ y ∈ z.1, key y = key x) ∨ ¬ l.Pairwise (fun a b => key a ≠ key b)) → addAll L l z = none
  | [], z, h => by rcases h with ⟨_, h, _⟩ | ⟨_, h, _⟩ | h <;> simp at h
  | x :: l, z, h => by
    show (addN L z x).bind (addAll L l) = none
    cases e : addN L z x with
    | none => rfl
    | some u =>
      obtain ⟨h1, h2, rfl⟩ := addN_ok e
      refine addAll_none L l _ ?_
      rcases h with ⟨y, hy, h3⟩ | ⟨y, hy, w, hw, h3⟩ | h
      · rcases List.mem_cons.1 hy with rfl | hy
        · unfold nomt at h3; omega
        · exact .inl ⟨y, hy, h3⟩
      · rcases List.mem_cons.1 hy with rfl | hy
        · exact absurd h3 (none_ne h1 w hw)
        · exact .inr (.inl ⟨y, hy, w, mem_ins.2 (.inr hw), h3⟩)
      · rw [List.pairwise_cons] at h
        by_cases c : ∀ y ∈ l, key x ≠ key y
        · exact .inr (.inr fun k => h ⟨c, k⟩)
        · have : ∃ y ∈ l, key x = key y := by
            refine Classical.byContradiction fun k => c fun y hy e => k ⟨y, hy, e⟩
          obtain ⟨y, hy, e⟩ := this
          exact .inr (.inl ⟨y, hy, setT x (mtL (key x) L), mem_ins.2 (.inl rfl), e⟩)
theorem addAll_some (L : List Sto) : ∀ (l : List Nd) (z : List Nd × Nat), (∀ x ∈ l, nomt L x ≤ 1) → (∀ x ∈ l, ∀ y ∈ z.1, key y ≠ key x) → l.Pairwise (fun a b => key a ≠ key b) → ∃ y, addAll L l z = some y ∧ y.2 = z.2 + sumN (nomt L) l ∧ ∀ u, u ∈ y.1 ↔ u ∈ z.1 ∨ ∃ x ∈ l, u = setT x (mtL (key x) L)
  | [], z, _, _, _ => ⟨z, rfl, by simp [sumN], fun u => by simp⟩
  | x :: l, z, h1, h2, h3 => by
    obtain ⟨d1, d2⟩ := List.pairwise_cons.1 h3
    have e : addN L z x = some (insS (setT x (mtL (key x) L)) z.1, z.2 + (mtL (key x) L).length) := by
      unfold addN
      have : z.1.find? (isK (key x)) = none := List.find?_eq_none.2 fun y hy => by
        have := h2 x (by simp) y hy
        simpa [isK] using this
      rw [this, if_neg (by simp), if_pos (show (mtL (key x) L).length ≤ 1 from h1 x (by simp))]
    obtain ⟨y, g1, g2, g3⟩ := addAll_some L l (insS (setT x (mtL (key x) L)) z.1, z.2 + (mtL (key x) L).length) (fun y hy => h1 y (List.mem_cons_of_mem _ hy)) (fun y hy w hw => by
      rcases mem_ins.1 hw with rfl | hw
      · exact d1 y hy
      · exact h2 y (List.mem_cons_of_mem _ hy) w hw) d2
    refine ⟨y, by show (addN L z x).bind _ = _; rw [e]; exact g1, ?_, fun u => ?_⟩
    · rw [g2]
      simp only [sumN, List.map_cons, List.sum_cons, nomt]
      omega
    · rw [g3 u, mem_ins]
      constructor
      · rintro ((h | h) | ⟨w, hw, h⟩)
        · exact .inr ⟨x, by simp, h⟩
        · exact .inl h
        · exact .inr ⟨w, List.mem_cons_of_mem _ hw, h⟩
      · rintro (h | ⟨w, hw, h⟩)
        · exact .inl (.inr h)
        · rcases List.mem_cons.1 hw with rfl | hw
          · exact .inl (.inl h)
          · exact .inr ⟨w, hw, h⟩
/-! ### how many turns there are -/
theorem sum_le {f g : Nd → Nat} : ∀ {l : List Nd}, (∀ x ∈ l, f x ≤ g x) → sumN f l ≤ sumN g l
  | [], _ => Nat.le_refl _
  | x :: l, h => by
    have := sum_le (l := l) fun y hy => h y (List.mem_cons_of_mem _ hy)
    have := h x (by simp)
    simp only [sumN, List.map_cons, List.sum_cons] at *
    omega
theorem sum_lt {f g : Nd → Nat} : ∀ {l : List Nd}, (∀ x ∈ l, f x ≤ g x) → (∃ x ∈ l, f x < g x) → sumN f l < sumN g l
  | [], _, ⟨_, h, _⟩ => by simp at h
  | x :: l, h, ⟨y, hy, k⟩ => by
    have h1 := sum_le (l := l) fun y hy => h y (List.mem_cons_of_mem _ hy)
    have h2 := h x (by simp)
    rcases List.mem_cons.1 hy with rfl | hy
    · simp only [sumN, List.map_cons, List.sum_cons] at *
      omega
    · have := sum_lt (l := l) (fun y hy => h y (List.mem_cons_of_mem _ hy)) ⟨y, hy, k⟩
      simp only [sumN, List.map_cons, List.sum_cons] at *
      omega
theorem sum_congr {f g : Nd → Nat} : ∀ {l : List Nd}, (∀ x ∈ l, f x = g x) → sumN f l = sumN g l
  | [], _ => rfl
  | x :: l, h => by
    have h1 := sum_congr (l := l) fun y hy => h y (List.mem_cons_of_mem _ hy)
    have h2 := h x (by simp)
    simp only [sumN, List.map_cons, List.sum_cons] at *
    omega
theorem sum_add (f g : Nd → Nat) : ∀ l : List Nd, sumN (fun x => f x + g x) l = sumN f l + sumN g l
  | [] => rfl
  | x :: l => by
    have := sum_add f g l
    simp only [sumN, List.map_cons, List.sum_cons] at *
    omega
theorem sum_zero : ∀ l : List Nd, sumN (fun _ => 0) l = 0
  | [] => rfl
  | x :: l => by
    have := sum_zero l
    simp only [sumN, List.map_cons, List.sum_cons] at *
    omega
theorem sum_one (p : List UInt8) : ∀ {l : List Nd}, l.Pairwise (fun a b => key a ≠ key b) → sumN (fun x => if p = key x then 1 else 0) l ≤ 1
  | [], _ => Nat.zero_le _
  | x :: l, h => by
    obtain ⟨h1, h2⟩ := List.pairwise_cons.1 h
    have ih := sum_one p h2
    by_cases c : p = key x
    · have : sumN (fun x => if p = key x then 1 else 0) l = sumN (fun _ => 0) l := sum_congr fun y hy => if_neg fun e => h1 y hy (c ▸ e)
      rw [sum_zero] at this
      simp only [sumN, List.map_cons, List.sum_cons, if_pos c] at *
      omega
    · simp only [sumN, List.map_cons, List.sum_cons, if_neg c] at *
      omega
theorem sum_mtS {l : List Nd} (h : l.Pairwise (fun a b => key a ≠ key b)) : ∀ T : List Tn, sumN (fun x => (mtS (key x) T).length) l ≤ T.length
  | [] => by
    have : sumN (fun x => (mtS (key x) []).length) l = sumN (fun _ => 0) l := rfl
    rw [this, sum_zero]; exact Nat.zero_le _
  | t :: T => by
    have ih := sum_mtS h T
    have e : sumN (fun x => (mtS (key x) (t :: T)).length) l = sumN (fun x => (if tkey t = key x then 1 else 0) + (mtS (key x) T).length) l := sum_congr fun x _ => by
      unfold mtS
      rw [List.filter_cons]
      by_cases c : tkey t = key x
      · rw [if_pos (by simpa [gEq] using c), if_pos c, List.map_cons, List.length_cons]; omega
      · rw [if_neg (by simpa [gEq] using c), if_neg c]; omega
    rw [e, sum_add]
    have := sum_one (tkey t) h
    rw [List.length_cons]
    omega
theorem cnt_sum (f : List UInt8 → Option Int) : ∀ l : List Nd, cntTs f l = sumN (fun x => if (f (key x)).isSome = true then 1 else 0) l
  | [] => rfl
  | x :: l => by
    have := cnt_sum f l
    unfold cntTs at *
    rw [List.filter_cons]
    simp only [sumN, List.map_cons, List.sum_cons] at *
    split
    · rw [List.length_cons]; omega
    · omega
theorem sum_perm {f : Nd → Nat} {a b : List Nd} (h : a.Perm b) : sumN f a = sumN f b := (h.map f).sum_nat
theorem putTs_last (k : List UInt8) : ∀ (ts : List Tn) (f : List UInt8 → Option Int), putTs f ts k = match (mtS k ts).getLast? with | some n => some n | none => f k
  | [], f => rfl
  | t :: ts, f => by
    rw [show putTs f (t :: ts) k = putTs (mputO f (tkey t) t.Next) ts k from rfl, putTs_last k ts]
    unfold mtS mputO
    rw [List.filter_cons]
    by_cases c : tkey t = k
    · have g : gEq tkey k t = true := by simpa [gEq] using c
      simp only [g, if_true, List.map_cons, List.getLast?_cons]
      cases (List.map (·.Next) (List.filter (gEq tkey k) ts)).getLast? <;> simp [c]
    · have g : gEq tkey k t = false := by simpa [gEq] using c
      simp only [g, Bool.false_eq_true, if_false]
      rw [if_neg (fun e => c e.symm)]
theorem put2_last (a b : Sto) (k : List UInt8) : putTs2 a b k = (mtL k [a, b]).getLast? := by
  unfold putTs2
  rw [putTs_last, putTs_last]
  unfold mtL
  simp only [List.flatMap_cons, List.flatMap_nil, List.append_nil]
  rw [List.getLast?_append]
  cases (mtS k b.Turns).getLast? <;> cases (mtS k a.Turns).getLast? <;> rfl
theorem last_some {g : List Int} : g.getLast?.isSome = true ↔ 1 ≤ g.length := by
  cases g with
  | nil => simp
  | cons x l => simp [List.getLast?_cons]
theorem trees_one (a b : Sto) (O : OkL [a, b]) : m_part_Tree [a, b] = m_cantonref07_Tree [a, b] := by
  have ha := O.sm a (by simp)
  have hb := O.sm b (by simp)
  have a1 := O.ln a (by simp)
  have a2 := O.lt a (by simp)
  have b1 := O.ln b (by simp)
  have b2 := O.lt b (by simp)
  rw [tree_two a b ha hb (O.ok a (by simp)) (O.ok b (by simp)), rtree_two a b O]
  have hp := srt_perm (a.Nodes ++ b.Nodes)
  have hso := srt_sorted (a.Nodes ++ b.Nodes)
  have hsl := srt_len (a.Nodes ++ b.Nodes)
  have hsm : Sm (srtN (a.Nodes ++ b.Nodes)) := fun x hx => by
    rcases List.mem_append.1 (hp.mem_iff.1 hx) with h | h
    · exact ha.sm x h
    · exact hb.sm x h
  rw [List.length_append] at hsl
  generalize hN : a.Nodes ++ b.Nodes = N at hp hso hsl hsm ⊢
  have hle : ∀ x : Nd, nomt [a, b] x = (mtS (key x) a.Turns).length + (mtS (key x) b.Turns).length := fun x => by
    unfold nomt mtL
    simp
  have hcnt : cntTs (putTs2 a b) (srtN N) = sumN (fun x => if 1 ≤ nomt [a, b] x then 1 else 0) N := by
    rw [cnt_sum, sum_perm hp]
    refine sum_congr fun x _ => ?_
    rw [put2_last]
    by_cases c : 1 ≤ nomt [a, b] x
    · rw [if_pos (last_some.2 c), if_pos c]
    · rw [if_neg (fun h => c (last_some.1 h)), if_neg c]
  obtain ⟨r, r1, r2⟩ := pRight_eq (setTs (putTs2 a b) (srtN N)) (by simp [setTs]; omega) (setTs_sm hsm)
  unfold treeEnd
  rw [r1]
  simp only [Option.bind_some]
  by_cases D : N.Pairwise (fun a b => key a ≠ key b)
  · have hsum : sumN (nomt [a, b]) N ≤ a.Turns.length + b.Turns.length := by
      rw [sum_congr (fun x _ => hle x), sum_add]
      have := sum_mtS D a.Turns
      have := sum_mtS D b.Turns
      omega
    have h01 : ∀ x ∈ N, (if 1 ≤ nomt [a, b] x then 1 else 0) ≤ nomt [a, b] x := fun x _ => by split <;> omega
    by_cases M : ∃ x ∈ N, 2 ≤ nomt [a, b] x
    · rw [addAll_none [a, b] N ([], 0) (.inl M)]
      obtain ⟨x, hx, h2⟩ := M
      have := sum_lt h01 ⟨x, hx, by split <;> omega⟩
      rw [if_pos (by rw [hcnt]; omega)]
    · have M1 : ∀ x ∈ N, nomt [a, b] x ≤ 1 := fun x hx => by
        refine Classical.byContradiction fun h => M ⟨x, hx, by omega⟩
      obtain ⟨z, z1, z2, z3⟩ := addAll_some [a, b] N ([], 0) M1 (fun x _ y hy => by simp at hy) D
      rw [z1]
      simp only
      have hn : z.2 = cntTs (putTs2 a b) (srtN N) := by
        rw [hcnt, z2, Nat.zero_add]
        refine sum_congr fun x hx => ?_
        have := M1 x hx
        split <;> omega
      have zs := addAll_sorted z1 List.Pairwise.nil
      have nd : (srtN N).Pairwise (fun a b => key a ≠ key b) := (hp.pairwise_iff (fun h => h.symm)).2 D
      have ss : (setTs (putTs2 a b) (srtN N)).Pairwise (key · < key ·) := by
        unfold setTs
        rw [List.pairwise_map]
        exact (hso.and nd).imp fun h => kl_not h.1 (fun e => h.2 e.symm)
      have e : setTs (putTs2 a b) (srtN N) = z.1 := by
        refine sorted_ext key ss zs fun u => ?_
        rw [z3 u]
        unfold setTs
        rw [List.mem_map]
        have q : ∀ x ∈ N, ({ x with Turn := ((putTs2 a b) (key x)).getD 0 } : Nd) = setT x (mtL (key x) [a, b]) := fun x hx => by
          have h1 := M1 x hx
          unfold nomt at h1
          rw [put2_last]
          unfold setT hd0
          generalize mtL (key x) [a, b] = g at h1 ⊢
          cases g with
          | nil => rfl
          | cons y g =>
            have : g = [] := by cases g with | nil => rfl | cons _ _ => simp at h1
            subst this
            rfl
        constructor
        · rintro ⟨x, hx, rfl⟩
          exact .inr ⟨x, hp.mem_iff.1 hx, q x (hp.mem_iff.1 hx)⟩
        · rintro (h | ⟨x, hx, rfl⟩)
          · simp at h
          · exact ⟨x, hp.mem_iff.2 hx, q x hx⟩
      unfold rEnd
      rw [hn]
      by_cases c : cntTs (putTs2 a b) (srtN N) = a.Turns.length + b.Turns.length
      · have c' : ¬ (cntTs (putTs2 a b) (srtN N) ≠ a.Turns.length + b.Turns.length) := fun h => h c
        rw [if_neg c', if_neg c']
        rw [e] at r2 ⊢
        have zl := (addAll_len z1).1
        obtain ⟨r', q1, q2⟩ := rRight_eq z.1 (by rw [← e]; simp [setTs]; omega) (by rw [← e]; exact setTs_sm hsm)
        rw [q1, show r' = r from Bool.eq_iff_iff.2 (q2.trans r2.symm)]
        rfl
      · rw [if_pos c, if_pos c]
  · rw [addAll_none [a, b] N ([], 0) (.inr (.inr D))]
    simp only
    split
    · rfl
    · cases r with
      | false => rfl
      | true =>
        have T := r2.1 rfl
        have ss := T.sorted
        unfold setTs at ss
        rw [List.pairwise_map] at ss
        have : (srtN N).Pairwise (fun a b => key a ≠ key b) := ss.imp fun h => kl_ne h
        exact absurd ((hp.pairwise_iff (fun h => h.symm)).1 this) D
/-! ### PartSplits -/
theorem sameParts_l1 (a : List Pt1) (hl : a.length ≤ 1000000) : ∀ (k i : Nat), i ≤ a.length → a.length + 1 ≤ i + k → m_cantonref07_SameParts_l1 a a k (i : Int) = some true
  | 0, i, _, h => by omega
  | k + 1, i, h0, h => by
    rw [m_cantonref07_SameParts_l1]
    by_cases hi : i < a.length
    · rw [if_pos (by simpa using hi), idx_lt hi, inc1 (by omega)]
      simp only [Option.bind_some]
      rw [if_neg (by simp [sEq_bl]), sameParts_l1 a hl k (i + 1) (by omega) (by omega)]
    · rw [if_neg (by simpa using hi)]
theorem sameParts_self (a : List Pt1) (hl : a.length ≤ 1000000) : m_cantonref07_SameParts a a = some true := by
  unfold m_cantonref07_SameParts
  rw [if_neg (by simp)]
  exact sameParts_l1 a hl (((a.length : Int) - 0 : Int).toNat + 1) 0 (by omega) (by omega)
theorem rKeep_l1 (l : List Nd) (hl : l.length ≤ 1000000) : ∀ (k i : Nat) (a : List Nd) (b : List Tn), i ≤ l.length → l.length + 1 ≤ i + k → a.length ≤ i → b.length ≤ i → m_cantonref07_Keep_l1 l k (i : Int) a b = some ⟨a ++ (l.drop i).map kn, b ++ ((l.drop i).filter fun x => x.Turn != 0).map ktn⟩
  | 0, i, a, b, _, h, _, _ => by omega
  | k + 1, i, a, b, h0, h, ha, hb => by
    unfold m_cantonref07_Keep_l1 m_cantonref07_Keep_j1
    by_cases hi : i < l.length
    · rw [if_pos (by simpa using hi), idx_lt hi, List.drop_eq_getElem_cons hi, List.filter_cons, inc1 (by omega)]
      simp only [Option.bind_some]
      cases hc : ((l[i]).Turn != 0) with
      | true =>
        rw [if_pos rfl, if_pos rfl, ck_b (by simp [LIM]; omega), ck_b (by simp [LIM]; omega), rKeep_l1 l hl k (i + 1) _ _ (by omega) (by omega) (by simp; omega) (by simp; omega)]
        rw [List.map_cons, List.map_cons, List.append_assoc, List.append_assoc]; rfl
      | false =>
        rw [if_neg (by simp), if_neg (by simp), ck_b (by simp [LIM]; omega), rKeep_l1 l hl k (i + 1) _ _ (by omega) (by omega) (by simp; omega) (by omega)]
        rw [List.map_cons, List.append_assoc]; rfl
    · rw [if_neg (by simpa using hi), List.drop_eq_nil_of_le (by omega)]
      simp
theorem rKeep_eq (l : List Nd) (hl : l.length ≤ 1000000) : m_cantonref07_Keep l = some (keepS l) := by
  refine (rKeep_l1 l hl (((l.length : Int) - 0 : Int).toNat + 1) 0 [] [] (by omega) (by omega) (by simp) (by simp)).trans ?_
  simp [keepS]
theorem trees_any (a b : Sto) (ha : SmS a ∧ a.Nodes.length ≤ 1666 ∧ a.Turns.length < 3000) (hb : SmS b ∧ b.Nodes.length ≤ 1666 ∧ b.Turns.length < 3000) : ∃ y, m_part_Tree [a, b] = some y ∧ m_cantonref07_Tree [a, b] = some y ∧ y.1.length ≤ 4000 := by
  by_cases S : StoreOk a ∧ StoreOk b
  · have O : OkL [a, b] := by
      refine ⟨fun s hs => ?_, fun s hs => ?_, fun s hs => ?_, fun s hs => ?_, by simp⟩
      all_goals
        rcases List.mem_cons.1 hs with rfl | hs
        · first | exact S.1 | exact ha.1 | omega
        · rcases List.mem_cons.1 hs with rfl | hs
          · first | exact S.2 | exact hb.1 | omega
          · simp at hs
    have e := trees_one a b O
    have h1 := tree_two a b ha.1 hb.1 S.1 S.2
    have hsl := srt_len (a.Nodes ++ b.Nodes)
    have hp := srt_perm (a.Nodes ++ b.Nodes)
    have hsm : Sm (srtN (a.Nodes ++ b.Nodes)) := fun x hx => by
      rcases List.mem_append.1 (hp.mem_iff.1 hx) with h | h
      · exact ha.1.sm x h
      · exact hb.1.sm x h
    rw [List.length_append] at hsl
    unfold treeEnd at h1
    obtain ⟨r, r1, r2⟩ := pRight_eq (setTs (putTs2 a b) (srtN (a.Nodes ++ b.Nodes))) (by simp [setTs]; omega) (setTs_sm hsm)
    rw [r1] at h1
    rw [← e, h1]
    split
    · exact ⟨_, rfl, rfl, by simp⟩
    · cases r with
      | false => exact ⟨_, rfl, rfl, by simp⟩
      | true => exact ⟨_, rfl, rfl, by simp [setTs]; omega⟩
  · exact ⟨_, tree_two_bad a b ha.1 hb.1 S, rtree_two_bad a b ha.1 hb.1 S, by simp⟩
theorem pure_psplits (o : Op1) (l : List Nd) (a b : Sto) (hl : l.length ≤ 140737488351232) (ha : a.Nodes.length ≤ 140737488351232) (hb : b.Nodes.length ≤ 140737488351232) : m_cantonlaw07_PartSplits o l a b = some true := by
  have up : m_cantonlaw07_PartSplits_j1 true a b o l true = some true := rfl
  unfold m_cantonlaw07_PartSplits
  rw [head7_t]
  obtain ⟨c1, h1, k1⟩ := GreatOp_eq o
  simp only [Option.bind_some]
  rw [h1]
  simp only [Option.bind_some]
  cases c1 with
  | true => rw [if_pos rfl]; exact up
  | false =>
    rw [if_neg (by simp)]
    obtain ⟨c2, h2, k2⟩ := Great_eq l hl
    rw [h2]
    simp only [Option.bind_some]
    cases c2 with
    | true => rw [if_pos rfl]; exact up
    | false =>
      rw [if_neg (by simp)]
      obtain ⟨c3, h3, k3⟩ := great7_eq a ha
      rw [h3]
      simp only [Option.bind_some]
      cases c3 with
      | true => rw [if_pos rfl]; exact up
      | false =>
        rw [if_neg (by simp)]
        obtain ⟨c4, h4, k4⟩ := great7_eq b hb
        rw [h4]
        simp only [Option.bind_some]
        cases c4 with
        | true => exact up
        | false =>
          obtain ⟨y, y1, y2, y3⟩ := trees_any a b (k3 rfl) (k4 rfl)
          obtain ⟨l1, l2⟩ := k2 rfl
          have ho := ofS_len o
          have kl : (keepS l).Nodes.length = l.length := by simp [keepS]
          have kt : (keepS l).Turns.length ≤ l.length := by simp only [keepS, List.length_map]; exact List.length_filter_le _ _
          unfold m_cantonlaw07_PartSplits_j1
          rw [if_neg (by simp), y1, y2]
          simp only [Option.bind_some]
          rw [if_pos trivial, partOf_eq, rOf_eq o (by have := k1 rfl; omega)]
          simp only [Option.bind_some]
          rw [sameParts_self _ (by omega)]
          simp only [Option.bind_some]
          rw [if_pos trivial, Keep_eq l (by omega), rKeep_eq l (by omega)]
          simp only [Option.bind_some]
          rw [sameS_eq _ _ (by omega) (by omega), decide_eq_true rfl]
          simp only [Option.bind_some]
          rw [if_pos trivial, Same_eq _ _ (by omega), decide_eq_true rfl]
          simp
end Go.Cb
