/- Nodes, plainly: the document's answer: paths' names, Put, Children, Named, create, Apply, May. -/
import Derived.Test.YtgdfoajophpblaaGreatDoorQ9pt
import Derived.Test.YtgdfoajophpblaaGreatDoorApt1
set_option linter.unusedVariables false
set_option linter.unusedSimpArgs false
namespace Go.Cb
open Go.Proofs Go.RowKit

theorem inc1 {i : Nat} (h : i ≤ 1000000000) : IntKind.i64.wrap ((i : Int) + 1) = ((i + 1 : Nat) : Int) := by rw [w64 (by omega) (by omega)]; omega
theorem rLast_eq (s : ByteArray) (hs : (bl s).length ≤ 100000000) : m_cantonref01_Last s = some (mk (lastS (bl s))) := by
  unfold m_cantonref01_Last m_cantonref01_Last_j1 lastS
  rw [rSplit_eq s hs]
  simp only [Option.bind_some]
  unfold spl
  cases hp : parts (bl s) with
  | none => rfl
  | some ps =>
    obtain ⟨h0, h1, h2⟩ := (parts_iff _ ps).1 hp
    simp only [Bool.not_true, Bool.false_eq_true, if_false, List.length_map]
    rcases List.eq_nil_or_concat ps with rfl | ⟨qs, t, rfl⟩
    · rfl
    · rw [List.concat_eq_append] at *
      simp only [List.length_append, List.length_cons, List.length_nil] at *
      rw [if_neg (by simp; omega), show IntKind.i64.wrap (((qs.length + (0 + 1) : Nat) : Int) - 1) = ((qs.length : Nat) : Int) from by rw [w64 (by omega) (by omega)]; omega, idx_lt (by simp)]
      simp
theorem rdig (n : Nat) (h : n ≤ 9999) : strOf [IntKind.u8.wrap (IntKind.i64.wrap (48 + (IntKind.i64.wrap ((n : Int).tdiv 1000)))), IntKind.u8.wrap (IntKind.i64.wrap (48 + ((IntKind.i64.wrap ((n : Int).tdiv 100)).tmod 10))), IntKind.u8.wrap (IntKind.i64.wrap (48 + ((IntKind.i64.wrap ((n : Int).tdiv 10)).tmod 10))), IntKind.u8.wrap (IntKind.i64.wrap (48 + ((n : Int).tmod 10)))] = mk (digits n) := by
  have e1 : (n : Int).tdiv 1000 = ((n / 1000 : Nat) : Int) := by rw [Int.tdiv_eq_ediv_of_nonneg (by omega)]; rfl
  have e2 : (n : Int).tdiv 100 = ((n / 100 : Nat) : Int) := by rw [Int.tdiv_eq_ediv_of_nonneg (by omega)]; rfl
  have e3 : (n : Int).tdiv 10 = ((n / 10 : Nat) : Int) := by rw [Int.tdiv_eq_ediv_of_nonneg (by omega)]; rfl
  have m : ∀ k : Nat, (k : Int).tmod 10 = ((k % 10 : Nat) : Int) := fun k => by rw [Int.tmod_eq_emod_of_nonneg (by omega)]; rfl
  have u : ∀ k : Nat, k ≤ 200 → IntKind.u8.wrap (k : Int) = k := fun k hk => by
    unfold IntKind.wrap
    simp [IntKind.signed, IntKind.bits]
    omega
  rw [e1, e2, e3, w64 (n := ((n / 1000 : Nat) : Int)) (by omega) (by omega), w64 (n := ((n / 100 : Nat) : Int)) (by omega) (by omega), w64 (n := ((n / 10 : Nat) : Int)) (by omega) (by omega), m, m, m]
  have v : ∀ k : Nat, k ≤ 9 → IntKind.u8.wrap (IntKind.i64.wrap (48 + (k : Int))) = ((48 + k : Nat) : Int) := fun k hk => by rw [w64 (by omega) (by omega)]; rw [show (48 : Int) + (k : Int) = ((48 + k : Nat) : Int) from by omega]; exact u _ (by omega)
  rw [v _ (by omega), v _ (by omega), v _ (by omega), v _ (by omega)]
  unfold strOf mk digits
  rw [Nat.mod_eq_of_lt (show n / 1000 < 10 by omega)]
  simp only [List.map_cons, List.map_nil, Int.toNat_natCast]
theorem rNumbered_eq (s : ByteArray) (n : Int) (hs : (bl s).length ≤ 1000000) : m_cantonref01_Numbered s n = some (os2 (numS (bl s) n)) := by
  unfold m_cantonref01_Numbered m_cantonref01_Numbered_j1 numS
  by_cases h0 : n < 0
  · rw [if_pos (by simpa using h0), if_pos rfl, if_neg (by omega)]; rfl
  by_cases h1 : n > 9999
  · rw [if_neg (by simpa using h0), if_pos (by simpa using h1), if_neg (by omega)]; rfl
  · obtain ⟨k, rfl⟩ : ∃ k : Nat, n = k := ⟨n.toNat, by omega⟩
    rw [if_neg (by simp), if_neg (by simpa using h1), rdig k (by omega)]
    have z := bl_size s
    have zd : (mk (digits k)).size = 4 := rfl
    rw [ck_b (by omega), rpart_eq _ (by rw [bl_app, bl_mk]; simp [digits]; omega), bl_app, bl_mk, Int.toNat_natCast]
    simp only [Option.bind_some]
    cases hp : partOk (bl s ++ digits k) with
    | false => rw [if_pos (by rfl), if_neg (by simp)]; rfl
    | true =>
      rw [if_neg (by simp), if_pos ⟨by omega, by omega, rfl⟩]
      show some (s ++ mk (digits k), true) = some (mk (bl s ++ digits k), true)
      rw [show s ++ mk (digits k) = mk (bl s ++ digits k) from bl_inj (by rw [bl_app, bl_mk, bl_mk])]
theorem rNamed_eq (o : Op1) (q : List UInt8) (t : Int) (hp : (bl o.Path).length ≤ 100000000) (hq : parentS (bl o.Path) = some q) : m_cantonref06_Named o t = some (os2 (nameS o q t)) := by
  unfold m_cantonref06_Named nameS
  cases hT : o.Turns with
  | false => rw [if_pos (by rfl), if_neg (by simp)]; simp [os2, mk_bl]
  | true =>
    rw [if_neg (by simp), if_pos rfl, rParent_eq _ hp, hq, rLast_eq _ hp]
    simp only [Option.bind_some]
    have := last_len (bl o.Path)
    rw [rNumbered_eq _ _ (by rw [bl_mk]; omega), bl_mk]
    simp only [Option.bind_some]
    cases hn : numS (lastS (bl o.Path)) t with
    | none => rw [if_pos (by rfl)]; rfl
    | some s =>
      obtain ⟨h1, h2, _, _⟩ := numS_ok hn
      rw [if_neg (by simp [os2])]
      simp only [os2]
      obtain ⟨ps, u, hps, hqe, hpq, _, _, _, h5⟩ := parts_q hq
      obtain ⟨hj, _⟩ := join_parent hpq h5 h1
      rw [rJoin_eq _ _ (by rw [bl_mk]; have := parts_len hpq; omega) (by rw [bl_mk]; have := part12 h1; omega), bl_mk, bl_mk, hj]
      simp [os2, hj]
/-! ### Put, without, Children -/
def putS (x : Nd) (l : List Nd) : List Nd := l.filter (ltB (key x)) ++ x :: l.filter (fun y => !ltB (key x) y && !isK (key x) y)
theorem sLt_key (x y : Nd) : sLt y.Path x.Path = ltB (key x) y := sLt_bl _ _
theorem sEq_key (x : Nd) (s : ByteArray) : sEq x.Path s = isK (bl s) x := sEq_bl _ _
theorem nd_eta (x : Nd) : (⟨x.Path, x.Data, x.Version, x.Turn, x.Owner⟩ : Nd) = x := rfl
theorem Put_done (l : List Nd) (x : Nd) (hl : l.length ≤ 1000000) : ∀ (k i : Nat) (acc : List Nd), i ≤ l.length → l.length + 1 ≤ i + k → acc.length ≤ i + 1 → m_cantonref06_Put_l1 l x k acc true (i : Int) = some (acc ++ (l.drop i).filter (fun y => !isK (key x) y))
  | 0, i, acc, _, h, _ => by omega
  | k + 1, i, acc, h0, hk, ha => by
    unfold m_cantonref06_Put_l1 m_cantonref06_Put_j4 m_cantonref06_Put_j3 m_cantonref06_Put_j2 m_cantonref06_Put_j1
    by_cases hi : i < l.length
    · rw [if_pos (by simpa using hi), if_neg (by simp), if_neg (by simp), idx_lt hi]
      simp only [Option.bind_some]
      rw [sEq_key, show bl x.Path = key x from rfl, List.drop_eq_getElem_cons hi, List.filter_cons, inc1 (by omega)]
      cases hc : isK (key x) l[i] with
      | true => rw [if_neg (by simp), if_neg (by simp)]; exact Put_done l x hl k (i + 1) acc (by omega) (by omega) (by omega)
      | false =>
        rw [if_pos (by rfl), if_pos (by rfl), ck_b (by simp [LIM]; omega), Put_done l x hl k (i + 1) _ (by omega) (by omega) (by simp; omega)]
        simp
    · rw [if_neg (by simpa using hi), if_neg (by simp), List.drop_eq_nil_of_le (by omega)]
      simp
theorem Put_l1 (l : List Nd) (x : Nd) (hl : l.length ≤ 1000000) (hs : l.Pairwise (key · < key ·)) : ∀ (k i : Nat) (acc : List Nd), i ≤ l.length → l.length + 1 ≤ i + k → acc.length ≤ i → m_cantonref06_Put_l1 l x k acc false (i : Int) = some (acc ++ putS x (l.drop i))
  | 0, i, acc, _, h, _ => by omega
  | k + 1, i, acc, h0, hk, ha => by
    unfold m_cantonref06_Put_l1 m_cantonref06_Put_j4 m_cantonref06_Put_j3 m_cantonref06_Put_j2 m_cantonref06_Put_j1
    by_cases hi : i < l.length
    · rw [if_pos (by simpa using hi), if_pos (by rfl), idx_lt hi]
      simp only [Option.bind_some]
      rw [sLt_key, sEq_key, show bl x.Path = key x from rfl, List.drop_eq_getElem_cons hi, inc1 (by omega)]
      cases hc : ltB (key x) l[i] with
      | true =>
        have hne : isK (key x) l[i] = false := by
          have := kl_ne (show key l[i] < key x by simpa [ltB] using hc)
          simpa [isK] using this
        rw [if_neg (by simp), hne, if_pos (by rfl), ck_b (by simp [LIM]; omega), Put_l1 l x hl hs k (i + 1) _ (by omega) (by omega) (by simp; omega)]
        unfold putS
        rw [List.filter_cons, if_pos hc, List.filter_cons, if_neg (by simp [hc])]
        simp
      | false =>
        have hlt : ∀ y ∈ l[i] :: l.drop (i + 1), ltB (key x) y = false := fun y hy => by
          have c0 : ¬ key l[i] < key x := by simpa [ltB] using hc
          rcases List.mem_cons.1 hy with rfl | hy
          · exact hc
          · obtain ⟨j, hj, rfl⟩ := List.mem_drop_iff_getElem.1 hy
            have := List.pairwise_iff_getElem.1 hs i (i + 1 + j) hi (by omega) (by omega)
            simp only [ltB, decide_eq_false_iff_not]
            exact fun h => c0 (kl_trans this h)
        have e1 : putS x (l[i] :: l.drop (i + 1)) = x :: (l[i] :: l.drop (i + 1)).filter (fun y => !isK (key x) y) := by
          unfold putS
          have e2 : (l[i] :: l.drop (i + 1)).filter (fun y => !ltB (key x) y && !isK (key x) y) = (l[i] :: l.drop (i + 1)).filter (fun y => !isK (key x) y) := List.filter_congr fun y hy => by rw [hlt y hy]; simp
          rw [List.filter_eq_nil_iff.2 fun y hy => by rw [hlt y hy]; simp, e2]
          rfl
        rw [e1, if_pos (by rfl), ck_b (by simp [LIM]; omega), List.filter_cons]
        cases hk2 : isK (key x) l[i] with
        | true => rw [if_neg (by simp), if_neg (by simp), Put_done l x hl k (i + 1) _ (by omega) (by omega) (by simp; omega)]; simp
        | false => rw [if_pos (by rfl), if_pos (by rfl), ck_b (by simp [LIM]; omega), Put_done l x hl k (i + 1) _ (by omega) (by omega) (by simp; omega)]; simp
    · rw [if_neg (by simpa using hi), if_pos (by rfl), List.drop_eq_nil_of_le (by omega), ck_b (by simp [LIM]; omega)]
      simp [putS, nd_eta]
theorem Put_eq (l : List Nd) (x : Nd) (hl : l.length ≤ 1000000) (hs : l.Pairwise (key · < key ·)) : m_cantonref06_Put l x = some (putS x l) := by
  unfold m_cantonref06_Put
  refine (Put_l1 l x hl hs (((l.length : Int) - 0 : Int).toNat + 1) 0 [] (by omega) (by omega) (by simp)).trans ?_
  simp
theorem put_new {l : List Nd} {x : Nd} (h : ∀ y ∈ l, key y ≠ key x) : putS x l = insS x l := by
  unfold putS insS
  congr 2
  refine List.filter_congr fun y hy => ?_
  have : isK (key x) y = false := by simpa [isK] using h y hy
  rw [this]; simp
theorem put_upd {l : List Nd} {x z : Nd} (hs : l.Pairwise (key · < key ·)) (hz : z ∈ l) (f : Nd → Nd) (hx : x = f z) (hk : key x = key z) : putS x l = upd l (key z) f := by
  induction l with
  | nil => cases hz
  | cons y r ih =>
    obtain ⟨h1, h2⟩ := List.pairwise_cons.1 hs
    rcases List.mem_cons.1 hz with rfl | hz'
    · have hr : ∀ y ∈ r, isK (key z) y = false ∧ ltB (key z) y = false := fun y hy => ⟨by simpa [isK] using (kl_ne (h1 y hy)).symm, by simpa [ltB] using kl_asymm (h1 y hy)⟩
      unfold putS upd
      rw [hk, List.filter_cons, if_neg (by simp [ltB, kl_irrefl]), List.filter_cons, if_neg (by simp [isK]), List.map_cons, if_pos (by simp [isK]), List.filter_eq_nil_iff.2 fun y hy => by rw [(hr y hy).2]; simp, List.filter_eq_self.2 fun y hy => by rw [(hr y hy).1, (hr y hy).2]; rfl, ← hx]
      simp only [List.nil_append]
      congr 1
      refine ((List.map_congr_left fun y hy => ?_).trans (List.map_id r)).symm
      rw [if_neg (by rw [(hr y hy).1]; simp)]; rfl
    · have hlt := h1 z hz'
      have := ih h2 hz'
      unfold putS upd at *
      rw [hk] at *
      rw [List.filter_cons, if_pos (by simpa [ltB] using hlt), List.filter_cons, if_neg (by simp [ltB, hlt]), List.map_cons, if_neg (by simpa [isK] using kl_ne hlt), List.cons_append, this]
theorem Children_l1 (l : List Nd) (s : ByteArray) (hl : l.length ≤ 1000000) (sm : Sm l) : ∀ (k i : Nat) (acc : List Nd), i ≤ l.length → l.length + 1 ≤ i + k → acc.length ≤ i → m_cantonref06_Children_l1 l s k acc (i : Int) = some (acc ++ (l.drop i).filter (childB (bl s)))
  | 0, i, acc, _, h, _ => by omega
  | k + 1, i, acc, h0, hk, ha => by
    unfold m_cantonref06_Children_l1 m_cantonref06_Children_j2 m_cantonref06_Children_j1
    by_cases hi : i < l.length
    · rw [if_pos (by simpa using hi), idx_lt hi]
      simp only [Option.bind_some]
      rw [rParent_eq _ (sm _ (List.getElem_mem hi)), show bl (l[i]).Path = key l[i] from rfl]
      simp only [Option.bind_some]
      rw [List.drop_eq_getElem_cons hi, List.filter_cons, inc1 (by omega)]
      have e : childB (bl s) l[i] = decide (parentS (key l[i]) = some (bl s)) := rfl
      cases hp : parentS (key l[i]) with
      | none =>
        rw [e, hp, if_neg (by simp [os2]), if_neg (by simp), if_neg (by simp)]
        exact Children_l1 l s hl sm k (i + 1) acc (by omega) (by omega) (by omega)
      | some q =>
        rw [e, hp, if_pos (by rfl), show sEq (os2 (some q)).1 s = decide (some q = some (bl s)) from by rw [sEq_bl]; simp only [os2, bl_mk, Option.some.injEq]; exact decide_eq_decide.2 Iff.rfl]
        by_cases hq : q = bl s
        · rw [hq]
          simp only [decide_true, if_true]
          rw [ck_b (by simp [LIM]; omega), Children_l1 l s hl sm k (i + 1) _ (by omega) (by omega) (by simp; omega)]
          simp
        · rw [show decide (some q = some (bl s)) = false from by simpa using hq, if_neg (by simp), if_neg (by simp)]
          exact Children_l1 l s hl sm k (i + 1) acc (by omega) (by omega) (by omega)
    · rw [if_neg (by simpa using hi), List.drop_eq_nil_of_le (by omega)]
      simp
theorem Children_eq (l : List Nd) (s : ByteArray) (hl : l.length ≤ 1000000) (sm : Sm l) : m_cantonref06_Children l s = some (l.filter (childB (bl s))) := by
  unfold m_cantonref06_Children
  refine (Children_l1 l s hl sm (((l.length : Int) - 0 : Int).toNat + 1) 0 [] (by omega) (by omega) (by simp)).trans ?_
  simp
end Go.Cb
